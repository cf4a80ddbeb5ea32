/-
  A machine of plain values, second form: one step behind another one, or ahead of it. A machine of plain values, second form: one order serves every order. A machine of plain values, second form: whatever order is drawn. A machine of plain values, second form: what a run of it says of the program's calls. A machine of plain values, second form: calls that were put off, and whole calls. A machine of plain values, second form: runs without a bound on their steps. A machine of plain values, second form: a call is its body's run. A machine of plain values, second form: operations whose types are re
-/
import Derived.Test.YtjdccpmbaobpdaaGreatDoorMB
import Derived.Recover
import Derived.IntWalk
import Derived.Laws.Strings
namespace Go.Proofs.YtjdccpmbaobpdaaGreatDoor
open Go.RowKit

section
variable {P : Program}

inductive Eff where
  | id
  | set (p : Loc) (s : ASlot)
  | upd (t : Tab) (l : List Loc)
  | dfr (f : FuncId) (args : List AV)
def Eff.app : Eff → AS → AS
  | .id, S => S
  | .set p s, S => S.set p s
  | .upd t l, S => S.after (some (t, l))
  | .dfr f args, S => { S with dfr := (f, args) :: S.dfr }
def Eff.kind : Eff → FK
  | .id => .none
  | .set p _ => .slot p
  | .upd _ l => .slots l
  | .dfr _ _ => .all
def Eff.local : Eff → AS → Prop
  | .upd t l, S => ∀ p, p ∉ l → t.get p = S.tab.get p
  | _, _ => True
theorem Eff.lvl (E : Eff) (S : AS) : (E.app S).lvl = S.lvl := by cases E <;> rfl
theorem Eff.fn (E : Eff) (S : AS) : (E.app S).fn = S.fn := by cases E <;> rfl

/-- What is asked of whatever answers calls, besides. -/
def Local (Δ : Oracle) : Prop := ∀ f args S x t l, Δ f args S = some (x, some (t, l)) → ∀ p, p ∉ l → t.get p = S.tab.get p

theorem readsSame.of_clear {E : Eff} {k : FK} (h : E.kind.clear k = true) (S : AS) (hl : E.local S) : readsSame k (E.app S) S ∧ readsSame k S (E.app S) := by
  cases k with
  | none => exact ⟨trivial, trivial⟩
  | slots L =>
    cases E with
    | id => exact ⟨fun _ _ => rfl, fun _ _ => rfl⟩
    | set q s =>
      have hq : q ∉ L := by simpa [Eff.kind, FK.slot, FK.clear] using h
      have hne : ∀ p ∈ L, p ≠ q := fun p hp e => hq (by rw [← e]; exact hp)
      exact ⟨fun p hp => AS.get_set_ne S s (hne p hp), fun p hp => (AS.get_set_ne S s (hne p hp)).symm⟩
    | upd t l =>
      have hq : ∀ x ∈ l, x ∉ L := by simpa [Eff.kind, FK.clear] using h
      have key : ∀ p ∈ L, t.get p = S.tab.get p := fun p hp => hl p fun hm => hq p hm hp
      exact ⟨fun p hp => key p hp, fun p hp => (key p hp).symm⟩
    | dfr f args => cases h
  | all => cases E with
    | id => exact ⟨rfl, rfl⟩
    | set q s => cases h
    | upd t l => cases h
    | dfr f args => cases h

variable {Δ : Oracle} {ops : Array Oper}


theorem astep_transfer [Cfg] (hL : Local Δ) {o : Oper} {T T' : TM} {S S' : AS} {f : Foot} (h : astep P Δ ops o T S = some (f, T', S', none)) :
    ∃ (v : AV) (E : Eff), f.wr = E.kind ∧ E.local S ∧ (∀ t l, E = .upd t l → f.rd = .all) ∧ T' = T.put o.dst v ∧ S' = E.app S ∧ (mayW o = false → f.wr = .none) ∧ (mayR o = false → f.rd = .none) ∧
      ∀ T0 S0, (∀ x ∈ o.op.operands, aev T x = aev T0 x) → Region.wanted o (ayielded ops T0) = Region.wanted o (ayielded ops T) → S.lvl = S0.lvl → S.fn = S0.fn → readsSame f.rd S S0 →
        astep P Δ ops o T0 S0 = some (f, T0.put o.dst v, E.app S0, none) := by
  unfold astep at h
  split at h
  · rename_i hw
    have hR : mayR o = false → afoot S (aev T) o = .none := by
      intro hm
      unfold mayR at hm
      unfold mayW at hm
      unfold afoot
      split <;> simp_all
      split at hm <;> simp_all
      all_goals (split <;> simp_all)
    have hRW : mayW o = true → mayR o = true := by
      intro hm
      unfold mayR
      split <;> first | rfl | exact hm | (split <;> first | rfl | exact hm)
    cases hx : aop P S (aev T) o with
    | none => simp [hx] at h
    | some x =>
      rw [hx] at h
      have move : ∀ T0 S0, (∀ x ∈ o.op.operands, aev T x = aev T0 x) → S.lvl = S0.lvl → S.fn = S0.fn → readsSame (afoot S (aev T) o) S S0 → aop P S0 (aev T0) o = some x ∧ afoot S0 (aev T0) o = afoot S (aev T) o := by
        intro T0 S0 h1 h2 h2' h3
        have k := aop_congr (P := P) (S := S) o h1
        have k' := aop_store (P := P) (S := S) (S' := S0) (ρ := aev T0) o h2 h2' (by rw [← k.2]; exact h3)
        exact ⟨by rw [← k'.1, ← k.1]; exact hx, by rw [← k'.2, ← k.2]⟩
      cases x with
      | val v =>
        simp only [Option.some.injEq, Prod.mk.injEq, and_true] at h
        obtain ⟨rfl, rfl, rfl⟩ := h
        refine ⟨v, .id, rfl, trivial, (fun _ _ e => by cases e), rfl, rfl, fun _ => rfl, hR, fun T0 S0 h1 h2 h3 h3' h4 => ?_⟩
        obtain ⟨k1, k2⟩ := move T0 S0 h1 h3 h3' h4
        simp only [astep, h2, hw, if_true, k1, k2]
        rfl
      | chg v p s =>
        simp only [Option.ite_none_right_eq_some, Option.some.injEq, Prod.mk.injEq, and_true] at h
        obtain ⟨hmw, rfl, rfl, rfl⟩ := h
        refine ⟨v, .set p s, rfl, trivial, (fun _ _ e => by cases e), rfl, rfl, fun hm => absurd (hmw.symm.trans hm) (by simp), hR, fun T0 S0 h1 h2 h3 h3' h4 => ?_⟩
        obtain ⟨k1, k2⟩ := move T0 S0 h1 h3 h3' h4
        simp only [astep, h2, hw, if_true, k1, k2, hmw]
        rfl
      | pan v => simp at h
      | dfr g args =>
        simp only [Option.ite_none_right_eq_some, Option.some.injEq, Prod.mk.injEq, and_true] at h
        obtain ⟨hmw, rfl, rfl, rfl⟩ := h
        refine ⟨.lit undef, .dfr g args, rfl, trivial, (fun _ _ e => by cases e), rfl, rfl, fun hm => absurd (hmw.symm.trans hm) (by simp), fun hm => absurd ((hRW hmw).symm.trans hm) (by simp), fun T0 S0 h1 h2 h3 h3' h4 => ?_⟩
        have h4' : S0 = S := h4
        subst h4'
        have k1 : aop P S0 (aev T0) o = some (.dfr g args) := by rw [← (aop_congr (P := P) (S := S0) o h1).1]; exact hx
        simp only [astep, h2, hw, if_true, k1, hmw]
        rfl
      | call g args =>
        simp only [Option.ite_none_right_eq_some] at h
        obtain ⟨hcall, h⟩ := h
        have hmr : mayR o = true := hRW hcall
        have hmw : mayW o ≠ false := by rw [hcall]; simp
        have same : ∀ T0 S0, (∀ x ∈ o.op.operands, aev T x = aev T0 x) → S.lvl = S0.lvl → S.fn = S0.fn → readsSame (afoot S (aev T) o) S S0 → aop P S0 (aev T0) o = some (.call g args) := fun T0 S0 h1 h2 h3 h4 => (move T0 S0 h1 h2 h3 h4).1
        split at h
        · rename_i hc
          cases hd : Δ g args .bare with
          | none => simp [hd] at h
          | some y =>
            obtain ⟨y, r⟩ := y
            rw [hd] at h
            cases y with
            | pan v => cases r <;> simp at h
            | ret v => cases r with
              | some u => cases h
              | none =>
                simp only [Option.some.injEq, Prod.mk.injEq, and_true] at h
                obtain ⟨rfl, rfl, rfl⟩ := h
                refine ⟨v, .id, rfl, trivial, (fun _ _ e => by cases e), rfl, rfl, fun _ => rfl, fun e => absurd (hmr.symm.trans e) (by simp), fun T0 S0 h1 h2 h3 h3' h4 => ?_⟩
                have k1 := same T0 S0 h1 h3 h3' h4
                have k2 := (move T0 S0 h1 h3 h3' h4).2
                rw [h3'] at hc
                simp only [astep, h2, hw, if_true, k1, k2, hd, hcall, hc]
                rfl
        · rename_i hc
          cases hd : Δ g args S with
          | none => simp [hd] at h
          | some y =>
            obtain ⟨y, r⟩ := y
            rw [hd] at h
            cases y with
            | pan v => simp at h
            | ret v =>
              simp only [Option.some.injEq, Prod.mk.injEq, and_true] at h
              obtain ⟨rfl, rfl, rfl⟩ := h
              have hE : ∃ E : Eff, Upd.kind r = E.kind ∧ E.local S ∧ ∀ S1 : AS, S1.after r = E.app S1 := by
                cases r with
                | none => exact ⟨.id, rfl, trivial, fun _ => rfl⟩
                | some u => exact ⟨.upd u.1 u.2, rfl, hL g args S _ _ _ hd, fun _ => rfl⟩
              obtain ⟨E, e1, e2, e3⟩ := hE
              refine ⟨v, E, e1, e2, (fun _ _ _ => rfl), rfl, e3 S, fun e => absurd e hmw, fun e => absurd (hmr.symm.trans e) (by simp), fun T0 S0 h1 h2 h3 h3' h4 => ?_⟩
              have h4' : S0 = S := h4
              subst h4'
              have k1 : aop P S0 (aev T0) o = some (.call g args) := by rw [← (aop_congr (P := P) (S := S0) o h1).1]; exact hx
              simp only [astep, h2, hw, if_true, k1, hd, hcall, hc]
              rw [← e3]
              rfl
  · rename_i hw
    simp only [Option.some.injEq, Prod.mk.injEq, and_true] at h
    obtain ⟨rfl, rfl, rfl⟩ := h
    refine ⟨.lit undef, .id, rfl, trivial, (fun _ _ e => by cases e), rfl, rfl, fun _ => rfl, fun _ => rfl, fun T0 S0 h1 h2 h3 h3' h4 => ?_⟩
    simp only [astep, h2, hw]
    rfl
end
end Go.Proofs.YtjdccpmbaobpdaaGreatDoor

namespace Go.Proofs.YtjdccpmbaobpdaaGreatDoor
open Go.RowKit

section
variable {P : Program} {Δ : Oracle} {ops : Array Oper}

theorem aev_put {T : TM} {dst : Option Tmp} {v : AV} {x : Operand} (h : ∀ d, dst = some d → x ≠ .tmp d) : aev (T.put dst v) x = aev T x := by
  cases dst with
  | none => rfl
  | some d =>
    cases x with
    | tmp t =>
      have hne : d ≠ t := fun e => h d rfl (e ▸ rfl)
      simp only [aev, TM.put, List.getD_eq_getElem?_getD, List.getElem?_set_ne hne]
    | _ => rfl

theorem aev_puts {o : Oper} {T : TM} {dst : Option Tmp} {v : AV} (h : ∀ d, dst = some d → d ∉ o.looksAt ops) : ∀ x ∈ o.op.operands, aev (T.put dst v) x = aev T x := fun x hx =>
  aev_put fun d hd hxd => h d hd (by
    subst hxd
    exact List.mem_append_left _ (List.mem_filterMap.2 ⟨.tmp d, by simpa using hx, rfl⟩))

theorem awanted_put {o : Oper} {T : TM} {dst : Option Tmp} {v : AV} (h : ∀ d, dst = some d → d ∉ o.looksAt ops) : Region.wanted o (ayielded ops (T.put dst v)) = Region.wanted o (ayielded ops T) := by
  cases dst with
  | none => rfl
  | some d =>
    unfold Region.wanted
    cases hg : o.guard with
    | none => rfl
    | some g =>
      obtain ⟨g, want⟩ := g
      have hd := h d rfl
      unfold Oper.looksAt at hd
      rw [hg] at hd
      simp only [List.mem_append, not_or] at hd
      have : ayielded ops (T.put (some d) v) g = ayielded ops T g := by
        unfold ayielded
        cases he : (ops[g]?).bind (·.dst) with
        | none => rfl
        | some e =>
          have hne : d ≠ e := fun h => hd.2 (by simp [he, h])
          simp only [Option.bind_some, TM.put, List.getElem?_set_ne hne]
      simp only [this]

theorem TM.put_comm (T : TM) {x y : Option Tmp} (v u : AV) (h : ∀ d, x = some d → y ≠ some d) : (T.put x v).put y u = (T.put y u).put x v := by
  cases x with
  | none => rfl
  | some d =>
    cases y with
    | none => rfl
    | some e =>
      have hne : d ≠ e := fun he => h d rfl (he ▸ rfl)
      simp only [TM.put]
      exact List.set_comm _ _ hne


theorem afind_flag {kt : TypeId} {k : Value} {ks : List Value} {r r' : Option Nat} (h : afind P kt ks.isEmpty k ks = some r) (h' : afind P kt false k ks = some r') : r = r' := by
  cases ks with
  | cons x xs => rw [List.isEmpty_cons, h'] at h; simpa using h.symm
  | nil =>
    unfold afind at h h'
    split at h
    · rename_i r1 _ e1
      split at h'
      · rename_i r2 _ e2
        simp only [List.map_nil] at e1 e2
        rw [e1] at e2
        cases e2
        rw [h] at h'
        simpa using h'
      · cases h'
    · cases h

theorem lookup_entry {S : AS} {t : TypeId} {a b v u : AV} {p : Loc} {s : ASlot} (h : alookup P S t a b false = some v) (h' : amapEntry P S t a b = some (.chg u p s)) : alookup P (S.set p s) t a b false = some v := by
  unfold amapEntry at h'
  split at h'
  case h_2 => cases h'
  rename_i kt vt p0 g k ht hk
  unfold alookup at h ⊢
  rw [ht] at h ⊢
  rw [hk] at h ⊢
  simp only at h ⊢
  split at h'
  case h_2 => cases h'
  rename_i g' es ck z hs hz
  split at h'
  case isFalse => cases h'
  rename_i hg
  subst hg
  rw [hs] at h
  simp only [if_true] at h
  have hmap : (es.map fun x => x.key) = List.map AEntry.key es := rfl
  rw [hz] at h ⊢
  have hflag : ∀ (l : List AEntry), l.isEmpty = (l.map AEntry.key).isEmpty := fun l => by cases l <;> rfl
  split at h'
  · rename_i i hf
    split at h'
    case h_2 => cases h'
    rename_i e hei
    split at h'
    case isFalse => cases h'
    split at h'
    case isFalse => cases h'
    rename_i hchk
    simp only [Option.some.injEq, AR.chg.injEq] at h'
    obtain ⟨_, rfl, rfl⟩ := h'
    rw [AS.get_set_same]
    simp only [if_true]
    have hlt := (List.getElem?_eq_some_iff.1 hei).1
    have hne : (es.set i ⟨k, e.val, e.born⟩).isEmpty = false := by
      cases es with
      | nil => simp at hlt
      | cons x xs => cases i <;> rfl
    rw [hne, hchk]
    simp only
    rw [hflag] at h
    cases hr : afind P kt (es.map AEntry.key).isEmpty k (es.map AEntry.key) with
    | none => rw [hr] at h; cases h
    | some r =>
      have := afind_flag hr hf
      subst this
      rw [hr] at h
      simp only [hei, Option.map_some] at h
      simp only [List.getElem?_set_self hlt, Option.map_some]
      exact h
  · rename_i hf
    split at h'
    case isFalse => cases h'
    rename_i hchk
    simp only [Option.some.injEq, AR.chg.injEq] at h'
    obtain ⟨_, rfl, rfl⟩ := h'
    rw [AS.get_set_same]
    simp only [if_true]
    have hne : (es ++ [(⟨k, AV.ofV1 z, ck⟩ : AEntry)]).isEmpty = false := by simp
    rw [hne, hchk]
    simp only
    rw [hflag] at h
    cases hr : afind P kt (es.map AEntry.key).isEmpty k (es.map AEntry.key) with
    | none => rw [hr] at h; cases h
    | some r =>
      have := afind_flag hr hf
      subst this
      rw [hr] at h
      simp only [Bool.false_eq_true, if_false] at h ⊢
      simpa using h
  · cases h'

theorem readsSame.refl (k : FK) (S : AS) : readsSame k S S := by cases k <;> simp [readsSame]
theorem Eff.of_none {E : Eff} (h : E.kind = .none) : E = .id := by cases E <;> simp [Eff.kind, FK.slot] at h ⊢

/-- Two that leave one another alone. -/
theorem step_comm [Cfg] (hL : Local Δ) {oj oi : Oper} {fj fi : Foot} {T T1 T2 : TM} {S S1 S2 : AS} (hap : oj.apart ops oi = true) (hind : fj.indep fi = true) (h1 : astep P Δ ops oj T S = some (fj, T1, S1, none)) (h2 : astep P Δ ops oi T1 S1 = some (fi, T2, S2, none)) :
    ∃ T' S', astep P Δ ops oi T S = some (fi, T', S', none) ∧ astep P Δ ops oj T' S' = some (fj, T2, S2, none) := by
  obtain ⟨a1, a2, a3⟩ := Oper.apart_spec hap
  obtain ⟨vj, Ej, hkj, lj, uj, rfl, rfl, _, _, trj⟩ := astep_transfer hL h1
  obtain ⟨vi, Ei, hki, li, ui, rfl, rfl, _, _, tri⟩ := astep_transfer hL h2
  simp only [Foot.indep, Bool.and_eq_true] at hind
  obtain ⟨⟨c1, c2⟩, c3⟩ := hind
  rw [hkj] at c1 c2
  rw [hki] at c2 c3
  have li' : Ei.local S := by
    cases Ei with
    | upd t l => cases Ej with
      | id => exact li
      | set p s => rw [ui t l rfl] at c1; cases c1
      | upd t' l' => rw [ui t l rfl] at c1; cases c1
      | dfr f args => simp [Eff.kind, FK.clear] at c2
    | _ => trivial
  refine ⟨T.put oi.dst vi, Ei.app S, tri T S (fun x hx => aev_puts (o := oi) a1 x hx) (awanted_put (o := oi) a1).symm (Ej.lvl S) (Ej.fn S) (readsSame.of_clear c1 S lj).1, ?_⟩
  have := trj (T.put oi.dst vi) (Ei.app S) (fun x hx => (aev_puts (o := oj) a3 x hx).symm) (awanted_put (o := oj) a3) (Ei.lvl S).symm (Ei.fn S).symm (readsSame.of_clear c3 S li').2
  rw [this, TM.put_comm T vj vi a2]
  congr 4
  cases Ej with
  | id => rfl
  | set p s => cases Ei with
    | id => rfl
    | set q t =>
      have : p ≠ q := by simpa [Eff.kind, FK.slot, FK.clear] using c2
      exact (AS.set_comm S s t this).symm
    | upd t l => rw [ui t l rfl] at c1; cases c1
    | dfr f args => simp [Eff.kind, FK.slot, FK.clear] at c2
  | upd t l => cases Ei with
    | id => rfl
    | set q s => rw [uj t l rfl] at c3; cases c3
    | upd t' l' => rw [uj t l rfl] at c3; cases c3
    | dfr f args => simp [Eff.kind, FK.clear] at c2
  | dfr f args => cases Ei with
    | id => rfl
    | _ => simp [Eff.kind, FK.slot, FK.clear] at c2

/-- One looks up what the other one makes sure of. -/
theorem twins_comm [Cfg] (hL : Local Δ) {oj oi : Oper} {fj fi : Foot} {t : TypeId} {m k : Tmp} {T T1 T2 : TM} {S S1 S2 : AS} (hap : oj.apart ops oi = true) (hj : oj.op = .lookup t (.tmp m) (.tmp k) false) (hi : oi.op = .mapEntry t (.tmp m) (.tmp k))
    (h1 : astep P Δ ops oj T S = some (fj, T1, S1, none)) (h2 : astep P Δ ops oi T1 S1 = some (fi, T2, S2, none)) :
    ∃ T' S', astep P Δ ops oi T S = some (fi, T', S', none) ∧ astep P Δ ops oj T' S' = some (fj, T2, S2, none) := by
  obtain ⟨a1, a2, a3⟩ := Oper.apart_spec hap
  obtain ⟨vj, Ej, hkj, lj, uj, e1, e2, wj, _, trj⟩ := astep_transfer hL h1
  have hidj : Ej = .id := Eff.of_none (hkj ▸ wj (by simp [mayW, hj]))
  subst hidj
  have e2 : S1 = S := e2
  subst e1 e2
  obtain ⟨vi, Ei, hki, li, ui, rfl, rfl, _, _, tri⟩ := astep_transfer hL h2
  have hti : astep P Δ ops oi T S1 = some (fi, T.put oi.dst vi, Ei.app S1, none) := tri T S1 (fun x hx => aev_puts (o := oi) a1 x hx) (awanted_put (o := oi) a1).symm rfl rfl (readsSame.refl _ _)
  refine ⟨T.put oi.dst vi, Ei.app S1, hti, ?_⟩
  have hev : ∀ x ∈ oj.op.operands, aev (T.put oi.dst vi) x = aev T x := fun x hx => aev_puts (o := oj) a3 x hx
  have hwj : Region.wanted oj (ayielded ops (T.put oi.dst vi)) = Region.wanted oj (ayielded ops T) := awanted_put (o := oj) a3
  have fin : readsSame fj.rd S1 (Ei.app S1) → astep P Δ ops oj (T.put oi.dst vi) (Ei.app S1) = some (fj, (T.put oj.dst vj).put oi.dst vi, Ei.app S1, none) := fun hr => by
    have := trj (T.put oi.dst vi) (Ei.app S1) (fun x hx => (hev x hx).symm) hwj (Ei.lvl S1).symm (Ei.fn S1).symm hr
    rw [this, TM.put_comm T vj vi a2]
    rfl
  cases hw : Region.wanted oj (ayielded ops T) with
  | false =>
    refine fin ?_
    unfold astep at h1
    rw [hw] at h1
    simp only [Bool.false_eq_true, if_false, Option.some.injEq, Prod.mk.injEq] at h1
    rw [← h1.1]
    trivial
  | true =>
    cases hwi : Region.wanted oi (ayielded ops T) with
    | false =>
      unfold astep at hti
      rw [hwi] at hti
      simp only [Bool.false_eq_true, if_false, Option.some.injEq, Prod.mk.injEq] at hti
      have hE : Ei = .id := Eff.of_none (by rw [← hki, ← hti.1])
      subst hE
      exact fin (readsSame.refl _ _)
    | true =>
      -- both
      have hxj : aop P S1 (aev T) oj = (alookup P S1 t (aev T (.tmp m)) (aev T (.tmp k)) false).map .val := by simp only [aop, hj]
      have hxi : aop P S1 (aev T) oi = amapEntry P S1 t (aev T (.tmp m)) (aev T (.tmp k)) := by simp only [aop, hi]
      unfold astep at h1 hti
      rw [hw, hxj] at h1
      rw [hwi, hxi] at hti
      simp only [if_true] at h1 hti
      cases hl : alookup P S1 t (aev T (.tmp m)) (aev T (.tmp k)) false with
      | none => rw [hl] at h1; cases h1
      | some v =>
        rw [hl] at h1
        simp only [Option.map_some, Option.some.injEq, Prod.mk.injEq, and_true] at h1
        cases hm : amapEntry P S1 t (aev T (.tmp m)) (aev T (.tmp k)) with
        | none => rw [hm] at hti; cases hti
        | some y =>
          rw [hm] at hti
          have hy : ∃ u p s, y = .chg u p s := by
            unfold amapEntry at hm
            split at hm
            · split at hm
              · split at hm
                · split at hm
                  · split at hm
                    · split at hm
                      · split at hm
                        · cases hm; exact ⟨_, _, _, rfl⟩
                        · cases hm
                      · cases hm
                    · cases hm
                  · split at hm
                    · cases hm; exact ⟨_, _, _, rfl⟩
                    · cases hm
                  · cases hm
                · cases hm
              · cases hm
            · cases hm
          obtain ⟨u, p, s, rfl⟩ := hy
          simp only [Option.ite_none_right_eq_some, Option.some.injEq, Prod.mk.injEq, and_true] at hti
          obtain ⟨hmw, hf, hT, hS⟩ := hti
          have hl2 := lookup_entry hl hm
          rw [hS] at hl2
          have em : aev (T.put oi.dst vi) (.tmp m) = aev T (.tmp m) := hev _ (by rw [hj]; simp [Op.operands])
          have ek : aev (T.put oi.dst vi) (.tmp k) = aev T (.tmp k) := hev _ (by rw [hj]; simp [Op.operands])
          have hxj2 : aop P (Ei.app S1) (aev (T.put oi.dst vi)) oj = some (.val v) := by
            simp only [aop, hj]
            rw [em, ek, hl2]
            rfl
          unfold astep
          rw [hwj, hw, hxj2]
          simp only [if_true]
          have hfoot : afoot (Ei.app S1) (aev (T.put oi.dst vi)) oj = afoot S1 (aev T) oj := by
            simp only [afoot, hj]
            rw [em]
          rw [hfoot, h1.1]
          have : (T.put oi.dst vi).put oj.dst v = (T.put oj.dst vj).put oi.dst vi := by
            rw [← h1.2, TM.put_comm T v vi a2]
          rw [this]
end
end Go.Proofs.YtjdccpmbaobpdaaGreatDoor

namespace Go.Proofs.YtjdccpmbaobpdaaGreatDoor
open Go.RowKit

section
variable {P : Program} {Δ : Oracle} {ops : Array Oper} {F : Nat → Foot}

/-- A run of the operations of these numbers, each with its footprint. -/
def Runs [Cfg] (P : Program) (Δ : Oracle) (ops : Array Oper) (F : Nat → Foot) : List Nat → TM × AS → TM × AS → Prop
  | [], s, t => s = t
  | i :: r, s, t => ∃ o s', ops[i]? = some o ∧ astep P Δ ops o s.1 s.2 = some (F i, s'.1, s'.2, none) ∧ Runs P Δ ops F r s' t

/-- Two that may be exchanged. -/
def Swap (ops : Array Oper) (F : Nat → Foot) (j i : Nat) : Prop := (F j).indep (F i) = true ∨ twins ops (j, i) = true

theorem swap_comm [Cfg] (hL : Local Δ) {j i : Nat} {oj oi : Oper} {T T1 T2 : TM} {S S1 S2 : AS} (hj : ops[j]? = some oj) (hi : ops[i]? = some oi) (hap : oj.apart ops oi = true) (hs : Swap ops F j i) (h1 : astep P Δ ops oj T S = some (F j, T1, S1, none)) (h2 : astep P Δ ops oi T1 S1 = some (F i, T2, S2, none)) :
    ∃ T' S', astep P Δ ops oi T S = some (F i, T', S', none) ∧ astep P Δ ops oj T' S' = some (F j, T2, S2, none) := by
  rcases hs with h | h
  · exact step_comm hL hap h h1 h2
  · unfold twins at h
    simp only [hj, hi] at h
    split at h
    · rename_i t m k t' m' k' e1 e2
      simp only [Bool.and_eq_true, beq_iff_eq] at h
      obtain ⟨⟨rfl, rfl⟩, rfl⟩ := h
      exact twins_comm hL hap e1 e2 h1 h2
    · cases h

theorem runs_front [Cfg] (hL : Local Δ) {i : Nat} {C : List Nat} : ∀ (A : List Nat) (s t : TM × AS), (∀ j ∈ A, ∀ oj oi, ops[j]? = some oj → ops[i]? = some oi → oj.apart ops oi = true ∧ Swap ops F j i) →
    Runs P Δ ops F (A ++ i :: C) s t → Runs P Δ ops F (i :: (A ++ C)) s t
  | [], s, t, _, h => h
  | j :: A, s, t, hA, h => by
    obtain ⟨oj, s1, hj, hs, hr⟩ := h
    obtain ⟨oi, s2, hi, hs2, hr2⟩ := runs_front hL A s1 t (fun k hk => hA k (List.mem_cons_of_mem _ hk)) hr
    obtain ⟨hap, hind⟩ := hA j (List.mem_cons_self ..) oj oi hj hi
    obtain ⟨T', S', k1, k2⟩ := swap_comm hL hj hi hap hind hs hs2
    exact ⟨oi, (T', S'), hi, k1, oj, s2, hj, k2, hr2⟩

def left (n : Nat) (listed : Array Bool) : List Nat := (List.range n).filter fun j => !listed.getD j true

theorem filter_split {p : Nat → Bool} {i : Nat} : ∀ (k m : Nat), k ≤ i → i < k + m → p i = true →
    ∃ A C, (List.range' k m).filter p = A ++ i :: C ∧ (∀ j ∈ A, j < i) ∧ (List.range' k m).filter (fun j => p j && decide (j ≠ i)) = A ++ C
  | k, 0, h1, h2, _ => by omega
  | k, m + 1, h1, h2, hp => by
    rw [List.range'_succ]
    by_cases hk : k = i
    · subst hk
      refine ⟨[], (List.range' (k + 1) m).filter p, ?_, fun j h => (by cases h), ?_⟩
      · simp [List.filter_cons, hp]
      · have : (List.range' (k + 1) m).filter (fun j => p j && decide (j ≠ k)) = (List.range' (k + 1) m).filter p := by
          refine List.filter_congr fun j hj => ?_
          have := (List.mem_range'_1.1 hj).1
          have hne : j ≠ k := by omega
          simp [hne]
        have t2 := this
        simp only [decide_not, ne_eq] at t2
        simp [List.filter_cons, t2]
    · obtain ⟨A, C, e1, e2, e3⟩ := filter_split (p := p) (k + 1) m (by omega) (by omega) hp
      cases hpk : p k with
      | true => exact ⟨k :: A, C, by simp [List.filter_cons, hpk, e1], fun j hj => by
          rcases List.mem_cons.1 hj with rfl | hj
          · omega
          · exact e2 j hj, by
          have e3' := e3
          simp only [List.filter_cons, hpk, Bool.true_and, decide_eq_true_eq, ne_eq, hk, not_false_eq_true, if_true, List.cons_append]
          rw [← e3']⟩
      | false => exact ⟨A, C, by simp [List.filter_cons, hpk, e1], e2, by
          simp only [List.filter_cons, hpk, Bool.false_and]
          exact e3⟩

theorem left_split {n i : Nat} {listed : Array Bool} (hn : listed.size = n) (hi : i < n) (hl : listed.getD i true = false) : ∃ A C, left n listed = A ++ i :: C ∧ (∀ j ∈ A, j < i) ∧ left n (listed.setIfInBounds i true) = A ++ C := by
  obtain ⟨A, C, h1, h2, h3⟩ := filter_split (p := fun j => !listed.getD j true) (i := i) 0 n (Nat.zero_le _) (by omega) (by simp [hl])
  refine ⟨A, C, by rw [left, List.range_eq_range']; exact h1, h2, ?_⟩
  rw [left, List.range_eq_range', ← h3]
  refine List.filter_congr fun j hj => ?_
  have hjn : j < n := by have := (List.mem_range'_1.1 hj).2; omega
  by_cases hij : i = j
  · subst hij
    have : (listed.setIfInBounds i true).getD i true = true := by
      simp [hn, hjn]
    simp [this]
  · rw [getD_set_ne true hij]
    have : j ≠ i := Ne.symm hij
    simp [this]

def Closed (ops : Array Oper) (listed : Array Bool) : Prop := ∀ (k : Nat) ok, ops[k]? = some ok → listed.getD k false = true → ∀ e ∈ ok.after, Region.binds .any e = true → listed.getD e.on false = true

theorem reach_listed {listed : Array Bool} (hc : Closed ops listed) : ∀ (n i j : Nat), (∀ oi, ops[i]? = some oi → ∀ e ∈ oi.after, Region.binds .any e = true → listed.getD e.on false = true) → reach ops n i j = true → listed.getD j false = true
  | 0, i, j, _, h => by simp [reach] at h
  | n + 1, i, j, hi, h => by
    unfold reach at h
    cases ho : ops[i]? with
    | none => simp [ho] at h
    | some oi =>
      simp only [ho] at h
      obtain ⟨e, he, hb⟩ := Array.any_eq_true'.1 h
      simp only [Bool.and_eq_true, Bool.or_eq_true, beq_iff_eq] at hb
      have hl := hi oi ho e he hb.1
      rcases hb.2 with e1 | e1
      · rw [← e1]; exact hl
      · exact reach_listed hc n e.on j (fun ok hk => hc e.on ok hk hl) e1

theorem closed_set {listed : Array Bool} {i : Nat} (hc : Closed ops listed) (hi : i ∈ Region.ready .any ops listed) : Closed ops (listed.setIfInBounds i true) := by
  obtain ⟨_, oi, hoi, hall⟩ := mem_ready.1 hi
  intro k ok hk hl e he hb
  by_cases hik : i = k
  · subst hik
    rw [hoi] at hk
    cases hk
    exact getD_set_true (hall e he hb)
  · rw [getD_set_ne false hik] at hl
    exact getD_set_true (hc k ok hk hl e he hb)

/-- No order that may be drawn makes a difference. -/
theorem runs_go [Cfg] (hL : Local Δ) (hE : ∀ (i : Nat) oi e, ops[i]? = some oi → e ∈ oi.after → Region.binds .any e = true → e.on < i)
    (hQ : ∀ (j i : Nat) oj oi, j < i → ops[j]? = some oj → ops[i]? = some oi → reach ops 3 i j = true ∨ (oj.apart ops oi = true ∧ Swap ops F j i)) :
    ∀ (fuel t : Nat) (listed : Array Bool) (s out : TM × AS), listed.size = ops.size → Closed ops listed → (left ops.size listed).length ≤ fuel → Runs P Δ ops F (left ops.size listed) s out →
      Runs P Δ ops F (Region.linearise.go .any ops fuel t listed []) s out
  | 0, t, listed, s, out, _, _, hf, h => by
    have : left ops.size listed = [] := List.eq_nil_of_length_eq_zero (by omega)
    rw [this] at h
    simpa [Region.linearise.go] using h
  | fuel + 1, t, listed, s, out, hsz, hcl, hf, h => by
    simp only [Region.linearise.go]
    change Runs P Δ ops F (match (Region.ready .any ops listed)[t % (Region.ready .any ops listed).length]? with
      | some i => Region.linearise.go .any ops fuel (t / (Region.ready .any ops listed).length) (listed.setIfInBounds i true) [i]
      | none => [].reverse) s out
    cases hi : (Region.ready .any ops listed)[t % (Region.ready .any ops listed).length]? with
    | none =>
      have hnil : Region.ready .any ops listed = [] := by
        cases hr : Region.ready .any ops listed with
        | nil => rfl
        | cons x xs =>
          rw [hr] at hi
          have hlt : t % (x :: xs).length < (x :: xs).length := Nat.mod_lt _ (by simp)
          simp at hi
          simp at hlt
          omega
      have : left ops.size listed = [] := by
        cases hl : left ops.size listed with
        | nil => rfl
        | cons u us =>
          exfalso
          have hu : u ∈ left ops.size listed := by rw [hl]; simp
          have hu' := List.mem_filter.1 hu
          have hun : u < ops.size := List.mem_range.1 hu'.1
          have hul : listed.getD u true = false := by simpa using hu'.2
          have hready : u ∈ Region.ready .any ops listed := by
            rw [mem_ready]
            refine ⟨hul, ops[u], Array.getElem?_eq_getElem hun, fun e he hb => ?_⟩
            have hlt := hE u _ e (Array.getElem?_eq_getElem hun) he hb
            cases hx : listed.getD e.on false with
            | true => rfl
            | false =>
              exfalso
              have he' : listed.getD e.on true = false := getD_in (by omega) hx
              obtain ⟨A, C, k1, k2, _⟩ := left_split hsz hun hul
              have hmem : e.on ∈ left ops.size listed := List.mem_filter.2 ⟨List.mem_range.2 (by omega), by simp [he']⟩
              rw [hl] at k1
              have hA : A = [] := by
                cases A with
                | nil => rfl
                | cons a A' =>
                  simp only [List.cons_append, List.cons.injEq] at k1
                  have := k2 a (by simp)
                  omega
              subst hA
              obtain ⟨A2, C2, m1, m2, _⟩ := left_split hsz (show e.on < ops.size by omega) he'
              rw [hl] at m1
              cases A2 with
              | nil =>
                simp only [List.nil_append, List.cons.injEq] at m1
                omega
              | cons a A' =>
                simp only [List.cons_append, List.cons.injEq] at m1
                have := m2 a (by simp)
                omega
          rw [hnil] at hready
          cases hready
      rw [this] at h
      simpa using h
    | some i =>
      simp only []
      rw [linearise_go_acc, List.reverse_singleton, List.singleton_append]
      have hmem := List.mem_of_getElem? hi
      obtain ⟨hun, oi, hoi, hall⟩ := mem_ready.1 hmem
      have hin : i < ops.size := (Array.getElem?_eq_some_iff.1 hoi).1
      obtain ⟨A, C, k1, k2, k3⟩ := left_split hsz hin hun
      rw [k1] at h hf
      have hfront := runs_front hL A s out (fun j hj oj oi' hoj hoi' => by
        rw [hoi] at hoi'
        cases hoi'
        have hjl : listed.getD j true = false := by
          have : j ∈ left ops.size listed := by rw [k1]; exact List.mem_append_left _ hj
          simpa using (List.mem_filter.1 this).2
        rcases hQ j i oj oi (k2 j hj) hoj hoi with hw | hq
        · exfalso
          have := reach_listed hcl 3 i j (fun ok hk => by rw [hoi] at hk; cases hk; exact hall) hw
          rw [getD_both hjl] at this
          cases this
        · exact hq) h
      obtain ⟨o, s1, ho, hs, hr⟩ := hfront
      refine ⟨o, s1, ho, hs, runs_go hL hE hQ fuel _ _ s1 out (by simp [hsz]) (closed_set hcl hmem) ?_ (by rw [k3]; exact hr)⟩
      rw [k3]
      simp only [List.length_append, List.length_cons] at hf ⊢
      omega

theorem runs_of_steps [Cfg] : ∀ (l : List Oper) (k : Nat) (fs : List Foot) (T T' : TM) (S S' : AS), (∀ j, l[j]? = ops[k + j]?) → asteps P Δ ops l T S = some (fs, T', S', none) → (∀ j f, fs[j]? = some f → F (k + j) = f) →
    fs.length = l.length ∧ Runs P Δ ops F (List.range' k l.length) (T, S) (T', S')
  | [], k, fs, T, T', S, S', _, h, _ => by
    simp only [asteps, Option.some.injEq, Prod.mk.injEq, and_true] at h
    obtain ⟨rfl, rfl, rfl⟩ := h
    exact ⟨rfl, rfl⟩
  | o :: l, k, fs, T, T', S, S', hl, h, hF => by
    unfold asteps at h
    cases hs : astep P Δ ops o T S with
    | none => simp [hs] at h
    | some x =>
      obtain ⟨f, T1, S1, x⟩ := x
      cases x with
      | some v => simp [hs] at h
      | none =>
      simp only [hs] at h
      cases hr : asteps P Δ ops l T1 S1 with
      | none => simp [hr] at h
      | some y =>
        obtain ⟨fs', T2, S2, y⟩ := y
        simp only [hr, Option.some.injEq, Prod.mk.injEq] at h
        obtain ⟨rfl, rfl, rfl, rfl⟩ := h
        obtain ⟨k1, k2⟩ := runs_of_steps l (k + 1) fs' T1 T2 S1 S2 (fun j => by have := hl (j + 1); simpa [Nat.add_assoc, Nat.add_comm 1 j] using this) hr (fun j f hj => by
          have := hF (j + 1) f (by simpa using hj)
          rw [← this]; congr 1; omega)
        have h0 := hF 0 f rfl
        refine ⟨by simp [k1], o, (T1, S1), by simpa using (hl 0).symm, ?_, k2⟩
        rw [Nat.add_zero] at h0
        rw [h0]
        exact hs

theorem steps_of_runs [Cfg] : ∀ (pi : List Nat) (s t : TM × AS), Runs P Δ ops F pi s t → ∃ l fs, pi.map (ops[·]?) = l.map some ∧ asteps P Δ ops l s.1 s.2 = some (fs, t.1, t.2, none)
  | [], s, t, h => ⟨[], [], rfl, by rw [show s = t from h]; rfl⟩
  | i :: pi, s, t, h => by
    obtain ⟨o, s1, ho, hs, hr⟩ := h
    obtain ⟨l, fs, k1, k2⟩ := steps_of_runs pi s1 t hr
    exact ⟨o :: l, F i :: fs, by simp [ho, k1], by simp [asteps, hs, k2]⟩

theorem feet_static [Cfg] (hL : Local Δ) : ∀ (l : List Oper) (fs : List Foot) (T T' : TM) (S S' : AS), asteps P Δ ops l T S = some (fs, T', S', none) → ∀ (j : Nat) o f, l[j]? = some o → fs[j]? = some f → (mayW o = false → f.wr = .none) ∧ (mayR o = false → f.rd = .none)
  | [], fs, T, T', S, S', h, j, o, f, ho, _ => by simp at ho
  | o :: l, fs, T, T', S, S', h, j, o', f, ho, hf => by
    unfold asteps at h
    cases hs : astep P Δ ops o T S with
    | none => simp [hs] at h
    | some x =>
      obtain ⟨f0, T1, S1, x⟩ := x
      cases x with
      | some v => simp [hs] at h
      | none =>
      simp only [hs] at h
      cases hr : asteps P Δ ops l T1 S1 with
      | none => simp [hr] at h
      | some y =>
        obtain ⟨fs', T2, S2, y⟩ := y
        simp only [hr, Option.some.injEq, Prod.mk.injEq] at h
        obtain ⟨rfl, rfl, rfl, rfl⟩ := h
        cases j with
        | zero =>
          simp at ho hf
          subst ho hf
          obtain ⟨v, E, _, _, _, _, _, k1, k2, _⟩ := astep_transfer hL hs
          exact ⟨k1, k2⟩
        | succ j => exact feet_static hL l fs' T1 T2 S1 S2 hr j o' f (by simpa using ho) (by simpa using hf)

theorem mayR_of {o : Oper} (hm : mayW o = true) : mayR o = true := by
  unfold mayR
  split <;> first | rfl | exact hm | (split <;> first | rfl | exact hm)

theorem clear_none (a : FK) : a.clear .none = true := by cases a <;> rfl

/-- A region whose order is open. -/
theorem draw_sound [Cfg] (hC : CfgOk P) (hΔ : Sound P Δ) (hL : Local Δ) (hm : P.follows .mixedOrders = true) {G : Gh} {w : World} {B : Nat → Nat} {T T' : TM} {S S' : AS} {a : Act} {Q : Exit → Act → World → Prop} {id : Nat} {x : AX} (h : aregion P Δ ops true T S = some (x, T', S')) (hW : WRel G S w B) (hT : TRel G S T a)
    (hQ : ∀ e a' w', Reached G S w B x T' S' e a' w' → Q e a' w') : (Code.region id ops true).wp P Q a w := by
  unfold aregion at h
  cases hst : asteps P Δ ops ops.toList T S with
  | none => simp [hst] at h
  | some z =>
    obtain ⟨fs, T1, S1, y⟩ := z
    simp only [hst, if_true, Option.ite_none_right_eq_some, Option.some.injEq, Prod.mk.injEq, Bool.and_eq_true] at h
    obtain ⟨⟨⟨hnone, hstat⟩, hpairs⟩, rfl, rfl, rfl⟩ := h
    cases y with
    | some v => cases hnone
    | none =>
    unfold drawStat at hstat
    simp only [Bool.and_eq_true] at hstat
    obtain ⟨_, hall⟩ := hstat
    have hidx : ∀ (i : Nat) oi, ops[i]? = some oi → (oi, i) ∈ ops.toList.zipIdx := fun i oi hi => by
      rw [List.mem_iff_getElem?]
      exact ⟨i, by simp [hi]⟩
    have hst2 : ∀ (j i : Nat) oj oi, j < i → ops[j]? = some oj → ops[i]? = some oi → (oj, j) ∈ ops.toList.zipIdx.take i := fun j i oj oi hji hj hi => by
      rw [List.mem_iff_getElem?]
      exact ⟨j, by rw [List.getElem?_take, if_pos hji]; simp [hj]⟩
    have hE : ∀ (i : Nat) oi e, ops[i]? = some oi → e ∈ oi.after → Region.binds .any e = true → e.on < i := fun i oi e hi he hb => by
      have := List.all_eq_true.1 hall _ (hidx i oi hi)
      simp only [Bool.and_eq_true] at this
      have := Array.all_eq_true_iff_forall_mem.1 this.1 e he
      simpa [hb] using this
    have hlen := (runs_of_steps (F := fun i => fs.getD i ⟨.none, .none⟩) ops.toList 0 fs T T1 S S1 (fun j => by simp) hst (fun j f hj => by simp [List.getD_eq_getElem?_getD, hj])).1
    have hQ' : ∀ (j i : Nat) oj oi, j < i → ops[j]? = some oj → ops[i]? = some oi → reach ops 3 i j = true ∨ (oj.apart ops oi = true ∧ Swap ops (fun i => fs.getD i ⟨.none, .none⟩) j i) := fun j i oj oi hji hj hi => by
      have h1 := List.all_eq_true.1 hall _ (hidx i oi hi)
      simp only [Bool.and_eq_true] at h1
      have h2 := List.all_eq_true.1 h1.2 _ (hst2 j i oj oi hji hj hi)
      simp only [Bool.or_eq_true] at h2
      by_cases hwt : reach ops 3 i j = true
      · exact .inl hwt
      · refine .inr ⟨h2.resolve_right hwt, ?_⟩
        have hjn : j < fs.length := by rw [hlen]; have := (Array.getElem?_eq_some_iff.1 hj).1; simpa using this
        have hin : i < fs.length := by rw [hlen]; have := (Array.getElem?_eq_some_iff.1 hi).1; simpa using this
        have fj := List.getElem?_eq_getElem hjn
        have fi := List.getElem?_eq_getElem hin
        unfold Swap
        simp only [List.getD_eq_getElem?_getD, fj, fi, Option.getD_some]
        obtain ⟨wj, rj⟩ := feet_static hL ops.toList fs T T1 S S1 hst j oj _ (by simpa using hj) fj
        obtain ⟨wi, ri⟩ := feet_static hL ops.toList fs T T1 S S1 hst i oi _ (by simpa using hi) fi
        by_cases hp : ((mayW oj && mayR oi) || (mayW oi && mayR oj)) = true
        · have hmem : (j, i) ∈ drawPairs ops := by
            unfold drawPairs
            rw [List.mem_flatMap]
            refine ⟨(oi, i), hidx i oi hi, ?_⟩
            simp only [List.mem_filterMap]
            refine ⟨(oj, j), hst2 j i oj oi hji hj hi, ?_⟩
            simp only [hp, if_true]
            rw [if_neg hwt]
          have := List.all_eq_true.1 hpairs _ hmem
          simp only [pairOk, fj, fi, Bool.or_eq_true] at this
          exact this.symm
        · simp only [Bool.or_eq_true, Bool.and_eq_true, not_or, not_and, Bool.not_eq_true] at hp
          left
          unfold Foot.indep
          cases hwj : mayW oj with
          | true =>
            have hri := hp.1 hwj
            have hwi : mayW oi = false := by
              cases e : mayW oi with
              | false => rfl
              | true => exact absurd ((mayR_of e).symm.trans hri) (by simp)
            rw [ri hri, wi hwi]
            simp only [clear_none]
            rfl
          | false =>
            rw [wj hwj]
            cases hwi : mayW oi with
            | true => rw [rj (hp.2 hwi)]; simp only [clear_none]; rfl
            | false => rw [wi hwi]; rfl
    have hr := (runs_of_steps (F := fun i => fs.getD i ⟨.none, .none⟩) ops.toList 0 fs T T1 S S1 (fun j => by simp) hst (fun j f hj => by simp [List.getD_eq_getElem?_getD, hj])).2
    refine wp_region_draw fun t => ?_
    simp only [Region.schedule, hm, Bool.true_or, if_true]
    have hleft : left ops.size (Array.replicate ops.size false) = List.range' 0 ops.toList.length := by
      rw [left, List.range_eq_range', Array.length_toList, List.filter_eq_self]
      intro j hj
      have hjn : j < ops.size := by have := (List.mem_range'_1.1 hj).2; omega
      simp [hjn]
    have hgo := runs_go (P := P) (Δ := Δ) (ops := ops) hL hE hQ' ops.size t (Array.replicate ops.size false) (T, S) (T1, S1) (by simp) (fun k ok _ hl => by rw [getD_replicate_false] at hl; cases hl) (by rw [hleft]; simp) (by rw [hleft]; exact hr)
    obtain ⟨l, fs', k1, k2⟩ := steps_of_runs _ _ _ hgo
    exact wpOps_of_steps hC hΔ l _ T T1 S S1 fs' none G a _ k1 k2 hW.drew hT fun e a' w' h1 => hQ e a' w' (h1.trans (Mod.drew G S w))
end
end Go.Proofs.YtjdccpmbaobpdaaGreatDoor

namespace Go.Proofs.YtjdccpmbaobpdaaGreatDoor
open Go.RowKit

section
variable {P : Program}

theorem endOf_region (T : TM) (S : AS) (x : Option AV) : regionEnd T S x = (endOf x, T, S) := by cases x <;> rfl

theorem range_map (ops : Array Oper) : (List.range ops.size).map (ops[·]?) = ops.toList.map some := by
  apply List.ext_getElem?
  intro j
  by_cases hj : j < ops.size
  · simp [hj]
  · simp [Nat.le_of_not_lt hj]

theorem aexec_sound [Cfg] (hC : CfgOk P) {Δ : Oracle} (hΔ : Sound P Δ) (hL : Local Δ) (hm : P.follows .mixedOrders = true) (n : Nat) {B : Nat → Nat} : ∀ (c : Code) (T T' : TM) (S S' : AS) (x : AX) (G : Gh) (a : Act) (w : World), aexec P Δ n c T S = some (x, T', S') → WRel G S w B → TRel G S T a →
    c.wp P (Reached G S w B x T' S') a w
  | .skip, T, T', S, S', x, G, a, w, h, hW, hT => by
    simp only [aexec, Option.some.injEq, Prod.mk.injEq] at h
    obtain ⟨rfl, rfl, rfl⟩ := h
    exact wp_skip ⟨G, trivial, hW, hT, Mod.refl G S w⟩
  | .label l, T, T', S, S', x, G, a, w, h, hW, hT => by
    simp only [aexec, Option.some.injEq, Prod.mk.injEq] at h
    obtain ⟨rfl, rfl, rfl⟩ := h
    exact wp_label ⟨G, trivial, hW, hT, Mod.refl G S w⟩
  | .region id ops draw, T, T', S, S', x, G, a, w, h, hW, hT => by
    simp only [aexec] at h
    cases draw with
    | true => exact draw_sound hC hΔ hL hm h hW hT fun e a' w' h1 => h1
    | false =>
      unfold aregion at h
      cases hst : asteps P Δ ops ops.toList T S with
      | none => simp [hst] at h
      | some y =>
        obtain ⟨fs, T2, S2, y⟩ := y
        simp only [hst, Bool.false_eq_true, if_false, Option.some.injEq, endOf_region, Prod.mk.injEq] at h
        obtain ⟨rfl, rfl, rfl⟩ := h
        exact wp_region (wpOps_of_steps hC hΔ ops.toList _ T T2 S S2 fs y G a w (range_map ops) hst hW hT fun e a' w' h1 => h1)
  | .seq c d, T, T', S, S', x, G, a, w, h, hW, hT => by
    simp only [aexec] at h
    cases hc : aexec P Δ n c T S with
    | none => simp [hc] at h
    | some y =>
      obtain ⟨y, T1, S1⟩ := y
      have ih := aexec_sound hC hΔ hL hm n c T T1 S S1 y G a w hc hW hT
      refine wp_seq (wp_mono ih ?_)
      rintro e a1 w1 ⟨G1, hx, k1, k2, k3⟩
      rw [hc] at h
      cases y with
      | normal =>
        cases e <;> simp only [XRel] at hx
        refine wp_mono (aexec_sound hC hΔ hL hm n d T1 T' S1 S' x G1 a1 w1 h k1 k2) ?_
        rintro e2 a2 w2 hr
        exact hr.trans k3
      | exit i =>
        simp only [Option.some.injEq, Prod.mk.injEq] at h
        obtain ⟨rfl, rfl, rfl⟩ := h
        cases e <;> simp only [XRel] at hx
        exact ⟨G1, hx, k1, k2, k3⟩
      | ret =>
        simp only [Option.some.injEq, Prod.mk.injEq] at h
        obtain ⟨rfl, rfl, rfl⟩ := h
        cases e <;> simp only [XRel] at hx
        exact ⟨G1, hx, k1, k2, k3⟩
      | pan v =>
        simp only [Option.some.injEq, Prod.mk.injEq] at h
        obtain ⟨rfl, rfl, rfl⟩ := h
        obtain ⟨u, rfl, hv⟩ := hx
        exact ⟨G1, ⟨u, rfl, hv⟩, k1, k2, k3⟩
  | .cond c d f, T, T', S, S', x, G, a, w, h, hW, hT => by
    simp only [aexec] at h
    have hc := hT.eval c
    split at h
    · rename_i t ht
      rw [ht] at hc
      have hb := hc.lit_inv
      refine wp_cond hb ?_
      cases t with
      | true => exact aexec_sound hC hΔ hL hm n d T T' S S' x G a w (by simpa using h) hW hT
      | false => exact aexec_sound hC hΔ hL hm n f T T' S S' x G a w (by simpa using h) hW hT
    · cases h
  | .block id c, T, T', S, S', x, G, a, w, h, hW, hT => by
    simp only [aexec] at h
    cases hc : aexec P Δ n c T S with
    | none => simp [hc] at h
    | some y =>
      obtain ⟨y, T1, S1⟩ := y
      have ih := aexec_sound hC hΔ hL hm n c T T1 S S1 y G a w hc hW hT
      refine wp_block (wp_mono ih ?_)
      rintro e a1 w1 ⟨G1, hx, k1, k2, k3⟩
      rw [hc] at h
      cases y with
      | normal =>
        simp only [Option.some.injEq, Prod.mk.injEq] at h
        obtain ⟨rfl, rfl, rfl⟩ := h
        cases e <;> simp only [XRel] at hx
        exact ⟨G1, trivial, k1, k2, k3⟩
      | exit i =>
        cases e <;> simp only [XRel] at hx
        subst hx
        simp only at h
        simp only [Exit.inBlock]
        split at h
        · rename_i hi
          simp only [Option.some.injEq, Prod.mk.injEq] at h
          obtain ⟨rfl, rfl, rfl⟩ := h
          rw [if_pos hi]
          exact ⟨G1, trivial, k1, k2, k3⟩
        · rename_i hi
          simp only [Option.some.injEq, Prod.mk.injEq] at h
          obtain ⟨rfl, rfl, rfl⟩ := h
          rw [if_neg hi]
          exact ⟨G1, rfl, k1, k2, k3⟩
      | ret =>
        simp only [Option.some.injEq, Prod.mk.injEq] at h
        obtain ⟨rfl, rfl, rfl⟩ := h
        cases e <;> simp only [XRel] at hx
        exact ⟨G1, trivial, k1, k2, k3⟩
      | pan v =>
        simp only [Option.some.injEq, Prod.mk.injEq] at h
        obtain ⟨rfl, rfl, rfl⟩ := h
        obtain ⟨u, rfl, hv⟩ := hx
        exact ⟨G1, ⟨u, rfl, hv⟩, k1, k2, k3⟩
  | .loop c, T, T', S, S', x, G, a, w, h, hW, hT => by
    simp only [aexec] at h
    have key : ∀ (m : Nat) (T1 : TM) (S1 : AS) (G1 : Gh) (a1 : Act) (w1 : World), aloop (aexec P Δ n c) m T1 S1 = some (x, T', S') → WRel G1 S1 w1 B → TRel G1 S1 T1 a1 → Mod G S w G1 S1 w1 →
        Code.rounds P c (Reached G S w B x T' S') m a1 w1 := by
      intro m
      induction m with
      | zero => intro T1 S1 G1 a1 w1 h1 _ _ _; simp [aloop] at h1
      | succ m ih =>
        intro T1 S1 G1 a1 w1 h1 k1 k2 k3
        rw [rounds_succ]
        unfold aloop at h1
        cases hc : aexec P Δ n c T1 S1 with
        | none => simp [hc] at h1
        | some y =>
          obtain ⟨y, T2, S2⟩ := y
          refine wp_mono (aexec_sound hC hΔ hL hm n c T1 T2 S1 S2 y G1 a1 w1 hc k1 k2) ?_
          rintro e a2 w2 ⟨G2, hx, m1, m2, m3⟩
          rw [hc] at h1
          cases y with
          | normal =>
            cases e <;> simp only [XRel] at hx
            exact ih T2 S2 G2 a2 w2 h1 m1 m2 (k3.trans m3)
          | exit i =>
            simp only [Option.some.injEq, Prod.mk.injEq] at h1
            obtain ⟨rfl, rfl, rfl⟩ := h1
            cases e <;> simp only [XRel] at hx
            exact ⟨G2, hx, m1, m2, k3.trans m3⟩
          | ret =>
            simp only [Option.some.injEq, Prod.mk.injEq] at h1
            obtain ⟨rfl, rfl, rfl⟩ := h1
            cases e <;> simp only [XRel] at hx
            exact ⟨G2, trivial, m1, m2, k3.trans m3⟩
          | pan v =>
            simp only [Option.some.injEq, Prod.mk.injEq] at h1
            obtain ⟨rfl, rfl, rfl⟩ := h1
            obtain ⟨u, rfl, hv⟩ := hx
            exact ⟨G2, ⟨u, rfl, hv⟩, m1, m2, k3.trans m3⟩
    exact wp_loop_rounds n (key n T S G a w h hW hT (Mod.refl G S w))
  | .exit id, T, T', S, S', x, G, a, w, h, hW, hT => by
    simp only [aexec, Option.some.injEq, Prod.mk.injEq] at h
    obtain ⟨rfl, rfl, rfl⟩ := h
    exact wp_exit ⟨G, rfl, hW, hT, Mod.refl G S w⟩
  | .ret, T, T', S, S', x, G, a, w, h, hW, hT => by
    simp only [aexec, Option.some.injEq, Prod.mk.injEq] at h
    obtain ⟨rfl, rfl, rfl⟩ := h
    exact wp_ret ⟨G, trivial, hW, hT, Mod.refl G S w⟩
  | .rangeFunc .., _, _, _, _, _, _, _, _, h, _, _ => by simp [aexec] at h
  | .scope _, _, _, _, _, _, _, _, _, h, _, _ => by simp [aexec] at h
  | .goto _, _, _, _, _, _, _, _, _, h, _, _ => by simp [aexec] at h
  | .refuse _, _, _, _, _, _, _, _, _, h, _, _ => by simp [aexec] at h

theorem CRel.getD {G : Gh} {T : TM} {a : Act} (h : CRel G T a.tmps.toList) (t : Nat) : VRel G (T.getD t (.lit undef)) (a.tmps.getD t undef) := TRel.eval (S := .bare) (a := { a with defers := [] }) ⟨h, trivial⟩ (.tmp t)

def resOf (a : Act) : ResultVar → Sem Value
  | .tmp t => pure (a.tmps.getD t undef)
  | .cell c t => do loadVar t (← asAddr (a.tmps.getD c undef))

theorem aresult_sound [Cfg] {G : Gh} {S : AS} {w : World} {B : Nat → Nat} (hW : WRel G S w B) {T : TM} {a : Act} (hT : CRel G T a.tmps.toList) {r : ResultVar} {v : AV} (h : aresult P S T r = some v) :
    ∃ u, (resOf a r).run P w = .ok u w ∧ VRel G v u := by
  cases r with
  | tmp t =>
    simp only [aresult, Option.some.injEq] at h
    subst h
    exact ⟨_, rfl, CRel.getD hT t⟩
  | cell c t =>
    simp only [aresult] at h
    have hv := CRel.getD hT c
    obtain ⟨u, h1, h2⟩ := aload_sound hW h hv
    have hr : ∃ cs, aread S (T.getD c (.lit undef)) = some cs := by
      unfold aload at h
      split at h
      · rename_i cs d i hr hu hi; exact ⟨cs, hr⟩
      · cases h
    obtain ⟨cs, hr⟩ := hr
    obtain ⟨b, off, vs, hp, _, _⟩ := aread_sound hW hr hv
    refine ⟨u, ?_, h2⟩
    rw [hp] at h1
    simpa [resOf, hp, Instr.loadAt, Instr.sureAddr, asAddr] using h1

theorem aresultL_sound [Cfg] {G : Gh} {S : AS} {w : World} {B : Nat → Nat} (hW : WRel G S w B) {T : TM} {a : Act} (hT : CRel G T a.tmps.toList) : ∀ (rs : List ResultVar) (vs : List AV), aresultL P S T rs = some vs →
    ∃ us, (rs.mapM (resOf a)).run P w = .ok us w ∧ CRel G vs us
  | [], vs, h => by
    simp only [aresultL, Option.some.injEq] at h
    subst h
    exact ⟨[], rfl, CRel.nil G⟩
  | r :: rs, vs, h => by
    unfold aresultL at h
    cases h1 : aresult P S T r with
    | none => simp [h1] at h
    | some v =>
      simp only [h1] at h
      cases h2 : aresultL P S T rs with
      | none => simp [h2] at h
      | some vs' =>
        simp only [h2, Option.some.injEq] at h
        subst h
        obtain ⟨u, k1, k2⟩ := aresult_sound hW hT h1
        obtain ⟨us, k3, k4⟩ := aresultL_sound hW hT rs vs' h2
        refine ⟨u :: us, ?_, CRel.cons k2 k4⟩
        rw [List.mapM_cons]
        simp only [Sem.run_bind]
        rw [k1]
        simp only [Result.andThen_ok]
        rw [k3]
        rfl

theorem aresults_sound [Cfg] {G : Gh} {S : AS} {w : World} {B : Nat → Nat} (hW : WRel G S w B) {T : TM} {a : Act} (hT : CRel G T a.tmps.toList) {fn : Func} {v : AV} (h : aresults P fn S T = some v) : ∃ u, (results fn a.tmps).run P w = .ok u w ∧ VRel G v u := by
  obtain ⟨vs, h1, rfl⟩ := Option.map_eq_some_iff.1 h
  obtain ⟨us, k1, k2⟩ := aresultL_sound hW hT _ _ h1
  have hrun : (results fn a.tmps).run P w = .ok (if h : us.toArray.size = 1 then us.toArray[0] else .tuple us.toArray) w := by
    have e : results fn a.tmps = (do let vs ← fn.results.mapM (resOf a); pure (if h : vs.size = 1 then vs[0] else .tuple vs)) := by
      unfold results
      congr 2
    rw [e, Array.mapM_eq_mapM_toList]
    simp only [Sem.run_bind, Sem.run_map]
    rw [k1]
    rfl
  refine ⟨_, hrun, ?_⟩
  match vs, us, k2 with
  | [], [], _ => exact .tup [] [] rfl (fun i a v ha => by simp at ha)
  | [v], [u], k => exact k.head
  | v :: v' :: vs, u :: u' :: us, k =>
    have : ¬ ((u :: u' :: us).toArray.size = 1) := by simp
    rw [dif_neg this]
    exact .tup _ _ k.1 k.2
  | [], _ :: _, k => exact absurd k.1 (by simp)
  | _ :: _, [], k => exact absurd k.1 (by simp)
  | [_], _ :: _ :: _, k => exact absurd k.1 (by simp)
  | _ :: _ :: _, [_], k => exact absurd k.1 (by simp)

theorem run_callFunc_enter {f : FuncId} {fn : Func} {c : Code} (hf : P.funcs[f]? = some fn) (hb : fn.body = some c) (hn : (fn.name == "runtime.NumGoroutine") = false) (args : Array Value) (w : World) : (callFunc f args).run P w = .ok (.enter f args) w := by
  have hn' : ¬ fn.name = "runtime.NumGoroutine" := by simpa using hn
  simp [callFunc, hf, hb, hn']


end
end Go.Proofs.YtjdccpmbaobpdaaGreatDoor

namespace Go.Proofs.YtjdccpmbaobpdaaGreatDoor
open Go.RowKit

section
variable {P : Program}

def MRel (G : Gh) : AM → FrameMode → Prop
  | none, u => u = .returning
  | some (v, b), u => ∃ x, VRel G v x ∧ u = .panicking [{ v := x, recovered := b }]
def MStep (m : AM) (u : FrameMode) (m' : AM) (u' : FrameMode) : Prop := (m' = m ∧ u' = u) ∨ ∃ v x, m = some (v, false) ∧ u = .panicking [{ v := x, recovered := false }] ∧ m' = some (v, true) ∧ u' = .panicking [{ v := x, recovered := true }]
theorem MRel.mono {G H : Gh} (h : G.le H) {m : AM} {u : FrameMode} (k : MRel G m u) : MRel H m u := by
  cases m with
  | none => exact k
  | some y => obtain ⟨v, b⟩ := y; obtain ⟨x, k1, k2⟩ := k; exact ⟨x, k1.mono h, k2⟩
theorem MRel.step {G : Gh} {m m' : AM} {u u' : FrameMode} (k : MRel G m u) (h : MStep m u m' u') : MRel G m' u' := by
  rcases h with ⟨rfl, rfl⟩ | ⟨v, x, rfl, rfl, rfl, rfl⟩
  · exact k
  · obtain ⟨x', k1, k2⟩ := k
    cases k2
    exact ⟨x, k1, rfl⟩
theorem MStep.trans {m1 m2 m3 : AM} {u1 u2 u3 : FrameMode} (h : MStep m1 u1 m2 u2) (k : MStep m2 u2 m3 u3) : MStep m1 u1 m3 u3 := by
  rcases h with ⟨rfl, rfl⟩ | ⟨v, x, rfl, rfl, rfl, rfl⟩
  · exact k
  · rcases k with ⟨rfl, rfl⟩ | ⟨v', x', h1, _⟩
    · exact .inr ⟨v, x, rfl, rfl, rfl, rfl⟩
    · cases h1
theorem MRel.settle {G : Gh} {m : AM} {u : FrameMode} (k : MRel G m u) : MRel G m.settle (Go.settle u) := by
  cases m with
  | none => cases k; rfl
  | some y =>
    obtain ⟨v, b⟩ := y
    obtain ⟨x, k1, rfl⟩ := k
    cases b with
    | false => exact ⟨x, k1, rfl⟩
    | true => rfl
theorem MRel.ne_run {G : Gh} {m : AM} {u : FrameMode} (k : MRel G m u) : u ≠ .run := by
  cases m with
  | none => cases k; simp
  | some y => obtain ⟨v, b⟩ := y; obtain ⟨x, k1, rfl⟩ := k; simp

theorem adsteps_sound [Cfg] (hC : CfgOk P) {Δ : Oracle} (hΔ : Sound P Δ) {B : Nat → Nat} {ops : Array Oper} {Q : Exit → Act → List Frame → World → Prop} (c₀ : Frame) (cs : List Frame) : ∀ (l : List Oper) (pi : List Nat) (T T' : TM) (S S' : AS) (m m' : AM) (x : Option AV) (G : Gh) (a : Act) (w : World) (u : FrameMode), pi.map (ops[·]?) = l.map some →
    adsteps P Δ ops l T S m = some (T', S', m', x) → WRel G S w B → TRel G S T a → MRel G m u → (∀ e a' w' u', Reached G S w B (endOf x) T' S' e a' w' → MStep m u m' u' → Q e a' ({ c₀ with mode := u' } :: cs) w') → wpOpsS P ops Q pi a ({ c₀ with mode := u } :: cs) w
  | [], [], T, T', S, S', m, m', x, G, a, w, u, _, h, hW, hT, hM, hQ => by
    simp only [adsteps, Option.some.injEq, Prod.mk.injEq] at h
    obtain ⟨rfl, rfl, rfl, rfl⟩ := h
    exact hQ _ a w u ⟨G, trivial, hW, hT, Mod.refl G S w⟩ (.inl ⟨rfl, rfl⟩)
  | o :: l, i :: pi, T, T', S, S', m, m', x, G, a, w, u, hp, h, hW, hT, hM, hQ => by
    simp only [List.map_cons, List.cons.injEq] at hp
    unfold wpOpsS
    rw [hp.1]
    simp only
    rw [hT.yielded]
    unfold adsteps at h
    split at h
    · rename_i args tys ho
      split at h
      · rename_i hw
        rw [if_pos hw]
        have hrun : (execOp a.eval o).run P w = .ok .recover w := by simp [execOp, ho, resolve, invoke, builtin]
        rw [hrun]
        simp only
        split at h
        · rename_i v
          obtain ⟨y, hv, rfl⟩ := hM
          simp only [recoverD]
          exact adsteps_sound hC hΔ c₀ cs l pi _ T' S S' _ m' x G _ w _ hp.2 h hW (hT.put o.dst hv) ⟨y, hv, rfl⟩ fun e a' w' u' k1 k2 => hQ e a' w' u' k1 (MStep.trans (.inr ⟨v, y, rfl, rfl, rfl, rfl⟩) k2)
        · rename_i hno
          have hrec : recoverD ({ c₀ with mode := u } :: cs) = none := by
            cases m with
            | none => cases hM; rfl
            | some z =>
              obtain ⟨v, b⟩ := z
              obtain ⟨y, hv, rfl⟩ := hM
              cases b with
              | false => exact absurd rfl (hno v)
              | true => rfl
          rw [hrec]
          exact adsteps_sound hC hΔ c₀ cs l pi _ T' S S' _ m' x G _ w _ hp.2 h hW (hT.put o.dst (.lit _)) hM hQ
      · rename_i hw
        rw [if_neg hw]
        exact adsteps_sound hC hΔ c₀ cs l pi _ T' S S' _ m' x G _ w _ hp.2 h hW (hT.put o.dst (.lit _)) hM hQ
    · have key : if Region.wanted o (Go.yielded ops a.tmps) then o.wp P a w (fun a' w' => wpOpsS P ops Q pi a' ({ c₀ with mode := u } :: cs) w') (fun e a' w' => Q e a' ({ c₀ with mode := u } :: cs) w') else wpOpsS P ops Q pi (a.put o.dst undef) ({ c₀ with mode := u } :: cs) w := by
        cases hs : astep P Δ ops o T S with
        | none => simp [hs] at h
        | some y =>
          obtain ⟨f, T1, S1, y⟩ := y
          rw [hs] at h
          refine astep_sound hC hΔ hs hW hT ?_ ?_
          · rintro rfl G' a' w' h1 h2 h3
            simp only at h
            exact adsteps_sound hC hΔ c₀ cs l pi T1 T' S1 S' m m' x G' a' w' u hp.2 h h1 h2 (hM.mono h3.le) fun e a'' w'' u' k1 k2 => hQ e a'' w'' u' (k1.trans h3) k2
          · rintro v rfl G' a' w' u' hv h1 h2 h3
            simp only [Option.some.injEq, Prod.mk.injEq] at h
            obtain ⟨rfl, rfl, rfl, rfl⟩ := h
            exact hQ _ a' w' u ⟨G', ⟨u', rfl, hv⟩, h1, h2, h3⟩ (.inl ⟨rfl, rfl⟩)
      rw [hT.yielded] at key
      split
      · rename_i hw
        rw [if_pos hw] at key
        unfold Oper.wp at key
        generalize (execOp a.eval o).run P w = r at key ⊢
        split
        · exact absurd key (by simp [Oper.upon])
        · exact key
      · rename_i hw
        rw [if_neg hw] at key
        exact key
  | [], _ :: _, _, _, _, _, _, _, _, _, _, _, _, hp, _, _, _, _, _ => by simp at hp
  | _ :: _, [], _, _, _, _, _, _, _, _, _, _, _, hp, _, _, _, _, _ => by simp at hp

def ReachedD [Cfg] (c₀ : Frame) (cs : List Frame) (m : AM) (u : FrameMode) (m' : AM) (G : Gh) (S : AS) (w : World) (B : Nat → Nat) (x : AX) (T' : TM) (S' : AS) (e : Exit) (a' : Act) (cs' : List Frame) (w' : World) : Prop :=
  ∃ u', cs' = { c₀ with mode := u' } :: cs ∧ MStep m u m' u' ∧ Reached G S w B x T' S' e a' w'

theorem adexec_sound [Cfg] (hC : CfgOk P) {Δ : Oracle} (hΔ : Sound P Δ) (hL : Local Δ) (hm : P.follows .mixedOrders = true) (n : Nat) {B : Nat → Nat} (c₀ : Frame) (cs : List Frame) : ∀ (c : Code) (T T' : TM) (S S' : AS) (m m' : AM) (x : AX) (G : Gh) (a : Act) (w : World) (u : FrameMode),
    adexec P Δ n c T S m = some (x, T', S', m') → WRel G S w B → TRel G S T a → MRel G m u → c.wpS P (ReachedD c₀ cs m u m' G S w B x T' S') a ({ c₀ with mode := u } :: cs) w := by
  have gen : ∀ (c : Code) (T T' : TM) (S S' : AS) (m m' : AM) (x : AX) (G : Gh) (a : Act) (w : World) (u : FrameMode), (aexec P Δ n c T S).map (fun r => (r.1, r.2.1, r.2.2, m)) = some (x, T', S', m') → WRel G S w B → TRel G S T a →
      c.wpS P (ReachedD c₀ cs m u m' G S w B x T' S') a ({ c₀ with mode := u } :: cs) w := by
    intro c T T' S S' m m' x G a w u h hW hT
    obtain ⟨⟨x1, T1, S1⟩, h1, h2⟩ := Option.map_eq_some_iff.1 h
    simp only [Prod.mk.injEq] at h2
    obtain ⟨rfl, rfl, rfl, rfl⟩ := h2
    exact wpS_of_wp (wp_mono (aexec_sound hC hΔ hL hm n c T T1 S S1 x1 G a w h1 hW hT) fun e a' w' k => ⟨u, rfl, .inl ⟨rfl, rfl⟩, k⟩)
  intro c
  induction c with
  | region id ops draw =>
    intro T T' S S' m m' x G a w u h hW hT hM
    cases draw with
    | true => exact gen _ _ _ _ _ _ _ _ _ _ _ _ h hW hT
    | false =>
      simp only [adexec] at h
      cases hst : adsteps P Δ ops ops.toList T S m with
      | none => simp [hst] at h
      | some y =>
        obtain ⟨T1, S1, m1, y⟩ := y
        have he : T' = T1 ∧ S' = S1 ∧ m' = m1 ∧ x = endOf y := by
          rw [hst] at h
          cases y with
          | none => simp only [Option.some.injEq, Prod.mk.injEq] at h; exact ⟨h.2.1.symm, h.2.2.1.symm, h.2.2.2.symm, h.1.symm⟩
          | some v => simp only [Option.some.injEq, Prod.mk.injEq] at h; exact ⟨h.2.1.symm, h.2.2.1.symm, h.2.2.2.symm, h.1.symm⟩
        obtain ⟨rfl, rfl, rfl, rfl⟩ := he
        exact wpS_region (adsteps_sound hC hΔ c₀ cs ops.toList _ T T' S S' m m' y G a w u (range_map ops) hst hW hT hM fun e a' w' u' k1 k2 => ⟨u', rfl, k2, k1⟩)
  | seq c d ihc ihd =>
    intro T T' S S' m m' x G a w u h hW hT hM
    simp only [adexec] at h
    cases hc : adexec P Δ n c T S m with
    | none => simp [hc] at h
    | some y =>
      obtain ⟨y, T1, S1, m1⟩ := y
      have h1 := ihc T T1 S S1 m m1 y G a w u hc hW hT hM
      refine wpS_seq ?_
      intro b k hb hr
      obtain ⟨e, a', cs', w', ⟨u', rfl, k1, G1, hx, k2, k3, k4⟩, harr⟩ := h1 b k hb hr
      refine ⟨e, a', _, w', ?_, harr⟩
      rw [hc] at h
      cases y with
      | normal =>
        cases e <;> simp only [XRel] at hx
        simp only [Exit.thenS]
        intro b' k' hb' hr'
        obtain ⟨e2, a2, cs2, w2, ⟨u2, rfl, q1, q2⟩, harr2⟩ := ihd T1 T' S1 S' m1 m' x G1 a' w' u' h k2 k3 ((hM.mono k4.le).step k1) b' k' hb' hr'
        exact ⟨e2, a2, _, w2, ⟨u2, rfl, k1.trans q1, q2.trans k4⟩, harr2⟩
      | exit i =>
        simp only [Option.some.injEq, Prod.mk.injEq] at h
        obtain ⟨rfl, rfl, rfl, rfl⟩ := h
        cases e <;> simp only [XRel] at hx
        exact ⟨u', rfl, k1, G1, hx, k2, k3, k4⟩
      | ret =>
        simp only [Option.some.injEq, Prod.mk.injEq] at h
        obtain ⟨rfl, rfl, rfl, rfl⟩ := h
        cases e <;> simp only [XRel] at hx
        exact ⟨u', rfl, k1, G1, hx, k2, k3, k4⟩
      | pan v =>
        simp only [Option.some.injEq, Prod.mk.injEq] at h
        obtain ⟨rfl, rfl, rfl, rfl⟩ := h
        obtain ⟨y, rfl, hv⟩ := hx
        exact ⟨u', rfl, k1, G1, ⟨y, rfl, hv⟩, k2, k3, k4⟩
  | _ => intro T T' S S' m m' x G a w u h hW hT hM; exact gen _ _ _ _ _ _ _ _ _ _ _ _ h hW hT

theorem begin_rel {G : Gh} {S : AS} {args : List AV} {args' : List Value} {fn : Func} (h : CRel G args args') (hd : S.dfr = []) : TRel G S (abegin fn args) { tmps := args'.toArray ++ Array.replicate (fn.ntmps - args'.toArray.size) undef, defers := [] } := by
  refine ⟨?_, by rw [hd]; trivial⟩
  simp only [abegin, Array.toList_append, Array.toList_replicate, List.size_toArray, ← h.1]
  refine h.append ⟨by simp, fun i a v ha hv => ?_⟩
  rw [List.getElem?_replicate] at ha hv
  split at ha
  · rename_i hi; rw [if_pos hi] at hv; cases ha; cases hv; exact .lit _
  · cases ha

theorem aleaves_sound [Cfg] (hC : CfgOk P) {Δ : Oracle} (hΔ : Sound P Δ) (hL : Local Δ) (hmo : P.follows .mixedOrders = true) (n : Nat) {B : Nat → Nat} {fn : Func} {T : TM} {tmps : Array Value} {R : Ending → World → Prop} : ∀ (ds : List (FuncId × List AV)) (dl : List Deferred) (m m' : AM) (S S'' : AS) (G : Gh) (w : World) (u : FrameMode),
    aleaves P Δ n ds m S = some (m', S'') → WRel G S w B → DRel G ds dl → CRel G T tmps.toList → MRel G m u →
    (∀ G' w' u', WRel G' S'' w' B → CRel G' T tmps.toList → MRel G' m' u' → Mod G S w G' S'' w' → Leaves P fn tmps R [] u' w') → Leaves P fn tmps R dl u w
  | [], [], m, m', S, S'', G, w, u, h, hW, hD, hT, hM, hR => by
    simp only [aleaves, Option.some.injEq, Prod.mk.injEq] at h
    obtain ⟨rfl, rfl⟩ := h
    exact hR G w u hW hT hM (Mod.refl G S w)
  | (f, args) :: ds, d :: dl, m, m', S, S'', G, w, u, h, hW, hD, hT, hM, hR => by
    obtain ⟨⟨cap, ht, hargs⟩, hD'⟩ := hD
    unfold aleaves at h
    cases hf : P.funcs[f]? with
    | none => simp [hf] at h
    | some fd =>
      simp only [hf] at h
      cases hb : fd.body with
      | none => simp [hb] at h
      | some c =>
        simp only [hb, Option.ite_none_right_eq_some] at h
        obtain ⟨⟨hn, hlen⟩, h⟩ := h
        cases hx : adexec P Δ n c (abegin fd args) (S.enter f) m with
        | none => simp [hx] at h
        | some y =>
          obtain ⟨x, T1, S1, m1⟩ := y
          simp only [hx, Option.ite_none_right_eq_some, Bool.and_eq_true] at h
          obtain ⟨⟨hemp, hres⟩, h⟩ := h
          obtain ⟨v, hres⟩ := Option.isSome_iff_exists.1 hres
          have hhand : (x = .normal ∨ x = .ret) ∧ ∃ z r, handUp f S S1 (.tup []) = some (z, r) ∧ aleaves P Δ n ds m1.settle (S.after r) = some (m', S'') := by
            cases x with
            | exit i => cases h
            | pan v => cases h
            | normal =>
              simp only at h
              cases hh : handUp f S S1 (.tup []) with
              | none => rw [hh] at h; cases h
              | some z => rw [hh] at h; exact ⟨.inl rfl, z.1, z.2, rfl, h⟩
            | ret =>
              simp only at h
              cases hh : handUp f S S1 (.tup []) with
              | none => rw [hh] at h; cases h
              | some z => rw [hh] at h; exact ⟨.inr rfl, z.1, z.2, rfl, h⟩
          obtain ⟨hxx, z, r, hh, hrest⟩ := hhand
          refine ⟨hM.ne_run, .func f, cap, f, d.args ++ cap, ht, ?_, ?_⟩
          · rw [ht]
            simp only [invoke]
            exact run_callFunc_enter hf hb hn _ w
          · have e0 : d.args ++ cap = (d.args ++ cap).toList.toArray := by simp
            rw [e0]
            refine callsD_of_wpS hf hb fun c₀ cs hu => ?_
            subst hu
            intro b k hbk hr
            obtain ⟨e, a', cs', w', ⟨u', rfl, k1, G1, hxr, k2, k3, k4⟩, harr⟩ := adexec_sound hC hΔ hL hmo n c₀ cs c (abegin fd args) T1 (S.enter f) S1 m m1 x G _ w c₀.mode hx (hW.push f) (begin_rel hargs rfl) hM b k hbk hr
            refine ⟨e, a', _, w', ?_, harr⟩
            obtain ⟨z', hz1, hz2⟩ := aresults_sound k2 k3.1 hres
            obtain ⟨G2, _, q2, q3⟩ := handUp_sound hW k2 k4 (.tup [] [] rfl fun i a v ha => by simp at ha) hh
            have hde : a'.defers = [] := by
              have := k3.2
              rw [List.isEmpty_iff.1 hemp] at this
              cases hd : a'.defers with
              | nil => rfl
              | cons d0 dr => rw [hd] at this; exact this.elim
            have fin : a'.defers = [] ∧ ∃ u'', ({ c₀ with mode := u' } :: cs : List Frame) = { c₀ with mode := u'' } :: cs ∧ ∃ v, (results fd a'.tmps).run P w' = .ok v w' ∧ Leaves P fn tmps R dl (Go.settle u'') w' :=
              ⟨hde, u', rfl, z', hz1, aleaves_sound hC hΔ hL hmo n ds dl m1.settle m' (S.after r) S'' G2 w' (Go.settle u') hrest q2 (hD'.mono q3.le) (hT.mono q3.le) ((hM.mono q3.le).step k1).settle
                fun G' w'' u'' j1 j2 j3 j4 => hR G' w'' u'' j1 j2 j3 (q3.trans j4)⟩
            rcases hxx with rfl | rfl
            · cases e <;> simp only [XRel] at hxr; exact fin
            · cases e <;> simp only [XRel] at hxr; exact fin
  | [], _ :: _, _, _, _, _, _, _, _, _, _, hD, _, _, _ => hD.elim
  | _ :: _, [], _, _, _, _, _, _, _, _, _, hD, _, _, _ => hD.elim

theorem atEnd_sound [Cfg] {G G' : Gh} {S S' : AS} {w w' : World} {B : Nat → Nat} {f : FuncId} {fn : Func} {T : TM} {tmps : Array Value} {m : AM} {u : FrameMode} {x : AE} {r : Upd} (h : WRel G S w B) (h' : WRel G' S' w' (under S w B)) (hm : Mod G (S.enter f) w G' S' w') (hT : CRel G' T tmps.toList) (hM : MRel G' m u)
    (hh : atEnd P fn f S S' T m = some (x, r)) : Leaves P fn tmps (fun e w' => ∃ G', AE.rel G' x e ∧ WRel G' (S.after r) w' B ∧ Mod G S w G' (S.after r) w') [] u w' := by
  cases m with
  | none =>
    cases hM
    unfold atEnd at hh
    simp only at hh
    cases hr : aresults P fn S' T with
    | none => simp [hr] at hh
    | some v =>
      rw [hr] at hh
      obtain ⟨⟨y, r'⟩, h1, h2⟩ := Option.map_eq_some_iff.1 hh
      cases h2
      obtain ⟨z, hz1, hz2⟩ := aresults_sound (a := { tmps := tmps, defers := [] }) h' hT hr
      obtain ⟨G2, q1, q2, q3⟩ := handUp_sound h h' hm hz2 h1
      exact ⟨z, hz1, G2, ⟨z, rfl, q1⟩, q2, q3⟩
  | some y =>
    obtain ⟨v, b⟩ := y
    obtain ⟨z, hz, rfl⟩ := hM
    cases b with
    | true => cases hh
    | false =>
      unfold atEnd at hh
      simp only at hh
      obtain ⟨⟨y, r'⟩, h1, h2⟩ := Option.map_eq_some_iff.1 hh
      cases h2
      obtain ⟨G2, q1, q2, q3⟩ := handUp_sound h h' hm hz h1
      exact ⟨G2, ⟨z, rfl, q1⟩, q2, q3⟩

/-- What is told of functions of which no body is walked. -/
structure GivenOk [Cfg] (P : Program) : Prop where
  sound : ∀ f h, Cfg.given f = some h → ∀ args S x r, h args S = some (x, r) → (∀ args' w, (callFunc f args').run P w = .ok (.enter f args') w) ∧
    ∀ G w B args', WRel G S w B → CRel G args args' → Calls P f args'.toArray w fun e w' => ∃ G', AE.rel G' x e ∧ WRel G' (S.after r) w' B ∧ Mod G S w G' (S.after r) w'
  here : ∀ f h, Cfg.given f = some h → ∀ args S x t l, h args S = some (x, some (t, l)) → ∀ p, p ∉ l → t.get p = S.tab.get p

theorem atEnd_local [Cfg] {S S' : AS} {f : FuncId} {fn : Func} {T : TM} {m : AM} {x : AE} {t : Tab} {l : List Loc} (hh : atEnd P fn f S S' T m = some (x, some (t, l))) : ∀ p, p ∉ l → t.get p = S.tab.get p := by
  cases m with
  | none =>
    unfold atEnd at hh
    simp only at hh
    cases hr : aresults P fn S' T with
    | none => simp [hr] at hh
    | some v =>
      rw [hr] at hh
      obtain ⟨⟨y, r'⟩, h1, h2⟩ := Option.map_eq_some_iff.1 hh
      cases h2
      exact handUp_local h1
  | some y =>
    obtain ⟨v, b⟩ := y
    cases b with
    | true => cases hh
    | false =>
      unfold atEnd at hh
      simp only at hh
      obtain ⟨⟨y, r'⟩, h1, h2⟩ := Option.map_eq_some_iff.1 hh
      cases h2
      exact handUp_local h1

/-- What a call is made of. -/
theorem acall_inv [Cfg] {n : Nat} {f : FuncId} {args : List AV} {S : AS} {y : AE × Upd} (hg : Cfg.given f = none) (h : acall P (n + 1) f args S = some y) : ∃ fn c x T' S' m m' S'', P.funcs[f]? = some fn ∧ fn.body = some c ∧ (fn.name == "runtime.NumGoroutine") = false ∧ args.length ≤ fn.ntmps ∧
    aexec P (acall P n) n c (abegin fn (aargs f S.fn args)) (S.enter f) = some (x, T', S') ∧ ((x = .normal ∨ x = .ret) ∧ m = none ∨ ∃ v, x = .pan v ∧ m = some (v, false)) ∧
    aleaves P (acall P n) n S'.dfr m { S' with dfr := [] } = some (m', S'') ∧ atEnd P fn f S S'' T' m' = some y := by
  unfold acall at h
  rw [hg] at h
  simp only at h
  cases hf : P.funcs[f]? with
  | none => simp [hf] at h
  | some fn =>
    simp only [hf] at h
    cases hb : fn.body with
    | none => simp [hb] at h
    | some c =>
      simp only [hb, Option.ite_none_right_eq_some] at h
      obtain ⟨⟨hn, hlen⟩, h⟩ := h
      cases hx : aexec P (acall P n) n c (abegin fn (aargs f S.fn args)) (S.enter f) with
      | none => simp [hx] at h
      | some z =>
        obtain ⟨x, T', S'⟩ := z
        simp only [hx] at h
        have go : ∀ m : AM, (match S'.dfr with
              | [] => atEnd P fn f S S' T' m
              | ds => match aleaves P (acall P n) n ds m { S' with dfr := [] } with
                | some (m', S'') => atEnd P fn f S S'' T' m'
                | none => none) = some y → ∃ m' S'', aleaves P (acall P n) n S'.dfr m { S' with dfr := [] } = some (m', S'') ∧ atEnd P fn f S S'' T' m' = some y := by
          intro m h
          cases hd : S'.dfr with
          | nil =>
            rw [hd] at h
            refine ⟨m, _, rfl, ?_⟩
            have e : ({ S' with dfr := [] } : AS) = S' := by cases S'; simp only at hd; subst hd; rfl
            rw [e]
            exact h
          | cons d dr =>
            rw [hd] at h
            simp only at h
            cases hl : aleaves P (acall P n) n (d :: dr) m { S' with dfr := [] } with
            | none => rw [hl] at h; cases h
            | some z => rw [hl] at h; exact ⟨z.1, z.2, rfl, h⟩
        cases x with
        | exit i => cases h
        | normal => obtain ⟨m', S'', k1, k2⟩ := go none h; exact ⟨fn, c, _, T', S', _, m', S'', rfl, hb, hn, hlen, hx, .inl ⟨.inl rfl, rfl⟩, k1, k2⟩
        | ret => obtain ⟨m', S'', k1, k2⟩ := go none h; exact ⟨fn, c, _, T', S', _, m', S'', rfl, hb, hn, hlen, hx, .inl ⟨.inr rfl, rfl⟩, k1, k2⟩
        | pan v => obtain ⟨m', S'', k1, k2⟩ := go (some (v, false)) h; exact ⟨fn, c, _, T', S', _, m', S'', rfl, hb, hn, hlen, hx, .inr ⟨v, rfl, rfl⟩, k1, k2⟩

theorem acall_local [Cfg] (hG : GivenOk P) : ∀ n, Local (acall P n)
  | 0 => fun f args S x t l h => by simp [acall] at h
  | n + 1 => fun f args S x t l h => by
    cases hg : Cfg.given f with
    | some k =>
      unfold acall at h
      rw [hg] at h
      exact hG.here f k hg args S x t l h
    | none =>
      obtain ⟨fn, c, x, T', S', m, m', S'', _, _, _, _, _, _, _, h1⟩ := acall_inv hg h
      exact atEnd_local h1

theorem acall_sound [Cfg] (hC : CfgOk P) (hG : GivenOk P) (hmo : P.follows .mixedOrders = true) : ∀ n, Sound P (acall P n)
  | 0 => fun f args S x r h => by simp [acall] at h
  | n + 1 => fun f args S y r h => by
    have ih := acall_sound hC hG hmo n
    have hL := acall_local hG n
    cases hg : Cfg.given f with
    | some k =>
      unfold acall at h
      rw [hg] at h
      exact hG.sound f k hg args S y r h
    | none =>
      obtain ⟨fn, c, x, T', S', m, m', S'', hf, hb, hn, hlen, hx, hxm, hl, he⟩ := acall_inv hg h
      refine ⟨fun args' w => run_callFunc_enter hf hb hn args' w, fun G w B args' hW hargs => ?_⟩
      have hargs' : CRel G (aargs f S.fn args) args' := by
        unfold aargs
        split
        · exact hargs
        · exact hargs.normA
      refine calls_of_wp_defers hf hb (wp_mono (aexec_sound hC ih hL hmo n c _ T' _ S' x G _ w hx (hW.push f) (begin_rel hargs' rfl)) ?_)
      rintro e a' w' ⟨G', hxr, k1, k2, k3⟩
      have fin : ∀ u, MRel G' m u → Leaves P fn a'.tmps (fun e w' => ∃ G', AE.rel G' y e ∧ WRel G' (S.after r) w' B ∧ Mod G S w G' (S.after r) w') a'.defers u w' := fun u hM =>
        aleaves_sound hC ih hL hmo n S'.dfr a'.defers m m' { S' with dfr := [] } S'' G' w' u hl ⟨k1.imm, k1.slot, k1.lvs, k1.apart, k1.dom, k1.base, k1.mono, k1.fits, k1.far⟩ k2.2 k2.1 hM fun G2 w2 u2 j1 j2 j3 j4 =>
          atEnd_sound hW j1 (Mod.trans (T := { S' with dfr := [] }) ⟨k3.le, k3.lvl, k3.fn, k3.log, k3.os, k3.tape, k3.output, k3.size⟩ j4) j2 j3 he
      rcases hxm with ⟨rfl | rfl, rfl⟩ | ⟨v, rfl, rfl⟩
      · cases e <;> simp only [XRel] at hxr
        exact fin _ rfl
      · cases e <;> simp only [XRel] at hxr
        exact fin _ rfl
      · obtain ⟨u, rfl, hv⟩ := hxr
        exact fin _ ⟨u, hv, rfl⟩
end
end Go.Proofs.YtjdccpmbaobpdaaGreatDoor

namespace Go.Proofs.YtjdccpmbaobpdaaGreatDoor
open Go.RowKit

section
variable {P : Program}

def Oracle.le (Δ Δ' : Oracle) : Prop := ∀ f args S r, Δ f args S = some r → Δ' f args S = some r

theorem astep_mono [Cfg] {Δ Δ' : Oracle} (h : Δ.le Δ') {ops : Array Oper} {o : Oper} {T : TM} {S : AS} {r : Foot × TM × AS × Option AV} (hs : astep P Δ ops o T S = some r) : astep P Δ' ops o T S = some r := by
  unfold astep at hs ⊢
  split at hs
  · rename_i hw
    rw [if_pos hw]
    cases hx : aop P S (aev T) o with
    | none => simp [hx] at hs
    | some x =>
      rw [hx] at hs
      cases x with
      | val v => exact hs
      | chg v p s => exact hs
      | pan v => exact hs
      | dfr f args => exact hs
      | call f args =>
        simp only [Option.ite_none_right_eq_some] at hs ⊢
        refine ⟨hs.1, ?_⟩
        have hs := hs.2
        split
        · rename_i hc
          rw [if_pos hc] at hs
          cases hd : Δ f args .bare with
          | none => simp [hd] at hs
          | some y =>
            rw [h f args .bare y hd]
            rw [hd] at hs
            exact hs
        · rename_i hc
          rw [if_neg hc] at hs
          cases hd : Δ f args S with
          | none => simp [hd] at hs
          | some y =>
            rw [h f args S y hd]
            rw [hd] at hs
            exact hs
  · rename_i hw
    rw [if_neg hw]
    exact hs

theorem asteps_mono [Cfg] {Δ Δ' : Oracle} (h : Δ.le Δ') {ops : Array Oper} : ∀ (l : List Oper) (T : TM) (S : AS) (r : List Foot × TM × AS × Option AV), asteps P Δ ops l T S = some r → asteps P Δ' ops l T S = some r
  | [], T, S, r, hs => hs
  | o :: l, T, S, r, hs => by
    unfold asteps at hs ⊢
    cases h1 : astep P Δ ops o T S with
    | none => simp [h1] at hs
    | some y =>
      obtain ⟨f, T1, S1, x⟩ := y
      rw [astep_mono h h1]
      rw [h1] at hs
      cases x with
      | some v => exact hs
      | none =>
        simp only at hs ⊢
        cases h2 : asteps P Δ ops l T1 S1 with
        | none => simp [h2] at hs
        | some z =>
          rw [asteps_mono h l T1 S1 z h2]
          rw [h2] at hs
          exact hs

theorem aregion_mono [Cfg] {Δ Δ' : Oracle} (h : Δ.le Δ') {ops : Array Oper} {d : Bool} {T : TM} {S : AS} {r : AX × TM × AS} (hs : aregion P Δ ops d T S = some r) : aregion P Δ' ops d T S = some r := by
  unfold aregion at hs ⊢
  cases h1 : asteps P Δ ops ops.toList T S with
  | none => simp [h1] at hs
  | some y => rw [asteps_mono h _ _ _ y h1]; rw [h1] at hs; exact hs

abbrev XO := Option (AX × TM × AS)

theorem aloop_mono {f g : TM → AS → XO} (h : ∀ T S r, f T S = some r → g T S = some r) : ∀ (n m : Nat), n ≤ m → ∀ T S r, aloop f n T S = some r → aloop g m T S = some r
  | 0, _, _, T, S, r, hs => by simp [aloop] at hs
  | n + 1, 0, hm, _, _, _, _ => by omega
  | n + 1, m + 1, hm, T, S, r, hs => by
    unfold aloop at hs ⊢
    cases h1 : f T S with
    | none => simp [h1] at hs
    | some y =>
      obtain ⟨x, T1, S1⟩ := y
      rw [h T S _ h1]
      rw [h1] at hs
      cases x with
      | normal => exact aloop_mono h n m (by omega) T1 S1 r hs
      | _ => exact hs

theorem aexec_mono [Cfg] {Δ Δ' : Oracle} (h : Δ.le Δ') {n m : Nat} (hnm : n ≤ m) : ∀ (c : Code) (T : TM) (S : AS) (r : AX × TM × AS), aexec P Δ n c T S = some r → aexec P Δ' m c T S = some r
  | .skip, T, S, r, hs => hs
  | .label _, T, S, r, hs => hs
  | .region id ops d, T, S, r, hs => by
    simp only [aexec] at hs ⊢
    exact aregion_mono h hs
  | .seq a b, T, S, r, hs => by
    simp only [aexec] at hs ⊢
    cases h1 : aexec P Δ n a T S with
    | none => simp [h1] at hs
    | some y =>
      obtain ⟨x, T1, S1⟩ := y
      rw [aexec_mono h hnm a T S _ h1]
      rw [h1] at hs
      cases x with
      | normal => exact aexec_mono h hnm b T1 S1 r hs
      | _ => exact hs
  | .cond c a b, T, S, r, hs => by
    simp only [aexec] at hs ⊢
    split at hs
    · rename_i t ht
      try simp only [ht]
      cases t with
      | true => exact aexec_mono h hnm a T S r hs
      | false => exact aexec_mono h hnm b T S r hs
    · cases hs
  | .block id b, T, S, r, hs => by
    simp only [aexec] at hs ⊢
    cases h1 : aexec P Δ n b T S with
    | none => simp [h1] at hs
    | some y =>
      obtain ⟨x, T1, S1⟩ := y
      rw [aexec_mono h hnm b T S _ h1]
      rw [h1] at hs
      exact hs
  | .loop b, T, S, r, hs => by
    simp only [aexec] at hs ⊢
    exact aloop_mono (fun T S r hr => aexec_mono h hnm b T S r hr) n m hnm T S r hs
  | .exit id, T, S, r, hs => hs
  | .ret, T, S, r, hs => hs
  | .rangeFunc .., _, _, _, hs => by simp [aexec] at hs
  | .scope _, _, _, _, hs => by simp [aexec] at hs
  | .goto _, _, _, _, hs => by simp [aexec] at hs
  | .refuse _, _, _, _, hs => by simp [aexec] at hs


theorem adsteps_mono [Cfg] {Δ Δ' : Oracle} (h : Δ.le Δ') {ops : Array Oper} : ∀ (l : List Oper) (T : TM) (S : AS) (m : AM) (r : TM × AS × AM × Option AV), adsteps P Δ ops l T S m = some r → adsteps P Δ' ops l T S m = some r
  | [], T, S, m, r, hs => hs
  | o :: l, T, S, m, r, hs => by
    unfold adsteps at hs ⊢
    split at hs
    · split at hs
      · rename_i hw
        rw [if_pos hw]
        split at hs
        · exact adsteps_mono h l _ _ _ r hs
        · exact adsteps_mono h l _ _ _ r hs
      · rename_i hw
        rw [if_neg hw]
        exact adsteps_mono h l _ _ _ r hs
    · cases h1 : astep P Δ ops o T S with
      | none => simp [h1] at hs
      | some y =>
        obtain ⟨f, T1, S1, x⟩ := y
        rw [astep_mono h h1]
        rw [h1] at hs
        cases x with
        | some v => exact hs
        | none => exact adsteps_mono h l T1 S1 m r hs

theorem adexec_mono [Cfg] {Δ Δ' : Oracle} (h : Δ.le Δ') {n k : Nat} (hnm : n ≤ k) : ∀ (c : Code) (T : TM) (S : AS) (m : AM) (r : AX × TM × AS × AM), adexec P Δ n c T S m = some r → adexec P Δ' k c T S m = some r := by
  have gen : ∀ (c : Code) (T : TM) (S : AS) (m : AM) (r : AX × TM × AS × AM), (aexec P Δ n c T S).map (fun r => (r.1, r.2.1, r.2.2, m)) = some r → (aexec P Δ' k c T S).map (fun r => (r.1, r.2.1, r.2.2, m)) = some r := by
    intro c T S m r hs
    obtain ⟨y, h1, h2⟩ := Option.map_eq_some_iff.1 hs
    rw [aexec_mono h hnm c T S y h1]
    rw [← h2]
    rfl
  intro c
  induction c with
  | region id ops d =>
    intro T S m r hs
    cases d with
    | true => exact gen _ _ _ _ _ hs
    | false =>
      simp only [adexec] at hs ⊢
      cases h1 : adsteps P Δ ops ops.toList T S m with
      | none => simp [h1] at hs
      | some y => rw [adsteps_mono h _ _ _ _ y h1]; rw [h1] at hs; exact hs
  | seq a b iha ihb =>
    intro T S m r hs
    simp only [adexec] at hs ⊢
    cases h1 : adexec P Δ n a T S m with
    | none => simp [h1] at hs
    | some y =>
      obtain ⟨x, T1, S1, m1⟩ := y
      rw [iha T S m _ h1]
      rw [h1] at hs
      cases x with
      | normal => exact ihb T1 S1 m1 r hs
      | _ => exact hs
  | _ => intro T S m r hs; exact gen _ _ _ _ _ hs

theorem aleaves_mono [Cfg] {Δ Δ' : Oracle} (h : Δ.le Δ') {n k : Nat} (hnm : n ≤ k) : ∀ (ds : List (FuncId × List AV)) (m : AM) (S : AS) (r : AM × AS), aleaves P Δ n ds m S = some r → aleaves P Δ' k ds m S = some r
  | [], m, S, r, hs => hs
  | (f, args) :: ds, m, S, r, hs => by
    unfold aleaves at hs ⊢
    cases hf : P.funcs[f]? with
    | none => simp [hf] at hs
    | some fn =>
      simp only [hf] at hs ⊢
      cases hb : fn.body with
      | none => simp [hb] at hs
      | some c =>
        simp only [hb, Option.ite_none_right_eq_some] at hs ⊢
        refine ⟨hs.1, ?_⟩
        have hs := hs.2
        cases hx : adexec P Δ n c (abegin fn args) (S.enter f) m with
        | none => simp [hx] at hs
        | some y =>
          obtain ⟨x, T', S', m'⟩ := y
          rw [adexec_mono h hnm c _ _ _ _ hx]
          simp only [hx, Option.ite_none_right_eq_some] at hs ⊢
          refine ⟨hs.1, ?_⟩
          have hs := hs.2
          cases x with
          | exit i => cases hs
          | pan v => cases hs
          | normal =>
            simp only at hs ⊢
            cases hh : handUp f S S' (.tup []) with
            | none => rw [hh] at hs; cases hs
            | some z => rw [hh] at hs; exact aleaves_mono h hnm ds _ _ r hs
          | ret =>
            simp only at hs ⊢
            cases hh : handUp f S S' (.tup []) with
            | none => rw [hh] at hs; cases hs
            | some z => rw [hh] at hs; exact aleaves_mono h hnm ds _ _ r hs

def AX.mode : AX → Option AM
  | .normal => some none
  | .ret => some none
  | .pan v => some (some (v, false))
  | .exit _ => none

/-- What a call makes of its body's run. -/
def finish [Cfg] (P : Program) (Δ : Oracle) (n : Nat) (fn : Func) (f : FuncId) (S : AS) : XO → Option (AE × Upd)
  | some (x, T', S') => match x.mode with
    | some m => match aleaves P Δ n S'.dfr m { S' with dfr := [] } with
      | some (m', S'') => atEnd P fn f S S'' T' m'
      | none => none
    | none => none
  | none => none

theorem acall_succ [Cfg] (n : Nat) {f : FuncId} {fn : Func} {c : Code} (hg : Cfg.given f = none) (hf : P.funcs[f]? = some fn) (hb : fn.body = some c) (hn : (fn.name == "runtime.NumGoroutine") = false) {args : List AV} (ha : args.length ≤ fn.ntmps) (S : AS) :
    acall P (n + 1) f args S = finish P (acall P n) n fn f S (aexec P (acall P n) n c (abegin fn (aargs f S.fn args)) (S.enter f)) := by
  conv => lhs; unfold acall
  rw [hg]
  simp only [hf, hb]
  rw [if_pos ⟨hn, ha⟩]
  have go : ∀ (S' : AS) (T' : TM) (m : AM), (match S'.dfr with
              | [] => atEnd P fn f S S' T' m
              | ds => match aleaves P (acall P n) n ds m { S' with dfr := [] } with
                | some (m', S'') => atEnd P fn f S S'' T' m'
                | none => none) = (match aleaves P (acall P n) n S'.dfr m { S' with dfr := [] } with
      | some (m', S'') => atEnd P fn f S S'' T' m'
      | none => none) := by
    intro S' T' m
    cases hd : S'.dfr with
    | nil =>
      have e : ({ S' with dfr := [] } : AS) = S' := by cases S'; simp only at hd; subst hd; rfl
      rw [e]
      rfl
    | cons d dr => rfl
  cases hx : aexec P (acall P n) n c (abegin fn (aargs f S.fn args)) (S.enter f) with
  | none => rfl
  | some y =>
    obtain ⟨x, T', S'⟩ := y
    cases x with
    | exit i => rfl
    | normal => exact go S' T' none
    | ret => exact go S' T' none
    | pan v => exact go S' T' (some (v, false))

theorem finish_mono [Cfg] {Δ Δ' : Oracle} (h : Δ.le Δ') {n k : Nat} (hnm : n ≤ k) {fn : Func} {f : FuncId} {S : AS} {x y : XO} {r : AE × Upd} (hx : ∀ z, x = some z → y = some z) (hs : finish P Δ n fn f S x = some r) : finish P Δ' k fn f S y = some r := by
  cases x with
  | none => cases hs
  | some z =>
    rw [hx z rfl]
    obtain ⟨x, T', S'⟩ := z
    unfold finish at hs ⊢
    simp only at hs ⊢
    cases hm : x.mode with
    | none => rw [hm] at hs; cases hs
    | some m =>
      rw [hm] at hs
      simp only at hs ⊢
      cases hl : aleaves P Δ n S'.dfr m { S' with dfr := [] } with
      | none => rw [hl] at hs; cases hs
      | some z => rw [aleaves_mono h hnm _ _ _ z hl]; rw [hl] at hs; exact hs

theorem acall_mono [Cfg] : ∀ n m, n ≤ m → (acall P n).le (acall P m)
  | 0, _, _ => fun f args S r h => by simp [acall] at h
  | n + 1, 0, h => by omega
  | n + 1, m + 1, h => fun f args S r hs => by
    cases hg : Cfg.given f with
    | some k =>
      unfold acall at hs ⊢
      rw [hg] at hs ⊢
      exact hs
    | none =>
      obtain ⟨fn, c, _, _, _, _, _, _, hf, hb, hn, hl, _⟩ := acall_inv hg hs
      have hl : args.length ≤ fn.ntmps := hl
      rw [acall_succ n hg hf hb hn hl] at hs
      rw [acall_succ m hg hf hb hn hl]
      exact finish_mono (acall_mono n m (by omega)) (by omega) (fun z hz => aexec_mono (acall_mono n m (by omega)) (by omega) c _ _ z hz) hs

/-- What is reached at last. -/
noncomputable def lim {α : Type} (f : Nat → Option α) : Option α :=
  open Classical in if h : ∃ n, (f n).isSome = true then f h.choose else none
theorem lim_some {α : Type} {f : Nat → Option α} (hf : ∀ n m r, n ≤ m → f n = some r → f m = some r) {r : α} : lim f = some r ↔ ∃ n, f n = some r := by
  constructor
  · intro h
    unfold lim at h
    split at h
    · exact ⟨_, h⟩
    · cases h
  · rintro ⟨n, hn⟩
    have hex : ∃ n, (f n).isSome = true := ⟨n, by rw [hn]; rfl⟩
    unfold lim
    rw [dif_pos hex]
    obtain ⟨r', hr'⟩ := Option.isSome_iff_exists.1 hex.choose_spec
    rw [hr']
    have h1 := hf _ (max n hex.choose) _ (Nat.le_max_left ..) hn
    have h2 := hf _ (max n hex.choose) _ (Nat.le_max_right ..) hr'
    rw [h1] at h2
    exact h2.symm

noncomputable def callT [Cfg] (P : Program) : Oracle := fun f args S => lim fun n => acall P n f args S
theorem callT_some [Cfg] {f : FuncId} {args : List AV} {S : AS} {r : AE × Upd} : callT P f args S = some r ↔ ∃ n, acall P n f args S = some r :=
  lim_some fun n m r h hr => acall_mono n m h f args S r hr
theorem acall_le [Cfg] (n : Nat) : (acall P n).le (callT P) := fun _ _ _ _ h => callT_some.2 ⟨n, h⟩

theorem callT_sound [Cfg] (hC : CfgOk P) (hG : GivenOk P) (hm : P.follows .mixedOrders = true) : Sound P (callT P) := fun f args S v r h => by
  obtain ⟨n, hn⟩ := callT_some.1 h
  exact acall_sound hC hG hm n f args S v r hn
end
end Go.Proofs.YtjdccpmbaobpdaaGreatDoor

namespace Go.Proofs.YtjdccpmbaobpdaaGreatDoor
open Go.RowKit

section
variable {P : Program}

theorem compact_step [Cfg] {ops : Array Oper} {o : Oper} {T : TM} {S : AS} {r : Foot × TM × AS × Option AV} (hs : astep P (callT P) ops o T S = some r) : ∃ m, astep P (acall P m) ops o T S = some r := by
  unfold astep at hs ⊢
  split at hs
  · rename_i hw
    simp only [hw, if_true]
    cases hx : aop P S (aev T) o with
    | none => simp [hx] at hs
    | some x =>
      rw [hx] at hs
      cases x with
      | val v => exact ⟨0, hs⟩
      | chg v p s => exact ⟨0, hs⟩
      | pan v => exact ⟨0, hs⟩
      | dfr f args => exact ⟨0, hs⟩
      | call f args =>
        simp only [Option.ite_none_right_eq_some] at hs ⊢
        have hs1 := hs.1
        have hs := hs.2
        split at hs
        · rename_i hc
          cases hd : callT P f args .bare with
          | none => simp [hd] at hs
          | some y =>
            obtain ⟨m, hm⟩ := callT_some.1 hd
            refine ⟨m, hs1, ?_⟩
            rw [if_pos hc, hm]
            rw [hd] at hs
            exact hs
        · rename_i hc
          cases hd : callT P f args S with
          | none => simp [hd] at hs
          | some y =>
            obtain ⟨m, hm⟩ := callT_some.1 hd
            refine ⟨m, hs1, ?_⟩
            rw [if_neg hc, hm]
            rw [hd] at hs
            exact hs
  · rename_i hw
    exact ⟨0, by rw [if_neg hw]; exact hs⟩

theorem compact_steps [Cfg] {ops : Array Oper} : ∀ (l : List Oper) (T : TM) (S : AS) (r : List Foot × TM × AS × Option AV), asteps P (callT P) ops l T S = some r → ∃ m, asteps P (acall P m) ops l T S = some r
  | [], T, S, r, hs => ⟨0, hs⟩
  | o :: l, T, S, r, hs => by
    unfold asteps at hs
    cases h1 : astep P (callT P) ops o T S with
    | none => simp [h1] at hs
    | some y =>
      obtain ⟨f, T1, S1, x⟩ := y
      obtain ⟨m1, k1⟩ := compact_step h1
      rw [h1] at hs
      cases x with
      | some v => exact ⟨m1, by unfold asteps; rw [k1]; exact hs⟩
      | none =>
        simp only at hs
        cases h2 : asteps P (callT P) ops l T1 S1 with
        | none => simp [h2] at hs
        | some z =>
          obtain ⟨m2, k2⟩ := compact_steps l T1 S1 z h2
          refine ⟨max m1 m2, ?_⟩
          unfold asteps
          rw [astep_mono (acall_mono _ _ (Nat.le_max_left m1 m2)) k1]
          simp only
          rw [asteps_mono (acall_mono _ _ (Nat.le_max_right m1 m2)) l T1 S1 z k2]
          rw [h2] at hs
          exact hs

theorem compact_region [Cfg] {ops : Array Oper} {d : Bool} {T : TM} {S : AS} {r : AX × TM × AS} (hs : aregion P (callT P) ops d T S = some r) : ∃ m, aregion P (acall P m) ops d T S = some r := by
  unfold aregion at hs
  cases h1 : asteps P (callT P) ops ops.toList T S with
  | none => simp [h1] at hs
  | some y =>
    obtain ⟨m, k⟩ := compact_steps _ _ _ y h1
    refine ⟨m, ?_⟩
    unfold aregion
    rw [k]
    rw [h1] at hs
    exact hs

theorem compact_exec [Cfg] (n : Nat) : ∀ (c : Code) (T : TM) (S : AS) (r : AX × TM × AS), aexec P (callT P) n c T S = some r → ∃ m, aexec P (acall P m) n c T S = some r
  | .skip, T, S, r, hs => ⟨0, hs⟩
  | .label _, T, S, r, hs => ⟨0, hs⟩
  | .region id ops d, T, S, r, hs => by
    simp only [aexec] at hs ⊢
    exact compact_region hs
  | .seq a b, T, S, r, hs => by
    simp only [aexec] at hs ⊢
    cases h1 : aexec P (callT P) n a T S with
    | none => simp [h1] at hs
    | some y =>
      obtain ⟨x, T1, S1⟩ := y
      obtain ⟨m1, k1⟩ := compact_exec n a T S _ h1
      rw [h1] at hs
      cases x with
      | normal =>
        obtain ⟨m2, k2⟩ := compact_exec n b T1 S1 r hs
        refine ⟨max m1 m2, ?_⟩
        rw [aexec_mono (acall_mono _ _ (Nat.le_max_left m1 m2)) (Nat.le_refl n) a T S _ k1]
        exact aexec_mono (acall_mono _ _ (Nat.le_max_right m1 m2)) (Nat.le_refl n) b T1 S1 r k2
      | _ => exact ⟨m1, by rw [k1]; exact hs⟩
  | .cond c a b, T, S, r, hs => by
    simp only [aexec] at hs ⊢
    split at hs
    · rename_i t ht
      try simp only [ht]
      cases t with
      | true => exact compact_exec n a T S r hs
      | false => exact compact_exec n b T S r hs
    · cases hs
  | .block id b, T, S, r, hs => by
    simp only [aexec] at hs ⊢
    cases h1 : aexec P (callT P) n b T S with
    | none => simp [h1] at hs
    | some y =>
      obtain ⟨m, k⟩ := compact_exec n b T S y h1
      exact ⟨m, by rw [k]; rw [h1] at hs; exact hs⟩
  | .loop b, T, S, r, hs => by
    simp only [aexec] at hs ⊢
    have key : ∀ (i : Nat) (T : TM) (S : AS), aloop (aexec P (callT P) n b) i T S = some r → ∃ m, aloop (aexec P (acall P m) n b) i T S = some r := by
      intro i
      induction i with
      | zero => intro T S h; simp [aloop] at h
      | succ i ih =>
        intro T S h
        unfold aloop at h
        cases h1 : aexec P (callT P) n b T S with
        | none => simp [h1] at h
        | some y =>
          obtain ⟨x, T1, S1⟩ := y
          obtain ⟨m1, k1⟩ := compact_exec n b T S _ h1
          rw [h1] at h
          cases x with
          | normal =>
            obtain ⟨m2, k2⟩ := ih T1 S1 h
            refine ⟨max m1 m2, ?_⟩
            unfold aloop
            rw [aexec_mono (acall_mono _ _ (Nat.le_max_left m1 m2)) (Nat.le_refl n) b T S _ k1]
            exact aloop_mono (fun T S r hr => aexec_mono (acall_mono _ _ (Nat.le_max_right m1 m2)) (Nat.le_refl n) b T S r hr) i i (Nat.le_refl i) T1 S1 r k2
          | _ => exact ⟨m1, by unfold aloop; rw [k1]; exact h⟩
    exact key n T S hs
  | .exit id, T, S, r, hs => ⟨0, hs⟩
  | .ret, T, S, r, hs => ⟨0, hs⟩
  | .rangeFunc .., _, _, _, hs => by simp [aexec] at hs
  | .scope _, _, _, _, hs => by simp [aexec] at hs
  | .goto _, _, _, _, hs => by simp [aexec] at hs
  | .refuse _, _, _, _, hs => by simp [aexec] at hs


theorem compact_dsteps [Cfg] {ops : Array Oper} : ∀ (l : List Oper) (T : TM) (S : AS) (m : AM) (r : TM × AS × AM × Option AV), adsteps P (callT P) ops l T S m = some r → ∃ k, adsteps P (acall P k) ops l T S m = some r
  | [], T, S, m, r, hs => ⟨0, hs⟩
  | o :: l, T, S, m, r, hs => by
    unfold adsteps at hs
    split at hs
    · rename_i args tys ho
      split at hs
      · rename_i hw
        split at hs
        · obtain ⟨k, hk⟩ := compact_dsteps l _ _ _ r hs
          exact ⟨k, by unfold adsteps; rw [ho]; simp only [hw, if_true]; exact hk⟩
        · rename_i hno
          obtain ⟨k, hk⟩ := compact_dsteps l _ _ _ r hs
          refine ⟨k, ?_⟩
          unfold adsteps
          rw [ho]
          simp only [hw, if_true]
          first
          | exact hk
          | (split
             · rename_i v; exact absurd rfl (hno v)
             · exact hk)
      · rename_i hw
        obtain ⟨k, hk⟩ := compact_dsteps l _ _ _ r hs
        exact ⟨k, by unfold adsteps; rw [ho]; simp only [hw]; exact hk⟩
    · rename_i hno
      cases h1 : astep P (callT P) ops o T S with
      | none => simp [h1] at hs
      | some y =>
        obtain ⟨f, T1, S1, x⟩ := y
        obtain ⟨m1, k1⟩ := compact_step h1
        rw [h1] at hs
        cases x with
        | some v =>
          refine ⟨m1, ?_⟩
          unfold adsteps
          split
          · rename_i args tys ho; exact absurd ho (hno args tys)
          · rw [k1]; exact hs
        | none =>
          simp only at hs
          obtain ⟨m2, k2⟩ := compact_dsteps l T1 S1 m r hs
          refine ⟨max m1 m2, ?_⟩
          unfold adsteps
          split
          · rename_i args tys ho; exact absurd ho (hno args tys)
          · rw [astep_mono (acall_mono _ _ (Nat.le_max_left m1 m2)) k1]
            exact adsteps_mono (acall_mono _ _ (Nat.le_max_right m1 m2)) l T1 S1 m r k2

theorem compact_dexec [Cfg] (n : Nat) : ∀ (c : Code) (T : TM) (S : AS) (m : AM) (r : AX × TM × AS × AM), adexec P (callT P) n c T S m = some r → ∃ k, adexec P (acall P k) n c T S m = some r := by
  have gen : ∀ (c : Code) (T : TM) (S : AS) (m : AM) (r : AX × TM × AS × AM), (aexec P (callT P) n c T S).map (fun r => (r.1, r.2.1, r.2.2, m)) = some r → ∃ k, (aexec P (acall P k) n c T S).map (fun r => (r.1, r.2.1, r.2.2, m)) = some r := by
    intro c T S m r hs
    obtain ⟨y, h1, h2⟩ := Option.map_eq_some_iff.1 hs
    obtain ⟨k, hk⟩ := compact_exec n c T S y h1
    exact ⟨k, by rw [hk, ← h2]; rfl⟩
  intro c
  induction c with
  | region id ops d =>
    intro T S m r hs
    cases d with
    | true => exact gen _ _ _ _ _ hs
    | false =>
      simp only [adexec] at hs ⊢
      cases h1 : adsteps P (callT P) ops ops.toList T S m with
      | none => simp [h1] at hs
      | some y =>
        obtain ⟨k, hk⟩ := compact_dsteps _ _ _ _ y h1
        exact ⟨k, by rw [hk]; rw [h1] at hs; exact hs⟩
  | seq a b iha ihb =>
    intro T S m r hs
    simp only [adexec] at hs ⊢
    cases h1 : adexec P (callT P) n a T S m with
    | none => simp [h1] at hs
    | some y =>
      obtain ⟨x, T1, S1, m1⟩ := y
      obtain ⟨k1, hk1⟩ := iha T S m _ h1
      rw [h1] at hs
      cases x with
      | normal =>
        obtain ⟨k2, hk2⟩ := ihb T1 S1 m1 r hs
        refine ⟨max k1 k2, ?_⟩
        rw [adexec_mono (acall_mono _ _ (Nat.le_max_left k1 k2)) (Nat.le_refl n) a T S m _ hk1]
        exact adexec_mono (acall_mono _ _ (Nat.le_max_right k1 k2)) (Nat.le_refl n) b T1 S1 m1 r hk2
      | _ => exact ⟨k1, by rw [hk1]; exact hs⟩
  | _ => intro T S m r hs; exact gen _ _ _ _ _ hs

theorem compact_leaves [Cfg] (n : Nat) : ∀ (ds : List (FuncId × List AV)) (m : AM) (S : AS) (r : AM × AS), aleaves P (callT P) n ds m S = some r → ∃ k, aleaves P (acall P k) n ds m S = some r
  | [], m, S, r, hs => ⟨0, hs⟩
  | (f, args) :: ds, m, S, r, hs => by
    unfold aleaves at hs
    cases hf : P.funcs[f]? with
    | none => simp [hf] at hs
    | some fn =>
      simp only [hf] at hs
      cases hb : fn.body with
      | none => simp [hb] at hs
      | some c =>
        simp only [hb, Option.ite_none_right_eq_some] at hs
        obtain ⟨hcond, hs⟩ := hs
        cases hx : adexec P (callT P) n c (abegin fn args) (S.enter f) m with
        | none => simp [hx] at hs
        | some y =>
          obtain ⟨x, T', S', m'⟩ := y
          obtain ⟨k1, hk1⟩ := compact_dexec n c _ _ _ _ hx
          simp only [hx, Option.ite_none_right_eq_some] at hs
          obtain ⟨hcond2, hs⟩ := hs
          have go : ∀ z, handUp f S S' (.tup []) = some z → (x = .normal ∨ x = .ret) → aleaves P (callT P) n ds m'.settle (S.after z.2) = some r → ∃ k, aleaves P (acall P k) n ((f, args) :: ds) m S = some r := by
            intro z hz hxx hl
            obtain ⟨k2, hk2⟩ := compact_leaves n ds _ _ r hl
            refine ⟨max k1 k2, ?_⟩
            unfold aleaves
            simp only [hf, hb]
            rw [if_pos hcond, adexec_mono (acall_mono _ _ (Nat.le_max_left k1 k2)) (Nat.le_refl n) c _ _ _ _ hk1]
            simp only
            rw [if_pos hcond2]
            rcases hxx with rfl | rfl
            · simp only [hz]
              exact aleaves_mono (acall_mono _ _ (Nat.le_max_right k1 k2)) (Nat.le_refl n) ds _ _ r hk2
            · simp only [hz]
              exact aleaves_mono (acall_mono _ _ (Nat.le_max_right k1 k2)) (Nat.le_refl n) ds _ _ r hk2
          cases x with
          | exit i => cases hs
          | pan v => cases hs
          | normal =>
            simp only at hs
            cases hh : handUp f S S' (.tup []) with
            | none => rw [hh] at hs; cases hs
            | some z => rw [hh] at hs; exact go z hh (.inl rfl) hs
          | ret =>
            simp only at hs
            cases hh : handUp f S S' (.tup []) with
            | none => rw [hh] at hs; cases hs
            | some z => rw [hh] at hs; exact go z hh (.inr rfl) hs

/-- A call is what its body's run is. -/
theorem callT_intro [Cfg] {f : FuncId} {fn : Func} {c : Code} (hg : Cfg.given f = none) (hf : P.funcs[f]? = some fn) (hb : fn.body = some c) (hn : (fn.name == "runtime.NumGoroutine") = false) {args : List AV} (ha : args.length ≤ fn.ntmps) {S : AS} {n : Nat} {r : AE × Upd}
    (h : finish P (callT P) n fn f S (aexec P (callT P) n c (abegin fn (aargs f S.fn args)) (S.enter f)) = some r) : callT P f args S = some r := by
  cases hx : aexec P (callT P) n c (abegin fn (aargs f S.fn args)) (S.enter f) with
  | none => rw [hx] at h; cases h
  | some y =>
    obtain ⟨x, T', S'⟩ := y
    obtain ⟨k1, hk1⟩ := compact_exec n c _ _ _ hx
    rw [hx] at h
    unfold finish at h
    simp only at h
    cases hm : x.mode with
    | none => rw [hm] at h; cases h
    | some m =>
      rw [hm] at h
      simp only at h
      cases hl : aleaves P (callT P) n S'.dfr m { S' with dfr := [] } with
      | none => rw [hl] at h; cases h
      | some z =>
        obtain ⟨k2, hk2⟩ := compact_leaves n _ _ _ z hl
        rw [hl] at h
        refine callT_some.2 ⟨max n (max k1 k2) + 1, ?_⟩
        rw [acall_succ _ hg hf hb hn ha]
        have e1 : aexec P (acall P (max n (max k1 k2))) (max n (max k1 k2)) c (abegin fn (aargs f S.fn args)) (S.enter f) = some (x, T', S') :=
          aexec_mono (acall_mono _ _ (by omega)) (by omega) c _ _ _ hk1
        have e2 : aleaves P (acall P (max n (max k1 k2))) (max n (max k1 k2)) S'.dfr m { S' with dfr := [] } = some z :=
          aleaves_mono (acall_mono _ _ (by omega)) (by omega) _ _ _ _ hk2
        rw [e1]
        unfold finish
        simp only [hm, e2]
        exact h
end
end Go.Proofs.YtjdccpmbaobpdaaGreatDoor

namespace Go.Proofs.YtjdccpmbaobpdaaGreatDoor
open Go.RowKit

/-! ### Strings as lists of bytes -/
def bs (l : List UInt8) : ByteArray := ⟨l.toArray⟩
def toL (s : ByteArray) : List UInt8 := s.data.toList
theorem toL_bs (l : List UInt8) : toL (bs l) = l := by simp [toL, bs]
theorem bs_toL (s : ByteArray) : bs (toL s) = s := by simp [toL, bs]
theorem toL_inj {s t : ByteArray} (h : toL s = toL t) : s = t := by rw [← bs_toL s, ← bs_toL t, h]
theorem toL_length (s : ByteArray) : (toL s).length = s.size := Array.length_toList
theorem bs_inj {a b : List UInt8} : bs a = bs b ↔ a = b := ⟨fun h => by rw [← toL_bs a, ← toL_bs b, h], fun h => by rw [h]⟩

/-! ### Operands -/
inductive X where
  | t (n : Nat)
  | c (a : AV)
abbrev BT := Nat → AV
def X.at (T : BT) : X → AV
  | .t n => T n
  | .c a => a
def BT.put (T : BT) (d : Option Nat) (v : AV) : BT := match d with
  | some d => fun t => if t = d then v else T t
  | none => T
def compX : Operand → X
  | .tmp t => .t t
  | .const v => .c (AV.ofV v)
  | .global g => .c (.lit (.pointer (some ⟨g, 0, none⟩)))
  | .func f => .c (.lit (.func (.func f) #[] #[]))
def aevF (T : BT) (x : Operand) : AV := (compX x).at T

/-! ### Operations -/
inductive BO where
  | gen (op : Op) (ty : TypeId)
  | mv (x : X)
  | pk (c a b : X)
  | al (e : TypeId) (cs : List AV)
  | bx (e : TypeId) (x : X)
  | bd (z : List AV) (pl : List (Nat × Nat × X))
  | ld1 (x : X)
  | ldn (n : Nat) (x : X)
  | st (n : Nat) (x v : X)
  | nc (x : X)
  | ib (op : BinOp) (x y : X)
  | sb (op : BinOp) (x y : X)
  | nt (x : X)
  | bb (ne : Bool) (x y : X)
  | ce (ne : Bool) (offs : List (Nat × Nat)) (x y : X)
  | cvi (k : IntKind) (x : X)
  | mi (t : TypeId) (x : X)
  | mf (f : FuncId) (xs : List X)
  | fa (off : Nat) (x : X)
  | fd1 (off : Nat) (x : X)
  | fdn (off n : Nat) (x : X)
  | ia (n : Nat) (x i : X)
  | iaa (len n : Nat) (x i : X)
  | xs (x i : X)
  | ls (x : X)
  | ll (x : X)
  | sls (x : X) (lo hi : Option X)
  | sll (n : Nat) (x : X) (lo hi mx : Option X)
  | ex (x : X) (i : Nat)
  | bsl (e : TypeId) (n : Nat) (xs : List X)
  | ap (e : TypeId) (n bytes : Nat) (s x : X)
  | cl (f : FuncId) (xs : List X)
  | cd (x : X) (xs : List X)

def intB : BinOp → IntKind → Int → IntKind → Int → Option Value
  | .add, k, a, k', b => if k = k' then some (.int k (k.wrap (a + b))) else none
  | .sub, k, a, k', b => if k = k' then some (.int k (k.wrap (a - b))) else none
  | .mul, k, a, k', b => if k = k' then some (.int k (k.wrap (a * b))) else none
  | .quo, k, a, k', b => if k = k' ∧ b ≠ 0 then some (.int k (k.wrap (a.tdiv b))) else none
  | .rem, k, a, k', b => if k = k' ∧ b ≠ 0 then some (.int k (a.tmod b)) else none
  | .and, k, a, k', b => if k = k' then some (.int k (k.wrap (BitVec.ofInt k.bits a &&& BitVec.ofInt k.bits b).toNat)) else none
  | .or, k, a, k', b => if k = k' then some (.int k (k.wrap (BitVec.ofInt k.bits a ||| BitVec.ofInt k.bits b).toNat)) else none
  | .andNot, k, a, k', b => if k = k' then some (.int k (k.wrap (BitVec.ofInt k.bits a &&& ~~~(BitVec.ofInt k.bits b)).toNat)) else none
  | .shl, k, a, _, b => if 0 ≤ b then some (.int k (k.wrap (a * 2 ^ (min b.toNat k.bits)))) else none
  | .shr, k, a, _, b => if 0 ≤ b then some (.int k (a.fdiv (2 ^ (min b.toNat k.bits)))) else none
  | .eql, k, a, k', b => if k = k' then some (.bool (decide (a = b))) else none
  | .neq, k, a, k', b => if k = k' then some (.bool (decide (a ≠ b))) else none
  | .lss, k, a, k', b => if k = k' then some (.bool (decide (a < b))) else none
  | .leq, k, a, k', b => if k = k' then some (.bool (decide (a ≤ b))) else none
  | .gtr, k, a, k', b => if k = k' then some (.bool (decide (b < a))) else none
  | .geq, k, a, k', b => if k = k' then some (.bool (decide (b ≤ a))) else none
  | _, _, _, _, _ => none
def strB : BinOp → ByteArray → ByteArray → Option Value
  | .add, a, b => if (toL a).length + (toL b).length ≤ 9223372036854775807 then some (.string (bs (toL a ++ toL b))) else none
  | .eql, a, b => some (.bool (decide (toL a = toL b)))
  | .neq, a, b => some (.bool (decide (toL a ≠ toL b)))
  | .lss, a, b => some (.bool (Op.bytesLess (toL a) (toL b)))
  | .geq, a, b => some (.bool !(Op.bytesLess (toL a) (toL b)))
  | _, _, _ => none
def ibV (op : BinOp) : AV → AV → Option AV
  | .lit (.int k a), .lit (.int k' b) => (intB op k a k' b).map .lit
  | _, _ => none
def sbV (op : BinOp) : AV → AV → Option AV
  | .lit (.string a), .lit (.string b) => (strB op a b).map .lit
  | _, _ => none
def ntV : AV → Option AV
  | .lit (.bool b) => some (.lit (.bool !b))
  | _ => none
def bbV (ne : Bool) : AV → AV → Option AV
  | .lit (.bool a), .lit (.bool b) => some (.lit (.bool (decide (a = b) != ne)))
  | _, _ => none
/-- Two cells of a struct. -/
def eqC : Nat → Value → Value → Option Bool
  | 0, .bool a, .bool b => some (decide (a = b))
  | 1, .int k a, .int k' b => if k = k' then some (decide (a = b)) else none
  | 2, .string a, .string b => some (decide (toL a = toL b))
  | _, _, _ => none
def eqL : List (Nat × Nat) → Array Value → Array Value → Option Bool
  | [], _, _ => some true
  | (o, k) :: r, xs, ys => match xs[o]?, ys[o]? with
    | some u, some v => match eqC k u v with
      | some b => if b then eqL r xs ys else some false
      | none => none
    | _, _ => none
def ceV (ne : Bool) (offs : List (Nat × Nat)) (a b : AV) : Option AV := match a.toV, b.toV with
  | some (.agg xs), some (.agg ys) => (eqL offs xs ys).map fun b => .lit (.bool (b != ne))
  | _, _ => none
def cviV (k : IntKind) : AV → Option AV
  | .lit (.int _ n) => some (.lit (.int k (k.wrap n)))
  | _ => none
def offV (off : Nat) : AV → Option AV
  | .ptr p g n o => some (.ptr p g n (o + off))
  | .cref cs => some (.cref (cs.drop off))
  | _ => none
def fd1V (off : Nat) : AV → Option AV
  | .agg cs => cs[off]?
  | _ => none
def fdnV (off n : Nat) : AV → Option AV
  | .agg cs => if off + n ≤ cs.length then some (.agg ((cs.drop off).take n)) else none
  | _ => none
def iaV (n : Nat) : AV → AV → Option AV
  | .list _ sz es, .lit (.int _ i) => if 0 ≤ i ∧ n = sz then (es[i.toNat]?).map .cref else none
  | .row _ p g m off len sz, .lit (.int _ i) => if 0 ≤ i ∧ n = sz ∧ i.toNat < len then some (.ptr p g m (off + i.toNat * sz)) else none
  | _, _ => none
def iaaV (len n : Nat) (a : AV) : AV → Option AV
  | .lit (.int _ i) => if 0 ≤ i ∧ i < len then offV (i.toNat * n) a else none
  | _ => none
def xsV : AV → AV → Option AV
  | .lit (.string s), .lit (.int _ i) => if 0 ≤ i ∧ i < (toL s).length then some (.lit (.int .u8 ((toL s).getD i.toNat 0).toNat)) else none
  | _, _ => none
def lsV : AV → Option AV
  | .lit (.string s) => some (.lit (.int .i64 (toL s).length))
  | _ => none
def llV : AV → Option AV
  | .list _ _ es => some (.lit (.int .i64 es.length))
  | .row _ _ _ _ _ len _ => some (.lit (.int .i64 len))
  | .lit (.slice _ 0 _) => some (.lit (.int .i64 0))
  | _ => none
def slsV (a : AV) (lo hi : Option AV) : Option AV := match a with
  | .lit (.string s) => match abound 0 lo, abound (toL s).length hi with
    | some l, some h => if l ≤ h ∧ h ≤ (toL s).length then some (.lit (.string (bs (((toL s).take h).drop l)))) else none
    | _, _ => none
  | _ => none
def sllV (n : Nat) (a : AV) (lo hi mx : Option AV) : Option AV := match a with
  | .list sp sz es =>
    match abound 0 lo, abound es.length hi, abound es.length mx with
    | some l, some h, some m =>
      if n = sz ∧ l ≤ h ∧ h ≤ m ∧ m ≤ es.length ∧ (mx.isSome → hi.isSome) then
        some (.list (if mx.isSome then (if m = h then .full else .no) else if l = 0 ∧ h = es.length then sp else .no) sz ((es.drop l).take (h - l))) else none
    | _, _, _ => none
  | .row sp p g k off len sz =>
    match abound 0 lo, abound len hi, abound len mx with
    | some l, some h, some m =>
      if n = sz ∧ l ≤ h ∧ h ≤ m ∧ m ≤ len ∧ (mx.isSome → hi.isSome) then
        some (if h = l ∧ mx.isSome ∧ m = h then .list .full sz [] else .row (sp.cut (if mx.isSome then 1 else 0) m h l) p g k (off + l * sz) (h - l) sz) else none
    | _, _, _ => none
  | _ => none
def exV (i : Nat) : AV → Option AV
  | .tup cs => cs[i]?
  | _ => none
def ld1V (S : AS) (a : AV) : Option AV := match aread S a with
  | some cs => cs.head?
  | none => none
def ldnV (n : Nat) (S : AS) (a : AV) : Option AV := match aread S a with
  | some cs => if n ≤ cs.length then some (.agg (cs.take n)) else none
  | none => none
def stV (n : Nat) (S : AS) (xs : List AV) : AV → Option (Loc × ASlot)
  | .ptr p g m off => if xs.length = n then S.write p g m off xs else none
  | _ => none
def fillB (T : BT) : List AV → List (Nat × Nat × X) → Option (List AV)
  | cs, [] => some cs
  | cs, (off, size, x) :: r => if (x.at T).cells.length = size ∧ off + size ≤ cs.length then fillB T (splice cs off (x.at T).cells) r else none

/-- Elements are laid behind a slice's. -/
def appB [Cfg] (S : AS) (d : Tmp) (e : TypeId) (n bytes : Nat) (s : AV) (news : List (List AV)) : Option AR :=
  if news.all (fun e => e.all AV.one) = true then
    if news.length = 0 then (match s with
      | .lit (.slice _ 0 0) => some (.val s)
      | .list .. => some (.val s)
      | .row .. => some (.val s)
      | _ => none) else
    match s with
    | .lit (.slice _ 0 0) => if news.length ≤ maxLen ∧ news.length * bytes ≤ 140737488355328 then some (anewRow S d e n news) else none
    | .list .full sz es => if sz = n ∧ es.length + news.length ≤ maxLen ∧ (es.length + news.length) * bytes ≤ 140737488355328 then
        some (anewRow S d e n (es ++ news)) else none
    | .list (.own p g) sz es => match S.get p with
      | some (.tok g' m sz' e') => if g' = g ∧ m = es.length ∧ sz' = n ∧ e' = e ∧ sz = n ∧ es.length + news.length ≤ maxLen ∧ (es.length + news.length) * bytes ≤ 140737488355328 then
          some (.chg (.list (.own p g) n (es ++ news)) p (.tok g (es.length + news.length) n e)) else none
      | _ => none
    | .row .room p g m off len sz => match S.get p with
      | some (.row g' n' sz' e' cs) => if g' = g ∧ n' = m ∧ sz' = n ∧ e' = e ∧ sz = n ∧ off = 0 ∧ cs.length = m * n then
          (if len + news.length ≤ m then some (.chg (.row .room p g m 0 (len + news.length) sz) p (.row g m sz e (splice cs (len * sz) news.flatten)))
           else if len = m ∧ m + news.length ≤ maxLen ∧ (m + news.length) * bytes ≤ 140737488355328 then
             some (.chg (.row .room p g (m + news.length) 0 (m + news.length) sz) p (.row g (m + news.length) sz e (cs ++ news.flatten)))
           else none) else none
      | _ => none
    | .row .full p g m off len sz => match aelems S n s with
      | some es => if sz = n ∧ es.length + news.length ≤ maxLen ∧ (es.length + news.length) * bytes ≤ 140737488355328 then some (anewRow S d e n (es ++ news)) else none
      | none => none
    | _ => none
  else none

def bodied (P : Program) (f : FuncId) : Bool := match P.funcs[f]? with
  | some fn => !fn.body.isNone
  | none => false

def bop [Cfg] (P : Program) (S : AS) (T : BT) (d : Option Tmp) : BO → Option AR
  | .gen op ty => aop P S (aevF T) ⟨d, op, ty, "", #[], none⟩
  | .mv x => some (.val (x.at T))
  | .pk c a b => match c.at T with
    | .lit (.bool t) => some (.val (if t then a.at T else b.at T))
    | _ => none
  | .al e cs => match d with
    | some d => some (.chg (.ptr (S.here d) (S.fresh (S.here d)) 0 0) (S.here d) (.obj (S.fresh (S.here d)) e cs))
    | none => none
  | .bx e x => match d with
    | some d => some (.chg (.ptr (S.here d) (S.fresh (S.here d)) 0 0) (S.here d) (.obj (S.fresh (S.here d)) e (x.at T).cells))
    | none => none
  | .bd z pl => (fillB T z pl).map fun cs => .val (.agg cs)
  | .ld1 x => (ld1V S (x.at T)).map .val
  | .ldn n x => (ldnV n S (x.at T)).map .val
  | .st n x v => (stV n S (v.at T).cells (x.at T)).map fun y => .chg (.lit undef) y.1 y.2
  | .nc x => match anil (x.at T) with
    | some v => some (.val v)
    | none => pureOp P (fun _ => x.at T) ⟨d, .nilCheck (.tmp 0), 0, "", #[], none⟩
  | .ib op x y => (ibV op (x.at T) (y.at T)).map .val
  | .sb op x y => (sbV op (x.at T) (y.at T)).map .val
  | .nt x => (ntV (x.at T)).map .val
  | .bb ne x y => (bbV ne (x.at T) (y.at T)).map .val
  | .ce ne offs x y => (ceV ne offs (x.at T) (y.at T)).map .val
  | .cvi k x => (cviV k (x.at T)).map .val
  | .mi t x => some (.val (.iface t (x.at T)))
  | .mf f xs => some (.val (.fn f (xs.map (X.at T))))
  | .fa off x => (offV off (x.at T)).map .val
  | .fd1 off x => (fd1V off (x.at T)).map .val
  | .fdn off n x => (fdnV off n (x.at T)).map .val
  | .ia n x i => (iaV n (x.at T) (i.at T)).map .val
  | .iaa len n x i => (iaaV len n (x.at T) (i.at T)).map .val
  | .xs x i => (xsV (x.at T) (i.at T)).map .val
  | .ls x => (lsV (x.at T)).map .val
  | .ll x => (llV (x.at T)).map .val
  | .sls x lo hi => (slsV (x.at T) (lo.map (X.at T)) (hi.map (X.at T))).map .val
  | .sll n x lo hi mx => (sllV n (x.at T) (lo.map (X.at T)) (hi.map (X.at T)) (mx.map (X.at T))).map .val
  | .ex x i => (exV i (x.at T)).map .val
  | .bsl e n xs => match d with
    | some d => if xs.all (fun x => (x.at T).cells.length == n) = true ∧ xs.all (fun x => (x.at T).cells.all AV.one) = true then
        (if Cfg.live S.fn d then some (.chg (.row .room (S.here d) (S.fresh (S.here d)) xs.length 0 xs.length n) (S.here d) (.row (S.fresh (S.here d)) xs.length n e (xs.flatMap fun x => (x.at T).cells)))
         else some (.val (.list .full n (xs.map fun x => (x.at T).cells)))) else none
    | none => none
  | .ap e n bytes s x => match d with
    | some d => match aelems S n (x.at T) with
      | some news => appB S d e n bytes (s.at T) news
      | none => none
    | none => none
  | .cl f xs => some (.call f (xs.map (X.at T)))
  | .cd x xs => match acallee (x.at T) with
    | some (f, cs) => if bodied P f then some (.call f (xs.map (X.at T) ++ cs)) else none
    | none => none

/-! ### How they are made -/
def isIntD : Option TypeDesc → Bool
  | some (.int _) => true
  | _ => false
def isStrD : Option TypeDesc → Bool
  | some .string => true
  | _ => false
def isBoolD : Option TypeDesc → Bool
  | some .bool => true
  | _ => false
def neOp : BinOp → Option Bool
  | .eql => some false
  | .neq => some true
  | _ => none
def leafK (P : Program) (t : TypeId) : Option Nat := match P.underlying t with
  | some .bool => some 0
  | some (.int _) => some 1
  | some .string => some 2
  | _ => none
def plainOffs (P : Program) : List Field → Option (List (Nat × Nat))
  | [] => some []
  | f :: r => if f.name = "_" then none else match leafK P f.type, plainOffs P r with
    | some k, some l => some ((f.offset, k) :: l)
    | _, _ => none
def plainT (P : Program) (t : TypeId) : Option (List (Nat × Nat)) := match P.underlying t with
  | some (.struct fields) => if P.stoodInHeld t = false ∧ P.eqGuardType P.depth t = false then plainOffs P fields.toList else none
  | _ => none
def compParts (pl : List (Nat × Nat)) : List (Nat × Operand) → Option (List (Nat × Nat × X))
  | [] => some []
  | (i, x) :: r => match pl[i]?, compParts pl r with
    | some (off, size), some l => some ((off, size, compX x) :: l)
    | _, _ => none
def compO (P : Program) (o : Oper) : BO := match o.op with
  | .move x | .assign x => .mv (compX x)
  | .pick c a b => .pk (compX c) (compX a) (compX b)
  | .alloc e => match (P.info? e).bind (·.zero) with
    | some z => .al e (z.cells.toList.map .lit)
    | none => .gen o.op o.type
  | .box e x => .bx e (compX x)
  | .build t parts => match P.underlying t, (P.info? t).bind (·.zero) with
    | some (.struct fields), some z => match aplaces P fields with
      | some pl => match compParts pl parts.toList with
        | some l => .bd (z.cells.toList.map .lit) l
        | none => .gen o.op o.type
      | none => .gen o.op o.type
    | some (.array _ e), some z => match P.info? e with
      | some i => .bd (z.cells.toList.map .lit) (parts.toList.map fun (j, x) => (j * i.size, i.size, compX x))
      | none => .gen o.op o.type
    | _, _ => .gen o.op o.type
  | .buildSlice t len parts => match P.underlying t with
    | some (.slice e) => match P.info? e with
      | some i => match i.zero with
        | some z => if z.cells.size = i.size ∧ 0 < i.size ∧ len * i.size ≤ 2 ^ 24 ∧ parts.toList.map Prod.fst = List.range len then .bsl e i.size (parts.toList.map fun p => compX p.2) else .gen o.op o.type
        | none => .gen o.op o.type
      | none => .gen o.op o.type
    | _ => .gen o.op o.type
  | .load t x => match P.underlying t, P.info? t with
    | some d, some i => if isAggD d then .ldn i.size (compX x) else .ld1 (compX x)
    | _, _ => .gen o.op o.type
  | .store t x v => match P.info? t with
    | some i => .st i.size (compX x) (compX v)
    | none => .gen o.op o.type
  | .nilCheck x => .nc (compX x)
  | .binOp op t x y _ => if isIntD (P.underlying t) then .ib op (compX x) (compX y) else if isStrD (P.underlying t) then .sb op (compX x) (compX y) else match neOp op with
    | some ne => if isBoolD (P.underlying t) then .bb ne (compX x) (compX y) else match plainT P t with
      | some offs => .ce ne offs (compX x) (compX y)
      | none => .gen o.op o.type
    | none => .gen o.op o.type
  | .unOp .not _ x => .nt (compX x)
  | .convert s d x => match P.underlying s, P.underlying d with
    | some (.int _), some (.int k) => .cvi k (compX x)
    | _, _ => .gen o.op o.type
  | .makeInterface t x => match P.underlying t with
    | some d => if isIfaceD d then .gen o.op o.type else .mi t (compX x)
    | none => .gen o.op o.type
  | .makeFunc fn first cap => match fn with
    | .func f => if first.size = 0 then .mf f (cap.toList.map compX) else .gen o.op o.type
    | _ => .gen o.op o.type
  | .fieldAddr s x f => match P.underlying s with
    | some (.struct fields) => match fields[f]? with
      | some fd => if ((P.info? fd.type).map (·.size)).getD 0 = 0 then .gen o.op o.type else .fa fd.offset (compX x)
      | none => .gen o.op o.type
    | _ => .gen o.op o.type
  | .field s x f => match P.underlying s with
    | some (.struct fields) => match fields[f]? with
      | some fd => match P.underlying fd.type, P.info? fd.type with
        | some d, some i => if isAggD d then .fdn fd.offset i.size (compX x) else .fd1 fd.offset (compX x)
        | _, _ => .gen o.op o.type
      | none => .gen o.op o.type
    | _ => .gen o.op o.type
  | .indexAddr t x i => match P.underlying t with
    | some (.slice e) => match P.info? e with
      | some inf => .ia inf.size (compX x) (compX i)
      | none => .gen o.op o.type
    | some (.array len e) => match P.info? e with
      | some inf => .iaa len inf.size (compX x) (compX i)
      | none => .gen o.op o.type
    | _ => .gen o.op o.type
  | .index t x i => match P.underlying t with
    | some .string => .xs (compX x) (compX i)
    | _ => .gen o.op o.type
  | .slice t x lo hi mx => match P.underlying t with
    | some (.slice e) => match P.info? e with
      | some inf => .sll inf.size (compX x) (lo.map compX) (hi.map compX) (mx.map compX)
      | none => .gen o.op o.type
    | some .string => match mx with
      | none => .sls (compX x) (lo.map compX) (hi.map compX)
      | some _ => .gen o.op o.type
    | _ => .gen o.op o.type
  | .extract x i => .ex (compX x) i
  | .call c => match c.callee with
    | .builtin .append => match c.args.toList, c.argTypes.toList, o.dst with
      | [s, x], [t, u], some _ => match P.underlying t, P.underlying u with
        | some (.slice e), some (.slice _) => match P.info? e with
          | some i => match i.zero with
            | some z => if z.cells.size = i.size ∧ 0 < i.size then .ap e i.size i.bytes (compX s) (compX x) else .gen o.op o.type
            | none => .gen o.op o.type
          | none => .gen o.op o.type
        | some (.slice e), some .string => match P.info? e with
          | some i => match i.zero with
            | some z => if z.cells.size = i.size ∧ 0 < i.size then .ap e i.size i.bytes (compX s) (compX x) else .gen o.op o.type
            | none => .gen o.op o.type
          | none => .gen o.op o.type
        | _, _ => .gen o.op o.type
      | _, _, _ => .gen o.op o.type
    | .builtin .len => match c.args.toList, c.argTypes.toList with
      | [x], [t] => match P.underlying t with
        | some .string => .ls (compX x)
        | some (.slice _) => .ll (compX x)
        | _ => .gen o.op o.type
      | _, _ => .gen o.op o.type
    | .value f => match compX f with
      | .c (.lit (.func (.func g) first cap)) => if first.size = 0 ∧ cap.size = 0 ∧ bodied P g = true then .cl g (c.args.toList.map compX) else .gen o.op o.type
      | .t n => .cd (.t n) (c.args.toList.map compX)
      | _ => .gen o.op o.type
    | _ => .gen o.op o.type
  | _ => .gen o.op o.type
end Go.Proofs.YtjdccpmbaobpdaaGreatDoor

namespace Go.Proofs.YtjdccpmbaobpdaaGreatDoor
open Go.RowKit

section
variable {P : Program}

theorem evalP_bind {α β : Type} (q : Sem α) (f : α → Sem β) : evalPure P (q >>= f) = (evalPure P q).bind fun a => evalPure P (f a) := by
  show evalPure P (Sem.bind q f) = _
  induction q with
  | pure a => rfl
  | program k ih => exact ih P
  | mark m k ih => exact ih
  | _ => rfl
theorem evalP_pure {α : Type} (a : α) : evalPure P (pure a : Sem α) = some a := rfl
theorem evalP_map {α β : Type} (q : Sem α) (f : α → β) : evalPure P (f <$> q) = (evalPure P q).map f := by
  show evalPure P (Sem.bind q fun a => Sem.pure (f a)) = _
  induction q with
  | pure a => rfl
  | program k ih => exact ih P
  | mark m k ih => exact ih
  | _ => rfl
theorem evalP_und {t : TypeId} {d : TypeDesc} (h : P.underlying t = some d) : evalPure P (underlying t) = some d := by
  show evalPure P (match P.underlying t with | some d => pure d | none => stuck _) = _
  rw [h]
  rfl
theorem evalP_value {q : Sem Value} {v : Value} (h : evalPure P q = some v) : evalPure P (do pure (Next.value (← q)) : Sem Next) = some (.value v) := by
  rw [evalP_bind, h]
  rfl

theorem pureOp_of {ρ : Operand → AV} {o : Oper} {v : Value} (hs : notSelect o.op = true) (hall : o.op.operands.all (fun x => (ρ x).toV.isSome) = true) (he : evalPure P (execOp (fun x => ((ρ x).toV).getD undef) o) = some (.value v)) : pureOp P ρ o = some (.val (AV.ofV v)) := by
  unfold pureOp
  rw [hs, hall, he]
  rfl

variable {t : TypeId}

theorem intB_ok {op : BinOp} {k k' : IntKind} {a b : Int} {v : Value} (h : intB op k a k' b = some v) : binOp op t (.int k a) (.int k' b) = pure v := by
  cases op <;> simp only [intB] at h
  case shl =>
    split at h
    · rename_i hb
      cases h
      have h' : ¬ b < 0 := by omega
      simp [binOp, Op.shift, h']
    · cases h
  case shr =>
    split at h
    · rename_i hb
      cases h
      have h' : ¬ b < 0 := by omega
      simp [binOp, Op.shift, h']
    · cases h
  case quo =>
    split at h
    · rename_i hb
      obtain ⟨rfl, hb⟩ := hb
      cases h
      simp [binOp, Op.intDiv, hb]
    · cases h
  case rem =>
    split at h
    · rename_i hb
      obtain ⟨rfl, hb⟩ := hb
      cases h
      simp [binOp, Op.intDiv, hb]
    · cases h
  case eql =>
    split at h
    · rename_i hb; subst hb; cases h
      have : (a == b) = decide (a = b) := by by_cases e : a = b <;> simp [e]
      simp [binOp, Op.intCmp, this]
    · cases h
  case neq =>
    split at h
    · rename_i hb; subst hb; cases h
      have : (a != b) = decide (a ≠ b) := by by_cases e : a = b <;> simp [e]
      simp [binOp, Op.intCmp, this]
    · cases h
  all_goals first
    | cases h; done
    | (split at h
       · rename_i hb; subst hb; cases h
         first
         | (simp [binOp, Op.intArith]; done)
         | (simp [binOp, Op.intCmp]; done)
         | (simp [binOp, Op.intBits]; done)
       · cases h)

theorem toList_eq (s : ByteArray) : s.toList = toL s := Go.ByteArray.toList_eq s

theorem strB_ok {op : BinOp} {a b : ByteArray} {v : Value} (h : strB op a b = some v) : binOp op t (.string a) (.string b) = pure v := by
  cases op <;> simp only [strB] at h <;> first | cases h; done | skip
  case add =>
    split at h
    · rename_i hb
      cases h
      rw [toL_length, toL_length] at hb
      have h' : ¬ (((a.size + b.size : Nat) : Int) > IntKind.i64.max) := by
        have : IntKind.i64.max = 9223372036854775807 := by decide
        omega
      have e : bs (toL a ++ toL b) = a ++ b := by
        apply toL_inj
        rw [toL_bs]
        simp [toL]
      rw [e]
      simp only [binOp, Op.stringOp]
      rw [if_neg h']
    · cases h
  case eql =>
    cases h
    show pure (Value.bool (a.toList == b.toList)) = _
    rw [toList_eq, toList_eq]
    have : (toL a == toL b) = decide (toL a = toL b) := by by_cases e : toL a = toL b <;> simp [e]
    rw [this]
  case neq =>
    cases h
    show pure (Value.bool (!(a.toList == b.toList))) = _
    rw [toList_eq, toList_eq]
    have : (!(toL a == toL b)) = decide (toL a ≠ toL b) := by by_cases e : toL a = toL b <;> simp [e]
    rw [this]
  case lss =>
    cases h
    show pure (Value.bool (Op.bytesLess a.toList b.toList)) = _
    rw [toList_eq, toList_eq]
  case geq =>
    cases h
    show pure (Value.bool (!(Op.bytesLess a.toList b.toList))) = _
    rw [toList_eq, toList_eq]

theorem ite_bool_none {α : Type} {c : Prop} [Decidable c] {x : Option α} {y : α} (h : (if c then x else none) = some y) : c ∧ x = some y := by
  split at h
  · exact ⟨by assumption, h⟩
  · cases h

theorem nilFits_str (d : TypeDesc) (a : AV) (s : ByteArray) : nilFits d a (.string s) = false := by cases d <;> cases a <;> rfl
theorem nilFits_int (d : TypeDesc) (a : AV) (k : IntKind) (n : Int) : nilFits d a (.int k n) = false := by cases d <;> cases a <;> rfl
theorem acmp_int (op : BinOp) (a : AV) (k : IntKind) (n : Int) (ha : ∃ u, a = .lit u) : acmp P op t a (.lit (.int k n)) = none := by
  obtain ⟨u, rfl⟩ := ha
  have : aequal P t (.lit u) (.lit (.int k n)) = none := by
    unfold aequal
    split
    · rename_i d v e1 e2
      cases e2
      rw [nilFits_int]; rfl
    · rename_i e1 e2; cases e2
    · rfl
  cases op <;> first | rfl | simp only [acmp, this, Option.map_none]
theorem acmp_str (op : BinOp) (a : AV) (s : ByteArray) (ha : ∃ u, a = .lit u) : acmp P op t a (.lit (.string s)) = none := by
  obtain ⟨u, rfl⟩ := ha
  have : aequal P t (.lit u) (.lit (.string s)) = none := by
    unfold aequal
    split
    · rename_i d v e1 e2
      cases e2
      rw [nilFits_str]; rfl
    · rename_i e1 e2; cases e2
    · rfl
  cases op <;> first | rfl | simp only [acmp, this, Option.map_none]

theorem aop_bin {S : AS} [Cfg] {ρ : Operand → AV} {d : Option Tmp} {op : BinOp} {x y : Operand} {yt ty : TypeId} {pos : String} {aft : Array Edge} {g : Option (Nat × Bool)} {a b v : Value} (hx : ρ x = .lit a) (hy : ρ y = .lit b) (hc : acmp P op t (.lit a) (.lit b) = none) (hg : eqGuard op t x y a b = pure ())
    (h : binOp op t a b = pure v) : aop P S ρ ⟨d, .binOp op t x y yt, ty, pos, aft, g⟩ = some (.val (AV.ofV v)) := by
  simp only [aop, hx, hy, hc, Option.map_none, orPure]
  refine pureOp_of rfl (by simp [Op.operands, hx, hy, AV.toV]) ?_
  show evalPure P (do pure (.value (← (do eqGuard op t x y (((ρ x).toV).getD undef) (((ρ y).toV).getD undef); binOp op t (((ρ x).toV).getD undef) (((ρ y).toV).getD undef)))) : Sem Next) = _
  refine evalP_value ?_
  rw [hx, hy]
  simp only [AV.toV, Option.getD_some]
  rw [hg, h]
  rfl

theorem aop_binE {S : AS} [Cfg] {ρ : Operand → AV} {d : Option Tmp} {op : BinOp} {x y : Operand} {yt ty : TypeId} {pos : String} {aft : Array Edge} {g : Option (Nat × Bool)} {a b v : Value} (hx : (ρ x).toV = some a) (hy : (ρ y).toV = some b)
    (hc : acmp P op t (ρ x) (ρ y) = none) (hg : evalPure P (eqGuard op t x y a b) = some ()) (h : evalPure P (binOp op t a b) = some v) : aop P S ρ ⟨d, .binOp op t x y yt, ty, pos, aft, g⟩ = some (.val (AV.ofV v)) := by
  simp only [aop, hc, Option.map_none, orPure]
  refine pureOp_of rfl (by simp [Op.operands, hx, hy]) ?_
  show evalPure P (do pure (.value (← (do eqGuard op t x y (((ρ x).toV).getD undef) (((ρ y).toV).getD undef); binOp op t (((ρ x).toV).getD undef) (((ρ y).toV).getD undef)))) : Sem Next) = _
  refine evalP_value ?_
  rw [hx, hy, evalP_bind]
  simp only [Option.getD_some, hg, Option.bind_some, h]

theorem neOp_inv {op : BinOp} {ne : Bool} (h : neOp op = some ne) : op = .eql ∧ ne = false ∨ op = .neq ∧ ne = true := by
  cases op <;> simp [neOp] at h <;> simp [h]
theorem acmp_none {op : BinOp} {a b : AV} (h : aequal P t a b = none) : acmp P op t a b = none := by
  cases op <;> simp [acmp, h]
theorem evalP_binEq {op : BinOp} {ne : Bool} {a b : Value} {z : Bool} (hn : neOp op = some ne) (hk : ∀ k n, a ≠ .int k n) (hf : ∀ k n, a ≠ .float k n) (hc : ∀ k n m, a ≠ .complex k n m) (hs : ∀ l, a ≠ .string l) (h : evalPure P (Op.equal t a b) = some z) :
    evalPure P (binOp op t a b) = some (.bool (z != ne)) := by
  rcases neOp_inv hn with ⟨rfl, rfl⟩ | ⟨rfl, rfl⟩
  · have : binOp .eql t a b = (do pure (.bool (← Op.equal t a b)) : Sem Value) := by
      unfold binOp
      cases a <;> simp_all
    rw [this, evalP_bind, h]
    simp [evalP_pure]
  · have : binOp .neq t a b = (do pure (.bool (!(← Op.equal t a b))) : Sem Value) := by
      unfold binOp
      cases a <;> simp_all
    rw [this, evalP_bind, h]
    simp [evalP_pure]

theorem bb_aop {S : AS} [Cfg] {ρ : Operand → AV} {d : Option Tmp} {op : BinOp} {ne : Bool} {x y : Operand} {yt ty : TypeId} {pos : String} {aft : Array Edge} {g : Option (Nat × Bool)} {v : AV} (hn : neOp op = some ne) (hb : isBoolD (P.underlying t) = true)
    (h : bbV ne (ρ x) (ρ y) = some v) : aop P S ρ ⟨d, .binOp op t x y yt, ty, pos, aft, g⟩ = some (.val v) := by
  unfold bbV at h
  split at h
  case h_2 => cases h
  rename_i a b hx hy
  cases h
  have hu : P.underlying t = some .bool := by
    unfold isBoolD at hb
    split at hb
    · assumption
    · cases hb
  refine aop_binE (v := .bool (decide (a = b) != ne)) (a := .bool a) (b := .bool b) (by rw [hx]; rfl) (by rw [hy]; rfl) (acmp_none ?_) ?_ ?_
  · rw [hx, hy]
    unfold aequal
    rw [hu]
    rfl
  · unfold eqGuard
    split <;> rfl
  · refine evalP_binEq hn (by simp) (by simp) (by simp) (by simp) ?_
    show evalPure P (Op.equalIn (9999 + 1) t (.bool a) (.bool b)) = _
    unfold Op.equalIn
    rw [evalP_bind, evalP_und hu]
    simp [evalP_pure]
    cases a <;> cases b <;> rfl

theorem leaf_agg {k : Nat} (h : leafK P t = some k) : evalPure P (isAgg t) = some false := by
  unfold leafK at h
  unfold isAgg
  rw [evalP_bind]
  split at h
  · rename_i hu; rw [evalP_und hu]; rfl
  · rename_i hu; rw [evalP_und hu]; rfl
  · rename_i hu; rw [evalP_und hu]; rfl
  · cases h
theorem leaf_part {k : Nat} (h : leafK P t = some k) {xs : Array Value} {off : Nat} {v : Value} (hv : xs[off]? = some v) : evalPure P (part t xs off) = some v := by
  unfold part
  rw [evalP_bind, leaf_agg h]
  simp only [Option.bind_some, Bool.false_eq_true, if_false, hv]
  rfl
theorem leaf_equal {k : Nat} (h : leafK P t = some k) {u v : Value} {b : Bool} (hc : eqC k u v = some b) (d : Nat) : evalPure P (Op.equalIn (d + 1) t u v) = some b := by
  unfold leafK at h
  unfold Op.equalIn
  rw [evalP_bind]
  split at h
  · rename_i hu
    cases h
    unfold eqC at hc
    split at hc <;> first | (cases hc; done) | skip
    all_goals first | (exfalso; omega) | skip
    rw [evalP_und hu]
    cases hc
    rename_i a b
    cases a <;> cases b <;> rfl
  · rename_i hu
    cases h
    unfold eqC at hc
    split at hc <;> first | (cases hc; done) | skip
    all_goals first | (exfalso; omega) | skip
    rw [evalP_und hu]
    split at hc
    · rename_i hk
      subst hk
      cases hc
      simp [evalP_pure, BEq.beq]
    · cases hc
  · rename_i hu
    cases h
    unfold eqC at hc
    split at hc <;> first | (cases hc; done) | skip
    all_goals first | (exfalso; omega) | skip
    rw [evalP_und hu]
    cases hc
    rename_i a b _
    have : (a == b) = decide (toL a = toL b) := by
      show (a.data == b.data) = decide (a.data.toList = b.data.toList)
      rw [Bool.eq_iff_iff]
      simp
    simp only [Option.bind_some, evalP_pure, this]
  · cases h

abbrev eqBody (P : Program) (d : Nat) (xs ys : Array Value) (f : Field) : Sem (ForInStep (Option Bool × Unit)) :=
  if f.name ≠ "_" then do
    let a ← part f.type xs f.offset
    let b ← part f.type ys f.offset
    let z ← Op.equalIn (d + 1) f.type a b
    if (!z) = true then pure (ForInStep.done (some false, ())) else pure (ForInStep.yield (none, ()))
  else pure (ForInStep.yield (none, ()))
theorem eq_loop (d : Nat) {xs ys : Array Value} : ∀ {l : List Field} {offs : List (Nat × Nat)} {b : Bool}, plainOffs P l = some offs → eqL offs xs ys = some b →
    evalPure P (forIn l ((none, ()) : Option Bool × Unit) fun f _ => eqBody P d xs ys f) = some (if b then none else some false, ())
  | [], offs, b, hp, h => by
    cases hp
    cases h
    rfl
  | f :: l, offs, b, hp, h => by
    unfold plainOffs at hp
    split at hp
    · cases hp
    rename_i hname
    split at hp
    case h_2 => cases hp
    rename_i k l' hk hl
    cases hp
    unfold eqL at h
    split at h
    case h_2 => cases h
    rename_i u v hu hv
    split at h
    case h_2 => cases h
    rename_i z hz
    rw [List.forIn_cons, evalP_bind]
    have : evalPure P (eqBody P d xs ys f) = some (if z then ForInStep.yield (none, ()) else ForInStep.done (some false, ())) := by
      unfold eqBody
      rw [if_pos hname, evalP_bind, leaf_part hk hu, Option.bind_some, evalP_bind, leaf_part hk hv, Option.bind_some, evalP_bind, leaf_equal hk hz, Option.bind_some]
      cases z <;> rfl
    rw [this, Option.bind_some]
    cases z with
    | true => exact eq_loop d hl h
    | false =>
      cases h
      rfl
theorem struct_equal {fields : Array Field} (hu : P.underlying t = some (.struct fields)) (hs : P.stoodInHeld t = false) {offs : List (Nat × Nat)} (hp : plainOffs P fields.toList = some offs) {xs ys : Array Value} {b : Bool} (h : eqL offs xs ys = some b) (d : Nat) :
    evalPure P (Op.equalIn (d + 2) t (.agg xs) (.agg ys)) = some b := by
  unfold Op.equalIn
  rw [evalP_bind, evalP_und hu]
  simp only [Option.bind_some]
  rw [evalP_bind]
  have e : evalPure P program = some P := rfl
  rw [e, Option.bind_some, hs]
  simp only [Bool.false_eq_true, if_false]
  rw [evalP_bind, ← Array.forIn_toList, eq_loop d hp h, Option.bind_some]
  cases b <;> rfl
theorem ce_aop {S : AS} [Cfg] {ρ : Operand → AV} {d : Option Tmp} {op : BinOp} {ne : Bool} {x y : Operand} {yt ty : TypeId} {pos : String} {aft : Array Edge} {g : Option (Nat × Bool)} {v : AV} {offs : List (Nat × Nat)} (hn : neOp op = some ne) (hb : plainT P t = some offs)
    (h : ceV ne offs (ρ x) (ρ y) = some v) : aop P S ρ ⟨d, .binOp op t x y yt, ty, pos, aft, g⟩ = some (.val v) := by
  unfold ceV at h
  split at h
  case h_2 => cases h
  rename_i xs ys hx hy
  obtain ⟨b, hb', rfl⟩ := Option.map_eq_some_iff.1 h
  unfold plainT at hb
  split at hb
  case h_2 => cases hb
  rename_i fields hu
  split at hb
  case isFalse => cases hb
  rename_i hc
  refine aop_binE (v := .bool (b != ne)) hx hy (acmp_none ?_) ?_ ?_
  · unfold aequal
    rw [hu]
    split
    · rename_i d' v' e1 e2
      cases e1
      rfl
    · rename_i e1 _; cases e1
    · rfl
  · rcases neOp_inv hn with ⟨rfl, _⟩ | ⟨rfl, _⟩
    · show evalPure P (if (!P.eqGuardType P.depth t) = true then (pure () : Sem Unit) else _) = some ()
      rw [hc.2]
      rfl
    · show evalPure P (if (!P.eqGuardType P.depth t) = true then (pure () : Sem Unit) else _) = some ()
      rw [hc.2]
      rfl
  · refine evalP_binEq hn (by simp) (by simp) (by simp) (by simp) ?_
    exact struct_equal hu hc.1 hb hb' 9998

theorem aop_free {S : AS} [Cfg] {ρ : Operand → AV} {d : Option Tmp} {op : Op} {ty : TypeId} {pos : String} {aft : Array Edge} {g : Option (Nat × Bool)} : aop P S ρ ⟨d, op, ty, "", #[], none⟩ = aop P S ρ ⟨d, op, ty, pos, aft, g⟩ := by
  have hx : ∀ ρ, execOp ρ ⟨d, op, ty, "", #[], none⟩ = execOp ρ ⟨d, op, ty, pos, aft, g⟩ := fun ρ => rfl
  unfold aop orPure pureOp
  simp only [hx]

theorem aev_compX {T : BT} (x : Operand) : aevF T x = (compX x).at T := rfl

theorem fill_ok {T : BT} {pl : List (Nat × Nat)} : ∀ {l : List (Nat × Operand)} {l' : List (Nat × Nat × X)} {cs r : List AV}, compParts pl l = some l' → fillB T cs l' = some r → afill (pl[·]?) cs (l.map fun (i, x) => (i, aevF T x)) = some r
  | [], l', cs, r, h, h2 => by
    simp only [compParts, Option.some.injEq] at h
    subst h
    simpa [fillB, afill] using h2
  | (i, x) :: l, l', cs, r, h, h2 => by
    unfold compParts at h
    split at h
    · rename_i off size l1 h3 h4
      cases h
      unfold fillB at h2
      obtain ⟨hc, h2⟩ := ite_bool_none h2
      simp only [List.map_cons, afill, h3, aev_compX]
      rw [if_pos hc]
      exact fill_ok h4 h2
    · cases h
theorem fill_arr {T : BT} {n : Nat} : ∀ {l : List (Nat × Operand)} {cs r : List AV}, fillB T cs (l.map fun (j, x) => (j * n, n, compX x)) = some r → afill (fun j => some (j * n, n)) cs (l.map fun (i, x) => (i, aevF T x)) = some r
  | [], cs, r, h2 => by simpa [fillB, afill] using h2
  | (i, x) :: l, cs, r, h2 => by
    simp only [List.map_cons] at h2
    unfold fillB at h2
    obtain ⟨hc, h2⟩ := ite_bool_none h2
    simp only [List.map_cons, afill, aev_compX]
    rw [if_pos hc]
    exact fill_arr h2

theorem map_val_inv {x : Option AV} {r : AR} (h : x.map AR.val = some r) : ∃ v, x = some v ∧ r = .val v := by
  obtain ⟨v, h1, h2⟩ := Option.map_eq_some_iff.1 h
  exact ⟨v, h1, h2.symm⟩

theorem byte_at (s : ByteArray) (i : Int) (h1 : i < (toL s).length) (h0 : 0 ≤ i) : s[i.toNat]? = some ((toL s).getD i.toNat 0) := by
  rw [toL_length] at h1
  have hlt : i.toNat < s.size := by omega
  have h2 : i.toNat < s.data.size := hlt
  rw [getElem?_pos s i.toNat hlt]
  have e : s[i.toNat] = s.data[i.toNat] := rfl
  rw [e]
  simp only [toL, List.getD_eq_getElem?_getD, Array.getElem?_toList, Array.getElem?_eq_getElem h2, Option.getD_some]
end
end Go.Proofs.YtjdccpmbaobpdaaGreatDoor

namespace Go.Proofs.YtjdccpmbaobpdaaGreatDoor
open Go.RowKit

section
variable {P : Program}

theorem ibV_inv {op : BinOp} {a b v : AV} (h : ibV op a b = some v) : ∃ k x k' y u, a = .lit (.int k x) ∧ b = .lit (.int k' y) ∧ intB op k x k' y = some u ∧ v = .lit u := by
  unfold ibV at h
  split at h
  · obtain ⟨u, h1, h2⟩ := Option.map_eq_some_iff.1 h
    exact ⟨_, _, _, _, u, rfl, rfl, h1, h2.symm⟩
  · cases h
theorem sbV_inv {op : BinOp} {a b v : AV} (h : sbV op a b = some v) : ∃ x y u, a = .lit (.string x) ∧ b = .lit (.string y) ∧ strB op x y = some u ∧ v = .lit u := by
  unfold sbV at h
  split at h
  · obtain ⟨u, h1, h2⟩ := Option.map_eq_some_iff.1 h
    exact ⟨_, _, u, rfl, rfl, h1, h2.symm⟩
  · cases h
theorem intB_lit {op : BinOp} {k k' : IntKind} {a b : Int} {v : Value} (h : intB op k a k' b = some v) : AV.ofV v = .lit v := by
  cases op <;> simp only [intB] at h <;> first | (cases h; done) | (obtain ⟨_, h⟩ := ite_bool_none h; cases h; rfl)
theorem strB_lit {op : BinOp} {a b : ByteArray} {v : Value} (h : strB op a b = some v) : AV.ofV v = .lit v := by
  cases op <;> simp only [strB] at h <;> first | (cases h; done) | (cases h; rfl) | (obtain ⟨_, h⟩ := ite_bool_none h; cases h; rfl)
theorem eqGuard_int {op : BinOp} {t : TypeId} {x y : Operand} {k k' : IntKind} {a b : Int} : eqGuard op t x y (.int k a) (.int k' b) = pure () := by
  cases op <;> rfl
theorem eqGuard_str {op : BinOp} {t : TypeId} {x y : Operand} {a b : ByteArray} : eqGuard op t x y (.string a) (.string b) = pure () := by
  cases op <;> rfl

theorem slice_str {t : TypeId} (hu : P.underlying t = some .string) (s : ByteArray) (lo hi : Option Value) (l h : Nat) (hl : (lo = none ∧ l = 0) ∨ ∃ k i, lo = some (.int k i) ∧ 0 ≤ i ∧ l = i.toNat) (hh : (hi = none ∧ h = s.size) ∨ ∃ k i, hi = some (.int k i) ∧ 0 ≤ i ∧ h = i.toNat)
    (h1 : l ≤ h) (h2 : h ≤ s.size) : evalPure P (Instr.sliceAt t (.string s) lo hi none) = some (.string (s.extract l h)) := by
  unfold Instr.sliceAt
  simp only [evalP_bind, evalP_und hu, Option.bind_some]
  unfold Instr.slice
  simp only [evalP_bind, evalP_und hu, Option.bind_some, Instr.sliceBounds]
  have b1 : ∀ (k : IntKind) (i : Int) (n : Nat), 0 ≤ i → i.toNat ≤ n → ∀ e, evalPure P (Instr.sliceBound (.int k i) n e) = some i.toNat := fun k i n hi hn e => by
    unfold Instr.sliceBound
    simp only [evalP_bind, asIntOf, evalP_pure, Option.bind_some]
    rw [if_pos ⟨by omega, by omega⟩]
    rfl
  rcases hl with ⟨rfl, rfl⟩ | ⟨k, i, rfl, hi0, rfl⟩ <;> rcases hh with ⟨rfl, rfl⟩ | ⟨k', j, rfl, hj0, rfl⟩
  · simp [evalP_bind, evalP_pure, evalP_map]
  · simp [evalP_bind, evalP_pure, evalP_map, b1 k' j s.size hj0 h2]
  · simp [evalP_bind, evalP_pure, evalP_map, b1 k i s.size hi0 h1]
  · simp [evalP_bind, evalP_pure, evalP_map, b1 k' j s.size hj0 h2, b1 k i j.toNat hi0 h1]

theorem extract_toL (s : ByteArray) (l h : Nat) : s.extract l h = bs (((toL s).take h).drop l) := by
  apply toL_inj
  rw [toL_bs]
  simp [toL, ByteArray.data_extract, Array.toList_extract, List.extract_eq_take_drop, List.drop_take]

theorem abound_inv {n r : Nat} {x : Option AV} (h : abound n x = some r) : (x = none ∧ r = n) ∨ ∃ k i, x = some (.lit (.int k i)) ∧ 0 ≤ i ∧ r = i.toNat := by
  unfold abound at h
  split at h
  · cases h; exact .inl ⟨rfl, rfl⟩
  · obtain ⟨h1, h2⟩ := ite_bool_none h
    cases h2
    exact .inr ⟨_, _, rfl, h1, rfl⟩
  · cases h

theorem bodied_inv {f : FuncId} (h : bodied P f = true) : ∃ fn, P.funcs[f]? = some fn ∧ fn.body.isNone = false := by
  unfold bodied at h
  split at h
  · rename_i fn hf; exact ⟨fn, hf, by simpa using h⟩
  · cases h

theorem appB_ok [Cfg] {S : AS} {d : Tmp} {t e : TypeId} {i : TypeInfo} {z : Value} {s x : AV} {news : List (List AV)} {r : AR} (hu : P.underlying t = some (.slice e)) (hi : P.info? e = some i) (hz : i.zero = some z) (hsz : z.cells.size = i.size ∧ 0 < i.size)
    (hn : aelems S i.size x = some news) (h : appB S d e i.size i.bytes s news = some r) : aappend P S (some d) t s x = some r := by
  unfold appB at h
  obtain ⟨h1, h⟩ := ite_bool_none h
  unfold aappend
  simp only [hu, hi, hz, hn]
  rw [if_pos ⟨hsz.1, hsz.2, h1⟩]
  exact h

set_option maxHeartbeats 4000000 in
/-- Each does what its own does. -/
theorem bop_ok [Cfg] {S : AS} {T : BT} (o : Oper) {r : AR} (h : bop P S T o.dst (compO P o) = some r) : aop P S (aevF T) o = some r := by
  obtain ⟨d, op, ty, pos, aft, g⟩ := o
  have gen : bop P S T d (.gen op ty) = some r → aop P S (aevF T) ⟨d, op, ty, pos, aft, g⟩ = some r := fun h => by rw [← aop_free]; exact h
  cases op
  case move x => exact h
  case assign x => exact h
  case pick c a b => exact h
  case alloc e =>
    simp only [compO] at h
    split at h
    · rename_i z hz
      simp only [aop, hz]
      cases d with
      | none => cases h
      | some d => exact h
    · exact gen h
  case box e x => exact h
  case build t parts =>
    simp only [compO] at h
    split at h
    · rename_i fields z hu hz
      split at h
      · rename_i pl hpl
        split at h
        · rename_i l hl
          obtain ⟨cs, h1, h2⟩ := Option.map_eq_some_iff.1 h
          subst h2
          simp only [aop]
          have : abuild P t (parts.toList.map fun (i, x) => (i, aevF T x)) = some (.agg cs) := by
            unfold abuild
            rw [hu, hz]
            simp only [hpl, fill_ok hl h1]
            rfl
          rw [this]; rfl
        · exact gen h
      · exact gen h
    · rename_i e z hu hz
      split at h
      · rename_i i hi
        obtain ⟨cs, h1, h2⟩ := Option.map_eq_some_iff.1 h
        subst h2
        simp only [aop]
        have : abuild P t (parts.toList.map fun (i, x) => (i, aevF T x)) = some (.agg cs) := by
          unfold abuild
          rw [hu, hz]
          simp only [hi, fill_arr h1]
          rfl
        rw [this]; rfl
      · exact gen h
    · exact gen h
  case buildSlice t len parts =>
    simp only [compO] at h
    split at h
    · rename_i e hu
      split at h
      · rename_i i hi
        split at h
        · rename_i z hz
          split at h
          · rename_i hc
            simp only [bop] at h
            cases d with
            | none => cases h
            | some d =>
              obtain ⟨⟨h1, h2⟩, h⟩ := ite_bool_none h
              have hlen : parts.toList.length = len := by have := congrArg List.length hc.2.2.2; simpa using this
              have hfst : (parts.toList.map fun (i, x) => (i, aevF T x)).map Prod.fst = List.range len := by rw [← hc.2.2.2, List.map_map]; rfl
              simp only [List.length_map, hlen] at h
              simp only [aop, abuildSlice, hu, hi, hz]
              rw [if_pos ⟨hc.1, hc.2.1, hc.2.2.1, hfst, by simpa [List.all_map, aev_compX] using h1, by simpa [List.all_map, aev_compX] using h2⟩]
              rw [← h]
              split
              · simp only [List.flatMap_map, List.map_map]; rfl
              · simp only [List.map_map]; rfl
          · exact gen h
        · exact gen h
      · exact gen h
    · exact gen h
  case load t x =>
    simp only [compO] at h
    split at h
    · rename_i dd i hd hi
      split at h
      · rename_i hagg
        obtain ⟨v, hv, rfl⟩ := map_val_inv h
        unfold ldnV at hv
        split at hv
        · rename_i cs hcs
          simp only [aop, aload, aev_compX, hcs, hd, hi, hagg, if_true, hv]
          rfl
        · cases hv
      · rename_i hagg
        obtain ⟨v, hv, rfl⟩ := map_val_inv h
        unfold ld1V at hv
        split at hv
        · rename_i cs hcs
          simp only [aop, aload, aev_compX, hcs, hd, hi, hagg, hv]
          rfl
        · cases hv
    · exact gen h
  case store t x v =>
    simp only [compO] at h
    split at h
    · rename_i i hi
      obtain ⟨y, hy, rfl⟩ := Option.map_eq_some_iff.1 h
      unfold stV at hy
      split at hy
      · rename_i p g m off hx
        obtain ⟨h1, h2⟩ := ite_bool_none hy
        have hx' : aevF T x = .ptr p g m off := hx
        have : astore P S t (aevF T x) (aevF T v) = some y := by
          unfold astore
          rw [hx', hi]
          simp only
          have h1' : (aevF T v).cells.length = i.size := h1
          rw [if_pos h1']
          exact h2
        simp only [aop, this]
        rfl
      · cases hy
    · exact gen h
  case nilCheck x =>
    simp only [compO, bop] at h
    simp only [aop, aev_compX, orPure]
    split at h
    · rename_i v hv
      rw [hv]
      exact h
    · rename_i hv
      rw [hv]
      simp only [Option.map_none]
      unfold pureOp at h ⊢
      simpa [notSelect, Op.operands, aev_compX, execOp] using h
  case binOp op t x y yt =>
    simp only [compO] at h
    split at h
    · obtain ⟨v, hv, rfl⟩ := map_val_inv h
      obtain ⟨k, a, k', b, u, hx, hy, hu, rfl⟩ := ibV_inv hv
      rw [aop_bin (a := .int k a) (b := .int k' b) (v := u) hx hy (acmp_int op _ k' b ⟨_, rfl⟩) eqGuard_int (intB_ok hu), intB_lit hu]
    · split at h
      · obtain ⟨v, hv, rfl⟩ := map_val_inv h
        obtain ⟨a, b, u, hx, hy, hu, rfl⟩ := sbV_inv hv
        rw [aop_bin (a := .string a) (b := .string b) (v := u) hx hy (acmp_str op _ b ⟨_, rfl⟩) eqGuard_str (strB_ok hu), strB_lit hu]
      · split at h
        · rename_i ne hne
          split at h
          · rename_i hb
            obtain ⟨v, hv, rfl⟩ := map_val_inv h
            exact bb_aop hne hb hv
          · split at h
            · rename_i offs hp
              obtain ⟨v, hv, rfl⟩ := map_val_inv h
              exact ce_aop hne hp hv
            · exact gen h
        · exact gen h
  case unOp op t x =>
    cases op
    case not =>
      obtain ⟨v, hv, rfl⟩ := map_val_inv h
      unfold ntV at hv
      split at hv
      · rename_i b hx
        cases hv
        simp only [aop]
        have hx' : aevF T x = .lit (.bool b) := hx
        refine (pureOp_of (v := .bool !b) rfl (by simp [Op.operands, hx', AV.toV]) ?_)
        simp [execOp, hx', AV.toV, Op.unary]
        try rfl
      · cases hv
    all_goals exact gen h
  case convert s dt x =>
    simp only [compO] at h
    split at h
    · rename_i k0 k hs hd
      obtain ⟨v, hv, rfl⟩ := map_val_inv h
      unfold cviV at hv
      split at hv
      · rename_i k1 n hx
        cases hv
        have hx' : aevF T x = .lit (.int k1 n) := hx
        have hac : aconvert P S s dt (.lit (.int k1 n)) = none := by unfold aconvert; rw [hs]
        have hap : aconvPtr P S s dt (.lit (.int k1 n)) = none := by unfold aconvPtr; rw [hs]
        simp only [aop, hx', hac, hap, orA, orPure]
        refine (pureOp_of (v := .int k (k.wrap n)) rfl (by simp [Op.operands, hx', AV.toV]) ?_)
        have : evalPure P (convert s dt (.int k1 n)) = some (.int k (k.wrap n)) := by
          unfold convert
          simp only [evalP_bind, evalP_und hs, evalP_und hd, Option.bind_some]
          rfl
        show evalPure P (do pure (Next.value (← convert s dt (((aevF T x).toV).getD undef))) : Sem Next) = _
        rw [hx']
        exact evalP_value this
      · cases hv
    · exact gen h
  case makeInterface t x =>
    simp only [compO] at h
    split at h
    · rename_i dd hd
      split at h
      · exact gen h
      · rename_i hi
        simp only [aop, hd, hi]
        exact h
    · exact gen h
  case makeFunc fn first cap =>
    simp only [compO] at h
    split at h
    · rename_i f
      split at h
      · rename_i hz
        simp only [aop, hz, if_true]
        simp only [bop, List.map_map] at h
        exact h
      · exact gen h
    · exact gen h
  case fieldAddr s x f =>
    simp only [compO] at h
    split at h
    · rename_i fields hu
      split at h
      · rename_i fd hf
        split at h
        · exact gen h
        · rename_i hz
          obtain ⟨v, hv, rfl⟩ := map_val_inv h
          simp only [aop, afieldAddr, hu, hf, hz, if_false]
          have : aevF T x = (compX x).at T := rfl
          rw [this]
          unfold offV at hv
          split at hv <;> first | (rename_i hx; rw [hx]; cases hv; rfl) | cases hv
      · exact gen h
    · exact gen h
  case field s x f =>
    simp only [compO] at h
    split at h
    · rename_i fields hu
      split at h
      · rename_i fd hf
        split at h
        · rename_i dd i hd hi
          split at h
          · rename_i hagg
            obtain ⟨v, hv, rfl⟩ := map_val_inv h
            unfold fdnV at hv
            split at hv
            · rename_i cs hx
              have hx' : aevF T x = .agg cs := hx
              simp only [aop, afield, hu, hx', hf, apart', hd, hi, hagg, if_true, hv]
              rfl
            · cases hv
          · rename_i hagg
            obtain ⟨v, hv, rfl⟩ := map_val_inv h
            unfold fd1V at hv
            split at hv
            · rename_i cs hx
              have hx' : aevF T x = .agg cs := hx
              simp only [aop, afield, hu, hx', hf, apart', hd, hi, hagg, hv]
              rfl
            · cases hv
        · exact gen h
      · exact gen h
    · exact gen h
  case indexAddr t x i =>
    simp only [compO] at h
    split at h
    · rename_i e hu
      split at h
      · rename_i inf hi
        obtain ⟨v, hv, rfl⟩ := map_val_inv h
        unfold iaV at hv
        split at hv
        · rename_i sp sz es k j hx hj
          obtain ⟨hc, hv⟩ := ite_bool_none hv
          have hx' : aevF T x = .list sp sz es := hx
          have hj' : aevF T i = .lit (.int k j) := hj
          simp only [aop, aindexAddr, hu, hx', hj', hi, Option.map_some]
          rw [if_pos ⟨hc.1, by rw [hc.2]⟩, hv]
          rfl
        · rename_i sp p g m off len sz k j hx hj
          obtain ⟨hc, hv⟩ := ite_bool_none hv
          cases hv
          have hx' : aevF T x = .row sp p g m off len sz := hx
          have hj' : aevF T i = .lit (.int k j) := hj
          simp only [aop, aindexAddr, hu, hx', hj', hi, Option.map_some]
          rw [if_pos ⟨hc.1, by rw [hc.2.1], hc.2.2⟩]
          rfl
        · cases hv
      · exact gen h
    · rename_i len e hu
      split at h
      · rename_i inf hi
        obtain ⟨v, hv, rfl⟩ := map_val_inv h
        unfold iaaV at hv
        split at hv
        · rename_i k j hj
          obtain ⟨hc, hv⟩ := ite_bool_none hv
          have hj' : aevF T i = .lit (.int k j) := hj
          have hx' : aevF T x = (compX x).at T := rfl
          unfold offV at hv
          split at hv
          · rename_i p g n o hx
            cases hv
            simp only [aop, aindexAddr, hu, hx', hx, hj', hi]
            rw [if_pos hc]
            rfl
          · rename_i cs hx
            cases hv
            simp only [aop, aindexAddr, hu, hx', hx, hj', hi]
            rw [if_pos hc]
            rfl
          · cases hv
        · cases hv
      · exact gen h
    · exact gen h
  case index t x i =>
    simp only [compO] at h
    split at h
    · rename_i hu
      obtain ⟨v, hv, rfl⟩ := map_val_inv h
      unfold xsV at hv
      split at hv
      · rename_i s k j hx hj
        obtain ⟨hc, hv⟩ := ite_bool_none hv
        cases hv
        have hx' : aevF T x = .lit (.string s) := hx
        have hj' : aevF T i = .lit (.int k j) := hj
        have hai : aindex P t (.lit (.string s)) (.lit (.int k j)) = none := by unfold aindex; rw [hu]
        simp only [aop, hx', hj', hai, orPure]
        refine (pureOp_of (v := .int .u8 ((toL s).getD j.toNat 0).toNat) rfl (by simp [Op.operands, hx', hj', AV.toV]) ?_)
        have : evalPure P (Instr.index t (.string s) (.int k j)) = some (.int .u8 ((toL s).getD j.toNat 0).toNat) := by
          unfold Instr.index
          simp only [evalP_bind, asIntOf, evalP_pure, Option.bind_some, evalP_und hu, hc.1, if_true, byte_at s j hc.2 hc.1]
        show evalPure P (do pure (Next.value (← Instr.index t (((aevF T x).toV).getD undef) (((aevF T i).toV).getD undef))) : Sem Next) = _
        rw [hx', hj']
        exact evalP_value this
      · cases hv
    · exact gen h
  case slice t x lo hi mx =>
    simp only [compO] at h
    split at h
    · rename_i e hu
      split at h
      · rename_i inf hinf
        obtain ⟨v, hv, rfl⟩ := map_val_inv h
        have key : aslice P t ((compX x).at T) ((lo.map compX).map (X.at T)) ((hi.map compX).map (X.at T)) ((mx.map compX).map (X.at T)) = some v := by
          unfold sllV at hv
          unfold aslice
          rw [hu]
          split at hv
          · rename_i sp sz es hx
            rw [hx]
            simp only
            split at hv
            · rename_i l h' m e1 e2 e3
              obtain ⟨hc, hv⟩ := ite_bool_none hv
              simp only [e1, e2, e3, hinf, Option.map_some]
              rw [if_pos ⟨by rw [hc.1], hc.2⟩]
              exact hv
            · cases hv
          · rename_i sp p g k off len sz hx
            rw [hx]
            simp only
            split at hv
            · rename_i l h' m e1 e2 e3
              obtain ⟨hc, hv⟩ := ite_bool_none hv
              simp only [e1, e2, e3, hinf, Option.map_some]
              rw [if_pos ⟨by rw [hc.1], hc.2⟩]
              exact hv
            · cases hv
          · cases hv
        simp only [Option.map_map] at key
        simp only [aop]
        have e : aslice P t (aevF T x) (lo.map (aevF T)) (hi.map (aevF T)) (mx.map (aevF T)) = some v := key
        rw [e]
        rfl
      · exact gen h
    · rename_i hu
      split at h
      · obtain ⟨v, hv, rfl⟩ := map_val_inv h
        unfold slsV at hv
        split at hv
        · rename_i s hx
          split at hv
          · rename_i l h' e1 e2
            obtain ⟨hc, hv⟩ := ite_bool_none hv
            cases hv
            have hx' : aevF T x = .lit (.string s) := hx
            simp only [Option.map_map] at e1 e2
            have e1 : abound 0 (lo.map (aevF T)) = some l := e1
            have e2 : abound (toL s).length (hi.map (aevF T)) = some h' := e2
            have hno : aslice P t (.lit (.string s)) (lo.map (aevF T)) (hi.map (aevF T)) none = none := by unfold aslice; rw [hu]
            simp only [aop, hx', Option.map_none, hno, orPure]
            have hall : (Op.slice t x lo hi none).operands.all (fun x => ((aevF T x).toV).isSome) = true := by
              rcases abound_inv e1 with ⟨q1, _⟩ | ⟨k, i, q1, _⟩ <;> rcases abound_inv e2 with ⟨q2, _⟩ | ⟨k', j, q2, _⟩ <;> cases lo <;> cases hi <;> simp_all [Op.operands, AV.toV]
            refine (pureOp_of (o := ⟨_, .slice t x lo hi none, _, _, _, _⟩) (v := .string (bs (((toL s).take h').drop l))) rfl hall ?_)
            have : evalPure P (Instr.sliceAt t (.string s) (lo.map fun x => ((aevF T x).toV).getD undef) (hi.map fun x => ((aevF T x).toV).getD undef) none) = some (.string (s.extract l h')) := by
              rw [toL_length] at e2 hc
              refine slice_str hu s _ _ l h' ?_ ?_ hc.1 hc.2
              · rcases abound_inv e1 with ⟨q1, rfl⟩ | ⟨k, i, q1, q2, rfl⟩
                · cases lo with
                  | none => exact .inl ⟨rfl, rfl⟩
                  | some y => cases q1
                · cases lo with
                  | none => cases q1
                  | some y =>
                    simp only [Option.map_some, Option.some.injEq] at q1
                    exact .inr ⟨k, i, by simp [q1, AV.toV], q2, rfl⟩
              · rcases abound_inv e2 with ⟨q1, rfl⟩ | ⟨k, i, q1, q2, rfl⟩
                · cases hi with
                  | none => exact .inl ⟨rfl, rfl⟩
                  | some y => cases q1
                · cases hi with
                  | none => cases q1
                  | some y =>
                    simp only [Option.map_some, Option.some.injEq] at q1
                    exact .inr ⟨k, i, by simp [q1, AV.toV], q2, rfl⟩
            rw [extract_toL] at this
            show evalPure P (do pure (Next.value (← Instr.sliceAt t (((aevF T x).toV).getD undef) (lo.map fun x => ((aevF T x).toV).getD undef) (hi.map fun x => ((aevF T x).toV).getD undef) none)) : Sem Next) = _
            rw [hx']
            exact evalP_value this
          · cases hv
        · cases hv
      · exact gen h
    · exact gen h
  case extract x i =>
    obtain ⟨v, hv, rfl⟩ := map_val_inv h
    unfold exV at hv
    split at hv
    · rename_i cs hx
      have hx' : aevF T x = .tup cs := hx
      simp only [aop, hx', hv]
      rfl
    · cases hv
  case call c =>
    simp only [compO] at h
    split at h
    · rename_i hcal
      split at h
      · rename_i s x t u d0 hargs htys
        split at h
        · rename_i e e' hu hu'
          split at h
          · rename_i i hi
            split at h
            · rename_i z hz
              split at h
              · rename_i hc
                simp only [bop] at h
                split at h
                · rename_i news hn
                  have hn' : aelems S i.size (aevF T x) = some news := hn
                  simp only [aop, hcal, hargs, htys, List.map_cons, List.map_nil, aappendC, hu']
                  exact appB_ok hu hi hz hc hn' h
                · cases h
              · exact gen h
            · exact gen h
          · exact gen h
        · rename_i e hu hu'
          split at h
          · rename_i i hi
            split at h
            · rename_i z hz
              split at h
              · rename_i hc
                simp only [bop] at h
                split at h
                · rename_i news hn
                  have hn' : aelems S i.size (aevF T x) = some news := hn
                  simp only [aop, hcal, hargs, htys, List.map_cons, List.map_nil, aappendC, hu']
                  exact appB_ok hu hi hz hc hn' h
                · cases h
              · exact gen h
            · exact gen h
          · exact gen h
        · exact gen h
      · exact gen h
    · rename_i hcal
      split at h
      · rename_i x t hargs htys
        split at h
        · rename_i hu
          obtain ⟨v, hv, rfl⟩ := map_val_inv h
          unfold lsV at hv
          split at hv
          · rename_i s hx
            cases hv
            have hx' : aevF T x = .lit (.string s) := hx
            have hno : alen P S t (.lit (.string s)) = none := by unfold alen; rw [hu]
            simp only [aop, hcal, hargs, htys, List.map_cons, List.map_nil, alenC, hx', hno, orPure, Option.map_none]
            have e1 : c.args = #[x] := by apply Array.ext'; simpa using hargs
            have e2 : c.argTypes = #[t] := by apply Array.ext'; simpa using htys
            refine (pureOp_of (v := .int .i64 (toL s).length) rfl (by simp [Op.operands, Call.operands, hcal, e1, hx', AV.toV]) ?_)
            have : evalPure P (Builtin.len_ #[t] ty #[.string s]) = some (.int .i64 (toL s).length) := by
              unfold Builtin.len_
              simp [evalP_bind, evalP_pure, evalP_map, evalP_und hu, toL_length]
              try rfl
            simp only [execOp, resolve, hcal, e1, e2, invoke, builtin]
            have := evalP_value this
            simpa [hx', AV.toV, evalP_bind, evalP_pure] using this
          · cases hv
        · rename_i e hu
          obtain ⟨v, hv, rfl⟩ := map_val_inv h
          unfold llV at hv
          split at hv
          · rename_i sp sz es hx
            cases hv
            have hx' : aevF T x = .list sp sz es := hx
            simp only [aop, hcal, hargs, htys, List.map_cons, List.map_nil, alenC, hx', alen, hu]
            rfl
          · rename_i sp p g n off len sz hx
            cases hv
            have hx' : aevF T x = .row sp p g n off len sz := hx
            simp only [aop, hcal, hargs, htys, List.map_cons, List.map_nil, alenC, hx', alen, hu]
            rfl
          · rename_i a0 c0 hx
            cases hv
            have hx' : aevF T x = .lit (.slice a0 0 c0) := hx
            have hno : alen P S t (.lit (.slice a0 0 c0)) = none := by unfold alen; rw [hu]
            simp only [aop, hcal, hargs, htys, List.map_cons, List.map_nil, alenC, hx', hno, orPure, Option.map_none]
            have e1 : c.args = #[x] := by apply Array.ext'; simpa using hargs
            have e2 : c.argTypes = #[t] := by apply Array.ext'; simpa using htys
            refine (pureOp_of (v := .int .i64 0) rfl (by simp [Op.operands, Call.operands, hcal, e1, hx', AV.toV]) ?_)
            have : evalPure P (Builtin.len_ #[t] ty #[.slice a0 0 c0]) = some (.int .i64 0) := by
              unfold Builtin.len_
              simp [evalP_bind, evalP_pure, evalP_map, evalP_und hu]
              try rfl
            simp only [execOp, resolve, hcal, e1, e2, invoke, builtin]
            have := evalP_value this
            simpa [hx', AV.toV, evalP_bind, evalP_pure] using this
          · cases hv
        · exact gen h
      · exact gen h
    · rename_i f hcal
      split at h
      · rename_i fl g first cap hf
        split at h
        · rename_i hc
          simp only [bop, Option.some.injEq, List.map_map] at h
          subst h
          have hf' : aevF T f = .lit (.func (.func g) first cap) := by unfold aevF; rw [hf]; rfl
          obtain ⟨fn, hfn, hbody⟩ := bodied_inv hc.2.2
          simp only [aop, hcal, hf', acallee, hc.1, hc.2.1, and_self, if_true, hfn, hbody, List.append_nil]
          rfl
        · exact gen h
      · rename_i n hf
        simp only [bop, List.map_map] at h
        split at h
        · rename_i g cs hg
          obtain ⟨hb, h⟩ := ite_bool_none h
          cases h
          have hf' : aevF T f = (X.t n).at T := by unfold aevF; rw [hf]
          obtain ⟨fn, hfn, hbody⟩ := bodied_inv hb
          simp only [aop, hcal, hf', hg, hfn, hbody]
          rfl
        · cases h
      · exact gen h
    · exact gen h
  all_goals exact gen h
end
end Go.Proofs.YtjdccpmbaobpdaaGreatDoor

namespace Go.Proofs.YtjdccpmbaobpdaaGreatDoor
open Go.RowKit

inductive BF where
  | none
  | here
  | at (x : X)
  | app (s x : X)
  | all
def BF.foot (S : AS) (T : BT) (d : Option Nat) : BF → FK
  | .none => .none
  | .here => hereSlot S d
  | .at x => ptrSlot (x.at T)
  | .app s x => appSlot S d [s.at T, x.at T]
  | .all => .all
structure BI where
  d : Option Nat
  g : Option (Nat × Bool)
  f : BF
  o : BO
def BO.w : BO → Bool
  | .gen op ty => mayW ⟨none, op, ty, "", #[], none⟩
  | .al .. | .bx .. | .st .. | .bsl .. | .ap .. | .cl .. | .cd .. => true
  | _ => false
def bwanted (T : BT) : Option (Nat × Bool) → Bool
  | none => true
  | some (t, w) => match T t with
    | .lit (.bool b) => b == w
    | _ => false

abbrev Acc := Option (List Foot)
def Acc.push (acc : Acc) (f : Foot) : Acc := acc.map (· ++ [f])
abbrev BO4 := Option (Acc × BT × AS × Option AV)
def bsteps [Cfg] (P : Program) (Δ : Oracle) : Acc → List BI → BT → AS → BO4
  | acc, [], T, S => some (acc, T, S, none)
  | acc, i :: r, T, S => if bwanted T i.g then
      match bop P S T i.d i.o with
      | some (.val v) => bsteps P Δ (acc.push ⟨i.f.foot S T i.d, .none⟩) r (T.put i.d v) S
      | some (.chg v p s) => if i.o.w then bsteps P Δ (acc.push ⟨i.f.foot S T i.d, .slot p⟩) r (T.put i.d v) (S.set p s) else none
      | some (.call f args) => if i.o.w then (if !Cfg.up f S.fn && AV.closedL args then (match Δ f args .bare with
            | some (.ret v, none) => bsteps P Δ (acc.push ⟨i.f.foot S T i.d, .none⟩) r (T.put i.d v) S
            | some (.pan v, none) => some (acc, T, S, some v)
            | _ => none)
          else (match Δ f args S with
            | some (.ret v, u) => bsteps P Δ (acc.push ⟨.all, u.kind⟩) r (T.put i.d v) (S.after u)
            | some (.pan v, u) => some (acc, T, S.after u, some v)
            | none => none)) else none
      | some (.pan v) => some (acc, T, S, some v)
      | some (.dfr f args) => if i.o.w then bsteps P Δ (acc.push ⟨.all, .all⟩) r (T.put i.d (.lit undef)) { S with dfr := (f, args) :: S.dfr } else none
      | none => none
    else bsteps P Δ (acc.push ⟨.none, .none⟩) r (T.put i.d (.lit undef)) S

def indepAt (fs : List Foot) (p : Nat × Nat) : Bool := match fs[p.1]?, fs[p.2]? with
  | some a, some b => a.indep b
  | _, _ => false

inductive BC where
  | skip
  | ops (l : List BI)
  | draw (l : List BI) (L : List (Nat × Nat))
  | seq (a b : BC)
  | cond (c : X) (a b : BC)
  | block (id : Nat) (b : BC)
  | loop (b : BC)
  | exit (id : Nat)
  | ret
  | bad
abbrev XB := Option (AX × BT × AS)
def bend : BO4 → XB
  | some (_, T, S, none) => some (.normal, T, S)
  | some (_, T, S, some v) => some (.pan v, T, S)
  | none => none
def bdraw (L : List (Nat × Nat)) : BO4 → XB
  | some (acc, T, S, none) => match L, acc with
    | [], _ => some (.normal, T, S)
    | L, some fs => if L.all (indepAt fs) then some (.normal, T, S) else none
    | _, none => none
  | _ => none
def acc0 : List (Nat × Nat) → Acc
  | [] => none
  | _ => some []
def bloop (f : BT → AS → XB) : Nat → BT → AS → XB
  | 0, _, _ => none
  | n + 1, T, S => match f T S with
    | some (.normal, T', S') => bloop f n T' S'
    | r => r
def bexec [Cfg] (P : Program) (Δ : Oracle) (n : Nat) : BC → BT → AS → XB
  | .skip, T, S => some (.normal, T, S)
  | .ops l, T, S => bend (bsteps P Δ none l T S)
  | .draw l L, T, S => bdraw L (bsteps P Δ (acc0 L) l T S)
  | .seq a b, T, S => match bexec P Δ n a T S with
    | some (.normal, T', S') => bexec P Δ n b T' S'
    | r => r
  | .cond c a b, T, S => match c.at T with
    | .lit (.bool t) => if t then bexec P Δ n a T S else bexec P Δ n b T S
    | _ => none
  | .block id b, T, S => match bexec P Δ n b T S with
    | some (.exit j, T', S') => if j = id then some (.normal, T', S') else some (.exit j, T', S')
    | r => r
  | .loop b, T, S => bloop (bexec P Δ n b) n T S
  | .exit id, T, S => some (.exit id, T, S)
  | .ret, T, S => some (.ret, T, S)
  | .bad, _, _ => none

/-! ### How it is made -/
def compFt (o : Oper) : BF := match o.op with
  | .alloc _ | .box _ _ | .makeMap _ _ | .makeSlice _ _ _ | .buildSlice _ _ _ | .range _ _ => .here
  | .load _ x => .at (compX x)
  | .store _ x _ => .at (compX x)
  | .lookup _ m _ _ => .at (compX m)
  | .mapUpdate _ m _ _ | .insert _ m _ _ | .mapEntry _ m _ | .entryStore _ m _ _ => .at (compX m)
  | .next it _ => .at (compX it)
  | .convert _ _ x => .at (compX x)
  | .call c => match c.callee with
    | .builtin .append => match c.args.toList with
      | [s, x] => .app (compX s) (compX x)
      | _ => .all
    | .builtin .len => match c.args.toList with
      | [x] => .at (compX x)
      | _ => .none
    | .builtin .copy => .all
    | _ => .none
  | _ => .none
def compG (ops : Array Oper) : Option (Nat × Bool) → Option (Option (Nat × Bool))
  | none => some none
  | some (j, w) => match (ops[j]?).bind (·.dst) with
    | some t => some (some (t, w))
    | none => none
def inB (nt : Nat) : Option Nat → Bool
  | some d => decide (d < nt)
  | none => true
def compI (P : Program) (nt : Nat) (ops : Array Oper) (o : Oper) : Option BI :=
  if inB nt o.dst then (compG ops o.guard).map fun g => ⟨o.dst, g, compFt o, compO P o⟩ else none
def compL (P : Program) (nt : Nat) (ops : Array Oper) : List Oper → Option (List BI)
  | [] => some []
  | o :: r => match compI P nt ops o, compL P nt ops r with
    | some i, some l => some (i :: l)
    | _, _ => none
def bseq : BC → BC → BC
  | .skip, b => b
  | a, b => .seq a b
def compC (P : Program) (nt : Nat) : Code → Option BC
  | .skip => some .skip
  | .label _ => some .skip
  | .region _ ops draw => match compL P nt ops ops.toList with
    | some l => if draw then (if drawStat ops then some (.draw l ((drawPairs ops).filter fun p => !twins ops p)) else some .bad) else some (.ops l)
    | none => some .bad
  | .seq a b => match compC P nt a, compC P nt b with
    | some a, some b => some (bseq a b)
    | _, _ => none
  | .cond c a b => match compC P nt a, compC P nt b with
    | some a, some b => some (.cond (compX c) a b)
    | _, _ => none
  | .block id b => (compC P nt b).map (.block id)
  | .loop b => (compC P nt b).map .loop
  | .exit id => some (.exit id)
  | .ret => some .ret
  | _ => some .bad

inductive BR where
  | t (n : Nat)
  | c1 (a : Nat)
  | cn (a n : Nat)
def compR (P : Program) : ResultVar → Option BR
  | .tmp t => some (.t t)
  | .cell a t => match P.underlying t, P.info? t with
    | some d, some i => some (if isAggD d then .cn a i.size else .c1 a)
    | _, _ => none
def compRL (P : Program) : List ResultVar → Option (List BR)
  | [] => some []
  | r :: rs => match compR P r, compRL P rs with
    | some x, some l => some (x :: l)
    | _, _ => none
structure BFn where
  nt : Nat
  res : List BR
  code : BC
def compF (P : Program) (f : FuncId) : Option BFn := match P.funcs[f]? with
  | some fn => match fn.body with
    | some c => if (fn.name == "runtime.NumGoroutine") = false then match compC P fn.ntmps c, compRL P fn.results.toList with
      | some b, some l => some ⟨fn.ntmps, l, b⟩
      | _, _ => none else none
    | none => none
  | none => none
def bres (S : AS) (T : BT) : BR → Option AV
  | .t n => some (T n)
  | .c1 a => ld1V S (T a)
  | .cn a n => ldnV n S (T a)
def bresL (S : AS) (T : BT) : List BR → Option (List AV)
  | [] => some []
  | r :: rs => match bres S T r, bresL S T rs with
    | some v, some vs => some (v :: vs)
    | _, _ => none
def argsT (args : List AV) : BT := fun t => args.getD t (.lit undef)
/-- What a call makes of its body's run. -/
def bfin [Cfg] (f : FuncId) (res : List BR) (S : AS) : XB → Option (AE × Upd)
  | some (x, T', S') => match S'.dfr with
    | [] => match x with
      | .normal | .ret => match bresL S' T' res with
        | some vs => (handUp f S S' (tupled vs)).map fun y => (.ret y.1, y.2)
        | none => none
      | .pan v => (handUp f S S' v).map fun y => (.pan y.1, y.2)
      | .exit _ => none
    | _ => none
  | none => none
end Go.Proofs.YtjdccpmbaobpdaaGreatDoor
