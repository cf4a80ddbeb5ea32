/-
  A machine of plain values, second form: the run of resolved code is that of the code. A machine of plain values, second form: runs of resolved code, with no bound on their steps. A machine of plain values, second form: laws by which a run is reckoned with names in it. A machine of plain values, second form: what is told of strings.Builder's String, and of maps.Clone. A machine of plain values, second form: what is told of strings.Builder's String holds. A call from outside: all the memory there is stays; what it answers. What a call from outside is given: values of plain shapes (numbers, strin
-/
import Derived.Test.YtjdccpmbaobpdaaGreatDoorMC
import Derived.Shelf.Strings.Builder1
import Derived.Shelf.SlMaps.Clone
import Derived.Below
import Derived.ChangeArms
import Derived.DataReads
import Derived.Deep.Slices
namespace Go.Proofs.YtjdccpmbaobpdaaGreatDoor
open Go.RowKit

section
variable {P : Program}

theorem foot_ok {S : AS} {T : BT} (o : Oper) : (compFt o).foot S T o.dst = afoot S (aevF T) o := by
  obtain ⟨d, op, ty, pos, aft, g⟩ := o
  cases op <;> try rfl
  case call c =>
    simp only [compFt, afoot]
    cases hc : c.callee with
    | value f => rfl
    | invoke r m => rfl
    | builtin b =>
      cases b <;> try rfl
      case append =>
        cases hl : c.args.toList with
        | nil => rfl
        | cons a l => cases l with
          | nil => rfl
          | cons b l => cases l <;> rfl
      case len =>
        cases hl : c.args.toList with
        | nil => rfl
        | cons a l => cases l <;> rfl

theorem w_gen {d : Option Nat} {op : Op} {ty : TypeId} {pos : String} {aft : Array Edge} {g : Option (Nat × Bool)} (h : (BO.gen op ty).w = true) : mayW ⟨d, op, ty, pos, aft, g⟩ = true := h

set_option maxHeartbeats 2000000 in
theorem w_ok (o : Oper) (h : (compO P o).w = true) : mayW o = true := by
  obtain ⟨d, op, ty, pos, aft, g⟩ := o
  cases op
  case unOp op t x => cases op <;> first | exact h | (cases h; done)
  all_goals simp only [compO] at h
  case call c =>
    split at h
    · rename_i hc; simp only [mayW, hc]
    · split at h
      · split at h <;> first | cases h | exact h
      · exact h
    · rename_i f hc; simp only [mayW, hc]
    · exact h
  all_goals first
    | exact h
    | (cases h; done)
    | rfl
    | (repeat' (first | exact h | (cases h; done) | split at h))

/-- The temporaries. -/
def TR (Tl : TM) (T : BT) : Prop := ∀ t, Tl.getD t (.lit undef) = T t
theorem TR.ev {Tl : TM} {T : BT} (h : TR Tl T) : aev Tl = aevF T := by
  funext x
  cases x with
  | tmp t => exact h t
  | const v => rfl
  | global g => rfl
  | func f => rfl
theorem TR.put {Tl : TM} {T : BT} (h : TR Tl T) {d : Option Nat} (hd : inB Tl.length d = true) (v : AV) : TR (Tl.put d v) (T.put d v) := by
  cases d with
  | none => exact h
  | some d =>
    simp only [inB, decide_eq_true_eq] at hd
    intro t
    simp only [TM.put, BT.put]
    by_cases e : t = d
    · subst e; simp [List.getD_eq_getElem?_getD, hd]
    · rw [if_neg e, ← h t]
      simp [List.getD_eq_getElem?_getD, List.getElem?_set_ne (Ne.symm e)]
theorem put_length (Tl : TM) (d : Option Nat) (v : AV) : (Tl.put d v).length = Tl.length := by cases d <;> simp [TM.put]
theorem TR.wanted {Tl : TM} {T : BT} (h : TR Tl T) {ops : Array Oper} {o : Oper} {g : Option (Nat × Bool)} (hg : compG ops o.guard = some g) : Region.wanted o (ayielded ops Tl) = bwanted T g := by
  unfold Region.wanted
  cases ho : o.guard with
  | none =>
    rw [ho] at hg
    cases hg
    rfl
  | some jw =>
    obtain ⟨j, w⟩ := jw
    rw [ho] at hg
    unfold compG at hg
    simp only at hg ⊢
    cases hd : (ops[j]?).bind (·.dst) with
    | none => rw [hd] at hg; cases hg
    | some t =>
      rw [hd] at hg
      cases hg
      unfold ayielded bwanted
      rw [hd]
      simp only [Option.bind_some]
      have ht := h t
      rw [List.getD_eq_getElem?_getD] at ht
      cases hx : Tl[t]? with
      | none =>
        rw [hx] at ht
        simp only [Option.getD_none] at ht
        rw [← ht]
        rfl
      | some a =>
        rw [hx] at ht
        simp only [Option.getD_some] at ht
        rw [← ht]
        cases a <;> first | rfl | (rename_i v; cases v <;> first | rfl | (rename_i b; cases b <;> cases w <;> rfl))

theorem bsteps_ok [Cfg] {Δ : Oracle} {nt : Nat} {ops : Array Oper} : ∀ (os : List Oper) (l : List BI) (acc acc' : Acc) (Tl : TM) (T T' : BT) (S S' : AS) (x : Option AV), compL P nt ops os = some l → Tl.length = nt → TR Tl T → bsteps P Δ acc l T S = some (acc', T', S', x) →
    ∃ fs Tl', asteps P Δ ops os Tl S = some (fs, Tl', S', x) ∧ TR Tl' T' ∧ Tl'.length = nt ∧ (x = none → acc' = acc.map (· ++ fs))
  | [], l, acc, acc', Tl, T, T', S, S', x, hl, hn, hT, h => by
    simp only [compL, Option.some.injEq] at hl
    subst hl
    simp only [bsteps, Option.some.injEq, Prod.mk.injEq] at h
    obtain ⟨rfl, rfl, rfl, rfl⟩ := h
    exact ⟨[], Tl, rfl, hT, hn, fun _ => by cases acc <;> simp⟩
  | o :: os, l, acc, acc', Tl, T, T', S, S', x, hl, hn, hT, h => by
    unfold compL at hl
    split at hl
    case h_2 => cases hl
    rename_i i l' hi hl'
    cases hl
    unfold compI at hi
    obtain ⟨hd, hi⟩ := ite_bool_none hi
    obtain ⟨g, hg, rfl⟩ := Option.map_eq_some_iff.1 hi
    have hwant := hT.wanted hg
    have hd' : inB Tl.length o.dst = true := by rw [hn]; exact hd
    have hacc : ∀ (f : Foot) (fs : List Foot), (acc.push f).map (· ++ fs) = acc.map (· ++ (f :: fs)) := fun f fs => by cases acc <;> simp [Acc.push]
    -- one step, then the rest
    have go : ∀ (f : Foot) (v : AV) (S1 : AS), astep P Δ ops o Tl S = some (f, Tl.put o.dst v, S1, none) → bsteps P Δ (acc.push f) l' (T.put o.dst v) S1 = some (acc', T', S', x) →
        ∃ fs Tl', asteps P Δ ops (o :: os) Tl S = some (fs, Tl', S', x) ∧ TR Tl' T' ∧ Tl'.length = nt ∧ (x = none → acc' = acc.map (· ++ fs)) := by
      intro f v S1 h1 h2
      obtain ⟨fs, Tl', k1, k2, k3, k4⟩ := bsteps_ok os l' _ acc' _ _ T' S1 S' x hl' ((put_length Tl o.dst v).trans hn) (hT.put hd' v) h2
      refine ⟨f :: fs, Tl', ?_, k2, k3, fun e => by rw [k4 e, hacc]⟩
      unfold asteps
      rw [h1]
      simp only [k1]
    have stop : ∀ (f : Foot) (v : AV) (S1 : AS), astep P Δ ops o Tl S = some (f, Tl, S1, some v) → acc' = acc ∧ T' = T ∧ S' = S1 ∧ x = some v →
        ∃ fs Tl', asteps P Δ ops (o :: os) Tl S = some (fs, Tl', S', x) ∧ TR Tl' T' ∧ Tl'.length = nt ∧ (x = none → acc' = acc.map (· ++ fs)) := by
      rintro f v S1 h1 ⟨rfl, rfl, rfl, rfl⟩
      refine ⟨[f], Tl, ?_, hT, hn, fun e => by cases e⟩
      unfold asteps
      rw [h1]
    unfold bsteps at h
    simp only at h
    rw [foot_ok] at h
    split at h
    · rename_i hw
      rw [← hwant] at hw
      have hstep : ∀ r, bop P S T o.dst (compO P o) = some r → aop P S (aev Tl) o = some r := fun r hr => by rw [hT.ev]; exact bop_ok o hr
      have hfoot : afoot S (aev Tl) o = afoot S (aevF T) o := by rw [hT.ev]
      split at h
      · rename_i v hr
        exact go ⟨afoot S (aevF T) o, .none⟩ v S (by unfold astep; rw [if_pos hw, hstep _ hr]; simp only [hfoot]) h
      · rename_i v p s hr
        obtain ⟨hww, h⟩ := ite_bool_none h
        exact go ⟨afoot S (aevF T) o, .slot p⟩ v (S.set p s) (by unfold astep; rw [if_pos hw, hstep _ hr]; simp only [hfoot]; rw [if_pos (w_ok o hww)]) h
      · rename_i f args hr
        obtain ⟨hww, h⟩ := ite_bool_none h
        have hmw := w_ok o hww
        split at h
        · rename_i hc
          split at h
          · rename_i v hx
            exact go ⟨afoot S (aevF T) o, .none⟩ v S (by unfold astep; rw [if_pos hw, hstep _ hr]; simp only [hfoot]; rw [if_pos hmw, if_pos hc, hx]) h
          · rename_i v hx
            simp only [Option.some.injEq, Prod.mk.injEq] at h
            exact stop _ v S (by unfold astep; rw [if_pos hw, hstep _ hr]; simp only; rw [if_pos hmw, if_pos hc, hx]) ⟨h.1.symm, h.2.1.symm, h.2.2.1.symm, h.2.2.2.symm⟩
          · cases h
        · rename_i hc
          split at h
          · rename_i v u hx
            exact go ⟨.all, u.kind⟩ v (S.after u) (by unfold astep; rw [if_pos hw, hstep _ hr]; simp only; rw [if_pos hmw, if_neg hc, hx]) h
          · rename_i v u hx
            simp only [Option.some.injEq, Prod.mk.injEq] at h
            exact stop _ v (S.after u) (by unfold astep; rw [if_pos hw, hstep _ hr]; simp only; rw [if_pos hmw, if_neg hc, hx]) ⟨h.1.symm, h.2.1.symm, h.2.2.1.symm, h.2.2.2.symm⟩
          · cases h
      · rename_i v hr
        simp only [Option.some.injEq, Prod.mk.injEq] at h
        exact stop _ v S (by unfold astep; rw [if_pos hw, hstep _ hr]) ⟨h.1.symm, h.2.1.symm, h.2.2.1.symm, h.2.2.2.symm⟩
      · rename_i f args hr
        obtain ⟨hww, h⟩ := ite_bool_none h
        exact go ⟨.all, .all⟩ (.lit undef) _ (by unfold astep; rw [if_pos hw, hstep _ hr]; simp only; rw [if_pos (w_ok o hww)]) h
      · cases h
    · rename_i hw
      rw [← hwant] at hw
      exact go ⟨.none, .none⟩ (.lit undef) S (by unfold astep; rw [if_neg hw]) h

theorem bexec_ok [Cfg] {Δ : Oracle} {nt n : Nat} : ∀ (c : Code) (b : BC) (Tl : TM) (T T' : BT) (S S' : AS) (x : AX), compC P nt c = some b → Tl.length = nt → TR Tl T → bexec P Δ n b T S = some (x, T', S') →
    ∃ Tl', aexec P Δ n c Tl S = some (x, Tl', S') ∧ TR Tl' T' ∧ Tl'.length = nt
  | .skip, b, Tl, T, T', S, S', x, hb, hn, hT, h => by
    cases hb
    simp only [bexec, Option.some.injEq, Prod.mk.injEq] at h
    obtain ⟨rfl, rfl, rfl⟩ := h
    exact ⟨Tl, rfl, hT, hn⟩
  | .label l, b, Tl, T, T', S, S', x, hb, hn, hT, h => by
    cases hb
    simp only [bexec, Option.some.injEq, Prod.mk.injEq] at h
    obtain ⟨rfl, rfl, rfl⟩ := h
    exact ⟨Tl, rfl, hT, hn⟩
  | .exit i, b, Tl, T, T', S, S', x, hb, hn, hT, h => by
    cases hb
    simp only [bexec, Option.some.injEq, Prod.mk.injEq] at h
    obtain ⟨rfl, rfl, rfl⟩ := h
    exact ⟨Tl, rfl, hT, hn⟩
  | .ret, b, Tl, T, T', S, S', x, hb, hn, hT, h => by
    cases hb
    simp only [bexec, Option.some.injEq, Prod.mk.injEq] at h
    obtain ⟨rfl, rfl, rfl⟩ := h
    exact ⟨Tl, rfl, hT, hn⟩
  | .region id ops draw, b, Tl, T, T', S, S', x, hb, hn, hT, h => by
    unfold compC at hb
    split at hb
    case h_2 => cases hb; cases h
    rename_i l hl
    simp only [aexec]
    cases draw with
    | false =>
      simp only [Bool.false_eq_true, if_false, Option.some.injEq] at hb
      subst hb
      simp only [bexec] at h
      cases hs : bsteps P Δ none l T S with
      | none => rw [hs] at h; cases h
      | some y =>
        obtain ⟨acc', T1, S1, y⟩ := y
        obtain ⟨fs, Tl', k1, k2, k3, _⟩ := bsteps_ok ops.toList l none acc' Tl T T1 S S1 y hl hn hT hs
        rw [hs] at h
        unfold aregion
        rw [k1]
        cases y with
        | none =>
          simp only [bend, Option.some.injEq, Prod.mk.injEq] at h
          obtain ⟨rfl, rfl, rfl⟩ := h
          exact ⟨Tl', rfl, k2, k3⟩
        | some v =>
          simp only [bend, Option.some.injEq, Prod.mk.injEq] at h
          obtain ⟨rfl, rfl, rfl⟩ := h
          exact ⟨Tl', rfl, k2, k3⟩
    | true =>
      simp only [if_true] at hb
      split at hb
      case isFalse => cases hb; cases h
      rename_i hst
      simp only [Option.some.injEq] at hb
      subst hb
      simp only [bexec] at h
      generalize hL : (drawPairs ops).filter (fun p => !twins ops p) = L at h
      cases hs : bsteps P Δ (acc0 L) l T S with
      | none => rw [hs] at h; cases h
      | some y =>
        obtain ⟨acc', T1, S1, y⟩ := y
        obtain ⟨fs, Tl', k1, k2, k3, k4⟩ := bsteps_ok ops.toList l _ acc' Tl T T1 S S1 y hl hn hT hs
        rw [hs] at h
        cases y with
        | some v => cases h
        | none =>
          have k4 := k4 rfl
          have hpair : ∀ p ∈ drawPairs ops, (p ∈ L → indepAt fs p = true) → pairOk ops fs p = true := by
            intro p hp hi
            cases ht : twins ops p with
            | true => simp [pairOk, ht]
            | false =>
              have hm : p ∈ (drawPairs ops).filter fun p => !twins ops p := List.mem_filter.2 ⟨hp, by simp [ht]⟩
              rw [hL] at hm
              have := hi hm
              unfold pairOk
              rw [ht]
              exact this
          have hall : (drawPairs ops).all (pairOk ops fs) = true ∧ x = .normal ∧ T' = T1 ∧ S' = S1 := by
            cases L with
            | nil =>
              simp only [bdraw, Option.some.injEq, Prod.mk.injEq] at h
              exact ⟨List.all_eq_true.2 fun p hp => hpair p hp fun hm => (by cases hm), h.1.symm, h.2.1.symm, h.2.2.symm⟩
            | cons a r =>
              cases acc' with
              | none => simp [bdraw] at h
              | some fs' =>
                simp only [bdraw] at h
                obtain ⟨hal, h⟩ := ite_bool_none h
                simp only [Option.some.injEq, Prod.mk.injEq] at h
                have hfs : fs' = fs := by simpa [acc0] using k4
                subst hfs
                exact ⟨List.all_eq_true.2 fun p hp => hpair p hp fun hm => List.all_eq_true.1 hal p hm, h.1.symm, h.2.1.symm, h.2.2.symm⟩
          obtain ⟨hall, rfl, rfl, rfl⟩ := hall
          unfold aregion
          rw [k1]
          simp only [if_true, hst, hall, Option.isNone_none, Bool.and_self]
          exact ⟨Tl', rfl, k2, k3⟩
  | .seq a b, bc, Tl, T, T', S, S', x, hb, hn, hT, h => by
    unfold compC at hb
    split at hb
    case h_2 => cases hb
    rename_i a' b' ha hb'
    cases hb
    have hs : bexec P Δ n (.seq a' b') T S = some (x, T', S') := by
      unfold bseq at h
      split at h
      · simp only [bexec]; exact h
      · exact h
    simp only [bexec] at hs
    simp only [aexec]
    cases h1 : bexec P Δ n a' T S with
    | none => rw [h1] at hs; cases hs
    | some y =>
      obtain ⟨y, T1, S1⟩ := y
      obtain ⟨Tl1, k1, k2, k3⟩ := bexec_ok a a' Tl T T1 S S1 y ha hn hT h1
      rw [h1] at hs
      rw [k1]
      cases y with
      | normal => exact bexec_ok b b' Tl1 T1 T' S1 S' x hb' k3 k2 hs
      | exit i =>
        simp only [Option.some.injEq, Prod.mk.injEq] at hs
        obtain ⟨rfl, rfl, rfl⟩ := hs
        exact ⟨Tl1, rfl, k2, k3⟩
      | ret =>
        simp only [Option.some.injEq, Prod.mk.injEq] at hs
        obtain ⟨rfl, rfl, rfl⟩ := hs
        exact ⟨Tl1, rfl, k2, k3⟩
      | pan v =>
        simp only [Option.some.injEq, Prod.mk.injEq] at hs
        obtain ⟨rfl, rfl, rfl⟩ := hs
        exact ⟨Tl1, rfl, k2, k3⟩
  | .cond c a b, bc, Tl, T, T', S, S', x, hb, hn, hT, h => by
    unfold compC at hb
    split at hb
    case h_2 => cases hb
    rename_i a' b' ha hb'
    cases hb
    simp only [bexec] at h
    simp only [aexec]
    have hc : aev Tl c = (compX c).at T := by rw [hT.ev]; rfl
    rw [hc]
    split at h
    · rename_i t ht
      rw [ht]
      cases t with
      | true => exact bexec_ok a a' Tl T T' S S' x ha hn hT (by simpa using h)
      | false => exact bexec_ok b b' Tl T T' S S' x hb' hn hT (by simpa using h)
    · cases h
  | .block id b, bc, Tl, T, T', S, S', x, hb, hn, hT, h => by
    simp only [compC] at hb
    obtain ⟨b', hb', rfl⟩ := Option.map_eq_some_iff.1 hb
    simp only [bexec] at h
    simp only [aexec]
    cases h1 : bexec P Δ n b' T S with
    | none => rw [h1] at h; cases h
    | some y =>
      obtain ⟨y, T1, S1⟩ := y
      obtain ⟨Tl1, k1, k2, k3⟩ := bexec_ok b b' Tl T T1 S S1 y hb' hn hT h1
      rw [h1] at h
      rw [k1]
      cases y with
      | exit j =>
        simp only at h ⊢
        split at h
        · rename_i hj
          simp only [Option.some.injEq, Prod.mk.injEq] at h
          obtain ⟨rfl, rfl, rfl⟩ := h
          exact ⟨Tl1, if_pos hj, k2, k3⟩
        · rename_i hj
          simp only [Option.some.injEq, Prod.mk.injEq] at h
          obtain ⟨rfl, rfl, rfl⟩ := h
          exact ⟨Tl1, if_neg hj, k2, k3⟩
      | normal =>
        simp only [Option.some.injEq, Prod.mk.injEq] at h
        obtain ⟨rfl, rfl, rfl⟩ := h
        exact ⟨Tl1, rfl, k2, k3⟩
      | ret =>
        simp only [Option.some.injEq, Prod.mk.injEq] at h
        obtain ⟨rfl, rfl, rfl⟩ := h
        exact ⟨Tl1, rfl, k2, k3⟩
      | pan v =>
        simp only [Option.some.injEq, Prod.mk.injEq] at h
        obtain ⟨rfl, rfl, rfl⟩ := h
        exact ⟨Tl1, rfl, k2, k3⟩
  | .loop b, bc, Tl, T, T', S, S', x, hb, hn, hT, h => by
    simp only [compC] at hb
    obtain ⟨b', hb', rfl⟩ := Option.map_eq_some_iff.1 hb
    simp only [bexec] at h
    simp only [aexec]
    have key : ∀ (m : Nat) (Tl : TM) (T : BT) (S : AS), Tl.length = nt → TR Tl T → bloop (bexec P Δ n b') m T S = some (x, T', S') → ∃ Tl', aloop (aexec P Δ n b) m Tl S = some (x, Tl', S') ∧ TR Tl' T' ∧ Tl'.length = nt := by
      intro m
      induction m with
      | zero => intro Tl T S _ _ h; cases h
      | succ m ih =>
        intro Tl T S hn hT h
        unfold bloop at h
        unfold aloop
        cases h1 : bexec P Δ n b' T S with
        | none => rw [h1] at h; cases h
        | some y =>
          obtain ⟨y, T1, S1⟩ := y
          obtain ⟨Tl1, k1, k2, k3⟩ := bexec_ok b b' Tl T T1 S S1 y hb' hn hT h1
          rw [h1] at h
          rw [k1]
          cases y with
          | normal => exact ih Tl1 T1 S1 k3 k2 h
          | exit j =>
            simp only [Option.some.injEq, Prod.mk.injEq] at h
            obtain ⟨rfl, rfl, rfl⟩ := h
            exact ⟨Tl1, rfl, k2, k3⟩
          | ret =>
            simp only [Option.some.injEq, Prod.mk.injEq] at h
            obtain ⟨rfl, rfl, rfl⟩ := h
            exact ⟨Tl1, rfl, k2, k3⟩
          | pan v =>
            simp only [Option.some.injEq, Prod.mk.injEq] at h
            obtain ⟨rfl, rfl, rfl⟩ := h
            exact ⟨Tl1, rfl, k2, k3⟩
    exact key n Tl T S hn hT h
  | .rangeFunc .., _, _, _, _, _, _, _, hb, _, _, h => by simp [compC] at hb; subst hb; cases h
  | .scope _, _, _, _, _, _, _, _, hb, _, _, h => by simp [compC] at hb; subst hb; cases h
  | .goto _, _, _, _, _, _, _, _, hb, _, _, h => by simp [compC] at hb; subst hb; cases h
  | .refuse _, _, _, _, _, _, _, _, hb, _, _, h => by simp [compC] at hb; subst hb; cases h
end
end Go.Proofs.YtjdccpmbaobpdaaGreatDoor

namespace Go.Proofs.YtjdccpmbaobpdaaGreatDoor
open Go.RowKit

section
variable {P : Program}

theorem bloop_mono {f g : BT → AS → XB} (h : ∀ T S r, f T S = some r → g T S = some r) : ∀ (n m : Nat), n ≤ m → ∀ T S r, bloop f n T S = some r → bloop g m T S = some r
  | 0, _, _, T, S, r, hs => by cases hs
  | n + 1, 0, hm, _, _, _, _ => by omega
  | n + 1, m + 1, hm, T, S, r, hs => by
    unfold bloop at hs ⊢
    cases h1 : f T S with
    | none => simp [h1] at hs
    | some y =>
      obtain ⟨x, T1, S1⟩ := y
      rw [h T S _ h1]
      rw [h1] at hs
      cases x with
      | normal => exact bloop_mono h n m (by omega) T1 S1 r hs
      | _ => exact hs

theorem bexec_mono [Cfg] {Δ : Oracle} {n m : Nat} (hnm : n ≤ m) : ∀ (c : BC) (T : BT) (S : AS) (r : AX × BT × AS), bexec P Δ n c T S = some r → bexec P Δ m c T S = some r
  | .skip, T, S, r, hs => hs
  | .ops l, T, S, r, hs => hs
  | .draw l L, T, S, r, hs => hs
  | .seq a b, T, S, r, hs => by
    simp only [bexec] at hs ⊢
    cases h1 : bexec P Δ n a T S with
    | none => simp [h1] at hs
    | some y =>
      obtain ⟨x, T1, S1⟩ := y
      rw [bexec_mono hnm a T S _ h1]
      rw [h1] at hs
      cases x with
      | normal => exact bexec_mono hnm b T1 S1 r hs
      | _ => exact hs
  | .cond c a b, T, S, r, hs => by
    simp only [bexec] at hs ⊢
    split at hs
    · rename_i t ht
      try simp only [ht]
      cases t with
      | true => exact bexec_mono hnm a T S r hs
      | false => exact bexec_mono hnm b T S r hs
    · cases hs
  | .block id b, T, S, r, hs => by
    simp only [bexec] at hs ⊢
    cases h1 : bexec P Δ n b T S with
    | none => simp [h1] at hs
    | some y =>
      obtain ⟨x, T1, S1⟩ := y
      rw [bexec_mono hnm b T S _ h1]
      rw [h1] at hs
      exact hs
  | .loop b, T, S, r, hs => by
    simp only [bexec] at hs ⊢
    exact bloop_mono (fun T S r hr => bexec_mono hnm b T S r hr) n m hnm T S r hs
  | .exit id, T, S, r, hs => hs
  | .ret, T, S, r, hs => hs
  | .bad, T, S, r, hs => hs

noncomputable def execB [Cfg] (P : Program) (c : BC) (T : BT) (S : AS) : XB := lim fun n => bexec P (callT P) n c T S
theorem execB_some [Cfg] {c : BC} {T : BT} {S : AS} {r : AX × BT × AS} : execB P c T S = some r ↔ ∃ n, bexec P (callT P) n c T S = some r :=
  lim_some fun n m r h hr => bexec_mono h c T S r hr

theorem execB_skip [Cfg] (T : BT) (S : AS) : execB P .skip T S = some (.normal, T, S) := execB_some.2 ⟨0, rfl⟩
theorem execB_exit [Cfg] (id : Nat) (T : BT) (S : AS) : execB P (.exit id) T S = some (.exit id, T, S) := execB_some.2 ⟨0, rfl⟩
theorem execB_ret [Cfg] (T : BT) (S : AS) : execB P .ret T S = some (.ret, T, S) := execB_some.2 ⟨0, rfl⟩
theorem execB_const [Cfg] {c : BC} {T : BT} {S : AS} {x : XB} (h : ∀ n, bexec P (callT P) n c T S = x) : execB P c T S = x := by
  apply Option.ext
  intro r
  rw [execB_some]
  exact ⟨fun ⟨n, hn⟩ => by rw [← h n]; exact hn, fun hx => ⟨0, by rw [h 0]; exact hx⟩⟩
theorem execB_ops [Cfg] (l : List BI) (T : BT) (S : AS) : execB P (.ops l) T S = bend (bsteps P (callT P) none l T S) := execB_const fun _ => rfl
theorem execB_draw [Cfg] (l : List BI) (L : List (Nat × Nat)) (T : BT) (S : AS) : execB P (.draw l L) T S = bdraw L (bsteps P (callT P) (acc0 L) l T S) := execB_const fun _ => rfl

def seqB (k : BT → AS → XB) : XB → XB
  | some (.normal, T', S') => k T' S'
  | r => r
theorem execB_seq [Cfg] (a b : BC) (T : BT) (S : AS) : execB P (.seq a b) T S = seqB (execB P b) (execB P a T S) := by
  apply Option.ext
  intro r
  rw [execB_some]
  constructor
  · rintro ⟨n, h⟩
    simp only [bexec] at h
    cases h1 : bexec P (callT P) n a T S with
    | none => simp [h1] at h
    | some y =>
      obtain ⟨x, T1, S1⟩ := y
      rw [execB_some.2 ⟨n, h1⟩]
      rw [h1] at h
      cases x with
      | normal => exact execB_some.2 ⟨n, h⟩
      | _ => exact h
  · intro h
    cases h1 : execB P a T S with
    | none => simp [h1, seqB] at h
    | some y =>
      obtain ⟨x, T1, S1⟩ := y
      obtain ⟨n, k⟩ := execB_some.1 h1
      rw [h1] at h
      cases x with
      | normal =>
        obtain ⟨m, k'⟩ := execB_some.1 (show execB P b T1 S1 = some r from h)
        refine ⟨max n m, ?_⟩
        simp only [bexec]
        rw [bexec_mono (Nat.le_max_left n m) a T S _ k]
        exact bexec_mono (Nat.le_max_right n m) b T1 S1 r k'
      | _ => exact ⟨n, by simp only [bexec]; rw [k]; exact h⟩
def condB (a b : XB) : AV → XB
  | .lit (.bool t) => if t then a else b
  | _ => none
theorem execB_cond [Cfg] (c : X) (a b : BC) (T : BT) (S : AS) : execB P (.cond c a b) T S = condB (execB P a T S) (execB P b T S) (c.at T) := by
  apply Option.ext
  intro r
  rw [execB_some]
  unfold condB
  constructor
  · rintro ⟨n, h⟩
    simp only [bexec] at h
    split at h
    · rename_i t ht
      try simp only [ht]
      cases t with
      | true => exact execB_some.2 ⟨n, h⟩
      | false => exact execB_some.2 ⟨n, h⟩
    · cases h
  · intro h
    split at h
    · rename_i t ht
      cases t with
      | true => obtain ⟨n, k⟩ := execB_some.1 (show execB P a T S = some r from h); exact ⟨n, by simp only [bexec, ht]; exact k⟩
      | false => obtain ⟨n, k⟩ := execB_some.1 (show execB P b T S = some r from h); exact ⟨n, by simp only [bexec, ht]; exact k⟩
    · cases h
def blockB (id : Nat) : XB → XB
  | some (.exit j, T', S') => if j = id then some (.normal, T', S') else some (.exit j, T', S')
  | r => r
theorem execB_block [Cfg] (id : Nat) (b : BC) (T : BT) (S : AS) : execB P (.block id b) T S = blockB id (execB P b T S) := by
  apply Option.ext
  intro r
  rw [execB_some]
  constructor
  · rintro ⟨n, h⟩
    simp only [bexec] at h
    cases h1 : bexec P (callT P) n b T S with
    | none => simp [h1] at h
    | some y => rw [execB_some.2 ⟨n, h1⟩]; rw [h1] at h; exact h
  · intro h
    cases h1 : execB P b T S with
    | none => simp [h1, blockB] at h
    | some y =>
      obtain ⟨n, k⟩ := execB_some.1 h1
      exact ⟨n, by simp only [bexec]; rw [k]; rw [h1] at h; exact h⟩
theorem execB_loop [Cfg] (b : BC) (T : BT) (S : AS) : execB P (.loop b) T S = seqB (execB P (.loop b)) (execB P b T S) := by
  apply Option.ext
  intro r
  rw [execB_some]
  constructor
  · rintro ⟨n, h⟩
    simp only [bexec] at h
    cases n with
    | zero => cases h
    | succ n =>
      unfold bloop at h
      cases h1 : bexec P (callT P) (n + 1) b T S with
      | none => simp [h1] at h
      | some y =>
        obtain ⟨x, T1, S1⟩ := y
        rw [execB_some.2 ⟨n + 1, h1⟩]
        rw [h1] at h
        cases x with
        | normal =>
          refine execB_some.2 ⟨n + 1, ?_⟩
          simp only [bexec]
          exact bloop_mono (fun _ _ _ h => h) n (n + 1) (by omega) T1 S1 r h
        | _ => exact h
  · intro h
    cases h1 : execB P b T S with
    | none => simp [h1, seqB] at h
    | some y =>
      obtain ⟨x, T1, S1⟩ := y
      obtain ⟨n, k⟩ := execB_some.1 h1
      rw [h1] at h
      cases x with
      | normal =>
        obtain ⟨m, k'⟩ := execB_some.1 (show execB P (.loop b) T1 S1 = some r from h)
        refine ⟨max n m + 1, ?_⟩
        simp only [bexec] at k' ⊢
        unfold bloop
        rw [bexec_mono (show n ≤ max n m + 1 by omega) b T S _ k]
        exact bloop_mono (fun T S r hr => bexec_mono (show m ≤ max n m + 1 by omega) b T S r hr) m (max n m) (Nat.le_max_right n m) T1 S1 r k'
      | _ => exact ⟨n + 1, by simp only [bexec]; unfold bloop; rw [bexec_mono (Nat.le_succ n) b T S _ k]; exact h⟩

theorem compRL_ok {S : AS} {Tl : TM} {T : BT} (hT : TR Tl T) : ∀ {rs : List ResultVar} {l : List BR} {vs : List AV}, compRL P rs = some l → bresL S T l = some vs → aresultL P S Tl rs = some vs
  | [], l, vs, h, h2 => by
    simp only [compRL, Option.some.injEq] at h
    subst h
    exact h2
  | r :: rs, l, vs, h, h2 => by
    unfold compRL at h
    split at h
    case h_2 => cases h
    rename_i x l' hx hl'
    cases h
    unfold bresL at h2
    split at h2
    case h_2 => cases h2
    rename_i v vs' hv hvs
    cases h2
    unfold aresultL
    have : aresult P S Tl r = some v := by
      cases r with
      | tmp t =>
        cases hx
        simp only [bres, Option.some.injEq] at hv
        subst hv
        simp only [aresult]
        exact congrArg some (hT t)
      | cell a t =>
        unfold compR at hx
        simp only at hx
        split at hx
        case h_2 => cases hx
        rename_i d i hd hi
        have ha : Tl.getD a (.lit undef) = T a := hT a
        simp only [aresult, aload, ha, hd, hi]
        split at hx
        · rename_i hagg
          cases hx
          simp only [bres, ldnV] at hv
          split at hv
          · rename_i cs hcs; simp only [hcs, hagg, if_true]; exact hv
          · cases hv
        · rename_i hagg
          cases hx
          simp only [bres, ld1V] at hv
          split at hv
          · rename_i cs hcs; simp only [hcs, hagg]; exact hv
          · cases hv
    rw [this, compRL_ok hT hl' hvs]

theorem begin_TR {fn : Func} (args : List AV) : TR (abegin fn args) (argsT args) := by
  intro t
  unfold abegin argsT
  simp only [List.getD_eq_getElem?_getD]
  by_cases ht : t < args.length
  · rw [List.getElem?_append_left ht]
  · rw [List.getElem?_append_right (by omega), List.getElem?_eq_none (show args.length ≤ t by omega)]
    rw [List.getElem?_replicate]
    split <;> rfl

/-- A call is what the run of its resolved body is. -/
theorem callT_of [Cfg] {f : FuncId} {b : BFn} (hg : Cfg.given f = none) (hf : compF P f = some b) {args : List AV} (ha : args.length ≤ b.nt) {S : AS} {r : AE × Upd}
    (h : bfin f b.res S (execB P b.code (argsT (aargs f S.fn args)) (S.enter f)) = some r) : callT P f args S = some r := by
  unfold compF at hf
  split at hf
  case h_2 => cases hf
  rename_i fn hfn
  split at hf
  case h_2 => cases hf
  rename_i c hc
  obtain ⟨hn, hf⟩ := ite_bool_none hf
  split at hf
  case h_2 => cases hf
  rename_i bc l hbc hl
  cases hf
  simp only at ha h
  cases hx : execB P bc (argsT (aargs f S.fn args)) (S.enter f) with
  | none => rw [hx] at h; cases h
  | some y =>
    obtain ⟨x, T', S'⟩ := y
    obtain ⟨n, hn'⟩ := execB_some.1 hx
    rw [hx] at h
    have hlen : (aargs f S.fn args).length = args.length := by unfold aargs; split <;> simp
    obtain ⟨Tl', k1, k2, k3⟩ := bexec_ok c bc (abegin fn (aargs f S.fn args)) _ T' _ S' x hbc (by simp [abegin, hlen]; omega) (begin_TR _) hn'
    refine callT_intro (n := n) hg hfn hc hn ha ?_
    rw [k1]
    unfold finish
    simp only
    unfold bfin at h
    simp only at h
    split at h
    case h_2 => cases h
    rename_i hd
    have e : ({ S' with dfr := [] } : AS) = S' := by cases S'; simp only at hd; subst hd; rfl
    have fin : ∀ vs, bresL S' T' l = some vs → aresults P fn S' Tl' = some (tupled vs) := fun vs hvs => by
      unfold aresults
      rw [compRL_ok k2 hl hvs]
      rfl
    cases x with
    | exit i => cases h
    | normal =>
      simp only [AX.mode, hd, aleaves, e, atEnd]
      simp only at h
      cases hr : bresL S' T' l with
      | none => rw [hr] at h; cases h
      | some vs => rw [fin vs hr]; rw [hr] at h; exact h
    | ret =>
      simp only [AX.mode, hd, aleaves, e, atEnd]
      simp only at h
      cases hr : bresL S' T' l with
      | none => rw [hr] at h; cases h
      | some vs => rw [fin vs hr]; rw [hr] at h; exact h
    | pan v =>
      simp only [AX.mode, hd, aleaves, e, atEnd]
      exact h
end
end Go.Proofs.YtjdccpmbaobpdaaGreatDoor

namespace Go.Proofs.YtjdccpmbaobpdaaGreatDoor
open Go.RowKit

section
variable {P : Program} {T : BT} {S : AS}

/-! ### Temporaries -/
theorem X_t (n : Nat) : X.at T (.t n) = T n := rfl
theorem X_c (a : AV) : X.at T (.c a) = a := rfl
theorem put_at (d t : Nat) (v : AV) : BT.put T (some d) v t = if t = d then v else T t := rfl
theorem put_no (v : AV) : BT.put T none v = T := rfl
theorem argsT_zero (a : AV) (l : List AV) : argsT (a :: l) 0 = a := rfl
theorem argsT_succ (a : AV) (l : List AV) (n : Nat) : argsT (a :: l) (n + 1) = argsT l n := by simp [argsT]
theorem argsT_nil (n : Nat) : argsT [] n = .lit undef := rfl

/-! ### Code -/
noncomputable def condK [Cfg] (P : Program) (a b : BC) (T : BT) (S : AS) : AV → XB
  | .lit (.bool t) => if t then execB P a T S else execB P b T S
  | _ => none
theorem execB_condK [Cfg] (c : X) (a b : BC) : execB P (.cond c a b) T S = condK P a b T S (c.at T) := by
  rw [execB_cond]
  unfold condB condK
  rfl
theorem condK_true [Cfg] (a b : BC) : condK P a b T S (.lit (.bool true)) = execB P a T S := rfl
theorem condK_false [Cfg] (a b : BC) : condK P a b T S (.lit (.bool false)) = execB P b T S := rfl
theorem condK_decT [Cfg] {c : Prop} [Decidable c] (a b : BC) (h : c) : condK P a b T S (.lit (.bool (decide c))) = execB P a T S := by rw [decide_eq_true h]; rfl
theorem condK_decF [Cfg] {c : Prop} [Decidable c] (a b : BC) (h : ¬ c) : condK P a b T S (.lit (.bool (decide c))) = execB P b T S := by rw [decide_eq_false h]; rfl
theorem condK_split [Cfg] {c : Prop} [Decidable c] (a b : BC) : condK P a b T S (.lit (.bool (decide c))) = if c then execB P a T S else execB P b T S := by
  by_cases h : c
  · rw [condK_decT a b h, if_pos h]
  · rw [condK_decF a b h, if_neg h]
theorem seqB_normal (k : BT → AS → XB) : seqB k (some (.normal, T, S)) = k T S := rfl
theorem seqB_exit (k : BT → AS → XB) (i : Nat) : seqB k (some (.exit i, T, S)) = some (.exit i, T, S) := rfl
theorem seqB_ret (k : BT → AS → XB) : seqB k (some (.ret, T, S)) = some (.ret, T, S) := rfl
theorem seqB_pan (k : BT → AS → XB) (v : AV) : seqB k (some (.pan v, T, S)) = some (.pan v, T, S) := rfl
theorem blockB_normal (id : Nat) : blockB id (some (.normal, T, S)) = some (.normal, T, S) := rfl
theorem blockB_ret (id : Nat) : blockB id (some (.ret, T, S)) = some (.ret, T, S) := rfl
theorem blockB_pan (id : Nat) (v : AV) : blockB id (some (.pan v, T, S)) = some (.pan v, T, S) := rfl
theorem blockB_same (id : Nat) : blockB id (some (.exit id, T, S)) = some (.normal, T, S) := by simp [blockB]
theorem blockB_other (id j : Nat) (h : j ≠ id) : blockB id (some (.exit j, T, S)) = some (.exit j, T, S) := by simp [blockB, h]
theorem bend_normal (acc : Acc) : bend (some (acc, T, S, none)) = some (.normal, T, S) := rfl
theorem bend_pan (acc : Acc) (v : AV) : bend (some (acc, T, S, some v)) = some (.pan v, T, S) := rfl
theorem bdraw_nil (acc : Acc) : bdraw [] (some (acc, T, S, none)) = some (.normal, T, S) := rfl
theorem bdraw_cons (p : Nat × Nat) (L : List (Nat × Nat)) (fs : List Foot) (h : (p :: L).all (indepAt fs) = true) : bdraw (p :: L) (some (some fs, T, S, none)) = some (.normal, T, S) := by
  simp only [bdraw]
  rw [if_pos h]
theorem acc0_nil : acc0 [] = none := rfl
theorem acc0_cons (p : Nat × Nat) (L : List (Nat × Nat)) : acc0 (p :: L) = some [] := rfl
theorem push_no (f : Foot) : Acc.push none f = none := rfl
theorem push_yes (fs : List Foot) (f : Foot) : Acc.push (some fs) f = some (fs ++ [f]) := rfl

/-! ### Steps -/
variable {Δ : Oracle} {acc : Acc} {d : Option Nat} {f : BF} {r : List BI}
def kv [Cfg] (P : Program) (Δ : Oracle) (acc : Acc) (d : Option Nat) (f : BF) (r : List BI) (T : BT) (S : AS) : Option AV → BO4
  | some v => bsteps P Δ (acc.push ⟨f.foot S T d, .none⟩) r (T.put d v) S
  | none => none
def kc [Cfg] (P : Program) (Δ : Oracle) (acc : Acc) (d : Option Nat) (f : BF) (r : List BI) (T : BT) (S : AS) : Option (AV × Loc × ASlot) → BO4
  | some (v, p, s) => bsteps P Δ (acc.push ⟨f.foot S T d, .slot p⟩) r (T.put d v) (S.set p s)
  | none => none
def kr [Cfg] (P : Program) (Δ : Oracle) (acc : Acc) (d : Option Nat) (f : BF) (w : Bool) (r : List BI) (T : BT) (S : AS) : Option AR → BO4
  | some (.val v) => bsteps P Δ (acc.push ⟨f.foot S T d, .none⟩) r (T.put d v) S
  | some (.chg v p s) => if w then bsteps P Δ (acc.push ⟨f.foot S T d, .slot p⟩) r (T.put d v) (S.set p s) else none
  | some (.call g args) => if w then (if !Cfg.up g S.fn && AV.closedL args then (match Δ g args .bare with
        | some (.ret v, none) => bsteps P Δ (acc.push ⟨f.foot S T d, .none⟩) r (T.put d v) S
        | some (.pan v, none) => some (acc, T, S, some v)
        | _ => none)
      else (match Δ g args S with
        | some (.ret v, u) => bsteps P Δ (acc.push ⟨.all, u.kind⟩) r (T.put d v) (S.after u)
        | some (.pan v, u) => some (acc, T, S.after u, some v)
        | none => none)) else none
  | some (.pan v) => some (acc, T, S, some v)
  | some (.dfr g args) => if w then bsteps P Δ (acc.push ⟨.all, .all⟩) r (T.put d (.lit undef)) { S with dfr := (g, args) :: S.dfr } else none
  | none => none
/-- A call of what names nothing of the store. -/
def kcl [Cfg] (P : Program) (Δ : Oracle) (acc : Acc) (d : Option Nat) (f : BF) (r : List BI) (T : BT) (S : AS) : Option (AE × Upd) → BO4
  | some (.ret v, none) => bsteps P Δ (acc.push ⟨f.foot S T d, .none⟩) r (T.put d v) S
  | some (.pan v, none) => some (acc, T, S, some v)
  | _ => none
def kop [Cfg] (P : Program) (Δ : Oracle) (acc : Acc) (d : Option Nat) (r : List BI) (T : BT) (S : AS) : Option (AE × Upd) → BO4
  | some (.ret v, u) => bsteps P Δ (acc.push ⟨.all, u.kind⟩) r (T.put d v) (S.after u)
  | some (.pan v, u) => some (acc, T, S.after u, some v)
  | none => none
def kcall [Cfg] (P : Program) (Δ : Oracle) (acc : Acc) (d : Option Nat) (f : BF) (r : List BI) (T : BT) (S : AS) (g : FuncId) (args : List AV) : Bool → BO4
  | true => kcl P Δ acc d f r T S (Δ g args .bare)
  | false => kop P Δ acc d r T S (Δ g args S)
def kg [Cfg] (P : Program) (Δ : Oracle) (acc : Acc) (i : BI) (r : List BI) (T : BT) (S : AS) : Bool → BO4
  | true => bsteps P Δ acc ({ i with g := none } :: r) T S
  | false => bsteps P Δ (acc.push ⟨.none, .none⟩) r (T.put i.d (.lit undef)) S

theorem b_nil [Cfg] : bsteps P Δ acc [] T S = some (acc, T, S, none) := rfl
theorem b_cons [Cfg] (o : BO) : bsteps P Δ acc (⟨d, none, f, o⟩ :: r) T S = kr P Δ acc d f o.w r T S (bop P S T d o) := by
  conv => lhs; unfold bsteps
  simp only [bwanted, if_true]
  cases bop P S T d o with
  | none => rfl
  | some x => cases x <;> rfl
theorem b_guard [Cfg] (o : BO) (t : Nat) (w : Bool) : bsteps P Δ acc (⟨d, some (t, w), f, o⟩ :: r) T S = kg P Δ acc ⟨d, some (t, w), f, o⟩ r T S (bwanted T (some (t, w))) := by
  conv => lhs; unfold bsteps
  simp only
  cases h : bwanted T (some (t, w)) with
  | false => rfl
  | true =>
    simp only [kg, if_true]
    rw [b_cons]
    cases bop P S T d o with
    | none => rfl
    | some x => cases x <;> rfl
def wantV (w : Bool) : AV → Bool
  | .lit (.bool b) => b == w
  | _ => false
theorem bwanted_some (t : Nat) (w : Bool) : bwanted T (some (t, w)) = wantV w (T t) := rfl
theorem wantV_true (b : Bool) : wantV true (.lit (.bool b)) = b := by cases b <;> rfl
theorem wantV_false (b : Bool) : wantV false (.lit (.bool b)) = !b := by cases b <;> rfl
theorem bwanted_bool (t : Nat) (w b : Bool) (h : T t = .lit (.bool b)) : bwanted T (some (t, w)) = (b == w) := by simp only [bwanted, h]
theorem kr_map [Cfg] {o : BO} (x : Option AV) : kr P Δ acc d f o.w r T S (x.map .val) = kv P Δ acc d f r T S x := by cases x <;> rfl
theorem kv_some [Cfg] (v : AV) : kv P Δ acc d f r T S (some v) = bsteps P Δ (acc.push ⟨f.foot S T d, .none⟩) r (T.put d v) S := rfl
theorem kc_some [Cfg] (v : AV) (p : Loc) (s : ASlot) : kc P Δ acc d f r T S (some (v, p, s)) = bsteps P Δ (acc.push ⟨f.foot S T d, .slot p⟩) r (T.put d v) (S.set p s) := rfl
theorem kr_val [Cfg] (w : Bool) (v : AV) : kr P Δ acc d f w r T S (some (.val v)) = bsteps P Δ (acc.push ⟨f.foot S T d, .none⟩) r (T.put d v) S := rfl
theorem kr_chg [Cfg] (v : AV) (p : Loc) (s : ASlot) : kr P Δ acc d f true r T S (some (.chg v p s)) = bsteps P Δ (acc.push ⟨f.foot S T d, .slot p⟩) r (T.put d v) (S.set p s) := rfl
theorem kr_pan [Cfg] (w : Bool) (v : AV) : kr P Δ acc d f w r T S (some (.pan v)) = some (acc, T, S, some v) := rfl
theorem kr_dfr [Cfg] (g : FuncId) (args : List AV) : kr P Δ acc d f true r T S (some (.dfr g args)) = bsteps P Δ (acc.push ⟨.all, .all⟩) r (T.put d (.lit undef)) { S with dfr := (g, args) :: S.dfr } := rfl
theorem kr_call [Cfg] (g : FuncId) (args : List AV) : kr P Δ acc d f true r T S (some (.call g args)) = kcall P Δ acc d f r T S g args (!Cfg.up g S.fn && AV.closedL args) := by
  cases h : (!Cfg.up g S.fn && AV.closedL args) with
  | true =>
    simp only [kr, h, if_true, kcall]
    unfold kcl
    rfl
  | false =>
    simp only [kr, h, if_true, kcall]
    unfold kop
    rfl
theorem kcl_ret [Cfg] (v : AV) : kcl P Δ acc d f r T S (some (.ret v, none)) = bsteps P Δ (acc.push ⟨f.foot S T d, .none⟩) r (T.put d v) S := rfl
theorem kcl_pan [Cfg] (v : AV) : kcl P Δ acc d f r T S (some (.pan v, none)) = some (acc, T, S, some v) := rfl
theorem kop_ret [Cfg] (v : AV) (u : Upd) : kop P Δ acc d r T S (some (.ret v, u)) = bsteps P Δ (acc.push ⟨.all, u.kind⟩) r (T.put d v) (S.after u) := rfl
theorem kop_pan [Cfg] (v : AV) (u : Upd) : kop P Δ acc d r T S (some (.pan v, u)) = some (acc, T, S.after u, some v) := rfl
theorem kcall_closed [Cfg] (g : FuncId) (args : List AV) : kcall P Δ acc d f r T S g args true = kcl P Δ acc d f r T S (Δ g args .bare) := rfl
theorem kcall_open [Cfg] (g : FuncId) (args : List AV) : kcall P Δ acc d f r T S g args false = kop P Δ acc d r T S (Δ g args S) := rfl
theorem kg_true [Cfg] (i : BI) : kg P Δ acc i r T S true = bsteps P Δ acc ({ i with g := none } :: r) T S := rfl
theorem kg_false [Cfg] (i : BI) : kg P Δ acc i r T S false = bsteps P Δ (acc.push ⟨.none, .none⟩) r (T.put i.d (.lit undef)) S := rfl

/-! one for each operation -/
theorem b_gen [Cfg] (op : Op) (ty : TypeId) : bsteps P Δ acc (⟨d, none, f, .gen op ty⟩ :: r) T S = kr P Δ acc d f (mayW ⟨none, op, ty, "", #[], none⟩) r T S (aop P S (aevF T) ⟨d, op, ty, "", #[], none⟩) := b_cons _
theorem b_mv [Cfg] (x : X) : bsteps P Δ acc (⟨d, none, f, .mv x⟩ :: r) T S = bsteps P Δ (acc.push ⟨f.foot S T d, .none⟩) r (T.put d (x.at T)) S := b_cons _
def pkV : AV → AV → AV → Option AV
  | .lit (.bool t), a, b => some (if t then a else b)
  | _, _, _ => none
theorem b_pk [Cfg] (c a b : X) : bsteps P Δ acc (⟨d, none, f, .pk c a b⟩ :: r) T S = kv P Δ acc d f r T S (pkV (c.at T) (a.at T) (b.at T)) := by
  rw [b_cons]
  simp only [bop]
  unfold pkV
  cases c.at T <;> first | rfl | (rename_i v; cases v <;> rfl)
def newV (S : AS) (e : TypeId) : Option Nat → List AV → Option (AV × Loc × ASlot)
  | some d, cs => some (.ptr (S.here d) (S.fresh (S.here d)) 0 0, S.here d, .obj (S.fresh (S.here d)) e cs)
  | none, _ => none
theorem b_al [Cfg] (e : TypeId) (cs : List AV) : bsteps P Δ acc (⟨d, none, f, .al e cs⟩ :: r) T S = kc P Δ acc d f r T S (newV S e d cs) := by
  rw [b_cons]; cases d <;> rfl
theorem b_bx [Cfg] (e : TypeId) (x : X) : bsteps P Δ acc (⟨d, none, f, .bx e x⟩ :: r) T S = kc P Δ acc d f r T S (newV S e d (x.at T).cells) := by
  rw [b_cons]; cases d <;> rfl
theorem b_bd [Cfg] (z : List AV) (pl : List (Nat × Nat × X)) : bsteps P Δ acc (⟨d, none, f, .bd z pl⟩ :: r) T S = kv P Δ acc d f r T S ((fillB T z pl).map .agg) := by
  rw [b_cons]; simp only [bop]; cases fillB T z pl <;> rfl
theorem b_ld1 [Cfg] (x : X) : bsteps P Δ acc (⟨d, none, f, .ld1 x⟩ :: r) T S = kv P Δ acc d f r T S (ld1V S (x.at T)) := by rw [b_cons]; exact kr_map _
theorem b_ldn [Cfg] (n : Nat) (x : X) : bsteps P Δ acc (⟨d, none, f, .ldn n x⟩ :: r) T S = kv P Δ acc d f r T S (ldnV n S (x.at T)) := by rw [b_cons]; exact kr_map _
theorem b_st [Cfg] (n : Nat) (x v : X) : bsteps P Δ acc (⟨d, none, f, .st n x v⟩ :: r) T S = kc P Δ acc d f r T S ((stV n S (v.at T).cells (x.at T)).map fun y => (.lit undef, y.1, y.2)) := by
  rw [b_cons]; simp only [bop]; cases stV n S (v.at T).cells (x.at T) <;> rfl
theorem b_nc [Cfg] (x : X) : bsteps P Δ acc (⟨d, none, f, .nc x⟩ :: r) T S = kr P Δ acc d f false r T S (bop P S T d (.nc x)) := b_cons _
theorem b_nc_ptr [Cfg] {x : X} {p : Loc} {g n o : Nat} (h : x.at T = .ptr p g n o) : bop P S T d (.nc x) = some (.val (.ptr p g n o)) := by simp only [bop, h, anil]
theorem b_nc_cref [Cfg] {x : X} {cs : List AV} (h : x.at T = .cref cs) : bop P S T d (.nc x) = some (.val (.cref cs)) := by simp only [bop, h, anil]
theorem b_nc_fn [Cfg] {x : X} {g : FuncId} {cs : List AV} (h : x.at T = .fn g cs) : bop P S T d (.nc x) = some (.val (.fn g cs)) := by simp only [bop, h, anil]
theorem b_ib [Cfg] (op : BinOp) (x y : X) : bsteps P Δ acc (⟨d, none, f, .ib op x y⟩ :: r) T S = kv P Δ acc d f r T S (ibV op (x.at T) (y.at T)) := by rw [b_cons]; exact kr_map _
theorem b_sb [Cfg] (op : BinOp) (x y : X) : bsteps P Δ acc (⟨d, none, f, .sb op x y⟩ :: r) T S = kv P Δ acc d f r T S (sbV op (x.at T) (y.at T)) := by rw [b_cons]; exact kr_map _
theorem b_nt [Cfg] (x : X) : bsteps P Δ acc (⟨d, none, f, .nt x⟩ :: r) T S = kv P Δ acc d f r T S (ntV (x.at T)) := by rw [b_cons]; exact kr_map _
theorem b_bb [Cfg] (ne : Bool) (x y : X) : bsteps P Δ acc (⟨d, none, f, .bb ne x y⟩ :: r) T S = kv P Δ acc d f r T S (bbV ne (x.at T) (y.at T)) := by rw [b_cons]; exact kr_map _
theorem b_ce [Cfg] (ne : Bool) (offs : List (Nat × Nat)) (x y : X) : bsteps P Δ acc (⟨d, none, f, .ce ne offs x y⟩ :: r) T S = kv P Δ acc d f r T S (ceV ne offs (x.at T) (y.at T)) := by rw [b_cons]; exact kr_map _
theorem b_cvi [Cfg] (k : IntKind) (x : X) : bsteps P Δ acc (⟨d, none, f, .cvi k x⟩ :: r) T S = kv P Δ acc d f r T S (cviV k (x.at T)) := by rw [b_cons]; exact kr_map _
theorem b_mi [Cfg] (t : TypeId) (x : X) : bsteps P Δ acc (⟨d, none, f, .mi t x⟩ :: r) T S = bsteps P Δ (acc.push ⟨f.foot S T d, .none⟩) r (T.put d (.iface t (x.at T))) S := b_cons _
theorem b_mf [Cfg] (g : FuncId) (xs : List X) : bsteps P Δ acc (⟨d, none, f, .mf g xs⟩ :: r) T S = bsteps P Δ (acc.push ⟨f.foot S T d, .none⟩) r (T.put d (.fn g (xs.map (X.at T)))) S := b_cons _
theorem b_fa [Cfg] (off : Nat) (x : X) : bsteps P Δ acc (⟨d, none, f, .fa off x⟩ :: r) T S = kv P Δ acc d f r T S (offV off (x.at T)) := by rw [b_cons]; exact kr_map _
theorem b_fd1 [Cfg] (off : Nat) (x : X) : bsteps P Δ acc (⟨d, none, f, .fd1 off x⟩ :: r) T S = kv P Δ acc d f r T S (fd1V off (x.at T)) := by rw [b_cons]; exact kr_map _
theorem b_fdn [Cfg] (off n : Nat) (x : X) : bsteps P Δ acc (⟨d, none, f, .fdn off n x⟩ :: r) T S = kv P Δ acc d f r T S (fdnV off n (x.at T)) := by rw [b_cons]; exact kr_map _
theorem b_ia [Cfg] (n : Nat) (x i : X) : bsteps P Δ acc (⟨d, none, f, .ia n x i⟩ :: r) T S = kv P Δ acc d f r T S (iaV n (x.at T) (i.at T)) := by rw [b_cons]; exact kr_map _
theorem b_iaa [Cfg] (len n : Nat) (x i : X) : bsteps P Δ acc (⟨d, none, f, .iaa len n x i⟩ :: r) T S = kv P Δ acc d f r T S (iaaV len n (x.at T) (i.at T)) := by rw [b_cons]; exact kr_map _
theorem b_xs [Cfg] (x i : X) : bsteps P Δ acc (⟨d, none, f, .xs x i⟩ :: r) T S = kv P Δ acc d f r T S (xsV (x.at T) (i.at T)) := by rw [b_cons]; exact kr_map _
theorem b_ls [Cfg] (x : X) : bsteps P Δ acc (⟨d, none, f, .ls x⟩ :: r) T S = kv P Δ acc d f r T S (lsV (x.at T)) := by rw [b_cons]; exact kr_map _
theorem b_ll [Cfg] (x : X) : bsteps P Δ acc (⟨d, none, f, .ll x⟩ :: r) T S = kv P Δ acc d f r T S (llV (x.at T)) := by rw [b_cons]; exact kr_map _
theorem b_sls [Cfg] (x : X) (lo hi : Option X) : bsteps P Δ acc (⟨d, none, f, .sls x lo hi⟩ :: r) T S = kv P Δ acc d f r T S (slsV (x.at T) (lo.map (X.at T)) (hi.map (X.at T))) := by rw [b_cons]; exact kr_map _
theorem b_sll [Cfg] (n : Nat) (x : X) (lo hi mx : Option X) : bsteps P Δ acc (⟨d, none, f, .sll n x lo hi mx⟩ :: r) T S = kv P Δ acc d f r T S (sllV n (x.at T) (lo.map (X.at T)) (hi.map (X.at T)) (mx.map (X.at T))) := by rw [b_cons]; exact kr_map _
theorem b_ex [Cfg] (x : X) (i : Nat) : bsteps P Δ acc (⟨d, none, f, .ex x i⟩ :: r) T S = kv P Δ acc d f r T S (exV i (x.at T)) := by rw [b_cons]; exact kr_map _
theorem b_bsl [Cfg] (e : TypeId) (n : Nat) (xs : List X) : bsteps P Δ acc (⟨d, none, f, .bsl e n xs⟩ :: r) T S = kr P Δ acc d f true r T S (bop P S T d (.bsl e n xs)) := b_cons _
theorem bop_bsl_dead [Cfg] {d0 : Nat} {e : TypeId} {n : Nat} {xs : List X} (hl : Cfg.live S.fn d0 = false) (h1 : xs.all (fun x => (x.at T).cells.length == n) = true) (h2 : xs.all (fun x => (x.at T).cells.all AV.one) = true) :
    bop P S T (some d0) (.bsl e n xs) = some (.val (.list .full n (xs.map fun x => (x.at T).cells))) := by
  simp only [bop]
  rw [if_pos ⟨h1, h2⟩, hl]
  rfl
def apV [Cfg] (S : AS) (d : Option Nat) (e : TypeId) (n bytes : Nat) (s : AV) : Option (List (List AV)) → Option AR
  | some news => match d with
    | some d => appB S d e n bytes s news
    | none => none
  | none => none
theorem b_ap [Cfg] (e : TypeId) (n bytes : Nat) (s x : X) : bsteps P Δ acc (⟨d, none, f, .ap e n bytes s x⟩ :: r) T S = kr P Δ acc d f true r T S (apV S d e n bytes (s.at T) (aelems S n (x.at T))) := by
  rw [b_cons]
  simp only [bop]
  unfold apV
  cases d with
  | none => cases aelems S n (x.at T) <;> rfl
  | some d => cases aelems S n (x.at T) <;> rfl
theorem b_cl [Cfg] (g : FuncId) (xs : List X) : bsteps P Δ acc (⟨d, none, f, .cl g xs⟩ :: r) T S = kcall P Δ acc d f r T S g (xs.map (X.at T)) (!Cfg.up g S.fn && AV.closedL (xs.map (X.at T))) := by
  rw [b_cons]
  exact kr_call g _
def cdV (P : Program) : Option (FuncId × List AV) → List AV → Option AR
  | some (f, cs), args => if bodied P f then some (.call f (args ++ cs)) else none
  | none, _ => none
theorem b_cd [Cfg] (x : X) (xs : List X) : bsteps P Δ acc (⟨d, none, f, .cd x xs⟩ :: r) T S = kr P Δ acc d f true r T S (cdV P (acallee (x.at T)) (xs.map (X.at T))) := by
  rw [b_cons]
  simp only [bop]
  unfold cdV
  cases acallee (x.at T) <;> rfl
theorem cdV_some {g : FuncId} (h : bodied P g = true) (cs args : List AV) : cdV P (some (g, cs)) args = some (.call g (args ++ cs)) := by simp only [cdV, h, if_true]
theorem acallee_fn (g : FuncId) (cs : List AV) : acallee (.fn g cs) = some (g, cs) := rfl
theorem acallee_func (g : FuncId) : acallee (.lit (.func (.func g) #[] #[])) = some (g, []) := rfl

/-- Rounds, fewer and fewer to go. -/
theorem execB_rounds [Cfg] {c : BC} (I : Nat → BT → AS → Prop) (Q : AX → BT → AS → Prop)
    (h : ∀ k T S, I k T S → ∃ x T' S', execB P c T S = some (x, T', S') ∧ ((x = .normal ∧ ∃ j, j < k ∧ I j T' S') ∨ (x ≠ .normal ∧ Q x T' S'))) : ∀ k T S, I k T S → ∃ x T' S', execB P (.loop c) T S = some (x, T', S') ∧ Q x T' S' := by
  intro k
  induction k using Nat.strongRecOn with
  | _ k ih =>
    intro T S hI
    obtain ⟨x, T', S', h1, h2⟩ := h k T S hI
    rw [execB_loop, h1]
    rcases h2 with ⟨rfl, j, hj, hI'⟩ | ⟨hx, hQ⟩
    · exact ih j hj T' S' hI'
    · refine ⟨x, T', S', ?_, hQ⟩
      cases x with
      | normal => exact absurd rfl hx
      | _ => rfl

/-! ### Values -/
theorem pkV_bool (t : Bool) (a b : AV) : pkV (.lit (.bool t)) a b = some (if t then a else b) := rfl
theorem pkV_true (a b : AV) : pkV (.lit (.bool true)) a b = some a := rfl
theorem pkV_false (a b : AV) : pkV (.lit (.bool false)) a b = some b := rfl
theorem newV_some (e : TypeId) (d0 : Nat) (cs : List AV) : newV S e (some d0) cs = some (.ptr (S.here d0) (S.fresh (S.here d0)) 0 0, S.here d0, .obj (S.fresh (S.here d0)) e cs) := rfl
theorem ib_add (k : IntKind) (a b : Int) : ibV .add (.lit (.int k a)) (.lit (.int k b)) = some (.lit (.int k (k.wrap (a + b)))) := by simp [ibV, intB]
theorem ib_sub (k : IntKind) (a b : Int) : ibV .sub (.lit (.int k a)) (.lit (.int k b)) = some (.lit (.int k (k.wrap (a - b)))) := by simp [ibV, intB]
theorem ib_mul (k : IntKind) (a b : Int) : ibV .mul (.lit (.int k a)) (.lit (.int k b)) = some (.lit (.int k (k.wrap (a * b)))) := by simp [ibV, intB]
theorem ib_quo (k : IntKind) (a b : Int) (h : b ≠ 0) : ibV .quo (.lit (.int k a)) (.lit (.int k b)) = some (.lit (.int k (k.wrap (a.tdiv b)))) := by simp [ibV, intB, h]
theorem ib_rem (k : IntKind) (a b : Int) (h : b ≠ 0) : ibV .rem (.lit (.int k a)) (.lit (.int k b)) = some (.lit (.int k (a.tmod b))) := by simp [ibV, intB, h]
theorem ib_and (k : IntKind) (a b : Int) : ibV .and (.lit (.int k a)) (.lit (.int k b)) = some (.lit (.int k (k.wrap (BitVec.ofInt k.bits a &&& BitVec.ofInt k.bits b).toNat))) := by simp [ibV, intB]
theorem ib_or (k : IntKind) (a b : Int) : ibV .or (.lit (.int k a)) (.lit (.int k b)) = some (.lit (.int k (k.wrap (BitVec.ofInt k.bits a ||| BitVec.ofInt k.bits b).toNat))) := by simp [ibV, intB]
theorem ib_andNot (k : IntKind) (a b : Int) : ibV .andNot (.lit (.int k a)) (.lit (.int k b)) = some (.lit (.int k (k.wrap (BitVec.ofInt k.bits a &&& ~~~(BitVec.ofInt k.bits b)).toNat))) := by simp [ibV, intB]
theorem ib_shl (k k' : IntKind) (a b : Int) (h : 0 ≤ b) : ibV .shl (.lit (.int k a)) (.lit (.int k' b)) = some (.lit (.int k (k.wrap (a * 2 ^ (min b.toNat k.bits))))) := by simp [ibV, intB, h]
theorem ib_shr (k k' : IntKind) (a b : Int) (h : 0 ≤ b) : ibV .shr (.lit (.int k a)) (.lit (.int k' b)) = some (.lit (.int k (a.fdiv (2 ^ (min b.toNat k.bits))))) := by simp [ibV, intB, h]
theorem ib_eql (k : IntKind) (a b : Int) : ibV .eql (.lit (.int k a)) (.lit (.int k b)) = some (.lit (.bool (decide (a = b)))) := by simp [ibV, intB]
theorem ib_neq (k : IntKind) (a b : Int) : ibV .neq (.lit (.int k a)) (.lit (.int k b)) = some (.lit (.bool (decide (a ≠ b)))) := by simp [ibV, intB]
theorem ib_lss (k : IntKind) (a b : Int) : ibV .lss (.lit (.int k a)) (.lit (.int k b)) = some (.lit (.bool (decide (a < b)))) := by simp [ibV, intB]
theorem ib_leq (k : IntKind) (a b : Int) : ibV .leq (.lit (.int k a)) (.lit (.int k b)) = some (.lit (.bool (decide (a ≤ b)))) := by simp [ibV, intB]
theorem ib_gtr (k : IntKind) (a b : Int) : ibV .gtr (.lit (.int k a)) (.lit (.int k b)) = some (.lit (.bool (decide (b < a)))) := by simp [ibV, intB]
theorem ib_geq (k : IntKind) (a b : Int) : ibV .geq (.lit (.int k a)) (.lit (.int k b)) = some (.lit (.bool (decide (b ≤ a)))) := by simp [ibV, intB]
theorem quo_int (k : IntKind) (a : Nat) (b : Int) (h : 0 < b) : ibV .quo (.lit (.int k a)) (.lit (.int k b)) = some (.lit (.int k (k.wrap (a / b.toNat : Nat)))) := by
  rw [ib_quo k a b (by omega)]
  obtain ⟨n, rfl⟩ : ∃ n : Nat, b = n := ⟨b.toNat, by omega⟩
  congr 4
theorem rem_int (k : IntKind) (a : Nat) (b : Int) (h : 0 < b) : ibV .rem (.lit (.int k a)) (.lit (.int k b)) = some (.lit (.int k (a % b.toNat : Nat))) := by
  rw [ib_rem k a b (by omega)]
  obtain ⟨n, rfl⟩ : ∃ n : Nat, b = n := ⟨b.toNat, by omega⟩
  congr 4
theorem sb_add (a b : ByteArray) (h : (toL a).length + (toL b).length ≤ 9223372036854775807) : sbV .add (.lit (.string a)) (.lit (.string b)) = some (.lit (.string (bs (toL a ++ toL b)))) := by
  simp only [sbV, strB]; rw [if_pos h]; rfl
theorem sb_eql (a b : ByteArray) : sbV .eql (.lit (.string a)) (.lit (.string b)) = some (.lit (.bool (decide (toL a = toL b)))) := rfl
theorem sb_neq (a b : ByteArray) : sbV .neq (.lit (.string a)) (.lit (.string b)) = some (.lit (.bool (decide (toL a ≠ toL b)))) := rfl
theorem sb_lss (a b : ByteArray) : sbV .lss (.lit (.string a)) (.lit (.string b)) = some (.lit (.bool (Op.bytesLess (toL a) (toL b)))) := rfl
theorem ntV_bool (b : Bool) : ntV (.lit (.bool b)) = some (.lit (.bool !b)) := rfl
theorem cviV_int (k k' : IntKind) (n : Int) : cviV k (.lit (.int k' n)) = some (.lit (.int k (k.wrap n))) := rfl
theorem offV_ptr (off : Nat) (p : Loc) (g n o : Nat) : offV off (.ptr p g n o) = some (.ptr p g n (o + off)) := rfl
theorem offV_cref (off : Nat) (cs : List AV) : offV off (.cref cs) = some (.cref (cs.drop off)) := rfl
theorem fd1V_agg (off : Nat) (cs : List AV) : fd1V off (.agg cs) = cs[off]? := rfl
theorem fdnV_agg (off n : Nat) (cs : List AV) : fdnV off n (.agg cs) = if off + n ≤ cs.length then some (.agg ((cs.drop off).take n)) else none := rfl
theorem iaV_list (n : Nat) (sp : Spare) (es : List (List AV)) (k : IntKind) (i : Int) (h : 0 ≤ i) : iaV n (.list sp n es) (.lit (.int k i)) = (es[i.toNat]?).map .cref := by simp [iaV, h]
theorem iaaV_in (len n : Nat) (a : AV) (k : IntKind) (i : Int) (h0 : 0 ≤ i) (h1 : i < len) : iaaV len n a (.lit (.int k i)) = offV (i.toNat * n) a := by simp [iaaV, h0, h1]
theorem xsV_in (s : ByteArray) (k : IntKind) (i : Int) (h0 : 0 ≤ i) (h1 : i < (toL s).length) : xsV (.lit (.string s)) (.lit (.int k i)) = some (.lit (.int .u8 ((toL s).getD i.toNat 0).toNat)) := by simp only [xsV]; rw [if_pos ⟨h0, h1⟩]
theorem lsV_str (s : ByteArray) : lsV (.lit (.string s)) = some (.lit (.int .i64 (toL s).length)) := rfl
theorem llV_list (sp : Spare) (sz : Nat) (es : List (List AV)) : llV (.list sp sz es) = some (.lit (.int .i64 es.length)) := rfl
theorem llV_nil (a : Option Addr) (c : Nat) : llV (.lit (.slice a 0 c)) = some (.lit (.int .i64 0)) := rfl
theorem slsV_both (s : ByteArray) (k k' : IntKind) (l h : Int) (h0 : 0 ≤ l) (h1 : l ≤ h) (h2 : h ≤ (toL s).length) : slsV (.lit (.string s)) (some (.lit (.int k l))) (some (.lit (.int k' h))) = some (.lit (.string (bs (((toL s).take h.toNat).drop l.toNat)))) := by
  have : 0 ≤ h := by omega
  simp only [slsV, abound, h0, this, if_true]
  rw [if_pos ⟨by omega, by omega⟩]
theorem slsV_lo (s : ByteArray) (k : IntKind) (l : Int) (h0 : 0 ≤ l) (h1 : l ≤ (toL s).length) : slsV (.lit (.string s)) (some (.lit (.int k l))) none = some (.lit (.string (bs ((toL s).drop l.toNat)))) := by
  simp only [slsV, abound, h0, if_true]
  rw [if_pos ⟨by omega, Nat.le_refl _⟩, List.take_length]
theorem slsV_hi (s : ByteArray) (k : IntKind) (h : Int) (h0 : 0 ≤ h) (h1 : h ≤ (toL s).length) : slsV (.lit (.string s)) none (some (.lit (.int k h))) = some (.lit (.string (bs ((toL s).take h.toNat)))) := by
  simp only [slsV, abound, h0, if_true]
  rw [if_pos ⟨Nat.zero_le _, by omega⟩]
  rfl
theorem exV_tup (i : Nat) (cs : List AV) : exV i (.tup cs) = cs[i]? := rfl
theorem ld1V_cref (cs : List AV) : ld1V S (.cref cs) = cs.head? := rfl
theorem ldnV_cref (n : Nat) (cs : List AV) : ldnV n S (.cref cs) = if n ≤ cs.length then some (.agg (cs.take n)) else none := rfl
theorem ld1V_obj {p : Loc} {g off : Nat} {t : TypeId} {cs : List AV} (h : S.get p = some (.obj g t cs)) : ld1V S (.ptr p g 0 off) = (cs.drop off).head? := by simp [ld1V, aread, AS.cellsAt, h]
theorem ldnV_obj {p : Loc} {g off n : Nat} {t : TypeId} {cs : List AV} (h : S.get p = some (.obj g t cs)) : ldnV n S (.ptr p g 0 off) = if n ≤ (cs.drop off).length then some (.agg ((cs.drop off).take n)) else none := by simp [ldnV, aread, AS.cellsAt, h]
theorem stV_obj {p : Loc} {g off n : Nat} {t : TypeId} {cs xs : List AV} (h : S.get p = some (.obj g t cs)) (h1 : xs.length = n) (h2 : off + xs.length ≤ cs.length) (h3 : xs.all AV.one = true) : stV n S xs (.ptr p g 0 off) = some (p, .obj g t (splice cs off xs)) := by
  simp only [stV, AS.write, AS.cellsAt, h, and_self, if_true]
  rw [if_pos h1, if_pos ⟨h2, h3⟩]
  rfl
theorem splice_nil (cs xs : List AV) : splice cs 0 xs = xs ++ cs.drop xs.length := by simp [splice]
theorem splice_succ (c : AV) (cs xs : List AV) (n : Nat) : splice (c :: cs) (n + 1) xs = c :: splice cs n xs := by
  simp only [splice, List.take_succ_cons, List.cons_append, show n + 1 + xs.length = (n + xs.length) + 1 by omega, List.drop_succ_cons]
theorem fillB_nil (cs : List AV) : fillB T cs [] = some cs := rfl
theorem fillB_cons (cs : List AV) (off size : Nat) (x : X) (l : List (Nat × Nat × X)) (h : (x.at T).cells.length = size) (h2 : off + size ≤ cs.length) : fillB T cs ((off, size, x) :: l) = fillB T (splice cs off (x.at T).cells) l := by
  conv => lhs; unfold fillB
  rw [if_pos ⟨h, h2⟩]
theorem aelems_list (n : Nat) (sp : Spare) (es : List (List AV)) : aelems S n (.list sp n es) = some es := by simp [aelems]
theorem aelems_nil (a : Option Addr) (n : Nat) : aelems S n (.lit (.slice a 0 0)) = some [] := rfl
theorem apV_some [Cfg] (d0 : Nat) (e : TypeId) (n bytes : Nat) (s : AV) (news : List (List AV)) : apV S (some d0) e n bytes s (some news) = appB S d0 e n bytes s news := rfl
theorem big_ok {m bytes : Nat} (hb : bytes ≤ 100000) (hl : m ≤ 1000000000) : m ≤ maxLen ∧ m * bytes ≤ 140737488355328 := by
  refine ⟨by unfold maxLen; omega, ?_⟩
  have := Nat.mul_le_mul hl hb
  omega
theorem appB_no_nil [Cfg] (d0 : Nat) (e : TypeId) (n bytes : Nat) : appB S d0 e n bytes (.lit (.slice none 0 0)) [] = some (.val (.lit (.slice none 0 0))) := rfl
theorem appB_no_list [Cfg] (d0 : Nat) (e : TypeId) (n bytes : Nat) (sp : Spare) (sz : Nat) (es : List (List AV)) : appB S d0 e n bytes (.list sp sz es) [] = some (.val (.list sp sz es)) := rfl
theorem anewRow_dead [Cfg] {d0 : Nat} {e : TypeId} {sz : Nat} {es : List (List AV)} (hl : Cfg.live S.fn d0 = false) : anewRow S d0 e sz es = .chg (.list (.own (S.here d0) (S.fresh (S.here d0))) sz es) (S.here d0) (.tok (S.fresh (S.here d0)) es.length sz e) := by
  unfold anewRow; rw [hl]; rfl
theorem appB_nil [Cfg] {d0 : Nat} {e : TypeId} {n bytes : Nat} {news : List (List AV)} (hl : Cfg.live S.fn d0 = false) (h1 : news.all (fun e => e.all AV.one) = true) (h0 : 0 < news.length) (hb : bytes ≤ 100000) (hn : news.length ≤ 1000000000) :
    appB S d0 e n bytes (.lit (.slice none 0 0)) news = some (.chg (.list (.own (S.here d0) (S.fresh (S.here d0))) n news) (S.here d0) (.tok (S.fresh (S.here d0)) news.length n e)) := by
  unfold appB
  rw [if_pos h1, if_neg (by omega)]
  simp only
  rw [if_pos (big_ok hb hn), anewRow_dead hl]
theorem appB_full [Cfg] {d0 : Nat} {e : TypeId} {n bytes : Nat} {news es : List (List AV)} (hl : Cfg.live S.fn d0 = false) (h1 : news.all (fun e => e.all AV.one) = true) (h0 : 0 < news.length) (hb : bytes ≤ 100000) (hn : es.length + news.length ≤ 1000000000) :
    appB S d0 e n bytes (.list .full n es) news = some (.chg (.list (.own (S.here d0) (S.fresh (S.here d0))) n (es ++ news)) (S.here d0) (.tok (S.fresh (S.here d0)) (es.length + news.length) n e)) := by
  unfold appB
  rw [if_pos h1, if_neg (by omega)]
  simp only
  rw [if_pos ⟨trivial, big_ok hb hn⟩, anewRow_dead hl, List.length_append]
theorem appB_own [Cfg] {d0 : Nat} {e : TypeId} {n bytes : Nat} {news es : List (List AV)} {p : Loc} {g : Nat} (hs : S.get p = some (.tok g es.length n e)) (h1 : news.all (fun e => e.all AV.one) = true) (h0 : 0 < news.length) (hb : bytes ≤ 100000)
    (hn : es.length + news.length ≤ 1000000000) : appB S d0 e n bytes (.list (.own p g) n es) news = some (.chg (.list (.own p g) n (es ++ news)) p (.tok g (es.length + news.length) n e)) := by
  unfold appB
  rw [if_pos h1, if_neg (by omega)]
  simp only [hs]
  rw [if_pos ⟨trivial, trivial, trivial, trivial, trivial, big_ok hb hn⟩]
theorem wrap_i64 {a : Int} (h1 : -9223372036854775808 ≤ a) (h2 : a ≤ 9223372036854775807) : IntKind.i64.wrap a = a := IntWalk.i64_in a ⟨h1, h2⟩
theorem wrap_u8 {a : Int} (h1 : 0 ≤ a) (h2 : a ≤ 255) : IntKind.u8.wrap a = a := by
  unfold IntKind.wrap
  have : IntKind.u8.bits = 8 := rfl
  have hs : IntKind.u8.signed = false := rfl
  simp only [this, hs, Bool.false_and]
  have : a % 2 ^ 8 = a := Int.emod_eq_of_lt h1 (by omega)
  simpa using this

/-! ### The store -/
theorem enter_lvl (g : FuncId) : (S.enter g).lvl = S.lvl + 1 := rfl
theorem enter_fn (g : FuncId) : (S.enter g).fn = g := rfl
theorem enter_dfr (g : FuncId) : (S.enter g).dfr = [] := rfl
theorem enter_get (g : FuncId) (p : Loc) : (S.enter g).get p = S.get p := rfl
theorem set_lvl (p : Loc) (s : ASlot) : (S.set p s).lvl = S.lvl := rfl
theorem set_fn (p : Loc) (s : ASlot) : (S.set p s).fn = S.fn := rfl
theorem set_dfr (p : Loc) (s : ASlot) : (S.set p s).dfr = S.dfr := rfl
theorem set_get (p q : Loc) (s : ASlot) : (S.set p s).get q = if q = p then some s else S.get q := by
  by_cases h : q = p
  · subst h; rw [if_pos rfl]; exact AS.get_set_same _ _ _
  · rw [if_neg h]; exact AS.get_set_ne _ _ h
theorem bare_get (p : Loc) : AS.bare.get p = none := rfl
theorem here_eq (d0 : Nat) : S.here d0 = ⟨S.lvl, d0, 0⟩ := rfl
theorem fresh_eq (p : Loc) : S.fresh p = match S.get p with | none => 0 | some s => s.gen + 1 := rfl
theorem loc_eq (a b c x y z : Nat) : ((⟨a, b, c⟩ : Loc) = ⟨x, y, z⟩) = (a = x ∧ b = y ∧ c = z) := by simp
theorem filter_logPut (f : Loc → Bool) : ∀ (lg : List Loc) (p : Loc), f p = false → (logPut lg p).filter f = lg.filter f
  | [], p, h => by simp [logPut, h]
  | q :: r, p, h => by
    unfold logPut
    split
    · rfl
    · split
      · simp only [List.filter_cons, filter_logPut f r p h]
      · simp [List.filter_cons, h]
theorem outs_enter (g : FuncId) (l : Nat) : (S.enter g).outs l = [] := rfl
theorem outs_set_own (l : Nat) (p : Loc) (s : ASlot) (h : l < p.l) : (S.set p s).outs l = S.outs l := filter_logPut _ _ _ (by simpa using h)
theorem frz_lv_true {l n : Nat} {a : AV} (h : a.lv l = true) : frz l S (n + 1) a = some a := by
  unfold frz
  rw [if_pos h]

/-- What a call hands up that changes nothing of the store. -/
theorem handUp_same [Cfg] {S' : AS} {g : FuncId} {v : AV} (hup : Cfg.up g S.fn = false) (ho : S'.outs S.lvl = []) : handUp g S S' v = (frz S.lvl S' 100000 v).map fun x => (x, none) := by
  unfold handUp
  simp only [hup, Bool.false_eq_true, if_false, ho]
  cases frz S.lvl S' 100000 v <;> rfl
theorem handUp_plain [Cfg] {S' : AS} {g : FuncId} {v : AV} (hup : Cfg.up g S.fn = false) (ho : S'.outs S.lvl = []) (hv : v.lv S.lvl = true) : handUp g S S' v = some (v, none) := by
  rw [handUp_same hup ho, frz_lv_true hv]
  rfl

/-! ### The end of a call -/
def bret [Cfg] (g : FuncId) (S S' : AS) : Option (List AV) → Option (AE × Upd)
  | some vs => (handUp g S S' (tupled vs)).map fun y => (.ret y.1, y.2)
  | none => none
theorem bfin_ret [Cfg] {S' : AS} {g : FuncId} {res : List BR} (hd : S'.dfr = []) : bfin g res S (some (.ret, T, S')) = bret g S S' (bresL S' T res) := by
  unfold bfin bret
  simp only [hd]
  cases bresL S' T res <;> rfl
theorem bfin_normal [Cfg] {S' : AS} {g : FuncId} {res : List BR} (hd : S'.dfr = []) : bfin g res S (some (.normal, T, S')) = bret g S S' (bresL S' T res) := by
  unfold bfin bret
  simp only [hd]
  cases bresL S' T res <;> rfl
theorem bfin_pan [Cfg] {S' : AS} {g : FuncId} {res : List BR} {v : AV} (hd : S'.dfr = []) : bfin g res S (some (.pan v, T, S')) = (handUp g S S' v).map fun y => (.pan y.1, y.2) := by
  unfold bfin
  simp only [hd]
theorem bret_plain [Cfg] {S' : AS} {g : FuncId} {vs : List AV} (hup : Cfg.up g S.fn = false) (ho : S'.outs S.lvl = []) (hv : (tupled vs).lv S.lvl = true) : bret g S S' (some vs) = some (.ret (tupled vs), none) := by
  unfold bret
  simp only
  rw [handUp_plain hup ho hv]
  rfl
theorem bresL_nil : bresL S T [] = some [] := rfl
def bresK (v : Option AV) (vs : Option (List AV)) : Option (List AV) := match v, vs with
  | some v, some vs => some (v :: vs)
  | _, _ => none
theorem bresL_cons (x : BR) (l : List BR) : bresL S T (x :: l) = bresK (bres S T x) (bresL S T l) := by
  conv => lhs; unfold bresL
  unfold bresK
  cases bres S T x <;> cases bresL S T l <;> rfl
theorem bresK_some (v : AV) (vs : List AV) : bresK (some v) (some vs) = some (v :: vs) := rfl
theorem bres_t (n : Nat) : bres S T (.t n) = some (T n) := rfl
theorem bres_c1 (a : Nat) : bres S T (.c1 a) = ld1V S (T a) := rfl
theorem bres_cn (a n : Nat) : bres S T (.cn a n) = ldnV n S (T a) := rfl
theorem tupled_1 (v : AV) : tupled [v] = v := rfl
theorem tupled_2 (v u : AV) (l : List AV) : tupled (v :: u :: l) = .tup (v :: u :: l) := rfl
theorem tupled_0 : tupled [] = .tup [] := rfl
theorem aargs_down [Cfg] {g h : FuncId} (hup : Cfg.up g h = false) (args : List AV) : aargs g h args = args.map AV.normA := by unfold aargs; rw [hup]; rfl
theorem normA_lit (v : Value) : AV.normA (.lit v) = .lit v := rfl
theorem normA_list (sp : Spare) (sz : Nat) (es : List (List AV)) : AV.normA (.list sp sz es) = .list .no sz es := rfl
theorem normA_agg (cs : List AV) : AV.normA (.agg cs) = .agg (cs.map AV.norm1) := rfl
theorem normA_iface (t : TypeId) (a : AV) : AV.normA (.iface t a) = .iface t a := rfl
theorem normA_ptr (p : Loc) (g n o : Nat) : AV.normA (.ptr p g n o) = .ptr p g n o := rfl
theorem normA_cref (cs : List AV) : AV.normA (.cref cs) = .cref cs := rfl
theorem normA_fn (g : FuncId) (cs : List AV) : AV.normA (.fn g cs) = .fn g cs := rfl
theorem norm1_lit (v : Value) : AV.norm1 (.lit v) = .lit v := rfl
theorem norm1_list (sp : Spare) (sz : Nat) (es : List (List AV)) : AV.norm1 (.list sp sz es) = .list .no sz es := rfl
theorem norm1_agg (cs : List AV) : AV.norm1 (.agg cs) = .agg cs := rfl
theorem norm1_iface (t : TypeId) (a : AV) : AV.norm1 (.iface t a) = .iface t a := rfl
theorem norm1_ptr (p : Loc) (g n o : Nat) : AV.norm1 (.ptr p g n o) = .ptr p g n o := rfl
theorem norm1_cref (cs : List AV) : AV.norm1 (.cref cs) = .cref cs := rfl
theorem norm1_fn (g : FuncId) (cs : List AV) : AV.norm1 (.fn g cs) = .fn g cs := rfl
theorem cells_int (k : IntKind) (n : Int) : AV.cells (.lit (.int k n)) = [.lit (.int k n)] := rfl
theorem cells_bool (b : Bool) : AV.cells (.lit (.bool b)) = [.lit (.bool b)] := rfl
theorem cells_str (s : ByteArray) : AV.cells (.lit (.string s)) = [.lit (.string s)] := rfl
theorem cells_slice (a : Option Addr) (n c : Nat) : AV.cells (.lit (.slice a n c)) = [.lit (.slice a n c)] := rfl
theorem cells_pointer (a : Option Addr) : AV.cells (.lit (.pointer a)) = [.lit (.pointer a)] := rfl
theorem cells_nilIface : AV.cells (.lit .nilIface) = [.lit .nilIface] := rfl
theorem cells_map (a : Option Nat) : AV.cells (.lit (.map a)) = [.lit (.map a)] := rfl
theorem cells_func (g : Fn) (a b : Array Value) : AV.cells (.lit (.func g a b)) = [.lit (.func g a b)] := rfl
theorem cells_agg (cs : List AV) : AV.cells (.agg cs) = cs := rfl
theorem cells_list (sp : Spare) (sz : Nat) (es : List (List AV)) : AV.cells (.list sp sz es) = [.list sp sz es] := rfl
theorem cells_iface (t : TypeId) (a : AV) : AV.cells (.iface t a) = [.iface t a] := rfl
theorem cells_ptr (p : Loc) (g n o : Nat) : AV.cells (.ptr p g n o) = [.ptr p g n o] := rfl
theorem cells_cref (cs : List AV) : AV.cells (.cref cs) = [.cref cs] := rfl
theorem cells_fn (g : FuncId) (cs : List AV) : AV.cells (.fn g cs) = [.fn g cs] := rfl
theorem cells_mref (p : Loc) (g : Nat) : AV.cells (.mref p g) = [.mref p g] := rfl
end
attribute [go_sem]
  X_t X_c put_at put_no argsT_zero argsT_succ argsT_nil condK_true condK_false seqB_normal seqB_exit seqB_ret seqB_pan blockB_normal blockB_ret blockB_pan blockB_same bend_normal
  bend_pan bdraw_nil acc0_nil acc0_cons push_no push_yes b_nil b_guard kv_some kc_some kr_val kr_chg kr_pan kr_dfr kcl_ret kcl_pan kop_ret kop_pan kcall_closed kcall_open kg_true
  kg_false b_gen b_mv b_pk b_al b_bx b_bd b_ld1 b_ldn b_st b_nc b_ib b_sb b_nt b_bb b_ce b_cvi b_mi b_mf b_fa b_fd1 b_fdn b_ia b_iaa b_xs b_ls b_ll b_sls b_sll b_ex b_bsl b_ap b_cl b_cd
  acallee_fn acallee_func pkV_true pkV_false newV_some ib_add ib_sub ib_mul ib_and ib_or ib_andNot ib_eql ib_neq ib_lss ib_leq ib_gtr ib_geq sb_eql sb_neq sb_lss ntV_bool cviV_int offV_ptr
  offV_cref fd1V_agg fdnV_agg lsV_str llV_list llV_nil exV_tup ld1V_cref ldnV_cref splice_nil splice_succ fillB_nil aelems_list aelems_nil apV_some appB_no_nil appB_no_list
  enter_lvl enter_fn enter_dfr enter_get set_lvl set_fn set_dfr set_get bare_get loc_eq outs_enter bresL_nil bresL_cons bresK_some bres_t bres_c1 bres_cn tupled_1 tupled_2 tupled_0
  normA_lit normA_list normA_agg normA_iface normA_ptr normA_cref normA_fn norm1_lit norm1_list norm1_agg norm1_iface norm1_ptr norm1_cref norm1_fn cells_int cells_bool cells_str
  cells_slice cells_pointer cells_nilIface cells_map cells_func cells_agg cells_list cells_iface cells_ptr cells_cref cells_fn cells_mref execB_skip execB_exit execB_ret execB_ops
  execB_draw execB_seq execB_block toL_bs execB_condK b_nc_ptr b_nc_cref b_nc_fn bop_bsl_dead bwanted_some wantV_true wantV_false bdraw_cons appB_nil appB_full appB_own stV_obj ld1V_obj ldnV_obj wrap_i64
  wrap_u8 bret_plain bfin_ret bfin_normal bfin_pan quo_int rem_int ib_shl ib_shr sb_add iaV_list iaaV_in xsV_in slsV_both slsV_lo slsV_hi fillB_cons cdV_some blockB_other outs_set_own

end Go.Proofs.YtjdccpmbaobpdaaGreatDoor

namespace Go.Proofs.YtjdccpmbaobpdaaGreatDoor
open Go.RowKit

/-- Bytes. -/
def u8s (l : List UInt8) : List (List AV) := l.map fun b => [.lit (.int .u8 b.toNat)]
def byteList : List (List AV) → Option (List UInt8)
  | [] => some []
  | [.lit (.int .u8 n)] :: r => if 0 ≤ n ∧ n < 256 then (byteList r).map (UInt8.ofNat n.toNat :: ·) else none
  | _ => none
theorem byteList_u8s (l : List UInt8) : byteList (u8s l) = some l := by
  induction l with
  | nil => rfl
  | cons a r ih =>
    have h1 : a.toNat < 256 := UInt8.toNat_lt a
    simp only [u8s, List.map_cons]
    unfold byteList
    rw [if_pos ⟨by omega, by omega⟩]
    have : byteList (List.map (fun b : UInt8 => [AV.lit (.int .u8 b.toNat)]) r) = some r := ih
    rw [this]
    simp
theorem byteList_inv : ∀ {es : List (List AV)} {l : List UInt8}, byteList es = some l → es = u8s l
  | [], l, h => by
    simp only [byteList, Option.some.injEq] at h
    subst h; rfl
  | e :: r, l, h => by
    unfold byteList at h
    split at h
    · rename_i e1; cases e1
    · rename_i n r' e1
      cases e1
      split at h
      · rename_i hn
        obtain ⟨l', h1, rfl⟩ := Option.map_eq_some_iff.1 h
        have := byteList_inv h1
        subst this
        have hto : ((UInt8.ofNat n.toNat).toNat : Int) = n := by
          have : (UInt8.ofNat n.toNat).toNat = n.toNat := by simp [UInt8.toNat_ofNat']; omega
          rw [this]; omega
        simp only [u8s, List.map_cons, hto]
      · cases h
    · cases h

/-- The text of a builder whose bytes lie in a row of its own. -/
def givenString (u8 : TypeId) : List AV → AS → Option (AE × Upd)
  | [.ptr p g n off], S => match aread S (.ptr p g n off) with
    | some (_ :: .list (.own q h) 1 es :: _) => match S.get q with
      | some (.tok h' m 1 e) => if h' = h ∧ m = es.length ∧ e = u8 ∧ es.length ≠ 0 ∧ es.length ≤ maxLen then (byteList es).map fun b => (.ret (.lit (.string (bs b))), none) else none
      | _ => none
    | some (_ :: .lit (.slice none 0 0) :: _) => some (.ret (.lit (.string (bs []))), none)
    | _ => none
  | _, _ => none
/-- A copy of a map. -/
def givenClone : List AV → AS → Option (AE × Upd)
  | [.mref p g], S => match S.get p with
    | some (.map g' es ck) => if g' = g ∧ (S.get ⟨S.lvl, 0, nextName S.lvl S.tab⟩).isNone = true then
        some (.ret (.mref ⟨S.lvl, 0, nextName S.lvl S.tab⟩ 0), some (S.tab.put ⟨S.lvl, 0, nextName S.lvl S.tab⟩ (.map 0 es ck), [⟨S.lvl, 0, nextName S.lvl S.tab⟩])) else none
    | _ => none
  | _, _ => none
/-- How many zeros stand behind a number's last 1, of the one number that is asked for. -/
def givenTz : List AV → AS → Option (AE × Upd)
  | [.lit (.int .u64 n)], _ => if n = 8 then some (.ret (.lit (.int .i64 3)), none) else none
  | _, _ => none
end Go.Proofs.YtjdccpmbaobpdaaGreatDoor

namespace Go.Proofs.YtjdccpmbaobpdaaGreatDoor
open Go.RowKit Go.Shelf

section
variable {P : Program} {ρ : Ren}

set_option maxHeartbeats 1000000 in
set_option maxRecDepth 100000 in
theorem builder_string (L : Lays.n169 P ρ) (X : Builder.Extra P ρ) (b off g cap : Nat) (l : List UInt8) (cur : Array Value) (fr : Nat × Nat) (w : World) (h0 : l ≠ []) (c1 : w.cell? ⟨b, off + 1, none⟩ = some (.slice (some ⟨g, 0, none⟩) l.length cap))
    (hg : w.heap[g]? = some (.cells cur (ρ.t 5) fr)) (hnc : l.length ≤ cap) (hlen : l.length ≤ cur.size) (hcm : l.length ≤ maxLen) (hcells : ∀ j x, l[j]? = some x → w.cell? ⟨g, j, none⟩ = some (.int .u8 x.toNat)) :
    Calls P (ρ.f 169) #[.pointer (some ⟨b, off, none⟩)] w fun e w' => e = .returned (.string ⟨l.toArray⟩) ∧ w' = w.drew.freeze ⟨g, 0, none⟩ l.length := by
  have hl0 : l.length ≠ 0 := by simpa using h0
  have c1 : w.drew.cell? ⟨b, off + 1, none⟩ = some (.slice (some ⟨g, 0, none⟩) l.length cap) := c1
  have hSD : (Builtin.unsafeSliceData_ #[(ρ.t 37)] (ρ.t 127) #[.slice (some ⟨g, 0, none⟩) l.length cap]).run P w.drew = .ok (.pointer (some ⟨g, 0, none⟩)) w.drew :=
    Lib.run_unsafeSliceData_row _ _ _ _ _ _ (by omega)
  have hUS : (Builtin.unsafeString_ #[(ρ.t 127), (ρ.t 3)] (ρ.t 9) #[.pointer (some ⟨g, 0, none⟩), .int .i64 l.length]).run P w.drew = .ok (.string ⟨l.toArray⟩) (w.drew.freeze ⟨g, 0, none⟩ l.length) := by
    refine Lib.run_unsafeString_row w.drew (ρ.t 127) (ρ.t 3) (ρ.t 9) (ρ.t 5) L.t127 X.cellsByte g cur.size (by have hg' : w.drew.heap[g]? = some (.cells cur (ρ.t 5) fr) := hg; simp [World.shape?, hg']) l h0 (by omega) (by unfold maxLen at hcm; omega) ?_
    intro j x hx
    have := hcells j x hx
    simp only [Addr.add]
    split
    · rename_i hj; subst hj; exact this
    · simpa using this
  have mixed := L.mixed
  have t72 := L.t72; have a72 := L.a72; have z72 := L.z72; have v72 := L.v72; have u72 := run_underlying L.t72
  have t70 := L.t70; have a70 := L.a70; have z70 := L.z70; have v70 := L.v70; have u70 := run_underlying L.t70
  have t37 := L.t37; have a37 := L.a37; have z37 := L.z37; have v37 := L.v37; have u37 := run_underlying L.t37
  have t127 := L.t127; have a127 := L.a127; have z127 := L.z127; have v127 := L.v127; have u127 := run_underlying L.t127
  have t3 := L.t3; have a3 := L.a3; have z3 := L.z3; have v3 := L.v3; have u3 := run_underlying L.t3
  have t9 := L.t9; have a9 := L.a9; have z9 := L.z9; have v9 := L.v9; have u9 := run_underlying L.t9
  have t5 := X.t5; have a5 := X.a5; have z5 := X.z5; have v5 := X.v5; have u5 := run_underlying X.t5
  go_enter L.f169, Body.n169_ntmps ρ
  go_wp2
  go_region_o
  all_goals (go_wp2; go_ret; exact ⟨rfl, rfl⟩)

set_option maxHeartbeats 1000000 in
set_option maxRecDepth 100000 in
theorem builder_string_nil (L : Lays.n169 P ρ) (X : Builder.Extra P ρ) (b off : Nat) (w : World) (c1 : w.cell? ⟨b, off + 1, none⟩ = some (.slice none 0 0)) :
    Calls P (ρ.f 169) #[.pointer (some ⟨b, off, none⟩)] w fun e w' => e = .returned (.string ⟨#[]⟩) ∧ w' = w.drew := by
  have hUS := Any.unsafeString_none L X
  have c1 : w.drew.cell? ⟨b, off + 1, none⟩ = some (.slice none 0 0) := c1
  have hSD : (Builtin.unsafeSliceData_ #[(ρ.t 37)] (ρ.t 127) #[.slice none 0 0]).run P w.drew = .ok (.pointer none) w.drew := rfl
  have mixed := L.mixed
  have t72 := L.t72; have a72 := L.a72; have z72 := L.z72; have v72 := L.v72; have u72 := run_underlying L.t72
  have t70 := L.t70; have a70 := L.a70; have z70 := L.z70; have v70 := L.v70; have u70 := run_underlying L.t70
  have t37 := L.t37; have a37 := L.a37; have z37 := L.z37; have v37 := L.v37; have u37 := run_underlying L.t37
  have t127 := L.t127; have a127 := L.a127; have z127 := L.z127; have v127 := L.v127; have u127 := run_underlying L.t127
  have t3 := L.t3; have a3 := L.a3; have z3 := L.z3; have v3 := L.v3; have u3 := run_underlying L.t3
  have t9 := L.t9; have a9 := L.a9; have z9 := L.z9; have v9 := L.v9; have u9 := run_underlying L.t9
  have t5 := X.t5; have a5 := X.a5; have z5 := X.z5; have v5 := X.v5; have u5 := run_underlying X.t5
  go_enter L.f169, Body.n169_ntmps ρ
  go_wp2
  go_region_o
  all_goals (go_wp2; go_ret; exact ⟨rfl, rfl⟩)

theorem froze_of_freeze {G : Gh} {w : World} {b : Nat} {cur : Array Value} {t : TypeId} {fr : Nat × Nat} {n : Nat} (hb : w.heap[b]? = some (.cells cur t fr)) (hn : 0 < n) (hfar : G.far ≤ b) (himm : ∀ o, o < n → ∃ v, G.imm b o = some v) :
    Froze G w.heap[b]? (w.freeze ⟨b, 0, none⟩ n).heap[b]? b := by
  have hlt : b < w.heap.size := (Array.getElem?_eq_some_iff.1 hb).1
  have hne : ¬ n = 0 := by omega
  refine ⟨cur, t, fr, if fr.1 == fr.2 then (0, 0 + n) else (min fr.1 0, max fr.2 (0 + n)), hb, ?_, ⟨0, himm 0 hn⟩, hfar, fun o ho => ?_⟩
  · unfold World.freeze
    rw [if_neg hne]
    simp only [Array.getElem?_modify, if_true, hb, Option.map_some]
  · have ho' : o < n ∨ o < fr.2 := by
      split at ho
      · exact .inl (by simpa using ho)
      · simp only at ho; omega
    rcases ho' with h | h
    · exact .inr ⟨o, (himm o h).choose, Nat.le_refl _, (himm o h).choose_spec⟩
    · exact .inl h

/-- What is told of String holds. -/
theorem givenString_ok [Cfg] (L : Lays.n169 P ρ) (X : Builder.Extra P ρ) {args : List AV} {S : AS} {x : AE} {r : Upd} (h : givenString (ρ.t 5) args S = some (x, r)) {G : Gh} {w : World} {B : Nat → Nat} {args' : List Value} (hW : WRel G S w B) (ha : CRel G args args') :
    Calls P (ρ.f 169) args'.toArray w fun e w' => ∃ G', AE.rel G' x e ∧ WRel G' (S.after r) w' B ∧ Mod G S w G' (S.after r) w' := by
  unfold givenString at h
  split at h
  case h_2 => cases h
  rename_i p g n off
  obtain ⟨v, hv, hr⟩ : ∃ v, args' = [v] ∧ VRel G (.ptr p g n off) v := by
    cases args' with
    | nil => exact absurd ha.1 (by simp)
    | cons v t => cases t with
      | nil => exact ⟨v, rfl, ha.head⟩
      | cons _ _ => exact absurd ha.1 (by simp)
  subst hv
  split at h
  · rename_i a q hh es rest hread
    split at h
    case h_2 => cases h
    rename_i h' m e hq
    split at h
    case isFalse => cases h
    rename_i hc
    obtain ⟨rfl, rfl, rfl, hne, hml⟩ := hc
    obtain ⟨l, hl, hx⟩ := Option.map_eq_some_iff.1 h
    cases hx
    have hes := byteList_inv hl
    subst hes
    obtain ⟨b, off', vs, rfl, hcr, hcell⟩ := aread_sound hW hread hr
    obtain ⟨u, hu, hvr⟩ := hcr.get (i := 1) (a := .list (.own q h') 1 (u8s l)) rfl
    have hc1 := hcell 1 u hu
    have hlen : (u8s l).length = l.length := by simp [u8s]
    cases hvr with
    | list _ _ _ gb o cap val hn hm hsz h1 h2 hs =>
      obtain ⟨rfl, hown⟩ := hs
      obtain ⟨k1, vs2, fr, k2, k3, k4, k5⟩ := hW.slot q _ hq rfl gb cap hown
      have hpos : 0 < l.length := by rw [hlen] at hne; omega
      have himm : ∀ j x, l[j]? = some x → G.imm gb j = some (.int .u8 x.toNat) := fun j x hx => by
        have hj : j < l.length := (List.getElem?_eq_some_iff.1 hx).1
        have e1 := h1 j 0 (by omega) (by omega)
        have e2 := h2 j 0 [.lit (.int .u8 x.toNat)] (.lit (.int .u8 x.toNat)) (by simp [u8s, hx]) rfl
        rw [e2.lit_inv] at e1
        simpa using e1
      have hcells : ∀ j x, l[j]? = some x → w.cell? ⟨gb, j, none⟩ = some (.int .u8 x.toNat) := fun j x hx => hW.imm _ _ _ (himm j x hx)
      have hbase := hW.base _ _ _ _ _ hown
      have hql := (hW.dom _ _ _ _ hown).1
      rw [hlen] at hc1 hn k4
      have hnb := hc1
      refine (builder_string L X b off' gb cap l vs2 fr w (by intro e; subst e; simp at hpos) (by simpa using hc1) k2 hn (by rw [k3]; omega) (by omega) hcells).mono ?_
      rintro e w' ⟨rfl, rfl⟩
      have hfz : Froze G w.drew.heap[gb]? (w.drew.freeze ⟨gb, 0, none⟩ l.length).heap[gb]? gb := froze_of_freeze (w := w.drew) k2 hpos (Nat.le_trans hW.far.1 (Nat.le_trans (hW.mono 0 q.l (Nat.zero_le _) hql) hbase.1)) fun o ho =>
        ⟨_, himm o l[o] (List.getElem?_eq_getElem ho)⟩
      have hne : ¬ l.length = 0 := by omega
      obtain ⟨m1, m2⟩ := hW.drew.froze hfz (fun x hx => by unfold World.freeze; rw [if_neg hne]; simp only [Array.getElem?_modify]; rw [if_neg (Ne.symm hx)]) (by unfold World.freeze; rw [if_neg hne]; simp) (by unfold World.freeze; rw [if_neg hne]) (by unfold World.freeze; rw [if_neg hne]) (by unfold World.freeze; rw [if_neg hne])
      exact ⟨G, ⟨_, rfl, .lit _⟩, m1, (Mod.drew G S w).trans m2⟩
  · rename_i a rest hread
    cases h
    obtain ⟨b, off', vs, rfl, hcr, hcell⟩ := aread_sound hW hread hr
    obtain ⟨u, hu, hvr⟩ := hcr.get (i := 1) (a := .lit (.slice none 0 0)) rfl
    have hc1 := hcell 1 u hu
    rw [hvr.lit_inv] at hc1
    refine (builder_string_nil L X b off' w (by simpa using hc1)).mono ?_
    rintro e w' ⟨rfl, rfl⟩
    exact ⟨G, ⟨_, rfl, .lit _⟩, hW.drew, Mod.drew G S w⟩
  · cases h

/-- What is told of maps.Clone holds. -/
theorem givenClone_ok [Cfg] (L : SlLaysW.n5 P ρ) {args : List AV} {S : AS} {x : AE} {r : Upd} (h : givenClone args S = some (x, r)) {G : Gh} {w : World} {B : Nat → Nat} {args' : List Value} (hW : WRel G S w B) (ha : CRel G args args') :
    Calls P (ρ.f 5) args'.toArray w fun e w' => ∃ G', AE.rel G' x e ∧ WRel G' (S.after r) w' B ∧ Mod G S w G' (S.after r) w' := by
  unfold givenClone at h
  split at h
  case h_2 => cases h
  rename_i p g
  split at h
  case h_2 => cases h
  rename_i g' es ck hp
  split at h
  case isFalse => cases h
  rename_i hc
  obtain ⟨rfl, hnew⟩ := hc
  obtain ⟨v, hv, hr⟩ : ∃ v, args' = [v] ∧ VRel G (.mref p g') v := by
    cases args' with
    | nil => exact absurd ha.1 (by simp)
    | cons v t => cases t with
      | nil => exact ⟨v, rfl, ha.head⟩
      | cons _ _ => exact absurd ha.1 (by simp)
  subst hv
  cases hr with
  | mref _ _ b c ho =>
    obtain ⟨ents, k1, k2⟩ := hW.slot p _ hp rfl b c ho
    have hnone : S.get ⟨S.lvl, 0, nextName S.lvl S.tab⟩ = none := by simpa using hnew
    refine (AnyW.maps_Clone L b ents ck w k1).mono ?_
    rintro e w' ⟨rfl, rfl⟩
    cases h
    obtain ⟨G', m1, m2, m3⟩ := hW.newSlot (p := ⟨S.lvl, 0, nextName S.lvl S.tab⟩) (Nat.le_refl _) (.map 0 es ck) (by simp [AS.fresh, hnone, ASlot.gen]) (.map ents ck) 0 (show (ASlot.map 0 es ck).lv S.lvl = true from hW.lvs p (.map g' es ck) hp) fun G' hle _ => ⟨ents, heap_alloc_new w _, k2.mono hle⟩
    exact ⟨G', ⟨_, rfl, .mref _ _ _ _ m1⟩, m2, m3⟩
end
end Go.Proofs.YtjdccpmbaobpdaaGreatDoor

namespace Go.Proofs.YtjdccpmbaobpdaaGreatDoor
open Go.RowKit

/-- Of a world in which nothing is ours: all cells stay. -/
def Gh.start (w : World) : Gh := { own := fun _ _ _ => none, imm := fun b o => w.cell? ⟨b, o, none⟩, far := w.heap.size }

theorem WRel.start [Cfg] (w : World) (ht : ∀ x ∈ Cfg.tabs, w.cell? ⟨x.1, x.2.1, none⟩ = some x.2.2) : WRel (Gh.start w) .bare w (fun _ => w.heap.size) := by
  refine ⟨fun _ _ _ h => h, fun p s hp => ?_, fun p s hp => ?_, fun p q s t hp => ?_, fun p g n x ho => ?_, fun p g n b c ho => ?_, fun l m _ _ => Nat.le_refl _, fun l _ => Nat.le_refl _, Nat.le_refl _, ht⟩
  · cases hp
  · cases hp
  · cases hp
  · cases ho
  · cases ho

theorem Mod.below {w w' : World} {G' : Gh} {S' : AS} (h : Mod (Gh.start w) .bare w G' S' w') (hl : S'.log = []) : Below w.heap.size w w' := by
  obtain ⟨nl, k1, k2, _, _⟩ := h.log
  refine ⟨h.os, h.tape, h.output, h.size, fun b hb => ?_⟩
  have hno : ∀ p, ¬ nl p := fun p hp => by
    have := (k1 p).2 (.inr hp)
    rw [hl] at this
    cases this
  rcases k2 b hb with e | ⟨_, _, _, _, _, _, _, hf, _⟩ | ⟨p, hp, _⟩
  · exact e
  · rw [h.le.far] at hf
    have : w.heap.size ≤ b := hf
    omega
  · exact absurd hp (hno p)

/-- A law that holds, as a call: it answers true, and all the memory there was is as it was. -/
theorem calls_true [Cfg] {P : Program} (hC : CfgOk P) (hG : GivenOk P) (hm : P.follows .mixedOrders = true) {f : FuncId} {args : List AV} (h : callT P f args .bare = some (.ret (.lit (.bool true)), none)) {W : World} {args' : Array Value} (ht : ∀ x ∈ Cfg.tabs, W.cell? ⟨x.1, x.2.1, none⟩ = some x.2.2)
    (ha : CRel (Gh.start W) args args'.toList) : Calls P f args' W fun e W' => e = .returned (.bool true) ∧ Below W.heap.size W W' := by
  have := (callT_sound hC hG hm f args .bare _ _ h).2 (Gh.start W) W _ args'.toList (WRel.start W ht) ha
  refine this.mono fun e W' ⟨G', h1, h2, h3⟩ => ⟨?_, h3.below rfl⟩
  obtain ⟨v, rfl, hv⟩ := h1
  rw [hv.lit_inv]
end Go.Proofs.YtjdccpmbaobpdaaGreatDoor

namespace Go.Proofs.YtjdccpmbaobpdaaGreatDoor
open Go.RowKit Go.Deep

/-- A slice that was given: it may be nil, or lie nowhere, where it is empty. -/
def slV (sz : Nat) : List (List AV) → Option (Option Addr) → AV
  | [], some a => .lit (.slice a 0 0)
  | es, _ => .list .no sz es

theorem slV_cons {sz : Nat} {es : List (List AV)} {k : Option (Option Addr)} (h : es ≠ []) : slV sz es k = .list .no sz es := by
  unfold slV
  split
  · exact absurd rfl h
  · rfl

theorem slV_none {sz : Nat} {es : List (List AV)} : slV sz es none = .list .no sz es := by cases es <;> rfl

inductive Sh where
  | bool | int (k : IntKind) | str | seq (s : Sh) | nil | cons (s r : Sh)

def Sh.cells : Sh → Nat
  | .nil => 0
  | .cons s r => s.cells + r.cells
  | _ => 1

def Sh.Ty : Sh → Type
  | .bool => Bool
  | .int _ => Int
  | .str => List UInt8
  | .seq s => List s.Ty × Option (Option Addr)
  | .nil => Unit
  | .cons s r => s.Ty × r.Ty

def Sh.avs : (s : Sh) → s.Ty → List AV
  | .bool, b => [.lit (.bool b)]
  | .int k, n => [.lit (.int k n)]
  | .str, l => [.lit (.string (bs l))]
  | .seq s, x => [slV s.cells (x.1.map s.avs) x.2]
  | .nil, _ => []
  | .cons s r, x => s.avs x.1 ++ r.avs x.2

/-- What is known of them. -/
def Sh.wf : (s : Sh) → s.Ty → Prop
  | .bool, _ => True
  | .int k, n => (Lit.int k n).wf = true
  | .str, l => l.length ≤ maxLen
  | .seq s, x => x.1.length ≤ maxLen ∧ ∀ y ∈ x.1, s.wf y
  | .nil, _ => True
  | .cons s r, x => s.wf x.1 ∧ r.wf x.2

mutual
def Sh.ok (P : Program) : Sh → TypeId → Bool
  | .bool, t => (match P.underlying t with | some .bool => true | _ => false)
  | .int k, t => (match P.underlying t with | some (.int k') => k' == k | _ => false)
  | .str, t => (match P.underlying t with | some .string => true | _ => false)
  | .seq s, t => (match P.underlying t with | some (.slice e) => s.ok P e && P.cellsOf e == s.cells && decide (0 < s.cells) | _ => false)
  | .nil, t => (match P.underlying t with | some (.struct fs) => fs.toList.isEmpty && P.cellsOf t == 0 | _ => false)
  | .cons s r, t => (match P.underlying t with
    | some (.struct fs) => (match fs.toList with
      | f :: l => s.ok P f.type && P.cellsOf f.type == s.cells && f.offset == 0 && r.okF P l s.cells && P.cellsOf t == s.cells + r.cells
      | [] => false)
    | _ => false)
def Sh.okF (P : Program) : Sh → List Field → Nat → Bool
  | .nil, [], _ => true
  | .cons s r, f :: l, off => s.ok P f.type && P.cellsOf f.type == s.cells && f.offset == off && r.okF P l (off + s.cells)
  | _, _, _ => false
end

theorem Sh.avs_length : (s : Sh) → (x : s.Ty) → (s.avs x).length = s.cells
  | .bool, _ => rfl
  | .int _, _ => rfl
  | .str, _ => rfl
  | .seq _, _ => rfl
  | .nil, _ => rfl
  | .cons s r, x => by
    show (s.avs x.1 ++ r.avs x.2).length = s.cells + r.cells
    rw [List.length_append, s.avs_length, r.avs_length]

theorem addr_plain {w : World} {a : Addr} {v : Value} (h : w.cell? a = some v) : ∃ b off, a = ⟨b, off, none⟩ := by
  obtain ⟨b, off, s⟩ := a
  cases s with
  | none => exact ⟨b, off, rfl⟩
  | some s =>
    unfold World.cell? at h
    split at h
    · simp at h
    · cases h

section
variable {P : Program} {w : World} {H : Type} {enc : TypeId × Value → H} {held : Bool}

theorem open_lit {v : Value} : CRel (Gh.start w) [.lit v] [v] := CRel.cons (.lit v) (CRel.nil _)

theorem pick_lt {α : Type} {n : Nat} {p : Nat → α → Prop} (h : ∀ i, i < n → ∃ x, p i x) : ∃ l : List α, l.length = n ∧ ∀ (i : Nat) x, l[i]? = some x → p i x := by
  induction n with
  | zero => exact ⟨[], rfl, fun i x hx => by simp at hx⟩
  | succ n ih =>
    obtain ⟨l, hl, hp⟩ := ih fun i hi => h i (by omega)
    obtain ⟨x, hx⟩ := h n (by omega)
    refine ⟨l ++ [x], by simp [hl], fun i y hy => ?_⟩
    by_cases hi : i < l.length
    · rw [List.getElem?_append_left hi] at hy
      exact hp i y hy
    · rw [List.getElem?_append_right (by omega)] at hy
      have : i - l.length = 0 := by
        have := (List.getElem?_eq_some_iff.1 hy).1
        simp at this
        omega
      rw [this] at hy
      simp at hy
      subst hy
      obtain rfl : i = n := by omega
      exact hx

mutual
/-- A value that was read is of its shape. -/
theorem Sh.open : (s : Sh) → {t : TypeId} → {n : Nat} → {cs : List Value} → {x : DataW H × List MemPlace} → s.ok P t = true → DataW.trod enc P w 0 (fun _ => true) held n t cs = some x →
    ∃ y : s.Ty, CRel (Gh.start w) (s.avs y) cs ∧ s.wf y
  | .bool, t, n, cs, x, hs, h => by
    unfold Sh.ok at hs
    split at hs
    · rename_i hu
      obtain ⟨b, rfl, _⟩ := DataW.trod_bool hu h
      exact ⟨b, open_lit, trivial⟩
    · cases hs
  | .int k, t, n, cs, x, hs, h => by
    unfold Sh.ok at hs
    split at hs
    · rename_i hu
      obtain rfl := eq_of_beq hs
      obtain ⟨b, rfl, _, hw⟩ := DataW.trod_int hu h
      exact ⟨b, open_lit, hw⟩
    · cases hs
  | .str, t, n, cs, x, hs, h => by
    unfold Sh.ok at hs
    split at hs
    · rename_i hu
      obtain ⟨b, rfl, _, hw⟩ := DataW.trod_string hu h
      refine ⟨toL b, ?_, ?_⟩
      · show CRel _ [.lit (.string (bs (toL b)))] _
        rw [bs_toL]
        exact open_lit
      · show (toL b).length ≤ maxLen
        simpa [toL] using hw
    · cases hs
  | .seq s, t, n, cs, x, hs, h => by
    unfold Sh.ok at hs
    split at hs
    case h_2 => cases hs
    rename_i e hu
    simp only [Bool.and_eq_true, beq_iff_eq, decide_eq_true_eq] at hs
    obtain ⟨⟨hs, hc⟩, hpos⟩ := hs
    rcases open_slice hu h with ⟨h1, _⟩ | ⟨a, len, cap, m, n', D, Pl, h1, _, h3, h4, h5, _, h7⟩
    · subst h1
      exact ⟨([], some none), open_lit, Nat.zero_le _, fun y hy => by cases hy⟩
    · subst h1
      have hm : m = cap := by rw [h5]; rfl
      subst hm
      rw [hc] at h7
      by_cases h0 : m = 0
      · subst h0
        obtain rfl : len = 0 := by omega
        exact ⟨([], some (some a)), open_lit, Nat.zero_le _, fun y hy => by cases hy⟩
      · obtain ⟨b, off, rfl⟩ : ∃ b off, a = ⟨b, off, none⟩ := by
          obtain ⟨cs', k1, _⟩ := h7 0 (by omega)
          obtain ⟨_, kl, k2⟩ := World.cells?_some k1
          have := k2 0 hpos
          rw [List.getElem?_eq_getElem (by omega)] at this
          have e : (a.add (0 * s.cells)).add 0 = a := by simp [Addr.add]
          rw [e] at this
          exact addr_plain this
        obtain ⟨l, hl, hp⟩ := pick_lt (α := s.Ty) (n := len) (p := fun i y => ∃ vs : List Value, CRel (Gh.start w) (s.avs y) vs ∧ s.wf y ∧ ∀ (j : Nat) v, vs[j]? = some v → w.cell? ⟨b, off + (i * s.cells + j), none⟩ = some v) fun i hi => by
          obtain ⟨cs', k1, k2⟩ := h7 i (by omega)
          obtain ⟨y, k3, k4⟩ := s.open hs k2
          obtain ⟨_, kl, k5⟩ := World.cells?_some k1
          refine ⟨y, cs', k3, k4, fun j v hv => ?_⟩
          have hj : j < s.cells := by rw [← kl]; exact (List.getElem?_eq_some_iff.1 hv).1
          have := k5 j hj
          rw [hv, addr_add', addr_add'] at this
          rw [← Nat.add_assoc]
          exact this
        refine ⟨(l, none), CRel.cons ?_ (CRel.nil _), ?_, fun y hy => ?_⟩
        · have hsl : slV s.cells (l.map s.avs) none = .list .no s.cells (l.map s.avs) := slV_none
          show VRel _ (slV s.cells (l.map s.avs) none) _
          rw [hsl]
          have hlm : (l.map s.avs).length = len := by simp [hl]
          have := VRel.list (G := Gh.start w) .no s.cells (l.map s.avs) b off m (fun i j => (w.cell? ⟨b, off + (i * s.cells + j), none⟩).getD undef) (by omega) h4 (fun e he => by
            obtain ⟨y, _, rfl⟩ := List.mem_map.1 he
            exact s.avs_length y) (fun i j hi hj => ?_) (fun i j e a he ha => ?_) trivial
          · rw [hlm] at this
            exact this
          · rw [hlm] at hi
            obtain ⟨vs, q1, _, q3⟩ := hp i l[i] (List.getElem?_eq_getElem (by omega))
            have hlt : j < vs.length := by rw [← q1.1, s.avs_length]; exact hj
            have := q3 j vs[j] (List.getElem?_eq_getElem hlt)
            show w.cell? _ = some ((w.cell? _).getD undef)
            rw [this]
            rfl
          · rw [List.getElem?_map] at he
            obtain ⟨y, hy, rfl⟩ := Option.map_eq_some_iff.1 he
            obtain ⟨vs, q1, _, q3⟩ := hp i y hy
            obtain ⟨v, hv, hr⟩ := q1.get ha
            rw [q3 j v hv]
            exact hr
        · show l.length ≤ maxLen
          omega
        · obtain ⟨i, hi⟩ := List.getElem?_of_mem hy
          exact (hp i y hi).choose_spec.2.1
  | .nil, t, n, cs, x, hs, h => by
    unfold Sh.ok at hs
    split at hs
    case h_2 => cases hs
    rename_i fs hu
    simp only [Bool.and_eq_true, beq_iff_eq] at hs
    obtain ⟨xs, n', _, _, hl, _⟩ := DataW.trod_struct hu h
    refine ⟨(), ?_, trivial⟩
    obtain rfl : cs = [] := List.length_eq_zero_iff.1 (by omega)
    exact CRel.nil _
  | .cons s r, t, n, cs, x, hs, h => by
    unfold Sh.ok at hs
    split at hs
    case h_2 => cases hs
    rename_i fs hu
    split at hs
    case h_2 => cases hs
    rename_i f l hfs
    simp only [Bool.and_eq_true, beq_iff_eq] at hs
    obtain ⟨⟨⟨⟨h1, h2⟩, h3⟩, h4⟩, h5⟩ := hs
    obtain ⟨xs, n', _, _, hl, hlen, hf⟩ := DataW.trod_struct hu h
    have hget : ∀ (i : Nat) g, (f :: l)[i]? = some g → ∃ z, DataW.trod enc P w 0 (fun _ => true) held n' g.type ((cs.drop g.offset).take (P.cellsOf g.type)) = some z := by
      intro i g hg
      rw [← hfs] at hg
      have hg' : fs[i]? = some g := by simpa using hg
      have hi : i < fs.size := (Array.getElem?_eq_some_iff.1 hg').1
      refine ⟨xs[i]'(by omega), ?_⟩
      rw [hf i g hg', List.getElem?_eq_getElem (by omega)]
    obtain ⟨z, hz⟩ := hget 0 f rfl
    rw [h3, h2, List.drop_zero] at hz
    obtain ⟨y, k1, k2⟩ := s.open h1 hz
    obtain ⟨y', k3, k4⟩ := r.openF (cs := cs) h4 fun i g hg => ⟨n', hget (i + 1) g (by simpa using hg)⟩
    refine ⟨(y, y'), ?_, k2, k4⟩
    have e : cs = cs.take s.cells ++ (cs.drop s.cells).take r.cells := by
      rw [List.take_of_length_le (l := cs.drop s.cells) (by simp; omega), List.take_append_drop]
    rw [e]
    exact k1.append k3
theorem Sh.openF : (s : Sh) → {l : List Field} → {off : Nat} → {cs : List Value} → s.okF P l off = true →
    (∀ (i : Nat) g, l[i]? = some g → ∃ n z, DataW.trod enc P w 0 (fun _ => true) held n g.type ((cs.drop g.offset).take (P.cellsOf g.type)) = some (z : DataW H × List MemPlace)) →
    ∃ y : s.Ty, CRel (Gh.start w) (s.avs y) ((cs.drop off).take s.cells) ∧ s.wf y
  | .nil, [], off, cs, _, _ => ⟨(), by rw [show Sh.nil.cells = 0 from rfl, List.take_zero]; exact CRel.nil _, trivial⟩
  | .cons s r, f :: l, off, cs, hs, h => by
    unfold Sh.okF at hs
    simp only [Bool.and_eq_true, beq_iff_eq] at hs
    obtain ⟨⟨⟨h1, h2⟩, h3⟩, h4⟩ := hs
    obtain ⟨n, z, hz⟩ := h 0 f rfl
    rw [h3, h2] at hz
    obtain ⟨y, k1, k2⟩ := s.open h1 hz
    obtain ⟨y', k3, k4⟩ := r.openF (cs := cs) h4 fun i g hg => h (i + 1) g (by simpa using hg)
    refine ⟨(y, y'), ?_, k2, k4⟩
    have e : (cs.drop off).take (s.cells + r.cells) = (cs.drop off).take s.cells ++ (cs.drop (off + s.cells)).take r.cells := by
      rw [List.take_add, List.drop_drop]
    show CRel _ (s.avs y ++ r.avs y') ((cs.drop off).take (s.cells + r.cells))
    rw [e]
    exact k1.append k3
  | .nil, _ :: _, _, _, hs, _ => by cases hs
  | .cons _ _, [], _, _, hs, _ => by cases hs
  | .bool, [], _, _, hs, _ => by cases hs
  | .bool, _ :: _, _, _, hs, _ => by cases hs
  | .int _, [], _, _, hs, _ => by cases hs
  | .int _, _ :: _, _, _, hs, _ => by cases hs
  | .str, [], _, _, hs, _ => by cases hs
  | .str, _ :: _, _, _, hs, _ => by cases hs
  | .seq _, [], _, _, hs, _ => by cases hs
  | .seq _, _ :: _, _, _, hs, _ => by cases hs
end
end
end Go.Proofs.YtjdccpmbaobpdaaGreatDoor

namespace Go.Proofs.YtjdccpmbaobpdaaGreatDoor
open Go.RowKit

section
variable {sz : Nat} {es : List (List AV)} {k : Option (Option Addr)} {S : AS}
theorem sl_cases (sz : Nat) (es : List (List AV)) (k : Option (Option Addr)) : slV sz es k = .list .no sz es ∨ es = [] ∧ ∃ a, slV sz es k = .lit (.slice a 0 0) := by
  unfold slV
  split
  · exact .inr ⟨rfl, _, rfl⟩
  · exact .inl rfl
theorem llV_sl : llV (slV sz es k) = some (.lit (.int .i64 es.length)) := by
  rcases sl_cases sz es k with h | ⟨rfl, a, h⟩ <;> rw [h] <;> rfl
theorem aelems_sl : aelems S sz (slV sz es k) = some es := by
  rcases sl_cases sz es k with h | ⟨rfl, a, h⟩ <;> rw [h]
  · exact aelems_list _ _ _
  · rfl
theorem iaV_sl (kk : IntKind) (i : Int) (h : 0 ≤ i) (hi : i.toNat < es.length) : iaV sz (slV sz es k) (.lit (.int kk i)) = (es[i.toNat]?).map .cref := by
  rw [slV_cons (by intro e; subst e; exact absurd hi (Nat.not_lt_zero _))]
  exact iaV_list _ _ _ _ _ h
theorem cells_sl : AV.cells (slV sz es k) = [slV sz es k] := by
  rcases sl_cases sz es k with h | ⟨rfl, a, h⟩ <;> rw [h] <;> rfl
theorem norm1_sl : AV.norm1 (slV sz es k) = slV sz es k := by
  rcases sl_cases sz es k with h | ⟨rfl, a, h⟩ <;> rw [h] <;> rfl
theorem normA_sl : AV.normA (slV sz es k) = slV sz es k := by
  rcases sl_cases sz es k with h | ⟨rfl, a, h⟩ <;> rw [h] <;> rfl
theorem one_sl : AV.one (slV sz es k) = true := by
  rcases sl_cases sz es k with h | ⟨rfl, a, h⟩ <;> rw [h] <;> rfl
theorem closed_sl (h : AV.closedLL es = true) : AV.closed (slV sz es k) = true := by
  rcases sl_cases sz es k with h' | ⟨rfl, a, h'⟩ <;> rw [h']
  · simpa [AV.closed, Spare.closed] using h
  · rfl
end

theorem bare_lvl : AS.bare.lvl = 0 := rfl
def freshO : Option ASlot → Nat
  | none => 0
  | some s => s.gen + 1
theorem fresh_of (S : AS) (p : Loc) : S.fresh p = freshO (S.get p) := by
  unfold AS.fresh freshO
  split <;> simp_all
theorem freshO_none : freshO none = 0 := rfl
theorem freshO_some (s : ASlot) : freshO (some s) = s.gen + 1 := rfl

def readO (g n : Nat) : Option ASlot → Option (List AV)
  | some (.obj g' _ cs) => if g' = g ∧ n = 0 then some cs else none
  | some (.row g' n' _ _ cs) => if g' = g ∧ n' = n then some cs else none
  | _ => none
theorem readO_obj (g : Nat) (t : TypeId) (cs : List AV) : readO g 0 (some (.obj g t cs)) = some cs := by simp [readO]
theorem readO_row (g n sz : Nat) (t : TypeId) (cs : List AV) : readO g n (some (.row g n sz t cs)) = some cs := by simp [readO]
def ld1O (off : Nat) : Option (List AV) → Option AV
  | some cs => (cs.drop off).head?
  | none => none
theorem ld1O_some (off : Nat) (cs : List AV) : ld1O off (some cs) = (cs.drop off).head? := rfl
theorem ld1V_ptr (S : AS) (p : Loc) (g n off : Nat) : ld1V S (.ptr p g n off) = ld1O off (readO g n (S.get p)) := by
  have : S.cellsAt p g n = readO g n (S.get p) := rfl
  simp only [ld1V, aread, this]
  cases readO g n (S.get p) <;> rfl
def ldnO (m off : Nat) : Option (List AV) → Option AV
  | some cs => if m ≤ (cs.drop off).length then some (.agg ((cs.drop off).take m)) else none
  | none => none
theorem ldnO_some (m off : Nat) (cs : List AV) (h : off + m ≤ cs.length) : ldnO m off (some cs) = some (.agg ((cs.drop off).take m)) := by
  unfold ldnO
  exact if_pos (by rw [List.length_drop]; omega)
theorem ldnV_ptr (S : AS) (m : Nat) (p : Loc) (g n off : Nat) : ldnV m S (.ptr p g n off) = ldnO m off (readO g n (S.get p)) := by
  have : S.cellsAt p g n = readO g n (S.get p) := rfl
  simp only [ldnV, aread, this]
  cases readO g n (S.get p) <;> rfl
def stO (p : Loc) (g n off : Nat) (xs : List AV) (o : Option ASlot) : Option (Loc × ASlot) := match readO g n o, o with
  | some cs, some s => if off + xs.length ≤ cs.length ∧ xs.all AV.one = true then some (p, s.withCells (splice cs off xs)) else none
  | _, _ => none
theorem stV_ptr (S : AS) (m : Nat) (xs : List AV) (p : Loc) (g n off : Nat) (h : xs.length = m) : stV m S xs (.ptr p g n off) = stO p g n off xs (S.get p) := by
  simp only [stV, AS.write]
  rw [if_pos h]
  rfl
theorem stO_obj (p : Loc) (g off : Nat) (xs : List AV) (t : TypeId) (cs : List AV) (h1 : off + xs.length ≤ cs.length) (h2 : xs.all AV.one = true) : stO p g 0 off xs (some (.obj g t cs)) = some (p, .obj g t (splice cs off xs)) := by
  simp only [stO, readO_obj]
  rw [if_pos ⟨h1, h2⟩]
  rfl
theorem stO_row (p : Loc) (g n sz off : Nat) (xs : List AV) (t : TypeId) (cs : List AV) (h1 : off + xs.length ≤ cs.length) (h2 : xs.all AV.one = true) : stO p g n off xs (some (.row g n sz t cs)) = some (p, .row g n sz t (splice cs off xs)) := by
  simp only [stO, readO_row]
  rw [if_pos ⟨h1, h2⟩]
  rfl

/-- An argument that is a slice. -/
def Lst (sz : Nat) (es : List (List AV)) (a : AV) : Prop := ∃ k, a.norm1 = slV sz es k ∧ a.normA = slV sz es k
theorem Lst.sl (sz : Nat) (es : List (List AV)) (k : Option (Option Addr)) : Lst sz es (slV sz es k) := ⟨k, norm1_sl, normA_sl⟩
theorem Lst.list (sp : Spare) (sz : Nat) (es : List (List AV)) : Lst sz es (.list sp sz es) := ⟨none, slV_none.symm, slV_none.symm⟩
theorem Lst.nil (sz : Nat) (a : Option Addr) : Lst sz [] (.lit (.slice a 0 0)) := ⟨some a, rfl, rfl⟩

theorem bbV_lit (ne a b : Bool) : bbV ne (.lit (.bool a)) (.lit (.bool b)) = some (.lit (.bool (decide (a = b) != ne))) := rfl
theorem toVL_nil : AV.toVL [] = some [] := rfl
theorem toVL_lit (v : Value) (r : List AV) : AV.toVL (.lit v :: r) = (AV.toVL r).map (v :: ·) := by
  show (match AV.toV (.lit v), AV.toVL r with | some a, some b => some (a :: b) | _, _ => none) = _
  show (match some v, AV.toVL r with | some a, some b => some (a :: b) | _, _ => none) = _
  cases AV.toVL r <;> rfl
theorem toV_agg (cs : List AV) : AV.toV (.agg cs) = (AV.toVL cs).map fun vs => .agg vs.toArray := rfl
theorem ceV_some (ne : Bool) (offs : List (Nat × Nat)) {a b : AV} {xs ys : List Value} (ha : a.toV = some (.agg xs.toArray)) (hb : b.toV = some (.agg ys.toArray)) : ceV ne offs a b = (eqL offs xs.toArray ys.toArray).map fun b => .lit (.bool (b != ne)) := by
  simp only [ceV, ha, hb]

/-- A call that ends as it should, of functions without defers: it hands up nothing of its own. -/
theorem b_fin {P : Program} [Cfg] {f : FuncId} {b : BFn} {args : List AV} {T : BT} {S' : AS} {vs : List AV} (hg : Cfg.given f = none) (hf : compF P f = some b) (ha : args.length ≤ b.nt) (hup : Cfg.up f 0 = false)
    (h : execB P b.code (argsT (args.map AV.normA)) (AS.bare.enter f) = some (.ret, T, S')) (hd : S'.dfr = []) (hr : bresL S' T b.res = some vs) (ho : S'.outs 0 = []) (hv : (tupled vs).lv 0 = true) : callT P f args .bare = some (.ret (tupled vs), none) := by
  refine callT_of hg hf ha ?_
  rw [aargs_down (h := AS.bare.fn) hup, h, bfin_ret hd, hr]
  exact bret_plain hup ho hv
/-- A loop that counts up. -/
theorem for_rounds [Cfg] {P : Program} {c : BC} (n : Nat) (Inv : Nat → BT → AS → Prop) (Post : AX → BT → AS → Prop)
    (step : ∀ i T S, i < n → Inv i T S → ∃ x T' S', execB P c T S = some (x, T', S') ∧ (x = .normal ∧ Inv (i + 1) T' S' ∨ x ≠ .normal ∧ Post x T' S'))
    (last : ∀ T S, Inv n T S → ∃ x T' S', execB P c T S = some (x, T', S') ∧ x ≠ .normal ∧ Post x T' S') (T : BT) (S : AS) (h : Inv 0 T S) :
    ∃ x T' S', execB P (.loop c) T S = some (x, T', S') ∧ Post x T' S' :=
  execB_rounds (P := P) (c := c) (fun k T S => ∃ i, k = n - i ∧ i ≤ n ∧ Inv i T S) Post
    (by
      rintro k T S ⟨i, rfl, hi, hI⟩
      rcases Nat.lt_or_ge i n with hlt | hge
      · obtain ⟨x, T', S', k1, k2⟩ := step i T S hlt hI
        rcases k2 with ⟨k2, k3⟩ | ⟨k2, k3⟩
        · exact ⟨x, T', S', k1, .inl ⟨k2, n - (i + 1), by omega, i + 1, rfl, hlt, k3⟩⟩
        · exact ⟨x, T', S', k1, .inr ⟨k2, k3⟩⟩
      · obtain rfl : i = n := by omega
        obtain ⟨x, T', S', k1, k2, k3⟩ := last T S hI
        exact ⟨x, T', S', k1, .inr ⟨k2, k3⟩⟩) n T S ⟨0, rfl, Nat.zero_le _, h⟩
theorem loop_then [Cfg] {P : Program} {c : BC} {I : BT → AS → Prop} {Q : BT → AS → AX → BT → AS → Prop} (h : ∀ T S, I T S → ∃ x T' S', execB P (.loop c) T S = some (x, T', S') ∧ Q T S x T' S') {T : BT} {S : AS} {R : XB → Prop} (hI : I T S)
    (k : ∀ x T' S', Q T S x T' S' → R (some (x, T', S'))) : R (execB P (.loop c) T S) := by
  obtain ⟨x, T', S', k1, k2⟩ := h T S hI
  rw [k1]
  exact k x T' S' k2
attribute [-go_sem] ld1V_obj ldnV_obj stV_obj
attribute [go_sem] readO_obj readO_row ld1O_some ld1V_ptr ldnO_some ldnV_ptr stV_ptr stO_obj stO_row bare_lvl here_eq fresh_of freshO_none freshO_some llV_sl aelems_sl iaV_sl cells_sl norm1_sl normA_sl one_sl bbV_lit toVL_nil toVL_lit toV_agg
end Go.Proofs.YtjdccpmbaobpdaaGreatDoor

namespace Go.Proofs.YtjdccpmbaobpdaaGreatDoor
open Go.RowKit

section
variable {l n : Nat} {S : AS}
theorem frz_lit (v : Value) : frz l S (n + 1) (.lit v) = some (.lit v) := frz_lv_true rfl
theorem frzL_same : ∀ {n : Nat} {cs : List AV}, AV.lvL l cs = true → cs.length < n → frzL l S n cs = some cs
  | 0, _, _, h => absurd h (Nat.not_lt_zero _)
  | n + 1, [], _, _ => rfl
  | n + 1, a :: r, h, hn => by
    simp only [AV.lvL, Bool.and_eq_true] at h
    simp only [List.length_cons] at hn
    have h1 := frzL_same (n := n) (cs := r) h.2 (by omega)
    obtain ⟨m, rfl⟩ : ∃ m, n = m + 1 := ⟨n - 1, by omega⟩
    unfold frzL
    rw [frz_lv_true h.1, h1]
theorem frz_agg (cs : List AV) (hn : cs.length < n) : frz l S (n + 1) (.agg cs) = (frzL l S n cs).map .agg := by
  conv => lhs; unfold frz
  split
  · rename_i h
    rw [frzL_same h hn]
    rfl
  · rfl
theorem frz_tup (cs : List AV) (hn : cs.length < n) : frz l S (n + 1) (.tup cs) = (frzL l S n cs).map .tup := by
  conv => lhs; unfold frz
  split
  · rename_i h
    rw [frzL_same h hn]
    rfl
  · rfl
theorem frz_cref (cs : List AV) (hn : cs.length < n) : frz l S (n + 1) (.cref cs) = (frzL l S n cs).map .cref := by
  conv => lhs; unfold frz
  split
  · rename_i h
    rw [frzL_same h hn]
    rfl
  · rfl
theorem frz_iface (t : TypeId) (a : AV) : frz l S (n + 2) (.iface t a) = (frz l S (n + 1) a).map (.iface t) := by
  conv => lhs; unfold frz
  split
  · rename_i h
    have h' : a.lv l = true := h
    rw [frz_lv_true h']
    rfl
  · rfl
def consK {α : Type} : Option α → Option (List α) → Option (List α)
  | some x, some y => some (x :: y)
  | _, _ => none
theorem consK_some {α : Type} (x : α) (y : List α) : consK (some x) (some y) = some (x :: y) := rfl
theorem frzL_nil : frzL l S (n + 1) [] = some [] := rfl
theorem frzL_cons (a : AV) (r : List AV) : frzL l S (n + 1) (a :: r) = consK (frz l S n a) (frzL l S n r) := by
  conv => lhs; unfold frzL
  unfold consK
  cases frz l S n a <;> cases frzL l S n r <;> rfl
theorem frzLL_same {es : List (List AV)} (h : AV.lvLL l es = true) : frzLL l S (n + 1) es = some es := by
  unfold frzLL
  cases es with
  | nil => rfl
  | cons a r => simp [h]
theorem frz_list_no (sz : Nat) (es : List (List AV)) (h : AV.lvLL l es = true) : frz l S (n + 1) (.list .no sz es) = some (.list .no sz es) := frz_lv_true (by simp [AV.lv, Spare.lv, h])
theorem frz_list_full (sz : Nat) (es : List (List AV)) (h : AV.lvLL l es = true) : frz l S (n + 1) (.list .full sz es) = some (.list .full sz es) := frz_lv_true (by simp [AV.lv, Spare.lv, h])
theorem frz_list_own (p : Loc) (g sz : Nat) (es : List (List AV)) (h : AV.lvLL l es = true) (hp : l < p.l) : frz l S (n + 2) (.list (.own p g) sz es) = some (.list .no sz es) := by
  conv => lhs; unfold frz
  have : (AV.list (.own p g) sz es).lv l = false := by simp [AV.lv, Spare.lv, Nat.not_le.2 hp]
  rw [this]
  simp only [Bool.false_eq_true, if_false]
  rw [frzLL_same h]
  have : (Spare.own p g).lv l = false := by simp [Spare.lv, Nat.not_le.2 hp]
  rw [this]
  rfl
theorem lv_sl {sz : Nat} {es : List (List AV)} {k : Option (Option Addr)} (h : AV.lvLL l es = true) : AV.lv l (slV sz es k) = true := by
  rcases sl_cases sz es k with h' | ⟨rfl, a, h'⟩ <;> rw [h']
  · simp [AV.lv, Spare.lv, h]
  · rfl
theorem frz_sl (sz : Nat) (es : List (List AV)) (k : Option (Option Addr)) (h : AV.lvLL l es = true) : frz l S (n + 1) (slV sz es k) = some (slV sz es k) := frz_lv_true (lv_sl h)
end

def bslK (lv : Bool) (p : Loc) (g : Nat) (e : TypeId) (n : Nat) (es : List (List AV)) : Option AR :=
  if es.all (fun x => x.length == n) = true ∧ es.all (fun x => x.all AV.one) = true then
    (if lv then some (.chg (.row .room p g es.length 0 es.length n) p (.row g es.length n e es.flatten)) else some (.val (.list .full n es))) else none
theorem bop_bsl [Cfg] {P : Program} {S : AS} {T : BT} (d0 : Nat) (e : TypeId) (n : Nat) (xs : List X) : bop P S T (some d0) (.bsl e n xs) = bslK (Cfg.live S.fn d0) (S.here d0) (S.fresh (S.here d0)) e n (xs.map fun x => (x.at T).cells) := by
  simp only [bop, bslK, List.all_map, Function.comp_def, List.length_map, List.flatMap]
theorem bslK_dead (p : Loc) (g : Nat) (e : TypeId) (n : Nat) (es : List (List AV)) (h1 : es.all (fun x => x.length == n) = true) (h2 : es.all (fun x => x.all AV.one) = true) : bslK false p g e n es = some (.val (.list .full n es)) := by
  unfold bslK
  rw [if_pos ⟨h1, h2⟩]
  rfl
theorem bslK_live (p : Loc) (g : Nat) (e : TypeId) (n : Nat) (es : List (List AV)) (h1 : es.all (fun x => x.length == n) = true) (h2 : es.all (fun x => x.all AV.one) = true) :
    bslK true p g e n es = some (.chg (.row .room p g es.length 0 es.length n) p (.row g es.length n e es.flatten)) := by
  unfold bslK
  rw [if_pos ⟨h1, h2⟩]
  rfl

def fillK (T : BT) (l : List (Nat × Nat × X)) (cs : List AV) (off size : Nat) (ys : List AV) : Option (List AV) := if ys.length = size ∧ off + size ≤ cs.length then fillB T (splice cs off ys) l else none
theorem fillB_step (T : BT) (cs : List AV) (off size : Nat) (x : X) (l : List (Nat × Nat × X)) : fillB T cs ((off, size, x) :: l) = fillK T l cs off size (x.at T).cells := by
  conv => lhs; unfold fillB
  rfl
theorem fillK_ok (T : BT) (l : List (Nat × Nat × X)) (cs : List AV) (off size : Nat) (ys : List AV) (h : ys.length = size) (h2 : off + size ≤ cs.length) : fillK T l cs off size ys = fillB T (splice cs off ys) l := if_pos ⟨h, h2⟩

/-! ### What operations read -/
theorem foot_none (S : AS) (T : BT) (d : Option Nat) : BF.foot S T d .none = .none := rfl
theorem foot_all (S : AS) (T : BT) (d : Option Nat) : BF.foot S T d .all = .all := rfl
theorem foot_here (S : AS) (T : BT) (d : Nat) : BF.foot S T (some d) .here = .slots [S.here d] := rfl
theorem foot_at (S : AS) (T : BT) (d : Option Nat) (x : X) : BF.foot S T d (.at x) = ptrSlot (x.at T) := rfl
theorem foot_app (S : AS) (T : BT) (d : Option Nat) (s x : X) : BF.foot S T d (.app s x) = appSlot S d [s.at T, x.at T] := rfl
theorem ptrSlot_ptr (p : Loc) (g n o : Nat) : ptrSlot (.ptr p g n o) = .slots [p] := rfl
theorem ptrSlot_mref (p : Loc) (g : Nat) : ptrSlot (.mref p g) = .slots [p] := rfl
theorem ptrSlot_row (r : Room) (p : Loc) (a b c d e : Nat) : ptrSlot (.row r p a b c d e) = .slots [p] := rfl
theorem ptrSlot_lit (v : Value) : ptrSlot (.lit v) = .none := rfl
theorem ptrSlot_agg (cs : List AV) : ptrSlot (.agg cs) = .none := rfl
theorem ptrSlot_cref (cs : List AV) : ptrSlot (.cref cs) = .none := rfl
theorem ptrSlot_no (sz : Nat) (es : List (List AV)) : ptrSlot (.list .no sz es) = .none := rfl
theorem ptrSlot_full (sz : Nat) (es : List (List AV)) : ptrSlot (.list .full sz es) = .none := rfl
theorem ptrSlot_own (p : Loc) (g sz : Nat) (es : List (List AV)) : ptrSlot (.list (.own p g) sz es) = .slots [p] := rfl
theorem ptrSlot_sl (sz : Nat) (es : List (List AV)) (k : Option (Option Addr)) : ptrSlot (slV sz es k) = .none := by
  rcases sl_cases sz es k with h | ⟨rfl, a, h⟩ <;> rw [h] <;> rfl
theorem with_none (a : FK) : a.with .none = a := by cases a <;> rfl
theorem with_none' (a : FK) : FK.with .none a = a := by cases a <;> rfl
theorem with_slots (a b : List Loc) : FK.with (.slots a) (.slots b) = .slots (a ++ b) := rfl
theorem appSlot_own (S : AS) (d : Option Tmp) (p : Loc) (g sz : Nat) (es : List (List AV)) (x : AV) : appSlot S d [.list (.own p g) sz es, x] = (FK.slots [p]).with (ptrSlot x) := rfl
theorem appSlot_full (S : AS) (d : Nat) (sz : Nat) (es : List (List AV)) (x : AV) : appSlot S (some d) [.list .full sz es, x] = (FK.slots [S.here d]).with (ptrSlot x) := rfl
theorem appSlot_no (S : AS) (d : Nat) (sz : Nat) (es : List (List AV)) (x : AV) : appSlot S (some d) [.list .no sz es, x] = (FK.slots [S.here d]).with (ptrSlot x) := rfl
theorem appSlot_lit (S : AS) (d : Nat) (v : Value) (x : AV) : appSlot S (some d) [.lit v, x] = (FK.slots [S.here d]).with (ptrSlot x) := rfl
theorem appSlot_room (S : AS) (d : Option Tmp) (p : Loc) (a b c e f : Nat) (x : AV) : appSlot S d [.row .room p a b c e f, x] = (FK.slots [p]).with (ptrSlot x) := rfl

theorem b_finZ {P : Program} [Cfg] {f : FuncId} {b : BFn} {args : List AV} {T : BT} {S' : AS} {vs : List AV} {v : AV} (hg : Cfg.given f = none) (hf : compF P f = some b) (ha : args.length ≤ b.nt) (hup : Cfg.up f 0 = false)
    (h : execB P b.code (argsT (args.map AV.normA)) (AS.bare.enter f) = some (.ret, T, S')) (hd : S'.dfr = []) (hr : bresL S' T b.res = some vs) (ho : S'.outs 0 = []) (hv : frz 0 S' 100000 (tupled vs) = some v) : callT P f args .bare = some (.ret v, none) := by
  refine callT_of hg hf ha ?_
  rw [aargs_down (h := AS.bare.fn) hup, h, bfin_ret hd, hr]
  unfold bret
  simp only
  rw [handUp_same (S := AS.bare) hup ho]
  show (Option.map _ (Option.map _ (frz 0 S' 100000 (tupled vs)))) = _
  rw [hv]
  rfl
attribute [go_sem] foot_none foot_all foot_here foot_at foot_app ptrSlot_ptr ptrSlot_mref ptrSlot_row ptrSlot_lit ptrSlot_agg ptrSlot_cref ptrSlot_no ptrSlot_full ptrSlot_own ptrSlot_sl with_none with_none' with_slots appSlot_own appSlot_full appSlot_no appSlot_lit appSlot_room
attribute [-go_sem] bop_bsl_dead fillB_cons
attribute [go_sem] fillB_step fillK_ok bop_bsl bslK_dead bslK_live
attribute [go_sem] frz_lit frz_agg frz_tup frz_cref frz_iface consK_some frzL_nil frzL_cons frz_list_no frz_list_full frz_list_own frz_sl
end Go.Proofs.YtjdccpmbaobpdaaGreatDoor
