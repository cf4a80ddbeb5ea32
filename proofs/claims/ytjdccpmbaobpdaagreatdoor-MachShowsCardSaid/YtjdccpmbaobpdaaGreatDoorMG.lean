/-
  Cells of plain values, and what the written proofs need. strings.Builder in a local variable: steps that write to it, and what it tells. Laws for loops and what operations reckon, in plain words.
-/
import Derived.Test.YtjdccpmbaobpdaaGreatDoorMF
namespace Go.Proofs.YtjdccpmbaobpdaaGreatDoor
open Go.RowKit

structure A2 where
  x0 : Int
  x1 : Int
structure A4 where
  x0 : Int
  x1 : Int
  x2 : Int
  x3 : Int
def c_int (k : IntKind) (n : Int) : List V := [.int k n]
def c_bool (b : Bool) : List V := [.bool b]
def c_str (l : List UInt8) : List V := [.str l]
def c_sl {α : Type} (n : Nat) (c : α → List V) (l : List α) : List V := [.sl n (l.map c)]
def c_A2 (k : IntKind) (a : A2) : List V := [.int k a.x0, .int k a.x1]
def c_A4 (k : IntKind) (a : A4) : List V := [.int k a.x0, .int k a.x1, .int k a.x2, .int k a.x3]
theorem cz_int {k : IntKind} {n : Int} : RelC (.int k n) (.lit (.int k n)) := by unfold RelC; rfl
theorem cz_bool {b : Bool} : RelC (.bool b) (.lit (.bool b)) := by unfold RelC; rfl
theorem cz_str {l : List UInt8} : RelC (.str l) (.lit (.string (bs l))) := by unfold RelC; rfl
theorem cz_nil : RelCL [] [] := by unfold RelCL; rfl
theorem cz_cons {v : V} {a : AV} {r : List V} {t : List AV} (h1 : RelC v a) (h2 : RelCL r t) : RelCL (v :: r) (a :: t) := by unfold RelCL; exact ⟨a, t, rfl, h1, h2⟩
theorem zA2 (k : IntKind) : RelCL (c_A2 k (A2.mk 0 0)) [.lit (.int k 0), .lit (.int k 0)] := cz_cons cz_int (cz_cons cz_int cz_nil)
theorem zA4 (k : IntKind) : RelCL (c_A4 k (A4.mk 0 0 0 0)) [.lit (.int k 0), .lit (.int k 0), .lit (.int k 0), .lit (.int k 0)] := cz_cons cz_int (cz_cons cz_int (cz_cons cz_int (cz_cons cz_int cz_nil)))
theorem relCL_int (k : IntKind) (n : Int) : RelCL [.int k n] (AV.cells (.lit (.int k n))) := cz_cons cz_int cz_nil
theorem relCL_bool (b : Bool) : RelCL [.bool b] (AV.cells (.lit (.bool b))) := cz_cons cz_bool cz_nil
theorem relCL_str (l : List UInt8) : RelCL [.str l] (AV.cells (.lit (.string (bs l)))) := cz_cons cz_str cz_nil
theorem relSL1 {L : Nat} {v : V} {a : AV} (h : RelS L v a) : RelSL L [v] a.cells := by rw [h.cells]; exact ⟨a, [], rfl, h, rfl⟩
theorem relS_int {L : Nat} {k : IntKind} {n : Int} {c : AV} (h : RelS L (.int k n) c) : c = .lit (.int k n) := h
theorem relS_bool {L : Nat} {b : Bool} {c : AV} (h : RelS L (.bool b) c) : c = .lit (.bool b) := h
theorem relS_str {L : Nat} {l : List UInt8} {c : AV} (h : RelS L (.str l) c) : c = .lit (.string (bs l)) := h
theorem relC_int {k : IntKind} {n : Int} {c : AV} (h : RelC (.int k n) c) : c = .lit (.int k n) := by unfold RelC at h; exact h
theorem relC_bool {b : Bool} {c : AV} (h : RelC (.bool b) c) : c = .lit (.bool b) := by unfold RelC at h; exact h
theorem relC_str {l : List UInt8} {c : AV} (h : RelC (.str l) c) : c = .lit (.string (bs l)) := by unfold RelC at h; exact h
theorem relSL_int {L : Nat} (k : IntKind) (n : Int) : RelSL L [.int k n] (AV.cells (.lit (.int k n))) := (relCL_int k n).toS
theorem relSL_bool {L : Nat} (b : Bool) : RelSL L [.bool b] (AV.cells (.lit (.bool b))) := (relCL_bool b).toS
theorem relSL_str {L : Nat} (l : List UInt8) : RelSL L [.str l] (AV.cells (.lit (.string (bs l)))) := (relCL_str l).toS
theorem relCL1 {v : V} {a : AV} (h : RelC v a) : RelCL [v] a.cells := by rw [(h.toS (L := 0)).cells]; exact cz_cons h cz_nil
theorem nd_f {p : Prop} [Decidable p] (h : p) : (!decide p) = false := by rw [decide_eq_true h]; rfl
theorem nd_t {p : Prop} [Decidable p] (h : ¬ p) : (!decide p) = true := by rw [decide_eq_false h]; rfl
theorem of_blt {a b : Nat} (h : Nat.blt a b = true) : a < b := by simpa using h
theorem andI {a b : Bool} (h : a = true) (h' : b = true) : (a && b) = true := by rw [h, h']; rfl
theorem eqT {c : Bool} (h : c = true) : (c == true) = true := by rw [h]; rfl
theorem eqF {c : Bool} (h : (!c) = true) : (c == false) = true := by cases c <;> first | rfl | cases h
theorem and_l {a b : Bool} (h : (a && b) = true) : a = true := by cases a <;> simp_all
namespace G
def chk (n : Nat) (i : Int) : Option Unit := if 0 ≤ i ∧ i < n then some () else none
def when {α : Type} (c : Bool) (o : Option α) (d : α) : Option α := match c with
  | true => o
  | false => some d
def andK (k : IntKind) (a b : Int) : Int := k.wrap (BitVec.ofInt k.bits a &&& BitVec.ofInt k.bits b).toNat
def orK (k : IntKind) (a b : Int) : Int := k.wrap (BitVec.ofInt k.bits a ||| BitVec.ofInt k.bits b).toNat
def subN {α : Type} (xs : List α) (i j : Int) : Option (List α) := if 0 < xs.length ∧ 0 ≤ i ∧ i ≤ j ∧ j ≤ xs.length then some ((xs.drop i.toNat).take (j.toNat - i.toNat)) else none
def notK (k : IntKind) (a : Int) : Int := k.wrap (BitVec.ofInt k.bits (if k.signed then -1 else k.max) ^^^ BitVec.ofInt k.bits a).toNat
def andNotK (k : IntKind) (a b : Int) : Int := k.wrap (BitVec.ofInt k.bits a &&& ~~~(BitVec.ofInt k.bits b)).toNat
def shlK (k : IntKind) (a b : Int) : Option Int := if 0 ≤ b then some (k.wrap (a * 2 ^ (min b.toNat k.bits))) else none
def shrK (k : IntKind) (a b : Int) : Option Int := if 0 ≤ b then some (a.fdiv (2 ^ (min b.toNat k.bits))) else none
end G
theorem chk_some {n : Nat} {i : Int} {u : Unit} (h : G.chk n i = some u) : 0 ≤ i ∧ i < n := by
  unfold G.chk at h
  split at h
  · rename_i h'; exact h'
  · cases h
def A2.get (a : A2) (i : Int) : Int := if i = 0 then a.x0 else a.x1
def A2.set (a : A2) (i v : Int) : A2 := if i = 0 then { a with x0 := v } else { a with x1 := v }
def A4.get (a : A4) (i : Int) : Int := if i = 0 then a.x0 else if i = 1 then a.x1 else if i = 2 then a.x2 else a.x3
def A4.set (a : A4) (i v : Int) : A4 := if i = 0 then { a with x0 := v } else if i = 1 then { a with x1 := v } else if i = 2 then { a with x2 := v } else { a with x3 := v }
theorem A2.cases {P : Int → Prop} (h0 : P 0) (h1 : P 1) {j : Int} {u : Unit} (hj : G.chk 2 j = some u) : P j := by
  have := chk_some hj
  rcases (show j = 0 ∨ j = 1 by omega) with rfl | rfl <;> assumption
theorem A4.cases {P : Int → Prop} (h0 : P 0) (h1 : P 1) (h2 : P 2) (h3 : P 3) {j : Int} {u : Unit} (hj : G.chk 4 j = some u) : P j := by
  have := chk_some hj
  rcases (show j = 0 ∨ j = 1 ∨ j = 2 ∨ j = 3 by omega) with rfl | rfl | rfl | rfl <;> assumption
theorem A2.at {M : List V} {k : IntKind} {a : A2} {off : Nat} (h0 : M[off]? = some (.int k a.x0)) (h1 : M[off + 1]? = some (.int k a.x1)) {j : Int} {u : Unit} (hj : G.chk 2 j = some u) : M[off + j.toNat * 1]? = some (.int k (a.get j)) :=
  A2.cases (P := fun j => M[off + j.toNat * 1]? = some (.int k (a.get j))) h0 h1 hj
theorem A4.at {M : List V} {k : IntKind} {a : A4} {off : Nat} (h0 : M[off]? = some (.int k a.x0)) (h1 : M[off + 1]? = some (.int k a.x1)) (h2 : M[off + 2]? = some (.int k a.x2)) (h3 : M[off + 3]? = some (.int k a.x3)) {j : Int} {u : Unit} (hj : G.chk 4 j = some u) : M[off + j.toNat * 1]? = some (.int k (a.get j)) :=
  A4.cases (P := fun j => M[off + j.toNat * 1]? = some (.int k (a.get j))) h0 h1 h2 h3 hj
theorem whenT {α : Type} {c : Bool} {o : Option α} {d x : α} (h : G.when c o d = some x) (hc : c = true) : o = some x := by subst hc; exact h
theorem ibV_quo {k : IntKind} {a b : Int} (h : b ≠ 0) : ibV .quo (.lit (.int k a)) (.lit (.int k b)) = some (.lit (.int k (k.wrap (a.tdiv b)))) := by simp [ibV, intB, h]
theorem ibV_rem {k : IntKind} {a b : Int} (h : b ≠ 0) : ibV .rem (.lit (.int k a)) (.lit (.int k b)) = some (.lit (.int k (a.tmod b))) := by simp [ibV, intB, h]
theorem ib_shlK {k k' : IntKind} {a b c : Int} (h : G.shlK k a b = some c) : ibV .shl (.lit (.int k a)) (.lit (.int k' b)) = some (.lit (.int k c)) := by
  unfold G.shlK at h
  split at h
  · rename_i h0
    cases h
    simp [ibV, intB, h0]
  · cases h
theorem ib_shrK {k k' : IntKind} {a b c : Int} (h : G.shrK k a b = some c) : ibV .shr (.lit (.int k a)) (.lit (.int k' b)) = some (.lit (.int k c)) := by
  unfold G.shrK at h
  split at h
  · rename_i h0
    cases h
    simp [ibV, intB, h0]
  · cases h
theorem splice_off {cs ys : List AV} {off j : Nat} {x : AV} (h : cs[j]? = some x) (hj : (j < off ∨ off + ys.length ≤ j) := by first | (left; decide) | (right; decide) | (right; exact Nat.le_of_ble_eq_true rfl)) : (splice cs off ys)[j]? = some x := by
  unfold splice
  have hlt := (List.getElem?_eq_some_iff.1 h).1
  rcases hj with hj | hj
  · rw [List.append_assoc, List.getElem?_append_left (by rw [List.length_take]; omega), List.getElem?_take_of_lt hj]
    exact h
  · rw [List.getElem?_append_right (by rw [List.length_append, List.length_take]; omega), List.length_append, List.length_take, List.getElem?_drop]
    rw [show off + ys.length + (j - (min off cs.length + ys.length)) = j by omega]
    exact h
theorem splice_in {cs ys : List AV} {off j : Nat} {x : AV} (h : ys[j]? = some x) (hl : off ≤ cs.length) : (splice cs off ys)[off + j]? = some x := by
  unfold splice
  have hj := (List.getElem?_eq_some_iff.1 h).1
  rw [List.append_assoc, List.getElem?_append_right (by rw [List.length_take]; omega), List.length_take, show off + j - min off cs.length = j by omega, List.getElem?_append_left hj]
  exact h
theorem splice_at {cs ys : List AV} {off : Nat} {x : AV} (h : ys = [x]) (hl : off < cs.length) : (splice cs off ys)[off]? = some x := by
  subst h
  unfold splice
  rw [List.append_assoc, List.getElem?_append_right (by rw [List.length_take]; omega), List.length_take, show off - min off cs.length = 0 by omega]
  rfl
/-! ### Structs compared -/
def leafA : V → Option Value
  | .int k n => some (.int k n)
  | .bool b => some (.bool b)
  | .str l => some (.string (bs l))
  | .sl _ _ => none
def leafL : List V → Option (List Value)
  | [] => some []
  | v :: r => match leafA v, leafL r with
    | some a, some l => some (a :: l)
    | _, _ => none
def eqCV : Nat → V → V → Option Bool
  | 0, .bool a, .bool b => some (decide (a = b))
  | 1, .int k a, .int k' b => if k = k' then some (decide (a = b)) else none
  | 2, .str a, .str b => some (decide (a = b))
  | _, _, _ => none
def eqV : List (Nat × Nat) → List V → List V → Option Bool
  | [], _, _ => some true
  | (o, k) :: r, xs, ys => match xs[o]?, ys[o]? with
    | some u, some v => match eqCV k u v, eqV r xs ys with
      | some a, some b => some (a && b)
      | _, _ => none
    | _, _ => none
theorem RelS.leaf {L : Nat} {v : V} {a : AV} {x : Value} (h : RelS L v a) (hx : leafA v = some x) : a = .lit x := by
  cases v with
  | sl => cases hx
  | _ => cases hx; exact h
theorem RelSL.toVL {L : Nat} : ∀ {M : List V} {cs : List AV} {vs : List Value}, RelSL L M cs → leafL M = some vs → AV.toVL cs = some vs
  | [], cs, vs, h, hv => by cases h; exact hv
  | v :: M, cs, vs, h, hv => by
    obtain ⟨a, t, rfl, h1, h2⟩ := h
    unfold leafL at hv
    split at hv
    · rename_i x l hx hl
      cases hv
      rw [RelS.leaf h1 hx, toVL_lit, h2.toVL hl]
      rfl
    · cases hv
theorem leafL_get : ∀ {M : List V} {vs : List Value} {i : Nat} {v : V}, leafL M = some vs → M[i]? = some v → ∃ x, vs[i]? = some x ∧ leafA v = some x
  | [], _, _, _, _, h => by cases h
  | u :: M, vs, i, v, hv, h => by
    unfold leafL at hv
    split at hv
    · rename_i x l hx hl
      cases hv
      cases i with
      | zero => cases h; exact ⟨x, rfl, hx⟩
      | succ i => exact leafL_get (i := i) hl h
    · cases hv
theorem eqCV_ok {k : Nat} {u v : V} {x y : Value} {b : Bool} (h : eqCV k u v = some b) (hx : leafA u = some x) (hy : leafA v = some y) : eqC k x y = some b := by
  unfold eqCV at h
  split at h
  · cases hx; cases hy; exact h
  · cases hx; cases hy; exact h
  · cases hx; cases hy
    simp only [eqC, toL_bs]
    exact h
  · cases h
theorem eqV_ok : ∀ {offs : List (Nat × Nat)} {M N : List V} {xs ys : List Value} {b : Bool}, eqV offs M N = some b → leafL M = some xs → leafL N = some ys → eqL offs xs.toArray ys.toArray = some b
  | [], _, _, _, _, _, h, _, _ => h
  | (o, k) :: r, M, N, xs, ys, b, h, hx, hy => by
    unfold eqV at h
    split at h
    case h_2 => cases h
    rename_i u v hu hv
    split at h
    case h_2 => cases h
    rename_i a b' ha hb
    cases h
    obtain ⟨x, k1, k2⟩ := leafL_get hx hu
    obtain ⟨y, k3, k4⟩ := leafL_get hy hv
    have h1 := eqCV_ok ha k2 k4
    have h2 := eqV_ok hb hx hy
    unfold eqL
    simp only [List.getElem?_toArray, k1, k3, h1]
    cases a with
    | true => simpa using h2
    | false => rfl
section
variable [Cfg] {P : Program} {L : Nat} {f : FuncId} {E : Env} {A : List It} {d : Nat}
theorem s_iaa {len n : Nat} {x i : X} {p : Loc} {g m o : Nat} {k : IntKind} {j : Int} {u : Unit} (hx : opd E x = some (.ptr p g m o)) (hi : opd E i = some (.lit (.int k j))) (hj : G.chk len j = some u) : Stp P L f E A d .none (.iaa len n x i) af0 (fun v => v = .ptr p g m (o + j.toNat * n)) :=
  s_val fun T S hT => by
    have h := chk_some hj
    simp only [bop, hT.at hx, hT.at hi, iaaV]
    rw [if_pos ⟨h.1, h.2⟩]
    rfl
theorem s_ce {ne : Bool} {offs : List (Nat × Nat)} {x y : X} {cs ds : List AV} {M N : List V} {xs ys : List Value} {b : Bool} (hx : opd E x = some (.agg cs)) (hM : RelSL (L + 1) M cs) (hy : opd E y = some (.agg ds)) (hN : RelSL (L + 1) N ds) (h1 : leafL M = some xs) (h2 : leafL N = some ys) (h : eqV offs M N = some b) :
    Stp P L f E A d .none (.ce ne offs x y) af0 (fun u => u = .lit (.bool (b != ne))) :=
  s_val fun T S hT => by
    have e1 : AV.toV (.agg cs) = some (.agg xs.toArray) := by rw [toV_agg, hM.toVL h1]; rfl
    have e2 : AV.toV (.agg ds) = some (.agg ys.toArray) := by rw [toV_agg, hN.toVL h2]; rfl
    simp only [bop, hT.at hx, hT.at hy]
    rw [ceV_some ne offs e1 e2, eqV_ok h h1 h2]
    rfl
/-- A call of which just that is known what it answers where it names nothing. -/
theorem s_clX {g : FuncId} {xs : List X} {args : List AV} {Q : AV → Prop} (hup : ∀ h, Cfg.up g h = false) (hx : optL E xs = some args) (hcl : AV.closedL args = true) (hc : ∃ v, callT P g args .bare = some (.ret v, none) ∧ Q v) : Stp P L f E A d .none (.cl g xs) af0 Q := by
  intro T S hT hS
  have hb : bop P S T (some d) (.cl g xs) = some (.call g args) := by simp only [bop]; rw [optL_ok hT hx]
  obtain ⟨v, h1, h2⟩ := hc
  exact ⟨v, ⟨BF.foot S T (some d) .none, .none⟩, h2, ⟨.inl rfl, .inl rfl⟩, fun c r => by rw [b_cons, hb, show (BO.cl g xs).w = true from rfl, kr_call, hup, hcl, Bool.not_false, Bool.true_and, kcall_closed, h1, kcl_ret]⟩
theorem s_ldcL {x : X} {ys : List AV} {M : List V} {v : V} {a : AV} (hx : opd E x = some (.cref ys)) (hM : RelCL M ys) (hv : M[0]? = some v) (ha : ∀ c, RelC v c → c = a) : Stp P L f E A d (.at x) (.ld1 x) af0 (fun u => u = a) := by
  intro T S hT hS
  obtain ⟨u, ft, h1, h2, h3⟩ := s_ldc (P := P) (L := L) (f := f) (A := A) (d := d) hx hM hv T S hT hS
  exact ⟨u, ft, ha u h1, h2, h3⟩
theorem s_ldoC {x : X} {k g off : Nat} {t : TypeId} {cs : List AV} {M : List V} {v : V} (hx : opd E x = some (.ptr ⟨L + 1, k, 0⟩ g 0 off)) (ho : lookO A k = some (g, t, cs)) (hM : RelCL M cs) (hv : M[off]? = some v) :
    Stp P L f E A d (.at x) (.ld1 x) (some [k], some []) (fun c => RelC v c) := by
  intro T S hT hS
  obtain ⟨u, ft, h1, h2, h3⟩ := s_ldo (P := P) (L := L) (f := f) (A := A) (d := d) hx ho hM.toS hv T S hT hS
  obtain ⟨c, k1, k2⟩ := hM.get hv
  obtain rfl : u = c := Option.some.inj (h1.2.symm.trans k1)
  exact ⟨u, ft, k2, h2, h3⟩
theorem s_ldnoC {x : X} {k g off n : Nat} {t : TypeId} {cs : List AV} {M N : List V} (hx : opd E x = some (.ptr ⟨L + 1, k, 0⟩ g 0 off)) (ho : lookO A k = some (g, t, cs)) (hM : RelCL M cs) (hn : Nat.ble (off + n) M.length = true) (hN : (M.drop off).take n = N) :
    Stp P L f E A d (.at x) (.ldn n x) (some [k], some []) (fun u => ∃ zs, u = .agg zs ∧ RelCL N zs) := by
  intro T S hT hS
  obtain ⟨u, ft, ⟨zs, k1, _, k3⟩, h2, h3⟩ := s_ldno (P := P) (L := L) (f := f) (A := A) (d := d) hx ho hM.toS hn hN T S hT hS
  subst hN k3
  exact ⟨u, ft, ⟨_, k1, (hM.drop off).take n⟩, h2, h3⟩
theorem s_ldoL {x : X} {k g off : Nat} {t : TypeId} {cs : List AV} {M : List V} {v : V} {a : AV} (hx : opd E x = some (.ptr ⟨L + 1, k, 0⟩ g 0 off)) (ho : lookO A k = some (g, t, cs)) (hM : RelSL (L + 1) M cs) (hv : M[off]? = some v) (ha : ∀ c, RelS (L + 1) v c → c = a) :
    Stp P L f E A d (.at x) (.ld1 x) (some [k], some []) (fun u => u = a) := by
  intro T S hT hS
  obtain ⟨u, ft, h1, h2, h3⟩ := s_ldo (P := P) (L := L) (f := f) (A := A) (d := d) hx ho hM hv T S hT hS
  exact ⟨u, ft, ha u h1.1, h2, h3⟩
variable {Φ : PostX} {m : Option (List (Nat × Nat))} {acc : AAcc} {r : List BI}
theorem g_stC {x v : X} {k g off n : Nat} {t : TypeId} {cs : List AV} {a : AV} {M M' Xs : List V} (hx : opd E x = some (.ptr ⟨L + 1, k, 0⟩ g 0 off)) (ho : lookO A k = some (g, t, cs)) (hf : freeO k A = true) (hv : opd E v = some a) (hM : RelCL M cs) (ha : RelCL Xs a.cells)
    (hn : Xs.length = n) (hle : Nat.ble (off + n) M.length = true) (hM' : spliceV M off Xs = M') (h : ∀ cs', RelCL M' cs' → cs' = splice cs off a.cells → GO1 P m (accP acc (some [k], some [k])) r L f E (setO k g t cs' A) Φ) : GO1 P m acc (⟨none, none, .at x, .st n x v⟩ :: r) L f E A Φ :=
  g_st hx ho hf hv hM.toS ha.toS hn hle hM' fun cs' _ he => h cs' (by subst hM' he; exact hM.spl off ha) he
end
theorem ResC.one {n : Nat} {es : List (List V)} {v : AV} (h : ResC [.sl n es] v) : RelC (.sl n es) v := h
section
variable [Cfg] {P : Program} {L : Nat} {f : FuncId} {E : Env} {A : List It} {d : Nat}
/-- What the model reckons of two whole numbers: the greater, the smaller. -/
theorem s_max {x y : Operand} {t1 t2 ty : TypeId} {k k' : IntKind} {a b : Int} (hx : opd E (compX x) = some (.lit (.int k a))) (hy : opd E (compX y) = some (.lit (.int k' b))) : Stp P L f E A d .none (.gen (.call ⟨.builtin .max, #[x, y], #[t1, t2]⟩) ty) af0 (fun u => u = .lit (.int k (if b > a then b else a))) :=
  s_val (fun T S hT => by
    have h1 : aevF T x = .lit (.int k a) := hT.at hx
    have h2 : aevF T y = .lit (.int k' b) := hT.at hy
    simp [bop, aop, pureOp, notSelect, Op.operands, execOp, h1, h2, AV.toV, evalPure, Builtin.max_, Builtin.max2, AV.ofV, resolve, invoke, builtin, Call.operands]
    rfl)
theorem s_min {x y : Operand} {t1 t2 ty : TypeId} {k k' : IntKind} {a b : Int} (hx : opd E (compX x) = some (.lit (.int k a))) (hy : opd E (compX y) = some (.lit (.int k' b))) : Stp P L f E A d .none (.gen (.call ⟨.builtin .min, #[x, y], #[t1, t2]⟩) ty) af0 (fun u => u = .lit (.int k (if b < a then b else a))) :=
  s_val (fun T S hT => by
    have h1 : aevF T x = .lit (.int k a) := hT.at hx
    have h2 : aevF T y = .lit (.int k' b) := hT.at hy
    simp [bop, aop, pureOp, notSelect, Op.operands, execOp, h1, h2, AV.toV, evalPure, Builtin.min_, Builtin.min2, AV.ofV, resolve, invoke, builtin, Call.operands]
    rfl)
theorem s_neg {x : Operand} {t ty : TypeId} {k : IntKind} {a : Int} (hx : opd E (compX x) = some (.lit (.int k a))) : Stp P L f E A d .none (.gen (.unOp .neg t x) ty) af0 (fun u => u = .lit (.int k (k.wrap (0 - a)))) :=
  s_val (fun T S hT => by
    have h1 : aevF T x = .lit (.int k a) := hT.at hx
    simp [bop, aop, pureOp, notSelect, Op.operands, execOp, h1, AV.toV, evalPure, Op.unary, Op.intArith, AV.ofV]
    rfl)
theorem s_not {x : Operand} {t ty : TypeId} {k : IntKind} {a : Int} (hx : opd E (compX x) = some (.lit (.int k a))) : Stp P L f E A d .none (.gen (.unOp .xor t x) ty) af0 (fun u => u = .lit (.int k (G.notK k a))) :=
  s_val (fun T S hT => by
    have h1 : aevF T x = .lit (.int k a) := hT.at hx
    simp [bop, aop, pureOp, notSelect, Op.operands, execOp, h1, AV.toV, evalPure, Op.unary, Op.intBits, AV.ofV]
    rfl)
omit [Cfg] in
theorem sllV_ok {α : Type} {a : AV} {xs ys : List α} {c : α → List V} {n : Nat} {i j : Int} {lo hi : Option AV} (ha : RelS (L + 1) (.sl n (xs.map c)) a) (h1 : 0 ≤ i → abound 0 lo = some i.toNat) (h2 : 0 ≤ j → abound xs.length hi = some j.toNat) (hc : G.subN xs i j = some ys) :
    ∃ v, sllV n a lo hi none = some v ∧ RelS (L + 1) (.sl n (ys.map c)) v := by
  unfold G.subN at hc
  split at hc
  · rename_i h0
    obtain ⟨h00, hi0, hij, hjl⟩ := h0
    cases hc
    rcases ha with ⟨hn, _⟩ | ⟨sp, zs, rfl, hsp, hr⟩
    · have : xs = [] := by simpa using hn
      subst this
      simp at h00
    · have hl : zs.length = xs.length := by rw [hr.length, List.length_map]
      refine ⟨_, by
        have e3 : abound xs.length none = some xs.length := rfl
        simp only [sllV, hl, h1 hi0, h2 (Int.le_trans hi0 hij), e3]
        rw [if_pos ⟨trivial, by omega, by omega, Nat.le_refl _, by simp⟩], .inr ⟨_, _, rfl, ?_, ?_⟩⟩
      · simp only [Option.isSome_none, Bool.false_eq_true, if_false]
        split
        · exact hsp
        · exact .inl rfl
      · rw [List.map_take, List.map_drop]
        exact (hr.drop _).take _
  · cases hc
theorem s_sl {α : Type} {x lo hi : X} {a : AV} {xs ys : List α} {c : α → List V} {n : Nat} {k k' : IntKind} {i j : Int} (hx : opd E x = some a) (ha : RelS (L + 1) (.sl n (xs.map c)) a) (h1 : opd E lo = some (.lit (.int k i))) (h2 : opd E hi = some (.lit (.int k' j))) (hc : G.subN xs i j = some ys) : Stp P L f E A d .none (.sll n x (some lo) (some hi) none) af0 (fun u => RelS (L + 1) (.sl n (ys.map c)) u) := by
  obtain ⟨v, k1, k2⟩ := sllV_ok (lo := some (.lit (.int k i))) (hi := some (.lit (.int k' j))) ha (fun h => by simp [abound, h]) (fun h => by simp [abound, h]) hc
  exact s_valE (fun T S hT => ⟨v, by simp only [bop, hT.at hx, hT.at h1, hT.at h2, Option.map_some, Option.map_none]; rw [k1]; rfl, k2⟩)
theorem s_slL {α : Type} {x lo : X} {a : AV} {xs ys : List α} {c : α → List V} {n : Nat} {k : IntKind} {i : Int} (hx : opd E x = some a) (ha : RelS (L + 1) (.sl n (xs.map c)) a) (h1 : opd E lo = some (.lit (.int k i))) (hc : G.subN xs i xs.length = some ys) : Stp P L f E A d .none (.sll n x (some lo) none none) af0 (fun u => RelS (L + 1) (.sl n (ys.map c)) u) := by
  obtain ⟨v, k1, k2⟩ := sllV_ok (lo := some (.lit (.int k i))) (hi := none) ha (fun h => by simp [abound, h]) (fun _ => by simp [abound]) hc
  exact s_valE (fun T S hT => ⟨v, by simp only [bop, hT.at hx, hT.at h1, Option.map_some, Option.map_none]; rw [k1]; rfl, k2⟩)
theorem s_slH {α : Type} {x hi : X} {a : AV} {xs ys : List α} {c : α → List V} {n : Nat} {k' : IntKind} {j : Int} (hx : opd E x = some a) (ha : RelS (L + 1) (.sl n (xs.map c)) a) (h2 : opd E hi = some (.lit (.int k' j))) (hc : G.subN xs 0 j = some ys) : Stp P L f E A d .none (.sll n x none (some hi) none) af0 (fun u => RelS (L + 1) (.sl n (ys.map c)) u) := by
  obtain ⟨v, k1, k2⟩ := sllV_ok (lo := none) (hi := some (.lit (.int k' j))) ha (fun _ => rfl) (fun h => by simp [abound, h]) hc
  exact s_valE (fun T S hT => ⟨v, by simp only [bop, hT.at hx, hT.at h2, Option.map_some, Option.map_none]; rw [k1]; rfl, k2⟩)
end
end Go.Proofs.YtjdccpmbaobpdaaGreatDoor

namespace Go.Proofs.YtjdccpmbaobpdaaGreatDoor
open Go.RowKit

/-- A byte is laid behind others. -/
def G.appB (l : List UInt8) (n : Int) : Option (List UInt8) := if 0 ≤ n ∧ n ≤ 255 ∧ l.length + 1 ≤ 1000000000 then some (l ++ [UInt8.ofNat n.toNat]) else none

/-- Three octal digits behind a 1. -/
def G.oct (n : Int) : List UInt8 := [49, UInt8.ofNat (48 + (n.toNat - 512) / 64), UInt8.ofNat (48 + (n.toNat - 512) / 8 % 8), UInt8.ofNat (48 + (n.toNat - 512) % 8)]
def G.fmt8 (n b : Int) : Option (List UInt8) := if b = 8 ∧ 512 ≤ n ∧ n < 768 then some (G.oct n) else none

/-- What the program's builders are. -/
structure BldC [Cfg] (P : Program) (tp tb tu tz te fne fcc fws fwb fst : Nat) : Prop where
  F : BFacts P tp tb tu tz fne
  cc : compF P fcc = some (Kcc tp tu fne tz)
  ws : compF P fws = some (Kws fcc te)
  wb : compF P fwb = some (Kwb fcc te)
  gcc : Cfg.given fcc = none
  gws : Cfg.given fws = none
  gwb : Cfg.given fwb = none
  upw : Cfg.up fcc fws = true
  upb : Cfg.up fcc fwb = true
  lws : Cfg.live fws 14 = false
  lwb : Cfg.live fwb 14 = false
  lwb2 : Cfg.live fwb 13 = false
  lies : liesAt P P.depth tb (2 / P.cellsOf tb) 0 tb 1 = true
  st : Cfg.given fst = some (givenString te)

def okB (k : Nat) : It → Bool
  | .obj k' _ _ _ => !(Nat.beq k' k)
  | .tok _ _ _ _ => true
  | .bld _ _ _ _ _ => false
/-- No other builder, and no other thing of this name. -/
def freeB (k : Nat) : Nat → List It → Bool
  | _, [] => true
  | 0, _ :: r => r.all (okB k)
  | i + 1, a :: r => okB k a && freeB k i r
theorem setB_ok {S S' : AS} {L k : Nat} {it : It} (hit : it.ok S' L) (hk : ∀ jt : It, okB k jt = true → jt.ok S L → jt.ok S' L) : ∀ {A : List It} {i : Nat}, (∀ it ∈ A, it.ok S L) → freeB k i A = true → ∀ jt ∈ A.set i it, jt.ok S' L
  | [], _, _, _ => by intro jt hj; simp at hj
  | a :: r, 0, hA, hf => by
    intro jt hj
    simp only [List.set_cons_zero, List.mem_cons] at hj
    rcases hj with rfl | hj
    · exact hit
    · exact hk _ (List.all_eq_true.1 hf jt hj) (hA jt (List.mem_cons_of_mem _ hj))
  | a :: r, i + 1, hA, hf => by
    intro jt hj
    simp only [freeB, Bool.and_eq_true] at hf
    simp only [List.set_cons_succ, List.mem_cons] at hj
    rcases hj with rfl | hj
    · exact hk _ hf.1 (hA _ (List.mem_cons_self ..))
    · exact setB_ok (A := r) hit hk (fun it hi => hA it (List.mem_cons_of_mem _ hi)) hf.2 jt hj

theorem Wrote.sta {L : Nat} {f : FuncId} {A : List It} {te : TypeId} {S : AS} {u : Upd} {k g : Nat} {t : TypeId} {cs cs' : List AV} {l' : List UInt8} {q q' : Option Loc} {i : Nat} (hS : StA S L f A) (hw : Wrote te S u ⟨L + 1, k, 0⟩ g t 0 cs cs' l' q q') (hl : cs.length = 2) (hl' : l'.length ≤ 1000000000) (hq : ∀ q1, q = some q1 → q1.l = L + 1 ∧ q1.k = 0 ∧ q1.i ≠ 0) (hp : S.get ⟨L + 1, k, 0⟩ = some (.obj g t cs))
    (hqt : ∀ q1, q = some q1 → ∃ h m sz e, S.get q1 = some (.tok h m sz e)) (hf : freeB k i A = true) : StA (S.after u) L f (A.set i (.bld k g t te l')) := by
  have hlog : ∀ r ∈ ulog u, (r = ⟨L + 1, k, 0⟩ ∨ (r.l = L + 1 ∧ r.k = 0 ∧ r.i ≠ 0)) := fun r hr => by
    rcases hw.log r hr with h | h | h
    · exact .inl h
    · exact .inr (hq r h.symm)
    · exact .inr ⟨by rw [h.1, hS.lvl], h.2.1, h.2.2.1⟩
  refine ⟨by rw [hw.lvl, hS.lvl], by rw [hw.fn, hS.fn], by rw [hw.dfr, hS.dfr], ?_, ?_⟩
  · refine List.eq_nil_iff_forall_not_mem.2 fun r hr => ?_
    obtain ⟨h1, h2⟩ := mem_outs.1 hr
    rw [after_log, mem_mergeLog] at h1
    rcases h1 with h1 | h1
    · have := mem_outs.2 ⟨h1, h2⟩
      rw [hS.out] at this
      cases this
    · rcases hlog r h1 with rfl | h
      · simp only at h2; omega
      · omega
  · have hq' : ∀ q1, q' = some q1 → q1.l = L + 1 ∧ q1.k = 0 ∧ q1.i ≠ 0 := fun q1 e => by
      rcases hw.room with h | ⟨q2, h1, _, h3, h4, h5, _⟩
      · exact hq q1 (by rw [← h]; exact e)
      · rw [h1] at e; cases e
        exact ⟨by rw [h3, hS.lvl], h4, h5⟩
    refine setB_ok (S := S) (S' := S.after u) (L := L + 1) (it := .bld k g t te l') (k := k) (show It.ok (S.after u) (L + 1) (.bld k g t te l') from ⟨cs', q', hw.bld, by rw [hw.len]; exact hl, hl', hq'⟩) (fun jt hk hj => ?_) hS.its hf
    cases jt with
    | obj k' g' t' cs2 =>
      simp only [okB, Bool.not_eq_true'] at hk
      show (S.after u).get _ = _
      rw [hw.frame]
      · exact hj
      · intro hr
        rcases hlog _ hr with h | h
        · have : k' = k := (Loc.mk.inj h).2.1
          subst this
          rw [Nat.beq_refl] at hk; cases hk
        · exact h.2.2 rfl
    | tok ks n e x =>
      rcases hj with h | h | ⟨p, g', es, h1, h2, h3, h4, h5⟩
      · exact .inl h
      · exact .inr (.inl h)
      · refine .inr (.inr ⟨p, g', es, h1, ?_, h3, h4, h5⟩)
        rw [hw.frame]
        · exact h2
        · intro hr
          rcases hlog _ hr with h | h
          · rw [h, hp] at h2; cases h2
          · exact h.2.2 h4
    | bld => cases hk

section
variable [Cfg] {P : Program} {L : Nat} {f : FuncId} {E : Env} {A : List It} {Φ : PostX} {m : Option (List (Nat × Nat))} {acc : AAcc} {r : List BI} {d : Nat} {bf : BF}
variable {tp tb tu tz te fne fcc fws fwb fst : Nat}

/-- A builder is made. -/
theorem g_alB {e te : TypeId} (hf : freeO d A = true) (h : ∀ g, GO1 P m (accP acc (some [d], some [d])) r L f ((d, .ptr ⟨L + 1, d, 0⟩ g 0 0) :: E) (.bld d g e te [] :: A) Φ) (hn : (A.all fun it => it.free d) = true) : GO1 P m acc (⟨some d, none, .here, .al e [.lit (.pointer none), .lit (.slice none 0 0)]⟩ :: r) L f E A Φ := by
  refine g_al hf fun g => ?_
  intro c T S hc hT hS
  have hS' : StA S L f (.bld d g e te [] :: A) := by
    have hS2 : ∀ it ∈ setO d g e [.lit (.pointer none), .lit (.slice none 0 0)] A, it.ok S (L + 1) := hS.its
    have hAA : ∀ A : List It, (A.all fun it => it.free d) = true → ∀ it, it ∈ A → it ∈ setO d g e [.lit (.pointer none), .lit (.slice none 0 0)] A := by
      intro A
      induction A with
      | nil => intro _ it hi; cases hi
      | cons a r ih =>
        intro hall it hi
        simp only [List.all_cons, Bool.and_eq_true] at hall
        rcases List.mem_cons.1 hi with rfl | hi2
        · cases it with
          | obj k' g' t' cs' =>
            have := hall.1
            simp only [It.free, Bool.not_eq_true'] at this
            unfold setO
            simp only [this]
            exact List.mem_cons_self ..
          | tok ks n e x => exact List.mem_cons_self ..
          | bld k' g' t' te l => exact List.mem_cons_self ..
        · cases a with
          | obj k' g' t' cs' =>
            have := hall.1
            simp only [It.free, Bool.not_eq_true'] at this
            unfold setO
            simp only [this]
            exact List.mem_cons_of_mem _ (ih hall.2 it hi2)
          | tok ks n e x => exact List.mem_cons_of_mem _ (ih hall.2 it hi2)
          | bld k' g' t' te l => exact List.mem_cons_of_mem _ (ih hall.2 it hi2)
    have hobj : ∀ A : List It, (A.all fun it => it.free d) = true → It.obj d g e [.lit (.pointer none), .lit (.slice none 0 0)] ∈ setO d g e [.lit (.pointer none), .lit (.slice none 0 0)] A := by
      intro A
      induction A with
      | nil => intro _; exact List.mem_cons_self ..
      | cons a r ih =>
        intro hall
        simp only [List.all_cons, Bool.and_eq_true] at hall
        cases a with
        | obj k' g' t' cs' =>
          have := hall.1
          simp only [It.free, Bool.not_eq_true'] at this
          unfold setO
          simp only [this]
          exact List.mem_cons_of_mem _ (ih hall.2)
        | tok ks n e x => exact List.mem_cons_of_mem _ (ih hall.2)
        | bld k' g' t' te l => exact List.mem_cons_of_mem _ (ih hall.2)
    refine ⟨hS.lvl, hS.fn, hS.dfr, hS.out, fun it hi => ?_⟩
    rcases List.mem_cons.1 hi with rfl | hi
    · have ho : S.get ⟨L + 1, d, 0⟩ = some (.obj g e [.lit (.pointer none), .lit (.slice none 0 0)]) := hS2 _ (hobj A hn)
      refine ⟨_, none, ⟨ho, fun a ha => ?_, by simp, by rw [hS.lvl]; exact Nat.le_refl _, .inl rfl, .inl ⟨rfl, rfl, rfl⟩⟩, rfl, Nat.zero_le _, fun q1 hq => nomatch hq⟩
      simp only [List.mem_cons, List.not_mem_nil, or_false] at ha
      rcases ha with rfl | rfl <;> exact .c rfl
    · exact hS2 it (hAA A hn it hi)
  exact h g c T S hc hT hS'

/-- A text is written. -/
theorem g_bws {x y : X} {k g i : Nat} {l xs zs : List UInt8} (B : BldC P tp tb tu tz te fne fcc fws fwb fst) (hup : Cfg.up fws f = true) (hx : opd E x = some (.ptr ⟨L + 1, k, 0⟩ g 0 0)) (hy : opd E y = some (.lit (.string (bs xs)))) (hA : A[i]? = some (.bld k g tb te l)) (hf : freeB k i A = true) (hz : G.app l xs = some zs)
    (h : ∀ v, GO1 P m (accP acc (none, none)) r L f ((d, v) :: E) (A.set i (.bld k g tb te zs)) Φ) : GO1 P m acc (⟨some d, none, bf, .cl fws [x, y]⟩ :: r) L f E A Φ := by
  intro c T S hc hT hS
  unfold G.app at hz
  split at hz
  case isFalse => cases hz
  rename_i hsz
  cases hz
  obtain ⟨cs, q, h1, h2, h3, h4⟩ := hS.its _ (List.mem_of_getElem? hA)
  obtain ⟨u, v, cs', q', k1, k2⟩ := ws_ok (x := xs) B.F B.gcc B.cc B.gws B.ws B.upw (by rw [hS.fn]; exact hup) B.lws (by rw [h2]; exact B.lies) h1 hsz
  have hS' : StA (S.after u) L f (A.set i (.bld k g tb te (l ++ xs))) := k2.sta hS h2 (by rw [List.length_append]; exact hsz) h4 h1.get (fun q1 e => by
    rcases h1.buf with ⟨_, hn, _⟩ | ⟨q2, h5, _, h6, _, h7, _⟩
    · rw [hn] at e; cases e
    · rw [h6] at e; cases e
      exact ⟨_, _, _, _, h7⟩) hf
  obtain ⟨x1, T', S', q1, q2⟩ := h v _ (T.put (some d) v) (S.after u) (hc.push (a := (none, none)) (f := ⟨.all, u.kind⟩) ⟨trivial, trivial⟩) (hT.put d v) hS'
  refine ⟨x1, T', S', ?_, q2⟩
  rw [b_cl]
  simp only [List.map_cons, List.map_nil, hT.at hx, hT.at hy, hS.fn, hup, Bool.not_true, Bool.false_and, kcall_open, k1, kop_ret]
  exact q1
theorem g_bwb {x y : X} {k g i : Nat} {l zs : List UInt8} {n : Int} (B : BldC P tp tb tu tz te fne fcc fws fwb fst) (hup : Cfg.up fwb f = true) (hx : opd E x = some (.ptr ⟨L + 1, k, 0⟩ g 0 0)) (hy : opd E y = some (.lit (.int .u8 n))) (hA : A[i]? = some (.bld k g tb te l)) (hf : freeB k i A = true) (hz : G.appB l n = some zs)
    (h : ∀ v, GO1 P m (accP acc (none, none)) r L f ((d, v) :: E) (A.set i (.bld k g tb te zs)) Φ) : GO1 P m acc (⟨some d, none, bf, .cl fwb [x, y]⟩ :: r) L f E A Φ := by
  intro c T S hc hT hS
  unfold G.appB at hz
  split at hz
  case isFalse => cases hz
  rename_i hsz
  cases hz
  have hn : (n : Int) = ((UInt8.ofNat n.toNat).toNat : Int) := by
    have : (UInt8.ofNat n.toNat).toNat = n.toNat := by simp [UInt8.toNat_ofNat']; omega
    rw [this]; omega
  obtain ⟨cs, q, h1, h2, h3, h4⟩ := hS.its _ (List.mem_of_getElem? hA)
  obtain ⟨u, v, cs', q', k1, k2⟩ := wb_ok (x := UInt8.ofNat n.toNat) B.F B.gcc B.cc B.gwb B.wb B.upb (by rw [hS.fn]; exact hup) B.lwb B.lwb2 (by rw [h2]; exact B.lies) h1 hsz.2.2
  have hS' : StA (S.after u) L f (A.set i (.bld k g tb te (l ++ [UInt8.ofNat n.toNat]))) := k2.sta hS h2 (by rw [List.length_append]; exact hsz.2.2) h4 h1.get (fun q1 e => by
    rcases h1.buf with ⟨_, hn, _⟩ | ⟨q2, h5, _, h6, _, h7, _⟩
    · rw [hn] at e; cases e
    · rw [h6] at e; cases e
      exact ⟨_, _, _, _, h7⟩) hf
  obtain ⟨x1, T', S', q1, q2⟩ := h v _ (T.put (some d) v) (S.after u) (hc.push (a := (none, none)) (f := ⟨.all, u.kind⟩) ⟨trivial, trivial⟩) (hT.put d v) hS'
  refine ⟨x1, T', S', ?_, q2⟩
  rw [b_cl]
  rw [← hn] at k1
  simp only [List.map_cons, List.map_nil, hT.at hx, hT.at hy, hS.fn, hup, Bool.not_true, Bool.false_and, kcall_open, k1, kop_ret]
  exact q1
/-- What it tells. -/
theorem s_bst {x : X} {k g i : Nat} {l : List UInt8} (B : BldC P tp tb tu tz te fne fcc fws fwb fst) (hx : opd E x = some (.ptr ⟨L + 1, k, 0⟩ g 0 0)) (hA : A[i]? = some (.bld k g tb te l)) : Stp P L f E A d bf (.cl fst [x]) (none, some []) (fun u => u = .lit (.string (bs l))) := by
  intro T S hT hS
  obtain ⟨cs, q, h1, h2, h3, h4⟩ := hS.its _ (List.mem_of_getElem? hA)
  refine ⟨_, ⟨.all, Upd.kind none⟩, rfl, ⟨trivial, .inl rfl⟩, fun c r => ?_⟩
  obtain ⟨a, b, rfl⟩ : ∃ a b, cs = [a, b] := by
    match cs, h2 with
    | [a, b], _ => exact ⟨a, b, rfl⟩
  have hread : aread S (.ptr ⟨L + 1, k, 0⟩ g 0 0) = some [a, b] := by simp [aread, AS.cellsAt, h1.get]
  have hgiv : callT P fst [.ptr ⟨L + 1, k, 0⟩ g 0 0] S = some (.ret (.lit (.string (bs l))), none) := by
    refine callT_some.2 ⟨1, ?_⟩
    show (match Cfg.given fst with
      | some h => h [.ptr ⟨L + 1, k, 0⟩ g 0 0] S
      | none => _) = _
    rw [B.st]
    show givenString te _ S = _
    unfold givenString
    simp only [hread]
    rcases h1.buf with ⟨rfl, _, hb⟩ | ⟨q1, h, hne, _, hb, htok, _⟩
    · simp only [Nat.zero_add, List.getElem?_cons_succ, List.getElem?_cons_zero, Option.some.injEq] at hb
      subst hb
      rfl
    · simp only [Nat.zero_add, List.getElem?_cons_succ, List.getElem?_cons_zero, Option.some.injEq] at hb
      subst hb
      have hlen : l.length ≠ 0 := fun e => hne (List.length_eq_zero_iff.1 e)
      simp only [htok, u8s_len, byteList_u8s, Option.map_some, true_and, ne_eq, hlen, not_false_eq_true]
      rw [if_pos (by unfold maxLen; omega)]
  have hcl : AV.closedL [AV.ptr ⟨L + 1, k, 0⟩ g 0 0] = false := rfl
  rw [b_cl]
  simp only [List.map_cons, List.map_nil, hT.at hx, hcl, Bool.and_false, kcall_open, hgiv, kop_ret]
  rfl
end
end Go.Proofs.YtjdccpmbaobpdaaGreatDoor

namespace Go.Proofs.YtjdccpmbaobpdaaGreatDoor
open Go.RowKit

theorem Loop_ind {σ β ρ : Type} {body : σ → Option (Ctl σ β ρ)} (I : Nat → σ → Prop) (Q : Out β ρ → Prop)
    (h : ∀ k s, I k s → (∃ s' j, body s = some (.nxt s') ∧ j < k ∧ I j s') ∨ (∃ b, body s = some (.brk b) ∧ Q (.brk b)) ∨ (∃ r, body s = some (.ret r) ∧ Q (.ret r))) : ∀ k s, I k s → ∃ o, Loop body s = some o ∧ Q o := by
  intro k
  induction k using Nat.strongRecOn with
  | _ k ih =>
    intro s hI
    rcases h k s hI with ⟨s', j, h1, hj, h2⟩ | ⟨b, h1, h2⟩ | ⟨r, h1, h2⟩
    · obtain ⟨o, k1, k2⟩ := ih j hj s' h2
      obtain ⟨n, hn⟩ := Loop_some.1 k1
      exact ⟨o, Loop_some.2 ⟨n + 1, by unfold loopN; rw [h1]; exact hn⟩, k2⟩
    · exact ⟨_, Loop_some.2 ⟨1, by unfold loopN; rw [h1]⟩, h2⟩
    · exact ⟨_, Loop_some.2 ⟨1, by unfold loopN; rw [h1]⟩, h2⟩
/-- A loop that counts up to a number. -/
theorem Loop_for {σ β ρ : Type} {body : σ → Option (Ctl σ β ρ)} (n : Nat) (I : Nat → σ → Prop) (Q : Out β ρ → Prop)
    (h : ∀ i s, i < n → I i s → (∃ s', body s = some (.nxt s') ∧ I (i + 1) s') ∨ (∃ b, body s = some (.brk b) ∧ Q (.brk b)) ∨ (∃ r, body s = some (.ret r) ∧ Q (.ret r)))
    (hn : ∀ s, I n s → (∃ b, body s = some (.brk b) ∧ Q (.brk b)) ∨ (∃ r, body s = some (.ret r) ∧ Q (.ret r))) {s : σ} (h0 : I 0 s) : ∃ o, Loop body s = some o ∧ Q o := by
  refine Loop_ind (fun k s => ∃ i, k = n - i ∧ i ≤ n ∧ I i s) Q ?_ n s ⟨0, rfl, Nat.zero_le _, h0⟩
  rintro k s ⟨i, rfl, hi, hI⟩
  rcases Nat.lt_or_ge i n with hlt | hge
  · rcases h i s hlt hI with ⟨s', h1, h2⟩ | h1
    · exact .inl ⟨s', n - (i + 1), h1, by omega, i + 1, rfl, hlt, h2⟩
    · exact .inr h1
  · obtain rfl : i = n := by omega
    exact .inr (hn s hI)
namespace G
theorem addI_eq {a b : Int} (h1 : -9223372036854775808 ≤ a + b) (h2 : a + b ≤ 9223372036854775807) : addI a b = a + b := wrap_i64 h1 h2
theorem subI_eq {a b : Int} (h1 : -9223372036854775808 ≤ a - b) (h2 : a - b ≤ 9223372036854775807) : subI a b = a - b := wrap_i64 h1 h2
theorem addI_nat {i : Nat} (h : i < 9223372036854775807) : addI (i : Int) 1 = ((i + 1 : Nat) : Int) := by rw [addI_eq (by omega) (by omega)]; omega
theorem idx_nat {α : Type} (l : List α) (i : Nat) : idx l (i : Int) = l[i]? := by
  unfold idx
  rw [if_pos (by omega), Int.toNat_natCast]
theorem idx_lt {α : Type} (l : List α) (i : Nat) (h : i < l.length) : idx l (i : Int) = some l[i] := by rw [idx_nat, List.getElem?_eq_getElem h]
theorem app_eq {α : Type} {a b : List α} (h : a.length + b.length ≤ 1000000000) : app a b = some (a ++ b) := if_pos h
theorem catS_eq {a b : List UInt8} (h : a.length + b.length ≤ 9223372036854775807) : catS a b = some (a ++ b) := if_pos h
theorem when_true {α : Type} (o : Option α) (d : α) : when true o d = o := rfl
theorem when_false {α : Type} (o : Option α) (d : α) : when false o d = some d := rfl
end G
theorem take_next {α : Type} (l : List α) (i : Nat) (h : i < l.length) : l.take (i + 1) = l.take i ++ [l[i]] := by
  rw [List.take_add_one, List.getElem?_eq_getElem h]; rfl
theorem take_eq_next {α : Type} (xs ys : List α) (i : Nat) (h : i < xs.length) (h' : i < ys.length) : xs.take (i + 1) = ys.take (i + 1) ↔ (xs.take i = ys.take i ∧ xs[i] = ys[i]) := by
  rw [take_next xs i h, take_next ys i h']
  constructor
  · intro e
    have := List.append_inj e (by simp; omega)
    simpa using this
  · rintro ⟨a, b⟩
    rw [a, b]
end Go.Proofs.YtjdccpmbaobpdaaGreatDoor
