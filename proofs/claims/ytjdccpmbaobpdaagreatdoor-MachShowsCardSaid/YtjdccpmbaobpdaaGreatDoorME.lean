/-
  Values ys the laws speak of them, and how they lie in the machine's own values. What a call hands up, whose own slots are rooms behind slices: names of the level above it. strings.Builder on the machine: what WriteString, WriteByte and copyCheck do, wherever the builder lies.
-/
import Derived.Test.YtjdccpmbaobpdaaGreatDoorMD
namespace Go.Proofs.YtjdccpmbaobpdaaGreatDoor
open Go.RowKit

/-- A cell: a number, a truth, a text, a slice of elements of so many cells. -/
inductive V where
  | int (k : IntKind) (n : Int)
  | bool (b : Bool)
  | str (l : List UInt8)
  | sl (sz : Nat) (es : List (List V))

mutual
/-- A cell that names nothing of the store. -/
def RelC : V → AV → Prop
  | .int k n, a => a = .lit (.int k n)
  | .bool b, a => a = .lit (.bool b)
  | .str l, a => a = .lit (.string (bs l))
  | .sl sz es, a => (es = [] ∧ ∃ p, a = .lit (.slice p 0 0)) ∨ ∃ sp ys, a = .list sp sz ys ∧ Spare.closed sp = true ∧ RelCLL es ys
def RelCL : List V → List AV → Prop
  | [], l => l = []
  | v :: r, l => ∃ a t, l = a :: t ∧ RelC v a ∧ RelCL r t
def RelCLL : List (List V) → List (List AV) → Prop
  | [], l => l = []
  | v :: r, l => ∃ a t, l = a :: t ∧ RelCL v a ∧ RelCLL r t
end
/-- Room that is none of the store, or lies at a level. -/
def Spare.at (L : Nat) (sp : Spare) : Prop := sp.closed = true ∨ ∃ p g, sp = .own p g ∧ p.l = L
/-- A cell; the room behind a slice may be of the store, at a level. -/
def RelS (L : Nat) : V → AV → Prop
  | .int k n, a => a = .lit (.int k n)
  | .bool b, a => a = .lit (.bool b)
  | .str l, a => a = .lit (.string (bs l))
  | .sl sz es, a => (es = [] ∧ ∃ p, a = .lit (.slice p 0 0)) ∨ ∃ sp ys, a = .list sp sz ys ∧ sp.at L ∧ RelCLL es ys
def RelSL (L : Nat) : List V → List AV → Prop
  | [], l => l = []
  | v :: r, l => ∃ a t, l = a :: t ∧ RelS L v a ∧ RelSL L r t

theorem RelC.toS {L : Nat} {v : V} {a : AV} (h : RelC v a) : RelS L v a := by
  cases v with
  | sl sz es =>
    unfold RelC at h
    rcases h with h | ⟨sp, ys, h, hc, h'⟩
    · exact .inl h
    · exact .inr ⟨sp, ys, h, .inl hc, h'⟩
  | _ => unfold RelC at h; exact h
theorem RelCL.toS {L : Nat} : ∀ {vs : List V} {ys : List AV}, RelCL vs ys → RelSL L vs ys
  | [], ys, h => by unfold RelCL at h; exact h
  | v :: r, ys, h => by
    unfold RelCL at h
    obtain ⟨a, t, rfl, h1, h2⟩ := h
    exact ⟨a, t, rfl, h1.toS, h2.toS⟩

mutual
theorem RelC.closed : ∀ {v : V} {a : AV}, RelC v a → a.closed = true
  | .int _ _, a, h => by unfold RelC at h; subst h; rfl
  | .bool _, a, h => by unfold RelC at h; subst h; rfl
  | .str _, a, h => by unfold RelC at h; subst h; rfl
  | .sl sz es, a, h => by
    unfold RelC at h
    rcases h with ⟨_, p, rfl⟩ | ⟨sp, ys, rfl, h1, h2⟩
    · rfl
    · simp [AV.closed, h1, RelCLL.closed h2]
theorem RelCL.closed : ∀ {vs : List V} {ys : List AV}, RelCL vs ys → AV.closedL ys = true
  | [], ys, h => by unfold RelCL at h; subst h; rfl
  | v :: r, ys, h => by
    unfold RelCL at h
    obtain ⟨a, t, rfl, h1, h2⟩ := h
    simp [AV.closedL, RelC.closed h1, RelCL.closed h2]
theorem RelCLL.closed : ∀ {vs : List (List V)} {ys : List (List AV)}, RelCLL vs ys → AV.closedLL ys = true
  | [], ys, h => by unfold RelCLL at h; subst h; rfl
  | v :: r, ys, h => by
    unfold RelCLL at h
    obtain ⟨a, t, rfl, h1, h2⟩ := h
    simp [AV.closedLL, RelCL.closed h1, RelCLL.closed h2]
end

theorem Spare.closed_lv {sp : Spare} {l : Nat} (h : sp.closed = true) : sp.lv l = true := by cases sp <;> first | rfl | cases h
mutual
theorem RelC.lv : ∀ {v : V} {a : AV}, RelC v a → ∀ l, a.lv l = true
  | .int _ _, a, h, l => by unfold RelC at h; subst h; rfl
  | .bool _, a, h, l => by unfold RelC at h; subst h; rfl
  | .str _, a, h, l => by unfold RelC at h; subst h; rfl
  | .sl sz es, a, h, l => by
    unfold RelC at h
    rcases h with ⟨_, p, rfl⟩ | ⟨sp, ys, rfl, h1, h2⟩
    · rfl
    · simp [AV.lv, Spare.closed_lv h1, RelCLL.lv h2]
theorem RelCL.lv : ∀ {vs : List V} {ys : List AV}, RelCL vs ys → ∀ l, AV.lvL l ys = true
  | [], ys, h, l => by unfold RelCL at h; subst h; rfl
  | v :: r, ys, h, l => by
    unfold RelCL at h
    obtain ⟨a, t, rfl, h1, h2⟩ := h
    simp [AV.lvL, RelC.lv h1, RelCL.lv h2]
theorem RelCLL.lv : ∀ {vs : List (List V)} {ys : List (List AV)}, RelCLL vs ys → ∀ l, AV.lvLL l ys = true
  | [], ys, h, l => by unfold RelCLL at h; subst h; rfl
  | v :: r, ys, h, l => by
    unfold RelCLL at h
    obtain ⟨a, t, rfl, h1, h2⟩ := h
    simp [AV.lvLL, RelCL.lv h1, RelCLL.lv h2]
end

theorem RelS.cells {L : Nat} {v : V} {a : AV} (h : RelS L v a) : a.cells = [a] := by
  cases v with
  | sl sz es =>
    rcases h with ⟨_, p, rfl⟩ | ⟨sp, ys, rfl, _, h2⟩ <;> rfl
  | _ => cases h; rfl
theorem RelS.one {L : Nat} {v : V} {a : AV} (h : RelS L v a) : a.one = true := by
  cases v with
  | sl sz es =>
    rcases h with ⟨_, p, rfl⟩ | ⟨sp, ys, rfl, _, h2⟩ <;> rfl
  | _ => cases h; rfl
theorem RelSL.ones {L : Nat} : ∀ {vs : List V} {ys : List AV}, RelSL L vs ys → ys.all AV.one = true
  | [], ys, h => by cases h; rfl
  | v :: r, ys, h => by
    obtain ⟨a, t, rfl, h1, h2⟩ := h
    simp [RelS.one h1]
    simpa using h2.ones
theorem RelSL.length {L : Nat} : ∀ {vs : List V} {ys : List AV}, RelSL L vs ys → ys.length = vs.length
  | [], ys, h => by cases h; rfl
  | v :: r, ys, h => by
    obtain ⟨a, t, rfl, h1, h2⟩ := h
    simp [h2.length]
theorem RelCLL.length : ∀ {vs : List (List V)} {ys : List (List AV)}, RelCLL vs ys → ys.length = vs.length
  | [], ys, h => by unfold RelCLL at h; cases h; rfl
  | v :: r, ys, h => by
    unfold RelCLL at h
    obtain ⟨a, t, rfl, h1, h2⟩ := h
    simp [h2.length]
theorem RelCLL.append : ∀ {vs us : List (List V)} {ys cs : List (List AV)}, RelCLL vs ys → RelCLL us cs → RelCLL (vs ++ us) (ys ++ cs)
  | [], us, ys, cs, h, h' => by unfold RelCLL at h; subst h; exact h'
  | v :: r, us, ys, cs, h, h' => by
    unfold RelCLL at h
    obtain ⟨a, t, rfl, h1, h2⟩ := h
    show RelCLL (v :: (r ++ us)) _
    unfold RelCLL
    exact ⟨a, t ++ cs, rfl, h1, h2.append h'⟩
theorem RelCLL.get : ∀ {vs : List (List V)} {ys : List (List AV)} {i : Nat} {v : List V}, RelCLL vs ys → vs[i]? = some v → ∃ a, ys[i]? = some a ∧ RelCL v a
  | [], _, _, _, _, h => by cases h
  | u :: r, ys, 0, v, h, hi => by
    unfold RelCLL at h
    obtain ⟨a, t, rfl, h1, h2⟩ := h
    simp only [List.getElem?_cons_zero, Option.some.injEq] at hi
    subst hi
    exact ⟨a, rfl, h1⟩
  | u :: r, ys, i + 1, v, h, hi => by
    unfold RelCLL at h
    obtain ⟨a, t, rfl, h1, h2⟩ := h
    simp only [List.getElem?_cons_succ] at hi ⊢
    exact h2.get hi
theorem RelCLL.take : ∀ {vs : List (List V)} {ys : List (List AV)} (n : Nat), RelCLL vs ys → RelCLL (vs.take n) (ys.take n)
  | [], ys, n, h => by unfold RelCLL at h; subst h; simp [RelCLL]
  | v :: r, ys, 0, h => by simp [RelCLL]
  | v :: r, ys, n + 1, h => by
    unfold RelCLL at h
    obtain ⟨a, t, rfl, h1, h2⟩ := h
    simp only [List.take_succ_cons]
    unfold RelCLL
    exact ⟨a, _, rfl, h1, h2.take n⟩
theorem RelCLL.drop : ∀ {vs : List (List V)} {ys : List (List AV)} (n : Nat), RelCLL vs ys → RelCLL (vs.drop n) (ys.drop n)
  | [], ys, n, h => by unfold RelCLL at h; subst h; simp [RelCLL]
  | v :: r, ys, 0, h => h
  | v :: r, ys, n + 1, h => by
    unfold RelCLL at h
    obtain ⟨a, t, rfl, h1, h2⟩ := h
    exact h2.drop n

theorem RelSL.drop {L : Nat} : ∀ {vs : List V} {ys : List AV} (n : Nat), RelSL L vs ys → RelSL L (vs.drop n) (ys.drop n)
  | vs, ys, 0, h => h
  | [], ys, n + 1, h => by cases h; rfl
  | v :: r, ys, n + 1, h => by
    obtain ⟨a, t, rfl, h1, h2⟩ := h
    exact h2.drop n
theorem RelSL.take {L : Nat} : ∀ {vs : List V} {ys : List AV} (n : Nat), RelSL L vs ys → RelSL L (vs.take n) (ys.take n)
  | vs, ys, 0, h => rfl
  | [], ys, n + 1, h => by cases h; rfl
  | v :: r, ys, n + 1, h => by
    obtain ⟨a, t, rfl, h1, h2⟩ := h
    exact ⟨a, _, rfl, h1, h2.take n⟩
theorem RelCL.drop : ∀ {vs : List V} {ys : List AV} (n : Nat), RelCL vs ys → RelCL (vs.drop n) (ys.drop n)
  | vs, ys, 0, h => h
  | [], ys, n + 1, h => by unfold RelCL at h; cases h; simp [RelCL]
  | v :: r, ys, n + 1, h => by
    unfold RelCL at h
    obtain ⟨a, t, rfl, h1, h2⟩ := h
    exact h2.drop n
theorem RelCL.take : ∀ {vs : List V} {ys : List AV} (n : Nat), RelCL vs ys → RelCL (vs.take n) (ys.take n)
  | vs, ys, 0, h => by simp [RelCL]
  | [], ys, n + 1, h => by unfold RelCL at h; cases h; simp [RelCL]
  | v :: r, ys, n + 1, h => by
    unfold RelCL at h
    obtain ⟨a, t, rfl, h1, h2⟩ := h
    simp only [List.take_succ_cons]
    unfold RelCL
    exact ⟨a, _, rfl, h1, h2.take n⟩
theorem RelSL.append {L : Nat} : ∀ {vs us : List V} {ys cs : List AV}, RelSL L vs ys → RelSL L us cs → RelSL L (vs ++ us) (ys ++ cs)
  | [], us, ys, cs, h, h' => by cases h; exact h'
  | v :: r, us, ys, cs, h, h' => by
    obtain ⟨a, t, rfl, h1, h2⟩ := h
    exact ⟨a, t ++ cs, rfl, h1, h2.append h'⟩
def spliceV (cs : List V) (off : Nat) (xs : List V) : List V := cs.take off ++ xs ++ cs.drop (off + xs.length)
theorem RelSL.spl {L : Nat} {vs xs : List V} {as1 ys : List AV} (off : Nat) (h : RelSL L vs as1) (h' : RelSL L xs ys) : RelSL L (spliceV vs off xs) (splice as1 off ys) := by
  unfold spliceV splice
  rw [h'.length]
  exact ((h.take off).append h').append (h.drop _)

theorem RelS.lit_int {L : Nat} {k : IntKind} {n : Int} : RelS L (.int k n) (.lit (.int k n)) := rfl
theorem RelS.nil {L : Nat} (sz : Nat) (p : Option Addr) : RelS L (.sl sz []) (.lit (.slice p 0 0)) := .inl ⟨rfl, p, rfl⟩
theorem RelC.nil (sz : Nat) (p : Option Addr) : RelC (.sl sz []) (.lit (.slice p 0 0)) := by unfold RelC; exact .inl ⟨rfl, p, rfl⟩
theorem RelS.list {L : Nat} {sz : Nat} {es : List (List V)} {ys : List (List AV)} {sp : Spare} (hs : sp.at L) (h : RelCLL es ys) : RelS L (.sl sz es) (.list sp sz ys) := .inr ⟨sp, ys, rfl, hs, h⟩
theorem RelC.list {sz : Nat} {es : List (List V)} {ys : List (List AV)} {sp : Spare} (hs : sp.closed = true) (h : RelCLL es ys) : RelC (.sl sz es) (.list sp sz ys) := by unfold RelC; exact .inr ⟨sp, ys, rfl, hs, h⟩
theorem RelS.len {L : Nat} {sz : Nat} {es : List (List V)} {a : AV} (h : RelS L (.sl sz es) a) : llV a = some (.lit (.int .i64 es.length)) := by
  rcases h with ⟨rfl, p, rfl⟩ | ⟨sp, ys, rfl, hat, h⟩
  · rfl
  · show some _ = _
    rw [h.length]
theorem RelS.elems {L : Nat} {sz : Nat} {es : List (List V)} {a : AV} (S : AS) (h : RelS L (.sl sz es) a) : ∃ ys, aelems S sz a = some ys ∧ RelCLL es ys := by
  rcases h with ⟨rfl, p, rfl⟩ | ⟨sp, ys, rfl, hat, h⟩
  · exact ⟨[], rfl, by unfold RelCLL; rfl⟩
  · exact ⟨ys, aelems_list sz sp ys, h⟩
theorem RelS.norm {L : Nat} {v : V} {a : AV} (h : RelS L v a) : RelC v a.norm1 := by
  cases v with
  | sl sz es =>
    rcases h with ⟨rfl, p, rfl⟩ | ⟨sp, ys, rfl, hat, h⟩
    · exact RelC.nil sz p
    · exact RelC.list rfl h
  | int k n => cases h; unfold RelC; rfl
  | bool b => cases h; unfold RelC; rfl
  | str l => cases h; unfold RelC; rfl
theorem RelSL.norm {L : Nat} : ∀ {vs : List V} {ys : List AV}, RelSL L vs ys → RelCL vs (ys.map AV.norm1)
  | [], ys, h => by cases h; unfold RelCL; rfl
  | v :: r, ys, h => by
    obtain ⟨a, t, rfl, h1, h2⟩ := h
    unfold RelCL
    exact ⟨_, _, rfl, h1.norm, h2.norm⟩

/-! ### What a call hands up -/
theorem RelS.frz {l : Nat} {v : V} {a : AV} (h : RelS (l + 1) v a) (S : AS) (n : Nat) : ∃ b, frz l S (n + 2) a = some b ∧ RelC v b := by
  cases v with
  | sl sz es =>
    rcases h with ⟨rfl, p, rfl⟩ | ⟨sp, ys, rfl, hat, h⟩
    · exact ⟨_, frz_lv_true rfl, RelC.nil sz p⟩
    · rcases hat with hc | ⟨p, g, rfl, hp⟩
      · exact ⟨_, frz_lv_true (by simp [AV.lv, Spare.closed_lv hc, h.lv]), RelC.list hc h⟩
      · exact ⟨_, frz_list_own p g sz ys (h.lv l) (by omega), RelC.list rfl h⟩
  | int k n => cases h; exact ⟨_, frz_lv_true rfl, by unfold RelC; rfl⟩
  | bool b => cases h; exact ⟨_, frz_lv_true rfl, by unfold RelC; rfl⟩
  | str l => cases h; exact ⟨_, frz_lv_true rfl, by unfold RelC; rfl⟩
theorem RelSL.frz {l : Nat} (S : AS) : ∀ {vs : List V} {ys : List AV} (n : Nat), RelSL (l + 1) vs ys → vs.length + 2 ≤ n → ∃ bs, frzL l S n ys = some bs ∧ RelCL vs bs
  | [], ys, n, h, hn => by
    cases h
    obtain ⟨m, rfl⟩ : ∃ m, n = m + 1 := ⟨n - 1, by omega⟩
    exact ⟨[], rfl, by unfold RelCL; rfl⟩
  | v :: r, ys, n, h, hn => by
    obtain ⟨a, t, rfl, h1, h2⟩ := h
    simp only [List.length_cons] at hn
    obtain ⟨m, rfl⟩ : ∃ m, n = m + 3 := ⟨n - 3, by omega⟩
    obtain ⟨b, k1, k2⟩ := h1.frz S m
    obtain ⟨bs, k3, k4⟩ := RelSL.frz S (m + 2) h2 (by omega)
    refine ⟨b :: bs, ?_, ?_⟩
    · rw [frzL_cons, k1, k3]
      rfl
    · unfold RelCL
      exact ⟨b, bs, rfl, k2, k4⟩

/-- A value in a temporary: a cell, or a struct's cells. -/
inductive RV where
  | int (k : IntKind) (n : Int)
  | bool (b : Bool)
  | str (l : List UInt8)
  | sl (sz : Nat) (es : List (List V))
  | agg (M : List V)
def RV.S (L : Nat) : RV → AV → Prop
  | .int k n, a => a = .lit (.int k n)
  | .bool b, a => a = .lit (.bool b)
  | .str l, a => a = .lit (.string (bs l))
  | .sl sz es, a => RelS L (.sl sz es) a
  | .agg M, a => ∃ cs, a = .agg cs ∧ RelSL L M cs
def RV.C : RV → AV → Prop
  | .int k n, a => a = .lit (.int k n)
  | .bool b, a => a = .lit (.bool b)
  | .str l, a => a = .lit (.string (bs l))
  | .sl sz es, a => RelC (.sl sz es) a
  | .agg M, a => ∃ cs, a = .agg cs ∧ RelCL M cs
def RVL (L : Nat) : List RV → List AV → Prop
  | [], l => l = []
  | r :: rs, l => ∃ a t, l = a :: t ∧ r.S L a ∧ RVL L rs t
def RVLC : List RV → List AV → Prop
  | [], l => l = []
  | r :: rs, l => ∃ a t, l = a :: t ∧ r.C a ∧ RVLC rs t
/-- What a function answers. -/
def ResC : List RV → AV → Prop
  | [r], v => r.C v
  | rs, v => ∃ l, v = .tup l ∧ RVLC rs l
theorem RV.C.toS {L : Nat} {r : RV} {a : AV} (h : r.C a) : r.S L a := by
  cases r with
  | sl sz es => exact RelC.toS h
  | agg M =>
    obtain ⟨cs, rfl, h⟩ := h
    exact ⟨cs, rfl, h.toS⟩
  | _ => exact h
theorem RV.S.norm {L : Nat} {r : RV} {a : AV} (h : r.S L a) : r.C a.normA := by
  cases r with
  | sl sz es =>
    have h1 : a.normA = a.norm1 := by rcases h with ⟨_, p, rfl⟩ | ⟨sp, ys, rfl, _, h2⟩ <;> rfl
    show RelC (.sl sz es) a.normA
    rw [h1]
    exact RelS.norm h
  | int k n => cases h; rfl
  | bool b => cases h; rfl
  | str l => cases h; rfl
  | agg M =>
    obtain ⟨cs, rfl, h⟩ := h
    exact ⟨_, rfl, RelSL.norm h⟩
theorem RVL.norm {L : Nat} : ∀ {rs : List RV} {ys : List AV}, RVL L rs ys → RVLC rs (ys.map AV.normA)
  | [], ys, h => by cases h; rfl
  | r :: rs, ys, h => by
    obtain ⟨a, t, rfl, h1, h2⟩ := h
    exact ⟨_, _, rfl, h1.norm, h2.norm⟩
theorem RVL.length {L : Nat} : ∀ {rs : List RV} {ys : List AV}, RVL L rs ys → ys.length = rs.length
  | [], ys, h => by cases h; rfl
  | r :: rs, ys, h => by
    obtain ⟨a, t, rfl, h1, h2⟩ := h
    simp [h2.length]
def RV.size : RV → Nat
  | .agg M => M.length
  | _ => 0
theorem RV.S.frz {l : Nat} {r : RV} {a : AV} (h : r.S (l + 1) a) (S : AS) (n : Nat) (hn : r.size + 3 ≤ n) : ∃ b, frz l S n a = some b ∧ r.C b := by
  obtain ⟨m, rfl⟩ : ∃ m, n = m + 2 := ⟨n - 2, by omega⟩
  cases r with
  | int k n => cases h; exact ⟨_, frz_lv_true rfl, rfl⟩
  | bool b => cases h; exact ⟨_, frz_lv_true rfl, rfl⟩
  | str t => cases h; exact ⟨_, frz_lv_true rfl, rfl⟩
  | sl sz es => exact RelS.frz (l := l) (v := .sl sz es) h S m
  | agg M =>
    obtain ⟨cs, rfl, h⟩ := h
    simp only [RV.size] at hn
    obtain ⟨bs, k1, k2⟩ := RelSL.frz S (m + 1) h (by omega)
    refine ⟨.agg bs, ?_, bs, rfl, k2⟩
    rw [frz_agg cs (by have := h.length; omega), k1]
    rfl
theorem RVL.frz {l : Nat} (S : AS) : ∀ {rs : List RV} {ys : List AV} (n : Nat), RVL (l + 1) rs ys → rs.length + (rs.map RV.size).sum + 4 ≤ n → ∃ bs, frzL l S n ys = some bs ∧ RVLC rs bs
  | [], ys, n, h, hn => by
    cases h
    obtain ⟨m, rfl⟩ : ∃ m, n = m + 1 := ⟨n - 1, by omega⟩
    exact ⟨[], rfl, rfl⟩
  | r :: rs, ys, n, h, hn => by
    obtain ⟨a, t, rfl, h1, h2⟩ := h
    simp only [List.length_cons, List.map_cons, List.sum_cons] at hn
    obtain ⟨m, rfl⟩ : ∃ m, n = m + 1 := ⟨n - 1, by omega⟩
    obtain ⟨b, k1, k2⟩ := h1.frz S m (by omega)
    obtain ⟨bs, k3, k4⟩ := RVL.frz S m h2 (by omega)
    refine ⟨b :: bs, ?_, b, bs, rfl, k2, k4⟩
    rw [frzL_cons, k1, k3]
    rfl
/-- What is answered, frozen. -/
theorem res_frz {l : Nat} (S : AS) {rs : List RV} {ys : List AV} (h : RVL (l + 1) rs ys) (hn : rs.length + (rs.map RV.size).sum + 5 ≤ 100000) : ∃ v, frz l S 100000 (tupled ys) = some v ∧ ResC rs v := by
  have tup : ∀ {rs : List RV} {ys : List AV}, RVL (l + 1) rs ys → rs.length + (rs.map RV.size).sum + 5 ≤ 100000 → ∃ v, YtjdccpmbaobpdaaGreatDoor.frz l S 100000 (.tup ys) = some v ∧ ∃ l, v = .tup l ∧ RVLC rs l := by
    intro rs ys h hn
    obtain ⟨bs, k1, k2⟩ := RVL.frz S 99999 h (by omega)
    refine ⟨.tup bs, ?_, bs, rfl, k2⟩
    rw [show (100000 : Nat) = 99999 + 1 from rfl, frz_tup ys (by have := h.length; omega), k1]
    rfl
  match rs, h, hn with
  | [], h, hn =>
    cases h
    exact tup (rs := []) (ys := []) rfl hn
  | [r], h, hn =>
    obtain ⟨a, t, rfl, h1, h2⟩ := h
    cases h2
    exact h1.frz S 100000 (by simp at hn; omega)
  | r :: r' :: rs, h, hn =>
    obtain ⟨a, t, rfl, h1, a', t', rfl, h2⟩ := h
    exact tup (rs := r :: r' :: rs) (ys := a :: a' :: t') ⟨a, _, rfl, h1, a', t', rfl, h2⟩ hn
end Go.Proofs.YtjdccpmbaobpdaaGreatDoor

namespace Go.Proofs.YtjdccpmbaobpdaaGreatDoor
open Go.RowKit

mutual
theorem closed_deep {l : Nat} : ∀ {a : AV}, a.closed = true → AV.deep l a = []
  | .lit _, _ => rfl
  | .agg cs, h => by simp only [AV.closed] at h; simp only [AV.deep]; exact closedL_deep h
  | .tup cs, h => by simp only [AV.closed] at h; simp only [AV.deep]; exact closedL_deep h
  | .cref cs, h => by simp only [AV.closed] at h; simp only [AV.deep]; exact closedL_deep h
  | .fn _ cs, h => by simp only [AV.closed] at h; simp only [AV.deep]; exact closedL_deep h
  | .iface _ x, h => by simp only [AV.closed] at h; simp only [AV.deep]; exact closed_deep h
  | .list sp _ es, h => by
    simp only [AV.closed, Bool.and_eq_true] at h
    simp only [AV.deep, closedLL_deep h.2, List.append_nil]
    cases sp with
    | own p g => cases h.1
    | _ => rfl
  | .ptr .., h => by cases h
  | .row .., h => by cases h
  | .mref .., h => by cases h
theorem closedL_deep {l : Nat} : ∀ {a : List AV}, AV.closedL a = true → AV.deepL l a = []
  | [], _ => rfl
  | a :: r, h => by
    simp only [AV.closedL, Bool.and_eq_true] at h
    simp only [AV.deepL, closed_deep h.1, closedL_deep h.2, List.append_nil]
theorem closedLL_deep {l : Nat} : ∀ {a : List (List AV)}, AV.closedLL a = true → AV.deepLL l a = []
  | [], _ => rfl
  | a :: r, h => by
    simp only [AV.closedLL, Bool.and_eq_true] at h
    simp only [AV.deepLL, closedL_deep h.1, closedLL_deep h.2, List.append_nil]
end
mutual
theorem closed_ren {l : Nat} {S : AS} {N : Names} : ∀ {a : AV}, a.closed = true → ren l S N a = some a
  | .lit _, _ => by simp only [ren]
  | .agg cs, h => by simp only [AV.closed] at h; simp only [ren, closedL_ren h, Option.map_some]
  | .tup cs, h => by simp only [AV.closed] at h; simp only [ren, closedL_ren h, Option.map_some]
  | .cref cs, h => by simp only [AV.closed] at h; simp only [ren, closedL_ren h, Option.map_some]
  | .fn _ cs, h => by simp only [AV.closed] at h; simp only [ren, closedL_ren h, Option.map_some]
  | .iface _ x, h => by simp only [AV.closed] at h; simp only [ren, closed_ren h, Option.map_some]
  | .list sp _ es, h => by
    simp only [AV.closed, Bool.and_eq_true] at h
    simp only [ren, closedLL_ren h.2, Option.map_some]
    cases sp with
    | own p g => cases h.1
    | _ => rfl
  | .ptr .., h => by cases h
  | .row .., h => by cases h
  | .mref .., h => by cases h
theorem closedL_ren {l : Nat} {S : AS} {N : Names} : ∀ {a : List AV}, AV.closedL a = true → renL l S N a = some a
  | [], _ => by simp only [renL]
  | a :: r, h => by
    simp only [AV.closedL, Bool.and_eq_true] at h
    simp only [renL, closed_ren h.1, closedL_ren h.2]
theorem closedLL_ren {l : Nat} {S : AS} {N : Names} : ∀ {a : List (List AV)}, AV.closedLL a = true → renLL l S N a = some a
  | [], _ => by simp only [renLL]
  | a :: r, h => by
    simp only [AV.closedLL, Bool.and_eq_true] at h
    simp only [renLL, closedL_ren h.1, closedLL_ren h.2]
end

theorem before_trans {a b c : Loc} (h : a.before b = true) (h' : b.before c = true) : a.before c = true := by
  simp only [Loc.before, Bool.or_eq_true, Bool.and_eq_true, decide_eq_true_eq] at *
  omega
theorem before_tot {a b : Loc} (h : a ≠ b) (h' : ¬ a.before b = true) : b.before a = true := by
  have hne : ¬ (a.l = b.l ∧ a.k = b.k ∧ a.i = b.i) := fun ⟨h1, h2, h3⟩ => h (by cases a; cases b; simp only at h1 h2 h3; subst h1; subst h2; subst h3; rfl)
  simp only [Loc.before, Bool.or_eq_true, Bool.and_eq_true, decide_eq_true_eq] at *
  omega
theorem before_irr {a : Loc} : ¬ a.before a = true := by
  simp only [Loc.before, Bool.or_eq_true, Bool.and_eq_true, decide_eq_true_eq]
  omega
abbrev SortedL (l : List Loc) : Prop := l.Pairwise fun a b => a.before b = true
theorem SortedL.put : ∀ {l : List Loc} {p : Loc}, SortedL l → SortedL (logPut l p)
  | [], p, _ => by simp [logPut, SortedL]
  | q :: r, p, h => by
    unfold logPut
    split
    · exact h
    · rename_i hne
      have h := List.pairwise_cons.1 h
      split
      · rename_i hb
        refine List.pairwise_cons.2 ⟨fun x hx => ?_, SortedL.put h.2⟩
        rcases mem_logPut.1 hx with hx | rfl
        · exact h.1 x hx
        · exact hb
      · rename_i hb
        have hpq := before_tot hne hb
        refine List.pairwise_cons.2 ⟨fun x hx => ?_, List.pairwise_cons.2 h⟩
        rcases List.mem_cons.1 hx with rfl | hx
        · exact hpq
        · exact before_trans hpq (h.1 x hx)
theorem SortedL.merge : ∀ {m l : List Loc}, SortedL l → SortedL (mergeLog l m)
  | [], l, h => h
  | p :: r, l, h => SortedL.merge (m := r) h.put
theorem SortedL.nodup {l : List Loc} (h : SortedL l) : l.Nodup := List.Pairwise.imp (R := fun a b => a.before b = true) (S := fun a b => a ≠ b) (fun {a b} hab e => by subst e; exact before_irr hab) h
theorem nodup_len {α : Type} [DecidableEq α] : ∀ {l m : List α}, l.Nodup → (∀ x ∈ l, x ∈ m) → l.length ≤ m.length
  | [], m, _, _ => Nat.zero_le _
  | a :: r, m, h, hs => by
    have h := List.nodup_cons.1 h
    have ha := hs a (List.mem_cons_self ..)
    have := nodup_len (l := r) (m := m.erase a) h.2 fun x hx => (List.mem_erase_of_ne (fun e => by subst e; exact h.1 hx)).2 (hs x (List.mem_cons_of_mem _ hx))
    rw [List.length_erase_of_mem ha] at this
    have hm : 0 < m.length := List.length_pos_of_mem ha
    simp only [List.length_cons]
    omega

theorem reached_toks {l : Nat} {S : AS} : ∀ (n : Nat) (D seen : List Loc), D.length < n → (∀ d ∈ D, ∃ h m sz e, S.get d = some (.tok h m sz e)) → SortedL seen → (∀ p, p ∈ reached l S n D seen ↔ p ∈ D ∨ p ∈ seen) ∧ SortedL (reached l S n D seen)
  | 0, D, seen, h, _, _ => by omega
  | n + 1, [], seen, _, _, hs => by
    unfold reached
    exact ⟨fun p => by simp, hs⟩
  | n + 1, d :: r, seen, h, hD, hs => by
    simp only [List.length_cons] at h
    obtain ⟨g, m, sz, e, hd⟩ := hD d (List.mem_cons_self ..)
    have hr := fun x hx => hD x (List.mem_cons_of_mem _ hx)
    unfold reached
    split
    · rename_i hc
      obtain ⟨k1, k2⟩ := reached_toks n r seen (by omega) hr hs
      refine ⟨fun p => ?_, k2⟩
      rw [k1]
      have := List.contains_iff_mem.1 hc
      simp only [List.mem_cons]
      constructor
      · rintro (h | h)
        · exact .inl (.inr h)
        · exact .inr h
      · rintro ((rfl | h) | h)
        · exact .inr this
        · exact .inl h
        · exact .inr h
    · simp only [hd, ASlot.deep, List.nil_append]
      obtain ⟨k1, k2⟩ := reached_toks n r (logPut seen d) (by omega) hr hs.put
      refine ⟨fun p => ?_, k2⟩
      rw [k1, mem_logPut]
      simp only [List.mem_cons]
      constructor
      · rintro (h | h | rfl)
        · exact .inl (.inr h)
        · exact .inr h
        · exact .inl (.inl rfl)
      · rintro ((rfl | h) | h)
        · exact .inr (.inr rfl)
        · exact .inl h
        · exact .inr (.inl h)

theorem nextName_pos (l : Nat) : ∀ t : Tab, 1 ≤ nextName l t
  | [] => Nat.le_refl _
  | (q, s) :: r => by
    unfold nextName
    split
    · exact Nat.le_trans (nextName_pos l r) (Nat.le_max_right ..)
    · exact nextName_pos l r
theorem nextName_none {l : Nat} : ∀ {t : Tab} {j : Nat}, nextName l (t.cut l) ≤ j → t.get ⟨l, 0, j⟩ = none
  | [], j, _ => rfl
  | (q, s) :: r, j, h => by
    unfold Tab.cut at h
    unfold Tab.get
    split at h
    · rename_i hq
      unfold nextName at h
      split at h
      · rw [if_neg (fun e => by subst e; simp only at h; omega)]
        exact nextName_none (by omega)
      · rename_i hk
        rw [if_neg (fun e => hk (by subst e; exact ⟨rfl, rfl⟩))]
        exact nextName_none h
    · rename_i hq
      rw [if_neg (fun e => hq (by subst e; exact Nat.le_refl _))]
      exact nextName_none h

theorem nameAll_mem {l : Nat} : ∀ {D : List Loc} {j : Nat} {p q : Loc} {g : Nat}, (p, q, g) ∈ nameAll l j D → p ∈ D ∧ g = 0 ∧ ∃ i, j ≤ i ∧ q = ⟨l, 0, i⟩
  | [], _, _, _, _, h => by cases h
  | d :: r, j, p, q, g, h => by
    unfold nameAll at h
    rcases List.mem_cons.1 h with h | h
    · cases h
      exact ⟨List.mem_cons_self .., rfl, j, Nat.le_refl _, rfl⟩
    · obtain ⟨h1, h2, i, h3, h4⟩ := nameAll_mem h
      exact ⟨List.mem_cons_of_mem _ h1, h2, i, by omega, h4⟩
theorem nameAll_fst {l : Nat} : ∀ {D : List Loc} {j : Nat}, (nameAll l j D).map (·.1) = D
  | [], _ => rfl
  | d :: r, j => by simp [nameAll, nameAll_fst]
theorem nodupB_of : ∀ {l : List Loc}, l.Nodup → nodupB l = true
  | [], _ => rfl
  | p :: r, h => by
    have h := List.nodup_cons.1 h
    unfold nodupB
    rw [nodupB_of h.2, Bool.and_true, Bool.not_eq_true']
    cases hc : r.contains p with
    | false => rfl
    | true => exact absurd (List.contains_iff_mem.1 hc) h.1
theorem nameAll_snd {l : Nat} : ∀ {D : List Loc} {j : Nat}, ((nameAll l j D).map (·.2.1)).Nodup
  | [], _ => by simp [nameAll]
  | d :: r, j => by
    simp only [nameAll, List.map_cons]
    refine List.nodup_cons.2 ⟨fun h => ?_, nameAll_snd⟩
    obtain ⟨⟨p, q, g⟩, h1, h2⟩ := List.mem_map.1 h
    obtain ⟨_, _, i, h3, h4⟩ := nameAll_mem h1
    simp only at h2
    rw [h4] at h2
    have := (Loc.mk.inj h2).2.2
    omega
theorem Names.get_of {N : Names} : ∀ {p : Loc}, p ∈ N.map (·.1) → ∃ q g, N.get p = some (q, g) := by
  induction N with
  | nil => intro p h; cases h
  | cons x r ih =>
    obtain ⟨a, b, c⟩ := x
    intro p h
    unfold Names.get
    by_cases e : a = p
    · exact ⟨b, c, if_pos e⟩
    · rw [if_neg e]
      simp only [List.map_cons, List.mem_cons] at h
      exact ih (h.resolve_left fun h => e h.symm)

/-- A cell that may be handed up. -/
inductive Cl (S : AS) (l : Nat) : AV → Prop
  | c {a : AV} : a.closed = true → Cl S l a
  | p {p : Loc} {g n o : Nat} : p.l ≤ l → Cl S l (.ptr p g n o)
  | t {q : Loc} {h sz : Nat} {ys : List (List AV)} : AV.closedLL ys = true → q.l ≤ l → Cl S l (.list (.own q h) sz ys)
  | d {q : Loc} {h sz e : Nat} {ys : List (List AV)} : AV.closedLL ys = true → l < q.l → S.get q = some (.tok h ys.length sz e) → Cl S l (.list (.own q h) sz ys)
/-- Its new name. -/
def renA (l : Nat) (ρ : Loc → Loc) : AV → AV
  | .list (.own q h) sz ys => if q.l ≤ l then .list (.own q h) sz ys else .list (.own (ρ q) 0) sz ys
  | a => a
theorem Cl.deep {S : AS} {l : Nat} {a : AV} (h : Cl S l a) : (∀ d ∈ AV.deep l a, l < d.l ∧ ∃ h m sz e, S.get d = some (.tok h m sz e)) ∧ (AV.deep l a).length ≤ 1 := by
  cases h with
  | c h => rw [closed_deep h]; exact ⟨fun _ h => (nomatch h), Nat.zero_le _⟩
  | p h => simp only [AV.deep, if_pos h]; exact ⟨fun _ h => (nomatch h), Nat.zero_le _⟩
  | t h h' => simp only [AV.deep, if_pos h', closedLL_deep h, List.append_nil]; exact ⟨fun _ h => (nomatch h), Nat.zero_le _⟩
  | d h h' hs =>
    simp only [AV.deep, if_neg (Nat.not_le.2 h'), closedLL_deep h, List.append_nil]
    exact ⟨fun d hd => by
      rw [List.mem_singleton.1 hd]
      exact ⟨h', _, _, _, _, hs⟩, Nat.le_refl _⟩
theorem Cl.ren {S : AS} {l : Nat} {N : Names} {ρ : Loc → Loc} {a : AV} (h : Cl S l a) (hN : ∀ d ∈ AV.deep l a, N.get d = some (ρ d, 0)) : ren l S N a = some (renA l ρ a) := by
  cases h with
  | c h =>
    rw [closed_ren h]
    cases a with
    | list sp sz ys =>
      cases sp with
      | own p g => cases h
      | _ => rfl
    | _ => rfl
  | p h => simp only [YtjdccpmbaobpdaaGreatDoor.ren, if_pos h]; rfl
  | t h h' => simp only [YtjdccpmbaobpdaaGreatDoor.ren, closedLL_ren h, Option.map_some, renA, if_pos h']
  | d h h' hs =>
    rename_i q g sz e ys
    have hm : q ∈ AV.deep l (.list (.own q g) sz ys) := by
      simp only [AV.deep, if_neg (Nat.not_le.2 h'), closedLL_deep h, List.append_nil, List.mem_singleton]
    have := hN q hm
    simp only [YtjdccpmbaobpdaaGreatDoor.ren, closedLL_ren h, Option.map_some, renA, if_neg (Nat.not_le.2 h'), this, hs, and_self, if_true]
theorem cls_deep {S : AS} {l : Nat} : ∀ {cs : List AV}, (∀ a ∈ cs, Cl S l a) → (∀ d ∈ AV.deepL l cs, l < d.l ∧ ∃ h m sz e, S.get d = some (.tok h m sz e)) ∧ (AV.deepL l cs).length ≤ cs.length
  | [], _ => ⟨fun _ h => (nomatch h), Nat.zero_le _⟩
  | a :: r, h => by
    obtain ⟨k1, k2⟩ := (h a (List.mem_cons_self ..)).deep
    obtain ⟨k3, k4⟩ := cls_deep (cs := r) fun x hx => h x (List.mem_cons_of_mem _ hx)
    simp only [AV.deepL, List.length_append, List.length_cons]
    refine ⟨fun d hd => ?_, by omega⟩
    rcases List.mem_append.1 hd with hd | hd
    · exact k1 d hd
    · exact k3 d hd
theorem cls_ren {S : AS} {l : Nat} {N : Names} {ρ : Loc → Loc} : ∀ {cs : List AV}, (∀ a ∈ cs, Cl S l a) → (∀ d ∈ AV.deepL l cs, N.get d = some (ρ d, 0)) → renL l S N cs = some (cs.map (renA l ρ))
  | [], _, _ => by simp only [renL, List.map_nil]
  | a :: r, h, hN => by
    have k1 := (h a (List.mem_cons_self ..)).ren (N := N) (ρ := ρ) fun d hd => hN d (by simp only [AV.deepL, List.mem_append]; exact .inl hd)
    have k2 := cls_ren (cs := r) (fun x hx => h x (List.mem_cons_of_mem _ hx)) fun d hd => hN d (by simp only [AV.deepL, List.mem_append]; exact .inr hd)
    simp only [renL, k1, k2, List.map_cons]

/-- A slot of the levels above that is written to. -/
inductive SlotCl (S : AS) (l : Nat) : ASlot → Prop
  | obj {g : Nat} {t : TypeId} {cs : List AV} : (∀ a ∈ cs, Cl S l a) → cs.length ≤ 1000 → SlotCl S l (.obj g t cs)
  | tok {g n sz : Nat} {e : TypeId} : SlotCl S l (.tok g n sz e)
def renSl (l : Nat) (ρ : Loc → Loc) : ASlot → ASlot
  | .obj g t cs => .obj g t (cs.map (renA l ρ))
  | s => s
theorem flat_len {α β : Type} (f : α → List β) (k : Nat) : ∀ {l : List α}, (∀ x ∈ l, (f x).length ≤ k) → (l.flatMap f).length ≤ l.length * k
  | [], _ => by simp
  | a :: r, h => by
    have h1 := h a (List.mem_cons_self ..)
    have h2 := flat_len f k (l := r) fun x hx => h x (List.mem_cons_of_mem _ hx)
    simp only [List.flatMap_cons, List.length_append, List.length_cons, Nat.add_mul, Nat.one_mul]
    omega
theorem turnAll_some {f : Loc → ASlot → Option ASlot} {S' : AS} : ∀ {ps : List Loc} {t : Tab}, (∀ p ∈ ps, ∃ s s', S'.get p = some s ∧ f p s = some s') → ∃ t', turnAll f S' ps t = some t'
  | [], t, _ => ⟨t, rfl⟩
  | p :: r, t, h => by
    obtain ⟨s, s', h1, h2⟩ := h p (List.mem_cons_self ..)
    unfold turnAll
    simp only [h1, h2]
    exact turnAll_some fun x hx => h x (List.mem_cons_of_mem _ hx)
theorem raiseAll_some {l : Nat} {S' : AS} {N : Names} : ∀ {M : Names} {t : Tab}, (∀ p q g, (p, q, g) ∈ M → ∃ h m sz e, S'.get p = some (.tok h m sz e)) → ∃ t', raiseAll l S' N M t = some t'
  | [], t, _ => ⟨t, rfl⟩
  | (p, q, g) :: r, t, h => by
    obtain ⟨g', m, sz, e, h1⟩ := h p q g (List.mem_cons_self ..)
    unfold raiseAll
    simp only [h1, renS]
    exact raiseAll_some fun p q g hx => h p q g (List.mem_cons_of_mem _ hx)

/-- What is handed up, where rooms alone are new. -/
theorem handUp_up [Cfg] {f : FuncId} {S S' : AS} {v : AV} (hup : Cfg.up f S.fn = true) (hv : v.closed = true) (hlog : SortedL S'.log) {W : List Loc} (hW : ∀ p ∈ S'.outs S.lvl, p ∈ W) (hWn : W.length ≤ 9)
    (hs : ∀ p ∈ S'.outs S.lvl, ∃ s, S'.get p = some s ∧ SlotCl S' S.lvl s) (hun : ∀ p, p.l ≤ S.lvl → p ∉ S'.outs S.lvl → S'.get p = S.get p) :
    ∃ (u : Upd) (ρ : Loc → Loc), handUp f S S' v = some (v, u) ∧ (S.after u).lvl = S.lvl ∧ (S.after u).fn = S.fn ∧ (S.after u).dfr = S.dfr ∧
      (∀ q s, q ∈ S'.outs S.lvl → S'.get q = some s → (S.after u).get q = some (renSl S.lvl ρ s)) ∧
      (∀ q, q ∉ S'.outs S.lvl → q ∉ (u.getD ([], [])).2 → (S.after u).get q = S.get q) ∧
      (∀ q ∈ (u.getD ([], [])).2, q ∈ S'.outs S.lvl ∨ (q.l = S.lvl ∧ q.k = 0 ∧ q.i ≠ 0 ∧ S.get q = none)) ∧
      (∀ p g t cs, p ∈ S'.outs S.lvl → S'.get p = some (.obj g t cs) → ∀ q h sz ys, .list (.own q h) sz ys ∈ cs → S.lvl < q.l → ∀ m e, S'.get q = some (.tok h m sz e) →
        (ρ q).l = S.lvl ∧ (ρ q).k = 0 ∧ (ρ q).i ≠ 0 ∧ S.get (ρ q) = none ∧ (S.after u).get (ρ q) = some (.tok 0 m sz e)) := by
  have hvd := closed_deep (l := S.lvl) hv
  -- the names
  obtain ⟨D, hD⟩ : ∃ D, D = v.deep S.lvl ++ (S'.outs S.lvl).flatMap fun p => match S'.get p with
    | some s => s.deep S.lvl
    | none => [] := ⟨_, rfl⟩
  have hDd : ∀ d ∈ D, S.lvl < d.l ∧ ∃ h m sz e, S'.get d = some (.tok h m sz e) := by
    intro d hd
    rw [hD, hvd, List.nil_append] at hd
    obtain ⟨p, hp, hd⟩ := List.mem_flatMap.1 hd
    obtain ⟨s, h1, h2⟩ := hs p hp
    simp only [h1] at hd
    cases h2 with
    | obj h2 _ => exact (cls_deep h2).1 d hd
    | tok => cases hd
  have hDl : D.length ≤ 9000 := by
    have h1 : (S'.outs S.lvl).length ≤ 9 := Nat.le_trans (nodup_len (SortedL.nodup (hlog.filter _)) hW) hWn
    have h2 := flat_len (fun p => match S'.get p with
      | some s => s.deep S.lvl
      | none => []) 1000 (l := S'.outs S.lvl) fun p hp => by
        obtain ⟨s, h1, h2⟩ := hs p hp
        simp only [h1]
        cases h2 with
        | obj h2 h3 => exact Nat.le_trans (cls_deep h2).2 h3
        | tok => exact Nat.zero_le _
    rw [hD, hvd, List.nil_append]
    omega
  obtain ⟨R, hR⟩ : ∃ R, R = reached S.lvl S' 10000 D [] := ⟨_, rfl⟩
  obtain ⟨r1, r2⟩ := reached_toks (l := S.lvl) (S := S') 10000 D [] (by omega) (fun d hd => (hDd d hd).2) List.Pairwise.nil
  rw [← hR] at r1 r2
  have hRD : ∀ p, p ∈ R ↔ p ∈ D := fun p => by rw [r1]; simp
  obtain ⟨N, hN⟩ : ∃ N, N = nameAll S.lvl (nextName S.lvl (S'.tab.cut S.lvl)) R := ⟨_, rfl⟩
  have hfst : N.map (·.1) = R := by rw [hN]; exact nameAll_fst
  have hmem : ∀ p q g, (p, q, g) ∈ N → p ∈ D ∧ g = 0 ∧ q.l = S.lvl ∧ q.k = 0 ∧ q.i ≠ 0 ∧ S'.get q = none := by
    intro p q g h
    rw [hN] at h
    obtain ⟨h1, h2, i, h3, rfl⟩ := nameAll_mem h
    have hp := nextName_pos S.lvl (S'.tab.cut S.lvl)
    exact ⟨(hRD p).1 h1, h2, rfl, rfl, by simp only; omega, nextName_none h3⟩
  have hok : namesOk S.lvl S' N = true := by
    unfold namesOk
    simp only [Bool.and_eq_true]
    refine ⟨⟨List.all_eq_true.2 fun x hx => ?_, ?_⟩, ?_⟩
    · obtain ⟨p, q, g⟩ := x
      obtain ⟨h1, h2, h3, _, _, h4⟩ := hmem p q g hx
      obtain ⟨k1, h, m, sz, e, k2⟩ := hDd p h1
      simp [k1, h2, h3, h4, k2, ASlot.live]
    · rw [hfst]; exact nodupB_of r2.nodup
    · rw [hN]; exact nodupB_of nameAll_snd
  refine ?_
  obtain ⟨ρ, hρ⟩ : ∃ ρ : Loc → Loc, ∀ d ∈ D, N.get d = some (ρ d, 0) := by
    refine ⟨fun d => ((N.get d).getD (d, 0)).1, fun d hd => ?_⟩
    obtain ⟨q, g, h⟩ := Names.get_of (N := N) (p := d) (by rw [hfst]; exact (hRD d).2 hd)
    obtain ⟨_, h2, _⟩ := hmem _ _ _ (Names.get_mem h)
    subst h2
    simp [h]
  have hsub : ∀ p ∈ S'.outs S.lvl, ∀ g t cs, S'.get p = some (.obj g t cs) → ∀ d ∈ AV.deepL S.lvl cs, d ∈ D := fun p hp g t cs h1 d hd => by
    rw [hD]
    exact List.mem_append.2 (.inr (List.mem_flatMap.2 ⟨p, hp, by simp only [h1]; exact hd⟩))
  have hturn : ∀ p s, p ∈ S'.outs S.lvl → S'.get p = some s → renS S.lvl S' N s.gen s = some (renSl S.lvl ρ s) := by
    intro p s hp h1
    obtain ⟨s', h1', h2⟩ := hs p hp
    rw [h1] at h1'
    cases h1'
    cases h2 with
    | obj h2 _ =>
      have := cls_ren (N := N) (ρ := ρ) h2 fun d hd => hρ d (hsub p hp _ _ _ h1 d hd)
      simp only [renS, this, Option.map_some, renSl, ASlot.gen]
    | tok => rfl
  obtain ⟨t, ht⟩ := turnAll_some (f := fun _ s => renS S.lvl S' N s.gen s) (S' := S') (ps := S'.outs S.lvl) (t := S.tab) fun p hp => by
    obtain ⟨s, h1, _⟩ := hs p hp
    exact ⟨s, _, h1, hturn p s hp h1⟩
  obtain ⟨t2, ht2⟩ := raiseAll_some (l := S.lvl) (S' := S') (N := N) (M := N) (t := t) fun p q g h => (hDd p (hmem p q g h).1).2
  have hT := turnAll_get ht
  have hRs := raiseAll_get ht2 (by rw [hN]; exact nameAll_snd)
  have hhu : handUp f S S' v = some (v, if S'.outs S.lvl = [] ∧ N = [] then none else some (t2, S'.outs S.lvl ++ N.map fun x => x.2.1)) := by
    unfold handUp
    simp only [hup, if_true]
    generalize hD' : AV.deep S.lvl v ++ List.flatMap _ _ = D'
    have eD : D' = D := by rw [← hD', hD]; rfl
    subst eD
    rw [← hR, ← hN, hok, closed_ren hv]
    simp only [Bool.not_true, Bool.false_eq_true, if_false]
    cases ho : S'.outs S.lvl with
    | nil =>
      cases hn : N with
      | nil => simp
      | cons x r =>
        rw [ho] at ht
        rw [hn] at ht2
        simp only [turnAll, Option.some.injEq] at ht
        subst ht
        simp only [hn] at ht2 ⊢
        simp [turnAll, ht2]
    | cons p ps =>
      rw [ho] at ht
      simp only [ht, ht2]
      simp
  have hlvl : ∀ q, q ∈ S'.outs S.lvl → q.l ≤ S.lvl := fun q hq => (mem_outs.1 hq).2
  have hnone : ∀ p q g, (p, q, g) ∈ N → S.get q = none := fun p q g h => by
    obtain ⟨_, _, h3, _, _, h4⟩ := hmem p q g h
    have : q ∉ S'.outs S.lvl := fun hq => by
      obtain ⟨s, h5, _⟩ := hs q hq
      rw [h4] at h5; cases h5
    rw [← hun q (Nat.le_of_eq h3) this]
    exact h4
  refine ⟨_, ρ, hhu, ?_⟩
  by_cases hem : S'.outs S.lvl = [] ∧ N = []
  · rw [if_pos hem]
    refine ⟨rfl, rfl, rfl, ?_, fun _ _ _ => rfl, ?_, ?_⟩
    · intro q s hq; rw [hem.1] at hq; cases hq
    · intro q hq; cases hq
    · intro p g t cs hp; rw [hem.1] at hp; cases hp
  · rw [if_neg hem]
    refine ⟨rfl, rfl, rfl, ?_, ?_, ?_, ?_⟩
    · intro q s hq hqs
      show t2.get q = _
      rw [hRs.1 q fun p0 g0 hm => by
        obtain ⟨_, _, _, _, _, h4⟩ := hmem _ _ _ hm
        rw [hqs] at h4; cases h4]
      obtain ⟨s1, s2, h1, h2, h3⟩ := (hT q).2 hq
      rw [hqs] at h1; cases h1
      rw [hturn q s hq hqs] at h2; cases h2
      exact h3
    · intro q hq hq2
      show t2.get q = S.tab.get q
      simp only [Option.getD_some, List.mem_append, not_or] at hq2
      rw [hRs.1 q fun p0 g0 hm => hq2.2 (List.mem_map.2 ⟨_, hm, rfl⟩)]
      exact (hT q).1 hq
    · intro q hq
      simp only [Option.getD_some, List.mem_append] at hq
      rcases hq with hq | hq
      · exact .inl hq
      · obtain ⟨⟨p, q', g⟩, h1, h2⟩ := List.mem_map.1 hq
        simp only at h2
        subst h2
        obtain ⟨_, _, h3, h4, h5, _⟩ := hmem _ _ _ h1
        exact .inr ⟨h3, h4, h5, hnone _ _ _ h1⟩
    · intro p g ty cs hp hps q h sz ys hc hl m e hq
      have hdq : q ∈ D := by
        refine hsub p hp g ty cs hps q ?_
        clear hp hps
        induction cs with
        | nil => cases hc
        | cons a r ih =>
          simp only [AV.deepL, List.mem_append]
          rcases List.mem_cons.1 hc with rfl | hc
          · left
            simp only [AV.deep, if_neg (Nat.not_le.2 hl)]
            exact List.mem_append.2 (.inl (List.mem_singleton.2 rfl))
          · exact .inr (ih hc)
      have hm := Names.get_mem (hρ q hdq)
      obtain ⟨_, _, h3, h4, h5, h6⟩ := hmem _ _ _ hm
      refine ⟨h3, h4, h5, hnone _ _ _ hm, ?_⟩
      obtain ⟨s', k1, k2⟩ := hRs.2 _ _ _ hm _ hq
      simp only [renS, Option.some.injEq] at k1
      subst k1
      exact k2
end Go.Proofs.YtjdccpmbaobpdaaGreatDoor

namespace Go.Proofs.YtjdccpmbaobpdaaGreatDoor
open Go.RowKit

/-- A cell that names nothing deeper than a level. -/
inductive Co (l : Nat) : AV → Prop
  | c {a : AV} : a.closed = true → Co l a
  | p {p : Loc} {g n o : Nat} : p.l ≤ l → Co l (.ptr p g n o)
  | t {q : Loc} {h sz : Nat} {ys : List (List AV)} : AV.closedLL ys = true → q.l ≤ l → Co l (.list (.own q h) sz ys)
theorem Co.cl {S : AS} {l : Nat} {a : AV} (h : Co l a) : Cl S l a := by
  cases h with
  | c h => exact .c h
  | p h => exact .p h
  | t h h' => exact .t h h'
theorem Co.up {l : Nat} {a : AV} (h : Co l a) : Co (l + 1) a := by
  cases h with
  | c h => exact .c h
  | p h => exact .p (Nat.le_succ_of_le h)
  | t h h' => exact .t h (Nat.le_succ_of_le h')
theorem Co.ren {l : Nat} {ρ : Loc → Loc} {a : AV} (h : Co l a) : renA l ρ a = a := by
  cases h with
  | c h =>
    cases a with
    | list sp sz ys =>
      cases sp with
      | own p g => cases h
      | _ => rfl
    | _ => rfl
  | p h => rfl
  | t h h' => simp only [renA, if_pos h']
theorem co_map {l : Nat} {ρ : Loc → Loc} : ∀ {cs : List AV}, (∀ a ∈ cs, Co l a) → cs.map (renA l ρ) = cs
  | [], _ => rfl
  | a :: r, h => by rw [List.map_cons, (h a (List.mem_cons_self ..)).ren, co_map fun x hx => h x (List.mem_cons_of_mem _ hx)]
theorem mem_splice1 {cs : List AV} {off : Nat} {x a : AV} (h : a ∈ splice cs off [x]) : a ∈ cs ∨ a = x := by
  unfold splice at h
  simp only [List.mem_append, List.mem_singleton] at h
  rcases h with (h | h) | h
  · exact .inl (List.mem_of_mem_take h)
  · exact .inr h
  · exact .inl (List.mem_of_mem_drop h)
theorem splice1_get {cs : List AV} {off i : Nat} {x : AV} (h : off < cs.length) : (splice cs off [x])[i]? = if i = off then some x else cs[i]? := by
  unfold splice
  rw [List.append_assoc]
  have hl : (cs.take off).length = off := by rw [List.length_take]; omega
  by_cases h1 : i < off
  · rw [List.getElem?_append_left (by omega), List.getElem?_take, if_pos h1, if_neg (by omega)]
  · rw [List.getElem?_append_right (by omega), hl]
    by_cases h2 : i = off
    · subst h2; simp
    · rw [if_neg h2]
      obtain ⟨k, rfl⟩ : ∃ k, i = off + 1 + k := ⟨i - off - 1, by omega⟩
      rw [show off + 1 + k - off = k + 1 by omega]
      simp only [List.cons_append, List.nil_append, List.getElem?_cons_succ, List.length_singleton, List.getElem?_drop]
theorem splice1_len {cs : List AV} {off : Nat} {x : AV} (h : off < cs.length) : (splice cs off [x]).length = cs.length := by
  unfold splice
  simp only [List.length_append, List.length_take, List.length_singleton, List.length_drop]
  omega
theorem lt_of_get {cs : List AV} {i : Nat} {a : AV} (h : cs[i]? = some a) : i < cs.length := by
  rcases Nat.lt_or_ge i cs.length with h' | h'
  · exact h'
  · rw [List.getElem?_eq_none h'] at h; cases h
theorem ld1V_at {S : AS} {p : Loc} {g off : Nat} {t : TypeId} {cs : List AV} {v : AV} (h : S.get p = some (.obj g t cs)) (hv : cs[off]? = some v) : ld1V S (.ptr p g 0 off) = some v := by
  rw [ld1V_obj h, List.head?_drop, hv]

/-! ### The code -/
def Kcc (tp tu fne tz : Nat) : BFn := ⟨20, [],
  .seq (.ops [⟨(some 2), none, .none, .mv (.t 0)⟩,
   ⟨(some 3), none, .none, .nc (.t 2)⟩,
   ⟨(some 4), none, .none, .fa 0 (.t 3)⟩,
   ⟨(some 5), none, (.at (.t 4)), .ld1 (.t 4)⟩,
   ⟨(some 6), none, .none, .gen (.binOp .eql tp (.tmp 5) (.const (.pointer none)) tp) tz⟩])
  (.cond (.t 6)
   (.ops [⟨(some 7), none, .none, .mv (.t 0)⟩,
    ⟨(some 8), none, .none, .mv (.t 0)⟩,
    ⟨(some 9), none, (.at (.t 8)), .gen (.convert tp tu (.tmp 8)) tu⟩,
    ⟨(some 10), none, .none, .gen (.call ⟨(.value (.func fne)), #[(.tmp 9)], #[tu]⟩) tu⟩,
    ⟨(some 11), none, (.at (.t 10)), .gen (.convert tu tp (.tmp 10)) tp⟩,
    ⟨(some 12), none, .none, .nc (.t 7)⟩,
    ⟨(some 13), none, .none, .fa 0 (.t 12)⟩,
    ⟨none, none, (.at (.t 13)), .st 1 (.t 13) (.t 11)⟩])
   (.seq
    (.ops [⟨(some 14), none, .none, .mv (.t 0)⟩,
     ⟨(some 15), none, .none, .nc (.t 14)⟩,
     ⟨(some 16), none, .none, .fa 0 (.t 15)⟩,
     ⟨(some 17), none, (.at (.t 16)), .ld1 (.t 16)⟩,
     ⟨(some 18), none, .none, .mv (.t 0)⟩,
     ⟨(some 19), none, .none, .gen (.binOp .neq tp (.tmp 17) (.tmp 18) tp) tz⟩])
    (.cond (.t 19) .bad .skip)))⟩
def Kws (fcc te : Nat) : BFn := ⟨19, [.t 4, .t 5],
  .seq (.ops [⟨(some 4), none, .none, .mv (.c (.lit (.int .i64 0)))⟩,
   ⟨(some 5), none, .none, .mv (.c (.lit .nilIface))⟩])
  (.seq (.ops [⟨(some 6), none, .none, .mv (.t 0)⟩,
    ⟨(some 7), none, .none, .cl fcc [(.t 6)]⟩])
  (.seq (.ops [⟨(some 8), none, .none, .mv (.t 0)⟩,
     ⟨(some 9), none, .none, .mv (.t 0)⟩,
     ⟨(some 10), none, .none, .nc (.t 9)⟩,
     ⟨(some 11), none, .none, .fa 1 (.t 10)⟩,
     ⟨(some 12), none, (.at (.t 11)), .ld1 (.t 11)⟩,
     ⟨(some 13), none, .none, .mv (.t 1)⟩,
     ⟨(some 14), none, (.app (.t 12) (.t 13)), .ap te 1 1 (.t 12) (.t 13)⟩,
     ⟨(some 15), none, .none, .nc (.t 8)⟩,
     ⟨(some 16), none, .none, .fa 1 (.t 15)⟩,
     ⟨none, none, (.at (.t 16)), .st 1 (.t 16) (.t 14)⟩])
  (.seq (.ops [⟨(some 17), none, .none, .mv (.t 1)⟩,
      ⟨(some 18), none, (.at (.t 17)), .ls (.t 17)⟩,
      ⟨(some 4), none, .none, .mv (.t 18)⟩,
      ⟨(some 5), none, .none, .mv (.c (.lit .nilIface))⟩])
   .ret)))⟩
def Kwb (fcc te : Nat) : BFn := ⟨17, [.t 4],
  .seq (.ops [⟨(some 4), none, .none, .mv (.c (.lit .nilIface))⟩])
  (.seq (.ops [⟨(some 5), none, .none, .mv (.t 0)⟩,
    ⟨(some 6), none, .none, .cl fcc [(.t 5)]⟩])
  (.seq (.ops [⟨(some 7), none, .none, .mv (.t 0)⟩,
     ⟨(some 8), none, .none, .mv (.t 0)⟩,
     ⟨(some 9), none, .none, .nc (.t 8)⟩,
     ⟨(some 10), none, .none, .fa 1 (.t 9)⟩,
     ⟨(some 11), none, (.at (.t 10)), .ld1 (.t 10)⟩,
     ⟨(some 12), none, .none, .mv (.t 1)⟩,
     ⟨(some 13), none, .here, .bsl te 1 [(.t 12)]⟩,
     ⟨(some 14), none, (.app (.t 11) (.t 13)), .ap te 1 1 (.t 11) (.t 13)⟩,
     ⟨(some 15), none, .none, .nc (.t 7)⟩,
     ⟨(some 16), none, .none, .fa 1 (.t 15)⟩,
     ⟨none, none, (.at (.t 16)), .st 1 (.t 16) (.t 14)⟩])
  (.seq (.ops [⟨(some 4), none, .none, .mv (.c (.lit .nilIface))⟩])
   .ret)))⟩

def ulog (u : Upd) : List Loc := (u.getD ([], [])).2
theorem after_log (S : AS) (u : Upd) : (S.after u).log = mergeLog S.log (ulog u) := by
  cases u with
  | none => rfl
  | some x => rfl

theorem u8s_all (l : List UInt8) : (u8s l).all (fun e => e.all AV.one) = true := by
  unfold u8s
  rw [List.all_map]
  exact List.all_eq_true.2 fun x _ => rfl
theorem u8s_app (a b : List UInt8) : u8s a ++ u8s b = u8s (a ++ b) := by simp [u8s]
theorem u8s_len (l : List UInt8) : (u8s l).length = l.length := by simp [u8s]

/-- What is known behind the check of the builder's own address. -/
structure Mid (S S2 : AS) (f : FuncId) (p : Loc) (g : Nat) (t : TypeId) (cs2 : List AV) : Prop where
  lvl : S2.lvl = S.lvl + 1
  fn : S2.fn = f
  dfr : S2.dfr = []
  srt : SortedL S2.log
  log : ∀ r ∈ S2.log, r = p ∨ (r.l = S.lvl + 1 ∧ r.k = 0)
  frame : ∀ r, r ∉ S2.log → S2.get r = S.get r
  get : S2.get p = some (.obj g t cs2)
theorem mid {S : AS} {p : Loc} {g : Nat} {t : TypeId} {f : FuncId} {u : Upd} {cs2 : List AV} (h1 : ((S.enter f).after u).lvl = S.lvl + 1) (h2 : ((S.enter f).after u).fn = f) (h3 : ((S.enter f).after u).dfr = []) (h4 : ((S.enter f).after u).get p = some (.obj g t cs2))
    (h5 : ∀ r ∈ ulog u, r = p ∨ (r.l = (S.enter f).lvl ∧ r.k = 0 ∧ r.i ≠ 0 ∧ (S.enter f).get r = none)) (h6 : ∀ r, r ∉ ulog u → ((S.enter f).after u).get r = (S.enter f).get r) : Mid S ((S.enter f).after u) f p g t cs2 := by
  have e : ((S.enter f).after u).log = mergeLog [] (ulog u) := after_log _ _
  refine ⟨h1, h2, h3, by rw [e]; exact SortedL.merge List.Pairwise.nil, fun r hr => ?_, fun r hr => h6 r fun hu => hr ?_, h4⟩
  · rw [e, mem_mergeLog] at hr
    rcases hr with hr | hr
    · cases hr
    · rcases h5 r hr with h | h
      · exact .inl h
      · exact .inr ⟨h.1, h.2.1⟩
  · rw [e, mem_mergeLog]; exact .inr hu
section
variable [Cfg] {P : Program} {tp tb tu tz te fne fcc fws fwb : Nat}
/-- What the code needs to know of the program's types. -/
structure BFacts (P : Program) (tp tb tu tz fne : Nat) : Prop where
  up : P.underlying tp = some (.pointer tb)
  uu : P.underlying tu = some .unsafePointer
  ib : ∃ i, P.info? tb = some i ∧ i.size ≠ 0
  ne : ∃ fn, P.funcs[fne]? = some fn ∧ fn.body.isNone = true
  same : Cfg.same fne = true
  nil : ∀ (T : BT) (S : AS), aop P S (aevF (BT.put T (some 5) (.lit (.pointer none)))) ⟨some 6, .binOp .eql tp (.tmp 5) (.const (.pointer none)) tp, tz, "", #[], none⟩ = some (.val (.lit (.bool true)))
variable {S : AS} {T : BT} {p : Loc} {g off : Nat} {t : TypeId} {cs : List AV}
theorem gen_nil (F : BFacts P tp tb tu tz fne) (h : T 5 = .lit (.pointer none)) : aop P S (aevF T) ⟨some 6, .binOp .eql tp (.tmp 5) (.const (.pointer none)) tp, tz, "", #[], none⟩ = some (.val (.lit (.bool true))) := by
  have := F.nil T S
  have e : BT.put T (some 5) (.lit (.pointer none)) = T := by
    funext k
    rw [put_at]
    split
    · rename_i hk; subst hk; exact h.symm
    · rfl
  rw [e] at this
  exact this
theorem gen_ptr (F : BFacts P tp tb tu tz fne) (h : T 5 = .ptr p g 0 off) : aop P S (aevF T) ⟨some 6, .binOp .eql tp (.tmp 5) (.const (.pointer none)) tp, tz, "", #[], none⟩ = some (.val (.lit (.bool false))) := by
  have h1 : aevF T (.tmp 5) = .ptr p g 0 off := h
  have h2 : aevF T (.const (.pointer none)) = .lit (.pointer none) := rfl
  simp only [aop, h1, h2, acmp, aequal, F.up, nilFits, if_true, Option.map_some, orPure]
theorem gen_self (F : BFacts P tp tb tu tz fne) (h : T 17 = .ptr p g 0 off) (h' : T 18 = .ptr p g 0 off) : aop P S (aevF T) ⟨some 19, .binOp .neq tp (.tmp 17) (.tmp 18) tp, tz, "", #[], none⟩ = some (.val (.lit (.bool false))) := by
  have h1 : aevF T (.tmp 17) = .ptr p g 0 off := h
  have h2 : aevF T (.tmp 18) = .ptr p g 0 off := h'
  obtain ⟨i, hi, hz⟩ := F.ib
  simp only [aop, h1, h2, acmp, aequal, F.up, hi, Option.map_some, Option.getD_some, true_and, hz, ne_eq, not_false_eq_true, if_true, decide_true, orPure, Bool.not_true]
theorem gen_conv (F : BFacts P tp tb tu tz fne) (h : T 8 = .ptr p g 0 off) (hS : S.get p = some (.obj g t cs)) (ho : off < cs.length) : aop P S (aevF T) ⟨some 9, .convert tp tu (.tmp 8), tu, "", #[], none⟩ = some (.val (.ptr p g 0 off)) := by
  have h1 : aevF T (.tmp 8) = .ptr p g 0 off := h
  obtain ⟨i, hi, hz⟩ := F.ib
  simp only [aop, h1, aconvert, F.up, F.uu, orA, aconvPtr, hS, hi, ho, hz, ne_eq, not_false_eq_true, and_self, if_true, orPure]
theorem gen_ne (F : BFacts P tp tb tu tz fne) (h : T 9 = .ptr p g 0 off) : aop P S (aevF T) ⟨some 10, .call ⟨(.value (.func fne)), #[(.tmp 9)], #[tu]⟩, tu, "", #[], none⟩ = some (.val (.ptr p g 0 off)) := by
  have h1 : aevF T (.tmp 9) = .ptr p g 0 off := h
  have h2 : acallee (aevF T (.func fne)) = some (fne, []) := rfl
  obtain ⟨fn, hf, hb⟩ := F.ne
  simp only [aop, h2, hf, hb, F.same, if_true, List.map_cons, List.map_nil, h1, List.append_nil]
theorem gen_back (F : BFacts P tp tb tu tz fne) (h : T 10 = .ptr p g 0 off) (hS : S.get p = some (.obj g t cs)) (hl : liesAt P P.depth t (cs.length / P.cellsOf t) off tb 1 = true) : aop P S (aevF T) ⟨some 11, .convert tu tp (.tmp 10), tp, "", #[], none⟩ = some (.val (.ptr p g 0 off)) := by
  have h1 : aevF T (.tmp 10) = .ptr p g 0 off := h
  obtain ⟨i, hi, hz⟩ := F.ib
  simp only [aop, h1, aconvert, F.up, F.uu, orA, aconvPtr, hS, hi, hl, and_self, if_true, orPure]

theorem cc_nil (F : BFacts P tp tb tu tz fne) (hS : S.get p = some (.obj g t cs)) (hl : liesAt P P.depth t (cs.length / P.cellsOf t) off tb 1 = true) (hc : cs[off]? = some (.lit (.pointer none))) :
    ∃ T', execB P (Kcc tp tu fne tz).code (argsT [.ptr p g 0 off]) S = some (.normal, T', S.set p (.obj g t (splice cs off [.ptr p g 0 off]))) := by
  have ho := lt_of_get hc
  have hld := ld1V_at hS hc
  have g1 := fun T h => gen_nil (S := S) (T := T) F h
  have g2 := fun T h => gen_conv (S := S) (T := T) (p := p) (g := g) (off := off) F h hS ho
  have g3 := fun T h => gen_ne (S := S) (T := T) (p := p) (g := g) (off := off) F h
  have g4 := fun T h => gen_back (S := S) (T := T) (p := p) (g := g) (off := off) F h hS hl
  have st := stV_obj (S := S) (p := p) (g := g) (off := off) (n := 1) (t := t) (cs := cs) (xs := [.ptr p g 0 off]) hS rfl (by simp only [List.length_singleton]; omega) rfl
  have ho' : off + 1 ≤ cs.length := ho
  refine Exists.intro ?T ?run
  case run =>
    unfold Kcc
    simp (disch := first | omega | with_unfolding_all exact id rfl | (simp only [toL_bs, List.length_cons, List.length_nil, List.length_append, List.length_map, List.length_drop, List.drop_succ_cons, List.drop_zero, Nat.reduceAdd, Nat.reduceLeDiff, Nat.le_refl] <;> omega)) only [go_sem, ↓reduceIte, Nat.reduceEqDiff, Option.map_some, Nat.add_zero, hld, g1, g2, g3, g4, st]
    rfl
theorem cc_self (F : BFacts P tp tb tu tz fne) (hS : S.get p = some (.obj g t cs)) (hc : cs[off]? = some (.ptr p g 0 off)) :
    ∃ T', execB P (Kcc tp tu fne tz).code (argsT [.ptr p g 0 off]) S = some (.normal, T', S) := by
  have ho := lt_of_get hc
  have hld := ld1V_at hS hc
  have g1 := fun T h => gen_ptr (S := S) (T := T) (p := p) (g := g) (off := off) F h
  have g2 := fun T h h' => gen_self (S := S) (T := T) (p := p) (g := g) (off := off) F h h'
  refine Exists.intro ?T ?run
  case run =>
    unfold Kcc
    simp (disch := first | omega | with_unfolding_all exact id rfl | (simp only [toL_bs, List.length_cons, List.length_nil, List.length_append, List.length_map, List.length_drop, List.drop_succ_cons, List.drop_zero, Nat.reduceAdd, Nat.reduceLeDiff, Nat.le_refl] <;> omega)) only [go_sem, ↓reduceIte, Nat.reduceEqDiff, Nat.add_zero, hld, g1, g2]
    rfl

/-- A builder that has these bytes. -/
structure BLD (te : TypeId) (S : AS) (p : Loc) (g : Nat) (t : TypeId) (off : Nat) (cs : List AV) (l : List UInt8) (q : Option Loc) : Prop where
  get : S.get p = some (.obj g t cs)
  co : ∀ a ∈ cs, Co S.lvl a
  len : cs.length ≤ 1000
  lv : p.l ≤ S.lvl
  addr : cs[off]? = some (.lit (.pointer none)) ∨ cs[off]? = some (.ptr p g 0 off)
  buf : (l = [] ∧ q = none ∧ cs[off + 1]? = some (.lit (.slice none 0 0))) ∨ ∃ q' h, l ≠ [] ∧ q = some q' ∧ cs[off + 1]? = some (.list (.own q' h) 1 (u8s l)) ∧ S.get q' = some (.tok h l.length 1 te) ∧ q'.l ≤ S.lvl
/-- What a call that writes to a builder leaves. -/
structure Wrote (te : TypeId) (S : AS) (u : Upd) (p : Loc) (g : Nat) (t : TypeId) (off : Nat) (cs cs' : List AV) (l' : List UInt8) (q q' : Option Loc) : Prop where
  lvl : (S.after u).lvl = S.lvl
  fn : (S.after u).fn = S.fn
  dfr : (S.after u).dfr = S.dfr
  bld : BLD te (S.after u) p g t off cs' l' q'
  len : cs'.length = cs.length
  others : ∀ i, i ≠ off → i ≠ off + 1 → cs'[i]? = cs[i]?
  room : q' = q ∨ ∃ q1, q' = some q1 ∧ q = none ∧ q1.l = S.lvl ∧ q1.k = 0 ∧ q1.i ≠ 0 ∧ S.get q1 = none
  log : ∀ r ∈ ulog u, r = p ∨ some r = q ∨ (r.l = S.lvl ∧ r.k = 0 ∧ r.i ≠ 0 ∧ S.get r = none)
  frame : ∀ r, r ∉ ulog u → (S.after u).get r = S.get r

theorem up_args {f h : FuncId} (hup : Cfg.up f h = true) (args : List AV) : aargs f h args = args := by unfold aargs; rw [if_pos hup]
theorem handUp_frame {f : FuncId} {S S' : AS} {v x : AV} {u : Upd} (h : handUp f S S' v = some (x, u)) : ∀ r, r ∉ ulog u → (S.after u).get r = S.get r := by
  cases u with
  | none => exact fun _ _ => rfl
  | some y => exact fun r hr => handUp_local h r hr

theorem cc_ok (F : BFacts P tp tb tu tz fne) (hg : Cfg.given fcc = none) (hf : compF P fcc = some (Kcc tp tu fne tz)) (hup : Cfg.up fcc S.fn = true) (hS : S.get p = some (.obj g t cs)) (hl : liesAt P P.depth t (cs.length / P.cellsOf t) off tb 1 = true)
    (hpl : p.l ≤ S.lvl) (hco : ∀ a ∈ cs, Co S.lvl a) (hlen : cs.length ≤ 1000) (hc : cs[off]? = some (.lit (.pointer none)) ∨ cs[off]? = some (.ptr p g 0 off)) :
    ∃ u, callT P fcc [.ptr p g 0 off] S = some (.ret (.tup []), u) ∧ (S.after u).lvl = S.lvl ∧ (S.after u).fn = S.fn ∧ (S.after u).dfr = S.dfr ∧ (S.after u).get p = some (.obj g t (splice cs off [.ptr p g 0 off])) ∧
      (∀ r ∈ ulog u, r = p ∨ (r.l = S.lvl ∧ r.k = 0 ∧ r.i ≠ 0 ∧ S.get r = none)) ∧ ∀ r, r ∉ ulog u → (S.after u).get r = S.get r := by
  have ho : off < cs.length := by rcases hc with hc | hc <;> exact lt_of_get hc
  rcases hc with hc | hc
  · obtain ⟨T', hx⟩ := cc_nil (S := S.enter fcc) F hS hl hc
    have hlog : ((S.enter fcc).set p (.obj g t (splice cs off [.ptr p g 0 off]))).log = [p] := rfl
    have hmem : ∀ r, r ∈ ((S.enter fcc).set p (.obj g t (splice cs off [.ptr p g 0 off]))).outs S.lvl ↔ r = p := fun r => by
      rw [mem_outs, hlog, List.mem_singleton]
      exact ⟨fun h => h.1, fun h => ⟨h, by subst h; exact hpl⟩⟩
    have hco' : ∀ a ∈ splice cs off [AV.ptr p g 0 off], Co S.lvl a := fun a ha => by
      rcases mem_splice1 ha with ha | rfl
      · exact hco a ha
      · exact .p hpl
    obtain ⟨u, ρ, k1, k2, k3, k4, k5, k6, k7, _⟩ := handUp_up (f := fcc) (S := S) (S' := (S.enter fcc).set p (.obj g t (splice cs off [.ptr p g 0 off]))) (v := .tup []) hup rfl (by rw [hlog]; exact List.pairwise_singleton ..) (W := [p]) (fun r hr => List.mem_singleton.2 ((hmem r).1 hr)) (by simp)
      (fun r hr => by
        obtain rfl := (hmem r).1 hr
        exact ⟨_, AS.get_set_same .., .obj (fun a ha => (hco' a ha).cl) (by rw [splice1_len ho]; exact hlen)⟩)
      (fun r hr hno => by rw [set_get, if_neg fun e => hno ((hmem r).2 e)]; rfl)
    refine ⟨u, callT_of hg hf (Nat.le_of_ble_eq_true rfl) ?_, k2, k3, k4, ?_, fun r hr => ?_, handUp_frame k1⟩
    · rw [up_args hup, hx, bfin_normal rfl]
      show bret fcc S _ (some []) = _
      unfold bret
      simp only [tupled_0, k1, Option.map_some]
    · rw [k5 p _ ((hmem p).2 rfl) (AS.get_set_same ..)]
      simp only [renSl, co_map hco']
    · rcases k7 r hr with h | h
      · exact .inl ((hmem r).1 h)
      · exact .inr h
  · obtain ⟨T', hx⟩ := cc_self (S := S.enter fcc) F hS hc
    obtain ⟨u, ρ, k1, k2, k3, k4, _, k6, k7, _⟩ := handUp_up (f := fcc) (S := S) (S' := S.enter fcc) (v := .tup []) hup rfl List.Pairwise.nil (W := []) (fun r hr => by rw [outs_enter] at hr; cases hr) (by simp)
      (fun r hr => by rw [outs_enter] at hr; cases hr) (fun r hr hno => rfl)
    have e : splice cs off [AV.ptr p g 0 off] = cs := by
      apply List.ext_getElem?
      intro i
      rw [splice1_get ho]
      split
      · rename_i hi; subst hi; exact hc.symm
      · rfl
    refine ⟨u, callT_of hg hf (Nat.le_of_ble_eq_true rfl) ?_, k2, k3, k4, ?_, fun r hr => ?_, handUp_frame k1⟩
    · rw [up_args hup, hx, bfin_normal rfl]
      show bret fcc S _ (some []) = _
      unfold bret
      simp only [tupled_0, k1, Option.map_some]
    · rw [e, handUp_frame k1 p fun hp => ?_]
      · exact hS
      · rcases k7 p hp with h | h
        · rw [outs_enter] at h; cases h
        · rw [hS] at h; exact nomatch h.2.2.2
    · rcases k7 r hr with h | h
      · rw [outs_enter] at h; cases h
      · exact .inr h

/-- The end of a call that wrote to a builder. -/
theorem bld_fin {f : FuncId} {S4 : AS} {cs4 : List AV} {l4 : List UInt8} {q : Option Loc} {v : AV} (hup : Cfg.up f S.fn = true) (hv : v.closed = true) (hpl : p.l ≤ S.lvl) (hqp : ∀ r, some r = q → r.l ≤ S.lvl ∧ r ≠ p) (hlog : SortedL S4.log) (hm : ∀ r ∈ S4.log, r = p ∨ some r = q ∨ S.lvl < r.l)
    (hfr : ∀ r, r.l ≤ S.lvl → r ∉ S4.log → S4.get r = S.get r) (hp : p ∈ S4.log) (h4 : S4.get p = some (.obj g t cs4)) (hlen : cs4.length = cs.length) (hcl : cs.length ≤ 1000) (hoth : ∀ i, i ≠ off → i ≠ off + 1 → cs4[i]? = cs[i]?)
    (hco : ∀ i a, i ≠ off + 1 → cs4[i]? = some a → Co S.lvl a) (haddr : cs4[off]? = some (.ptr p g 0 off))
    (hbuf : (l4 = [] ∧ q = none ∧ cs4[off + 1]? = some (.lit (.slice none 0 0))) ∨ ∃ q1 h, l4 ≠ [] ∧ cs4[off + 1]? = some (.list (.own q1 h) 1 (u8s l4)) ∧ S4.get q1 = some (.tok h l4.length 1 te) ∧ ((q = some q1 ∧ q1.l ≤ S.lvl) ∨ (q = none ∧ S.lvl < q1.l)))
    (hq : ∀ r, some r = q → ∃ h m sz e, S4.get r = some (.tok h m sz e)) :
    ∃ u cs' q', handUp f S S4 v = some (v, u) ∧ Wrote te S u p g t off cs cs' l4 q q' := by
  have hclo : AV.closedLL (u8s l4) = true := by
    have : ∀ l : List UInt8, AV.closedLL (u8s l) = true := fun l => by
      induction l with
      | nil => rfl
      | cons a r ih => simp only [u8s, List.map_cons, AV.closedLL, AV.closedL, AV.closed, Bool.true_and]; exact ih
    exact this l4
  have hmem : ∀ r, r ∈ S4.outs S.lvl → r = p ∨ some r = q := fun r hr => by
    obtain ⟨h1, h2⟩ := mem_outs.1 hr
    rcases hm r h1 with h | h | h
    · exact .inl h
    · exact .inr h
    · omega
  have hpo : p ∈ S4.outs S.lvl := mem_outs.2 ⟨hp, hpl⟩
  have hcl4 : ∀ a ∈ cs4, Cl S4 S.lvl a := fun a ha => by
    obtain ⟨i, hi⟩ := List.getElem?_of_mem ha
    by_cases e : i = off + 1
    · subst e
      rcases hbuf with ⟨_, _, h⟩ | ⟨q1, h, _, h2, h3, h4⟩
      · rw [h] at hi; cases hi; exact .c rfl
      · rw [h2] at hi; cases hi
        rcases h4 with ⟨_, h4⟩ | ⟨_, h4⟩
        · exact .t hclo h4
        · exact .d (e := te) hclo h4 (by rw [h3]; simp [u8s])
    · exact (hco i a e hi).cl
  obtain ⟨u, ρ, k1, k2, k3, k4, k5, k6, k7, k8⟩ := handUp_up (f := f) (S := S) (S' := S4) (v := v) hup hv hlog (W := p :: q.toList) (fun r hr => by
      rcases hmem r hr with h | h
      · exact List.mem_cons.2 (.inl h)
      · refine List.mem_cons.2 (.inr ?_)
        rw [← h]; simp) (by cases q <;> simp)
    (fun r hr => by
      rcases hmem r hr with rfl | h
      · exact ⟨_, h4, .obj hcl4 (by omega)⟩
      · obtain ⟨h, m, sz, e, hs⟩ := hq r h
        exact ⟨_, hs, .tok⟩)
    (fun r hr hno => hfr r hr fun hl => hno (mem_outs.2 ⟨hl, hr⟩))
  have hget := k5 p _ hpo h4
  simp only [renSl] at hget
  have hcell : ∀ i a, i ≠ off + 1 → cs4[i]? = some a → (cs4.map (renA S.lvl ρ))[i]? = some a := fun i a hi ha => by
    rw [List.getElem?_map, ha, Option.map_some, (hco i a hi ha).ren]
  have hlv : (S.after u).lvl = S.lvl := k2
  have hold : ∀ r, some r = q → r ∉ S4.outs S.lvl → S.get r = S4.get r := fun r hr hno => (hfr r (hqp r hr).1 fun hl => hno (mem_outs.2 ⟨hl, (hqp r hr).1⟩)).symm
  have hnew : ∀ r, some r = q → (S.after u).get r = S4.get r := fun r hr => by
    obtain ⟨h, m, sz, e, hs⟩ := hq r hr
    by_cases ho : r ∈ S4.outs S.lvl
    · rw [k5 r _ ho hs, hs]; rfl
    · by_cases hu : r ∈ ulog u
      · rcases k7 r hu with h' | h'
        · exact absurd h' ho
        · rw [hold r hr ho, hs] at h'
          exact nomatch h'.2.2.2
      · rw [handUp_frame k1 r hu, hold r hr ho]
  have hoths : ∀ i, i ≠ off → i ≠ off + 1 → (cs4.map (renA S.lvl ρ))[i]? = cs[i]? := fun i h1 h2 => by
    rw [← hoth i h1 h2]
    cases hi : cs4[i]? with
    | none => rw [List.getElem?_map, hi]; rfl
    | some a => exact hcell i a h2 hi
  have hlogs : ∀ r ∈ ulog u, r = p ∨ some r = q ∨ (r.l = S.lvl ∧ r.k = 0 ∧ r.i ≠ 0 ∧ S.get r = none) := fun r hr => by
    rcases k7 r hr with h | h
    · rcases hmem r h with h | h
      · exact .inl h
      · exact .inr (.inl h)
    · exact .inr (.inr h)
  rcases hbuf with ⟨hl, hqn, hb⟩ | ⟨q1, h, hl, hb, htok, hside⟩
  · refine ⟨u, _, none, k1, hlv, k3, k4, ⟨hget, ?_, by rw [List.length_map]; omega, by rw [hlv]; exact hpl, .inr (hcell _ _ (by omega) haddr), .inl ⟨hl, rfl, ?_⟩⟩, by rw [List.length_map]; exact hlen, hoths, .inl hqn.symm, hlogs, handUp_frame k1⟩
    · intro a ha
      obtain ⟨i, hi⟩ := List.getElem?_of_mem ha
      rw [List.getElem?_map] at hi
      obtain ⟨b, hb1, rfl⟩ := Option.map_eq_some_iff.1 hi
      rw [hlv]
      by_cases e : i = off + 1
      · subst e
        rw [hb] at hb1; cases hb1
        exact .c rfl
      · rw [(hco i b e hb1).ren]; exact hco i b e hb1
    · rw [List.getElem?_map, hb]; rfl
  · rcases hside with ⟨rfl, hql⟩ | ⟨rfl, hql⟩
    · have hren : renA S.lvl ρ (.list (.own q1 h) 1 (u8s l4)) = .list (.own q1 h) 1 (u8s l4) := by simp only [renA, if_pos hql]
      refine ⟨u, _, some q1, k1, hlv, k3, k4, ⟨hget, ?_, by rw [List.length_map]; omega, by rw [hlv]; exact hpl, .inr (hcell _ _ (by omega) haddr), .inr ⟨q1, h, hl, rfl, ?_, ?_, by rw [hlv]; exact hql⟩⟩, by rw [List.length_map]; exact hlen, hoths, .inl rfl, hlogs, handUp_frame k1⟩
      · intro a ha
        obtain ⟨i, hi⟩ := List.getElem?_of_mem ha
        rw [List.getElem?_map] at hi
        obtain ⟨b, hb1, rfl⟩ := Option.map_eq_some_iff.1 hi
        rw [hlv]
        by_cases e : i = off + 1
        · subst e
          rw [hb] at hb1; cases hb1
          rw [hren]
          exact .t hclo hql
        · rw [(hco i b e hb1).ren]; exact hco i b e hb1
      · rw [List.getElem?_map, hb, Option.map_some, hren]
      · rw [hnew q1 rfl]; exact htok
    · have hren : renA S.lvl ρ (.list (.own q1 h) 1 (u8s l4)) = .list (.own (ρ q1) 0) 1 (u8s l4) := by simp only [renA, if_neg (Nat.not_le.2 hql)]
      obtain ⟨m1, m2, m3, m4, m5⟩ := k8 p g t cs4 hpo h4 q1 h 1 (u8s l4) (List.mem_of_getElem? hb) hql _ _ htok
      refine ⟨u, _, some (ρ q1), k1, hlv, k3, k4, ⟨hget, ?_, by rw [List.length_map]; omega, by rw [hlv]; exact hpl, .inr (hcell _ _ (by omega) haddr), .inr ⟨ρ q1, 0, hl, rfl, ?_, m5, by rw [hlv]; exact Nat.le_of_eq m1⟩⟩, by rw [List.length_map]; exact hlen, hoths, .inr ⟨_, rfl, rfl, m1, m2, m3, m4⟩, hlogs, handUp_frame k1⟩
      · intro a ha
        obtain ⟨i, hi⟩ := List.getElem?_of_mem ha
        rw [List.getElem?_map] at hi
        obtain ⟨b, hb1, rfl⟩ := Option.map_eq_some_iff.1 hi
        rw [hlv]
        by_cases e : i = off + 1
        · subst e
          rw [hb] at hb1; cases hb1
          rw [hren]
          exact .t hclo (Nat.le_of_eq m1)
        · rw [(hco i b e hb1).ren]; exact hco i b e hb1
      · rw [List.getElem?_map, hb, Option.map_some, hren]


/-- Bytes are laid behind a builder's own: the new cell, and what it makes of the store. -/
theorem lay {f : FuncId} {S2 : AS} {l x : List UInt8} {q : Option Loc} {d : Nat} {v : AV} (hup : Cfg.up f S.fn = true) (hv : v.closed = true) (hlive : Cfg.live f d = false) (hB : BLD te S p g t off cs l q) (hsz : l.length + x.length ≤ 1000000000)
    (hM : Mid S S2 f p g t (splice cs off [.ptr p g 0 off])) :
    ∃ b c S3, (splice cs off [.ptr p g 0 off])[off + 1]? = some b ∧ (appB S2 d te 1 1 b (u8s x) = some (.val c) ∧ S3 = S2 ∨ ∃ r s, appB S2 d te 1 1 b (u8s x) = some (.chg c r s) ∧ S3 = S2.set r s) ∧ c.cells = [c] ∧ c.one = true ∧ S3.lvl = S2.lvl ∧ S3.fn = f ∧ S3.dfr = [] ∧
      S3.get p = some (.obj g t (splice cs off [.ptr p g 0 off])) ∧
      ∃ u cs' q', handUp f S (S3.set p (.obj g t (splice (splice cs off [.ptr p g 0 off]) (off + 1) [c]))) v = some (v, u) ∧ Wrote te S u p g t off cs cs' (l ++ x) q q' := by
  have ho : off < cs.length := by rcases hB.addr with h | h <;> exact lt_of_get h
  have ho1 : off + 1 < cs.length := by rcases hB.buf with ⟨_, _, h⟩ | ⟨_, _, _, _, h, _⟩ <;> exact lt_of_get h
  obtain ⟨cs2, e2⟩ : ∃ cs2, cs2 = splice cs off [AV.ptr p g 0 off] := ⟨_, rfl⟩
  have hg2 : ∀ i, cs2[i]? = if i = off then some (.ptr p g 0 off) else cs[i]? := fun i => by rw [e2]; exact splice1_get ho
  have hl2 : cs2.length = cs.length := by rw [e2]; exact splice1_len ho
  rw [← e2] at hM ⊢
  have hb2 : cs2[off + 1]? = cs[off + 1]? := by rw [hg2, if_neg (by omega)]
  have hco2 : ∀ i a, cs2[i]? = some a → Co S.lvl a := fun i a ha => by
    rw [hg2] at ha
    split at ha
    · cases ha; exact .p hB.lv
    · exact hB.co a (List.mem_of_getElem? ha)
  -- what is common
  have fin : ∀ (S3 : AS) (c : AV), (∀ i, (splice cs2 (off + 1) [c])[i]? = if i = off + 1 then some c else cs2[i]?) → SortedL S3.log → (∀ r ∈ S3.log, r = p ∨ some r = q ∨ S.lvl < r.l) → (∀ r, r.l ≤ S.lvl → r ∉ S3.log → S3.get r = S.get r) → (∀ r, r ≠ p → some r = q → ∃ h m sz e, S3.get r = some (.tok h m sz e)) →
      (((l ++ x) = [] ∧ q = none ∧ c = .lit (.slice none 0 0)) ∨ ∃ q1 h, l ++ x ≠ [] ∧ c = .list (.own q1 h) 1 (u8s (l ++ x)) ∧ q1 ≠ p ∧ S3.get q1 = some (.tok h (l ++ x).length 1 te) ∧ ((q = some q1 ∧ q1.l ≤ S.lvl) ∨ (q = none ∧ S.lvl < q1.l))) →
      ∃ u cs' q', handUp f S (S3.set p (.obj g t (splice cs2 (off + 1) [c]))) v = some (v, u) ∧ Wrote te S u p g t off cs cs' (l ++ x) q q' := by
    intro S3 c hc hs hm hfr hq hbuf
    have hqp : ∀ r, some r = q → r.l ≤ S.lvl ∧ r ≠ p := fun r hr => by
      rcases hB.buf with ⟨_, hqn, _⟩ | ⟨q', h, _, hqs, _, htok, hql⟩
      · rw [hqn] at hr; cases hr
      · rw [hqs] at hr; cases hr
        exact ⟨hql, fun e => by rw [e, hB.get] at htok; cases htok⟩
    refine bld_fin (cs4 := splice cs2 (off + 1) [c]) hup hv hB.lv hqp hs.put ?_ ?_ ?_ (AS.get_set_same ..) ?_ hB.len ?_ ?_ ?_ ?_ ?_
    · intro r hr
      rcases mem_logPut.1 hr with hr | rfl
      · exact hm r hr
      · exact .inl rfl
    · intro r hr hno
      have hne : r ≠ p := fun e => hno (mem_logPut.2 (.inr e))
      rw [set_get, if_neg hne]
      exact hfr r hr fun hl => hno (mem_logPut.2 (.inl hl))
    · exact mem_logPut.2 (.inr rfl)
    · rw [splice1_len (by omega)]; exact hl2
    · intro i h1 h2
      rw [hc, if_neg h2, hg2, if_neg h1]
    · intro i a h1 ha
      rw [hc, if_neg h1] at ha
      exact hco2 i a ha
    · rw [hc, if_neg (by omega), hg2, if_pos rfl]
    · rcases hbuf with ⟨h1, h2, rfl⟩ | ⟨q1, h, h1, rfl, h2, h3, h4⟩
      · exact .inl ⟨h1, h2, by rw [hc, if_pos rfl]⟩
      · exact .inr ⟨q1, h, h1, by rw [hc, if_pos rfl], by rw [set_get, if_neg h2]; exact h3, h4⟩
    · intro r hr
      have hne := (hqp r hr).2
      obtain ⟨h, m, sz, e, hs⟩ := hq r hne hr
      exact ⟨h, m, sz, e, by rw [set_get, if_neg hne]; exact hs⟩
  have hspl : ∀ c : AV, ∀ i, (splice cs2 (off + 1) [c])[i]? = if i = off + 1 then some c else cs2[i]? := fun c i => splice1_get (by omega)
  have hlogM : ∀ r ∈ S2.log, r = p ∨ some r = q ∨ S.lvl < r.l := fun r hr => by
    rcases hM.log r hr with h | h
    · exact .inl h
    · exact .inr (.inr (by omega))
  have hqM : ∀ r, r ≠ p → some r = q → S2.get r = S.get r := fun r hne hr => by
    refine hM.frame r fun hl => ?_
    rcases hM.log r hl with h | h
    · exact hne h
    · rcases hB.buf with ⟨_, hqn, _⟩ | ⟨q', _, _, hqs, _, _, hql⟩
      · rw [hqn] at hr; cases hr
      · rw [hqs] at hr; cases hr; omega
  rcases hB.buf with ⟨hl, hqn, hb⟩ | ⟨q1, h, hl, hqs, hb, htok, hql⟩
  · subst hl
    cases x with
    | nil =>
      refine ⟨_, .lit (.slice none 0 0), S2, by rw [hb2, hb], .inl ⟨rfl, rfl⟩, rfl, rfl, rfl, hM.fn, hM.dfr, hM.get, fin S2 _ (hspl _) hM.srt hlogM (fun r _ h => hM.frame r h) (fun r hne hr => by rw [hqn] at hr; cases hr) (.inl ⟨rfl, hqn, rfl⟩)⟩
    | cons a x =>
      have happ := appB_nil (S := S2) (d0 := d) (e := te) (n := 1) (bytes := 1) (news := u8s (a :: x)) (by rw [hM.fn]; exact hlive) (u8s_all _) (by rw [u8s_len]; simp) (by omega) (by rw [u8s_len]; simp only [List.length_nil] at hsz; omega)
      have hhp : S2.here d ≠ p := fun e => by
        have := hB.lv
        rw [← e] at this
        simp only [AS.here, hM.lvl] at this
        omega
      refine ⟨_, _, S2.set (S2.here d) (.tok (S2.fresh (S2.here d)) (u8s (a :: x)).length 1 te), by rw [hb2, hb], .inr ⟨_, _, happ, rfl⟩, rfl, rfl, rfl, hM.fn, hM.dfr, by rw [set_get, if_neg (Ne.symm hhp)]; exact hM.get, fin _ _ (hspl _) hM.srt.put ?_ ?_ ?_ (.inr ⟨S2.here d, S2.fresh (S2.here d), by simp, rfl, hhp, by rw [AS.get_set_same, u8s_len]; rfl, .inr ⟨hqn, by simp only [AS.here, hM.lvl]; omega⟩⟩)⟩
      · intro r hr
        rcases mem_logPut.1 hr with hr | rfl
        · exact hlogM r hr
        · exact .inr (.inr (by simp only [AS.here, hM.lvl]; omega))
      · intro r hr hno
        rw [set_get, if_neg fun e => by subst e; simp only [AS.here, hM.lvl] at hr; omega]
        exact hM.frame r fun hl => hno (mem_logPut.2 (.inl hl))
      · intro r _ hr; rw [hqn] at hr; cases hr
  · have hqp : q1 ≠ p := fun e => by rw [e, hB.get] at htok; cases htok
    have hq2 : S2.get q1 = some (.tok h l.length 1 te) := by rw [hqM q1 hqp hqs.symm]; exact htok
    cases x with
    | nil =>
      refine ⟨_, .list (.own q1 h) 1 (u8s l), S2, by rw [hb2, hb], .inl ⟨rfl, rfl⟩, rfl, rfl, rfl, hM.fn, hM.dfr, hM.get, fin S2 _ (hspl _) hM.srt hlogM (fun r _ h => hM.frame r h) (fun r hne hr => ?_) (.inr ⟨q1, h, by simpa using hl, by rw [List.append_nil], hqp, by rw [List.append_nil]; exact hq2, .inl ⟨hqs, hql⟩⟩)⟩
      rw [hqs] at hr; cases hr
      exact ⟨_, _, _, _, hq2⟩
    | cons a x =>
      have happ := appB_own (S := S2) (d0 := d) (e := te) (n := 1) (bytes := 1) (news := u8s (a :: x)) (es := u8s l) (p := q1) (g := h) (by rw [u8s_len]; exact hq2) (u8s_all _) (by rw [u8s_len]; simp) (by omega) (by rw [u8s_len, u8s_len]; exact hsz)
      refine ⟨_, _, S2.set q1 (.tok h ((u8s l).length + (u8s (a :: x)).length) 1 te), by rw [hb2, hb], .inr ⟨_, _, happ, rfl⟩, rfl, rfl, rfl, hM.fn, hM.dfr, by rw [set_get, if_neg (Ne.symm hqp)]; exact hM.get, fin _ _ (hspl _) hM.srt.put ?_ ?_ ?_ (.inr ⟨q1, h, by simp, by rw [u8s_app], hqp, by rw [AS.get_set_same, u8s_len, u8s_len, List.length_append], .inl ⟨hqs, hql⟩⟩)⟩
      · intro r hr
        rcases mem_logPut.1 hr with hr | rfl
        · exact hlogM r hr
        · exact .inr (.inl hqs.symm)
      · intro r hr hno
        rw [set_get, if_neg fun e => hno (mem_logPut.2 (.inr e))]
        exact hM.frame r fun hl => hno (mem_logPut.2 (.inl hl))
      · intro r _ hr
        rw [hqs] at hr; cases hr
        exact ⟨_, _, _, _, AS.get_set_same ..⟩

theorem ws_ok {l x : List UInt8} {q : Option Loc} (F : BFacts P tp tb tu tz fne) (hgc : Cfg.given fcc = none) (hfc : compF P fcc = some (Kcc tp tu fne tz)) (hg : Cfg.given fws = none) (hf : compF P fws = some (Kws fcc te)) (hupc : Cfg.up fcc fws = true) (hup : Cfg.up fws S.fn = true)
    (hlive : Cfg.live fws 14 = false) (hl : liesAt P P.depth t (cs.length / P.cellsOf t) off tb 1 = true) (hB : BLD te S p g t off cs l q) (hsz : l.length + x.length ≤ 1000000000) :
    ∃ u v cs' q', callT P fws [.ptr p g 0 off, .lit (.string (bs x))] S = some (.ret v, u) ∧ Wrote te S u p g t off cs cs' (l ++ x) q q' := by
  obtain ⟨u, k1, k2, k3, k4, k5, k6, k7⟩ := cc_ok (S := S.enter fws) (p := p) (g := g) (off := off) (t := t) (cs := cs) F hgc hfc hupc hB.get hl (Nat.le_succ_of_le hB.lv) (fun a ha => (hB.co a ha).up) hB.len hB.addr
  have hM := mid k2 k3 k4 k5 k6 k7
  obtain ⟨b, c, S3, h1, h2, h3, h4, h5, h6, h7, h8, u2, cs', q', h9, h10⟩ := lay (v := .tup [.lit (.int .i64 x.length), .lit .nilIface]) (x := x) hup rfl hlive hB hsz hM
  have hld := ld1V_at hM.get h1
  have hne : aelems ((S.enter fws).after u) 1 (.lit (.string (bs x))) = some (u8s x) := by
    simp [aelems, bs, u8s]
  have ho1 : off + 1 + 1 ≤ (splice cs off [AV.ptr p g 0 off]).length := lt_of_get h1
  have st := stV_obj (S := S3) (p := p) (g := g) (off := off + 1) (n := 1) (t := t) (cs := splice cs off [AV.ptr p g 0 off]) (xs := [c]) h8 rfl ho1 (by simp [h4])
  have hfn : (S.enter fws).fn = fws := rfl
  refine ⟨u2, _, cs', q', callT_of hg hf (Nat.le_of_ble_eq_true rfl) (?run : bfin fws [.t 4, .t 5] S _ = some (.ret (.tup [.lit (.int .i64 x.length), .lit .nilIface]), u2)), h10⟩
  rw [up_args hup]
  unfold Kws
  rcases h2 with ⟨h2, rfl⟩ | ⟨r, s, h2, rfl⟩
  · simp (disch := first | omega | with_unfolding_all exact id rfl | (simp only [toL_bs, List.length_cons, List.length_nil, List.length_append, List.length_map, List.length_drop, List.drop_succ_cons, List.drop_zero, Nat.reduceAdd, Nat.reduceLeDiff, Nat.le_refl] <;> omega)) only [go_sem, ↓reduceIte, Nat.reduceEqDiff, Option.map_some, List.map_cons, List.map_nil, AV.closedL, AV.closed, Bool.not_true, Bool.and_true, Bool.and_false, hfn, hupc, k1, hld, hne, h2, h3, st]
    rw [bfin_ret (by exact h7)]
    simp (disch := first | omega | with_unfolding_all exact id rfl | (simp only [toL_bs, List.length_cons, List.length_nil, List.length_append, List.length_map, List.length_drop, List.drop_succ_cons, List.drop_zero, Nat.reduceAdd, Nat.reduceLeDiff, Nat.le_refl] <;> omega)) only [go_sem, ↓reduceIte, Nat.reduceEqDiff, Option.map_some, bret, h9]
  · simp (disch := first | omega | with_unfolding_all exact id rfl | (simp only [toL_bs, List.length_cons, List.length_nil, List.length_append, List.length_map, List.length_drop, List.drop_succ_cons, List.drop_zero, Nat.reduceAdd, Nat.reduceLeDiff, Nat.le_refl] <;> omega)) only [go_sem, ↓reduceIte, Nat.reduceEqDiff, Option.map_some, List.map_cons, List.map_nil, AV.closedL, AV.closed, Bool.not_true, Bool.and_true, Bool.and_false, hfn, hupc, k1, hld, hne, h2, h3, st]
    rw [bfin_ret (by exact h7)]
    simp (disch := first | omega | with_unfolding_all exact id rfl | (simp only [toL_bs, List.length_cons, List.length_nil, List.length_append, List.length_map, List.length_drop, List.drop_succ_cons, List.drop_zero, Nat.reduceAdd, Nat.reduceLeDiff, Nat.le_refl] <;> omega)) only [go_sem, ↓reduceIte, Nat.reduceEqDiff, Option.map_some, bret, h9]
theorem wb_ok {l : List UInt8} {x : UInt8} {q : Option Loc} (F : BFacts P tp tb tu tz fne) (hgc : Cfg.given fcc = none) (hfc : compF P fcc = some (Kcc tp tu fne tz)) (hg : Cfg.given fwb = none) (hf : compF P fwb = some (Kwb fcc te)) (hupc : Cfg.up fcc fwb = true) (hup : Cfg.up fwb S.fn = true)
    (hlive : Cfg.live fwb 14 = false) (hlive2 : Cfg.live fwb 13 = false) (hl : liesAt P P.depth t (cs.length / P.cellsOf t) off tb 1 = true) (hB : BLD te S p g t off cs l q) (hsz : l.length + 1 ≤ 1000000000) :
    ∃ u v cs' q', callT P fwb [.ptr p g 0 off, .lit (.int .u8 x.toNat)] S = some (.ret v, u) ∧ Wrote te S u p g t off cs cs' (l ++ [x]) q q' := by
  obtain ⟨u, k1, k2, k3, k4, k5, k6, k7⟩ := cc_ok (S := S.enter fwb) (p := p) (g := g) (off := off) (t := t) (cs := cs) F hgc hfc hupc hB.get hl (Nat.le_succ_of_le hB.lv) (fun a ha => (hB.co a ha).up) hB.len hB.addr
  have hM := mid k2 k3 k4 k5 k6 k7
  obtain ⟨b, c, S3, h1, h2, h3, h4, h5, h6, h7, h8, u2, cs', q', h9, h10⟩ := lay (v := .lit .nilIface) (x := [x]) hup rfl hlive hB hsz hM
  have hld := ld1V_at hM.get h1
  have hne : aelems ((S.enter fwb).after u) 1 (.list .full 1 [[.lit (.int .u8 x.toNat)]]) = some (u8s [x]) := by
    simp [aelems, u8s]
  have ho1 : off + 1 + 1 ≤ (splice cs off [AV.ptr p g 0 off]).length := lt_of_get h1
  have st := stV_obj (S := S3) (p := p) (g := g) (off := off + 1) (n := 1) (t := t) (cs := splice cs off [AV.ptr p g 0 off]) (xs := [c]) h8 rfl ho1 (by simp [h4])
  have hfn : (S.enter fwb).fn = fwb := rfl
  have hfn2 : ((S.enter fwb).after u).fn = fwb := hM.fn
  refine ⟨u2, _, cs', q', callT_of hg hf (Nat.le_of_ble_eq_true rfl) (?run : bfin fwb [.t 4] S _ = some (.ret (.lit .nilIface), u2)), h10⟩
  rw [up_args hup]
  unfold Kwb
  rcases h2 with ⟨h2, rfl⟩ | ⟨r, s, h2, rfl⟩
  · simp (disch := first | omega | with_unfolding_all exact id rfl | (simp only [toL_bs, List.length_cons, List.length_nil, List.length_append, List.length_map, List.length_drop, List.drop_succ_cons, List.drop_zero, Nat.reduceAdd, Nat.reduceLeDiff, Nat.le_refl] <;> omega)) only [go_sem, ↓reduceIte, Nat.reduceEqDiff, Option.map_some, List.map_cons, List.map_nil, AV.closedL, AV.closed, Bool.not_true, Bool.and_true, Bool.and_false, hfn, hfn2, hlive2, hupc, k1, hld, hne, h2, h3, st]
    rw [bfin_ret (by exact h7)]
    simp (disch := first | omega | with_unfolding_all exact id rfl | (simp only [toL_bs, List.length_cons, List.length_nil, List.length_append, List.length_map, List.length_drop, List.drop_succ_cons, List.drop_zero, Nat.reduceAdd, Nat.reduceLeDiff, Nat.le_refl] <;> omega)) only [go_sem, ↓reduceIte, Option.map_some, bret, h9]
  · simp (disch := first | omega | with_unfolding_all exact id rfl | (simp only [toL_bs, List.length_cons, List.length_nil, List.length_append, List.length_map, List.length_drop, List.drop_succ_cons, List.drop_zero, Nat.reduceAdd, Nat.reduceLeDiff, Nat.le_refl] <;> omega)) only [go_sem, ↓reduceIte, Nat.reduceEqDiff, Option.map_some, List.map_cons, List.map_nil, AV.closedL, AV.closed, Bool.not_true, Bool.and_true, Bool.and_false, hfn, hfn2, hlive2, hupc, k1, hld, hne, h2, h3, st]
    rw [bfin_ret (by exact h7)]
    simp (disch := first | omega | with_unfolding_all exact id rfl | (simp only [toL_bs, List.length_cons, List.length_nil, List.length_append, List.length_map, List.length_drop, List.drop_succ_cons, List.drop_zero, Nat.reduceAdd, Nat.reduceLeDiff, Nat.le_refl] <;> omega)) only [go_sem, ↓reduceIte, Option.map_some, bret, h9]
end
end Go.Proofs.YtjdccpmbaobpdaaGreatDoor
