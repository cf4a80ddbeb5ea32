/-
  A part of the proof: packed by a program.
-/
import Derived.Test.YtbinfgmdamlkbaaGreatDoorQE3
import Derived.MapKept
import Derived.Test.YtbinfgmdamlkbaaGreatDoorProg
import Derived.KernelRfl
set_option maxRecDepth 100000
set_option maxHeartbeats 4000000
set_option linter.unusedVariables false
set_option linter.unusedSimpArgs false
namespace Go.Proofs.YtbinfgmdamlkbaaGreatDoor
open Go.RowKit
namespace G
abbrev addI (a b : Int) : Int := IntKind.i64.wrap (a + b)
abbrev subI (a b : Int) : Int := IntKind.i64.wrap (a - b)
abbrev mulI (a b : Int) : Int := IntKind.i64.wrap (a * b)
def idx {α : Type} (l : List α) (i : Int) : Option α := if 0 ≤ i then l[i.toNat]? else none
def idxS (l : List UInt8) (i : Int) : Option Int := if 0 ≤ i then (l[i.toNat]?).map (fun c => (c.toNat : Int)) else none
def subS (l : List UInt8) (lo hi : Int) : Option (List UInt8) := if 0 ≤ lo ∧ lo ≤ hi ∧ hi ≤ l.length then some ((l.take hi.toNat).drop lo.toNat) else none
def catS (a b : List UInt8) : Option (List UInt8) := if a.length + b.length ≤ 9223372036854775807 then some (a ++ b) else none
def app {α : Type} (a b : List α) : Option (List α) := if a.length + b.length ≤ 1000000000 then some (a ++ b) else none
end G
theorem ae5 {α β : Type} {o : Option α} {k : α → Option β} {r : β} (h : o.bind k = some r) : ∃ x, o = some x ∧ k x = some r := by
 cases o with
 | none => cases h
 | some x => exact ⟨x, rfl, h⟩
theorem iteT {α : Type} {c : Prop} [Decidable c] {a b : α} {r : α} (h : (if c then a else b) = r) (hc : c) : a = r := by rw [if_pos hc] at h; exact h
theorem iteF {α : Type} {c : Prop} [Decidable c] {a b : α} {r : α} (h : (if c then a else b) = r) (hc : ¬ c) : b = r := by rw [if_neg hc] at h; exact h
def a15 [Cfg] (P : Program) (g : FuncId) (args : List AV) (Q : AV → Prop) : Prop := ∀ S args', args'.map AV.af4 = args.map AV.af4 → ∃ v, aj6 P g args' S = some (.ret v, none) ∧ Q v
theorem cD5 (a : AV) : a.au6.au6 = a.au6 := by cases a <;> rfl
theorem cD7 (a : AV) : a.af4.af4 = a.af4 := by
 cases a with
 | agg cs =>
  show AV.agg _ = AV.agg _
  rw [List.map_map]
  congr 1
  exact List.map_congr_left fun a _ => cD5 a
 | _ => rfl
theorem cA6 (l : List AV) : (l.map AV.af4).map AV.af4 = l.map AV.af4 := by
 rw [List.map_map]
 exact List.map_congr_left fun a _ => cD7 a
def optL (E : Env) : List X → Option (List AV)
 | [] => some []
 | x :: r => match opd E x, optL E r with
  | some a, some l => some (a :: l)
  | _, _ => none
theorem bW5 {E : Env} {T : BT} (h : Ag E T) : ∀ {xs : List X} {as1 : List AV}, optL E xs = some as1 → xs.map (X.at T) = as1
 | [], as1, hx => by cases hx; rfl
 | x :: r, as1, hx => by
  unfold optL at hx
  split at hx
  ·rename_i a l h1 h2
   cases hx
   rw [List.map_cons, h.at h1, bW5 h h2]
  ·cases hx
abbrev af0 : AF := (some [], some [])
section
variable {L : Nat} {f : Fr} {E : Env} {A : List It} {d : Nat}
theorem RelC.cG9 {v : V} {b : AV} (h : RelC v b) : ah4 b = .none := by
 cases v with
 | sl sz es =>
  unfold RelC at h
  rcases h with ⟨_, p, rfl⟩ | ⟨sp, ys, rfl, hc, _⟩
  ·rfl
  ·cases sp <;> first | rfl | cases hc
 | ref cs => unfold RelC at h; obtain ⟨ys, zs, rfl, _⟩ := h; rfl
 | ifc t b cs => unfold RelC at h; obtain ⟨ys, _, ⟨_, rfl⟩ | ⟨_, y, rfl, rfl⟩⟩ := h <;> rfl
 | fnv f cs => unfold RelC at h; obtain ⟨ys, _, rfl | ⟨_, rfl⟩⟩ := h <;> rfl
 | _ => unfold RelC at h; subst h; rfl
theorem cG8 {T : BT} {S : AS} {d : Option Nat} : okF (L + 1) af0 ⟨BF.foot S T d .none, .none⟩ := ⟨.inl rfl, .inl rfl⟩
theorem as4.get {L : Nat} : ∀ {M : List V} {ys : List AV} {i : Nat} {v : V}, as4 L M ys → M[i]? = some v → ∃ c, ys[i]? = some c ∧ RelS L v c
 | [], _, _, _, _, h => by cases h
 | u :: M, ys, i, v, h, hi => by
  obtain ⟨a, t, rfl, h1, h2⟩ := h
  cases i with
  | zero => cases hi; exact ⟨a, rfl, h1⟩
  | succ i => exact h2.get (i := i) hi
theorem ab6.get : ∀ {M : List V} {ys : List AV} {i : Nat} {v : V}, ab6 M ys → M[i]? = some v → ∃ c, ys[i]? = some c ∧ RelC v c
 | [], _, _, _, _, h => by cases h
 | u :: M, ys, i, v, h, hi => by
  unfold ab6 at h
  obtain ⟨a, t, rfl, h1, h2⟩ := h
  cases i with
  | zero => cases hi; exact ⟨a, rfl, h1⟩
  | succ i => exact h2.get (i := i) hi
theorem ab6.length {vs : List V} {ys : List AV} (h : ab6 vs ys) : ys.length = vs.length := (h.toS (L := 0)).length
theorem al0 {a b : Nat} (h : Nat.ble a b = true) : a ≤ b := Nat.le_of_ble_eq_true h
theorem b35 {x : X} {k g o : Nat} {T : BT} {S : AS} {d : Option Nat} (hT : Ag E T) (hx : opd E x = some (.ptr ⟨L + 1, k, 0⟩ g 0 o)) : okK (L + 1) (some [k]) (BF.foot S T d (.at x)) := by
 refine .inr ⟨[⟨L + 1, k, 0⟩], ?_, by simp, fun p hp => ?_⟩
 ·show ah4 (x.at T) = _
  rw [hT.at hx]
  rfl
 ·simp only [List.mem_singleton] at hp
  subst hp
  rw [aP6]
  exact List.mem_singleton.2 rfl
theorem aM7 {T : BT} {S : AS} (hS : StA S L f A) : okK (L + 1) (some [d]) (BF.foot S T (some d) .here) := by
 refine .inr ⟨[⟨L + 1, d, 0⟩], ?_, by simp, fun p hp => ?_⟩
 ·show FK.slots [S.here d] = _
  rw [aL5, hS.lvl]
 ·simp only [List.mem_singleton] at hp
  subst hp
  rw [aP6]
  exact List.mem_singleton.2 rfl
theorem aY5 {S : AS} {p : Loc} {g : Nat} {t : TypeId} {cs : List AV} (h : S.get p = some (.obj g t cs)) : S.an5 p g 0 = some cs := by simp [AS.an5, h]
def outP (k : Nat) : List (Nat × Nat × X) → Bool
 | [] => true
 | (off, size, _) :: r => (Nat.blt k off || Nat.ble (off + size) k) && outP k r
theorem cD3 {cs ys : List AV} {off k : Nat} (hk : (Nat.blt k off || Nat.ble (off + ys.length) k) = true) (hl : off + ys.length ≤ cs.length) : (splice cs off ys)[k]? = cs[k]? := by
 unfold splice
 simp only [Bool.or_eq_true, Nat.blt_eq, Nat.ble_eq] at hk
 rcases hk with hk | hk
 ·rw [List.append_assoc, List.getElem?_append_left (by rw [List.length_take]; omega), List.getElem?_take_of_lt hk]
 ·rw [List.getElem?_append_right (by rw [List.length_append, List.length_take]; omega), List.length_append, List.length_take, List.getElem?_drop]
  rw [show off + ys.length + (k - (min off cs.length + ys.length)) = k by omega]
inductive cN9 (E : Env) : List V → List (Nat × Nat × X) → List V → Prop where
 | nil (M : List V) : cN9 E M [] M
 | cons {M Xs M' : List V} {off size : Nat} {x : X} {a : AV} {r : List (Nat × Nat × X)} (hx : opd E x = some a) (ha : ab6 Xs a.cells) (hn : Xs.length = size) (hle : Nat.ble (off + size) M.length = true) (h : cN9 E (bB4 M off Xs) r M') : cN9 E M ((off, size, x) :: r) M'
theorem ab6.append {vs us : List V} : ∀ {as1 cs : List AV}, ab6 vs as1 → ab6 us cs → ab6 (vs ++ us) (as1 ++ cs) := by
 induction vs with
 | nil => intro as1 cs h h'; unfold ab6 at h; subst h; exact h'
 | cons v r ih =>
  intro as1 cs h h'
  unfold ab6 at h
  obtain ⟨a, t, rfl, h1, h2⟩ := h
  show ab6 (v :: (r ++ us)) _
  unfold ab6
  exact ⟨a, t ++ cs, rfl, h1, ih h2 h'⟩
theorem ab6.spl {vs xs : List V} {as1 ys : List AV} (off : Nat) (h : ab6 vs as1) (h' : ab6 xs ys) : ab6 (bB4 vs off xs) (splice as1 off ys) := by
 unfold bB4 splice
 rw [h'.length]
 exact ((h.take off).append h').append (h.drop _)
theorem cN9.ok {T : BT} (hT : Ag E T) {M M' : List V} {pl : List (Nat × Nat × X)} (h : cN9 E M pl M') : ∀ {z : List AV}, ab6 M z → ∃ cs, aT8 T z pl = some cs ∧ ab6 M' cs ∧ ∀ k, outP k pl = true → cs[k]? = z[k]? := by
 induction h with
 | nil M => exact fun {z} hz => ⟨z, rfl, hz, fun _ _ => rfl⟩
 | @cons M Xs M' off size x a r hx ha hn hle h ih =>
  intro z hz
  obtain ⟨cs, k1, k2, k3⟩ := ih (hz.spl off ha)
  have hl : a.cells.length = size := by rw [ha.length, hn]
  refine ⟨cs, ?_, k2, fun k hk => ?_⟩
  case refine_2 =>
   simp only [outP, Bool.and_eq_true] at hk
   rw [k3 k hk.2]
   exact cD3 (by rw [hl]; exact hk.1) (by rw [hl, hz.length]; exact al0 hle)
  rw [bo8 z off size x r (by rw [hT.at hx]; exact hl) (by rw [hz.length]; exact al0 hle), hT.at hx]
  exact k1
inductive BslR (E : Env) (n : Nat) : List X → List (List V) → Prop where
 | nil : BslR E n [] []
 | cons {x : X} {a : AV} {Xs : List V} {r : List X} {es : List (List V)} (hx : opd E x = some a) (ha : ab6 Xs a.cells) (hn : Xs.length = n) (h : BslR E n r es) : BslR E n (x :: r) (Xs :: es)
theorem ab6.ones {vs : List V} {ys : List AV} (h : ab6 vs ys) : ys.all AV.one = true := (h.toS (L := 0)).ones
theorem BslR.ok {n : Nat} {T : BT} (hT : Ag E T) {xs : List X} {es : List (List V)} (h : BslR E n xs es) : xs.all (fun x => (x.at T).cells.length == n) = true ∧ xs.all (fun x => (x.at T).cells.all AV.one) = true ∧ ad7 es (xs.map fun x => (x.at T).cells) := by
 induction h with
 | nil => exact ⟨rfl, rfl, by unfold ad7; rfl⟩
 | @cons x a Xs r es hx ha hn h ih =>
  obtain ⟨k1, k2, k3⟩ := ih
  have e : x.at T = a := hT.at hx
  refine ⟨?_, ?_, ?_⟩
  ·rw [List.all_cons, e, k1, ha.length, hn]
   simp
  ·rw [List.all_cons, e, k2, ha.ones]
   rfl
  ·rw [List.map_cons, e]
   unfold ad7
   exact ⟨_, _, rfl, ha, k3⟩
def insK (d : Nat) (ks : List Nat) : List Nat := match ks.contains d with
 | true => ks
 | false => d :: ks
theorem cc4 (d : Nat) (ks : List Nat) : d ∈ insK d ks ∧ ∀ k ∈ ks, k ∈ insK d ks := by
 unfold insK
 cases h : ks.contains d with
 | true => exact ⟨List.contains_iff_mem.1 h, fun k hk => hk⟩
 | false => exact ⟨List.mem_cons_self .., fun k hk => List.mem_cons_of_mem _ hk⟩
def cm1 (ks : List Nat) : Nat → List It → Bool
 | _, [] => true
 | 0, _ :: r => r.all fun it => ks.all fun k => it.free k
 | i + 1, a :: r => (ks.all fun k => a.free k) && cm1 ks i r
theorem cP9 {S : AS} {L k : Nat} {s : ad4} {ks : List Nat} {it : It} (hk : k ∈ ks) (hit : it.ok (S.set ⟨L, k, 0⟩ s) L) : ∀ {A : List It} {i : Nat}, (∀ it ∈ A, it.ok S L) → cm1 ks i A = true → ∀ jt ∈ A.set i it, jt.ok (S.set ⟨L, k, 0⟩ s) L
 | [], _, _, _ => by intro jt hj; simp at hj
 | a :: r, 0, hA, hf => by
  intro jt hj
  simp only [List.set_cons_zero, List.mem_cons] at hj
  rcases hj with rfl | hj
  ·exact hit
  ·exact It.bh9 (hA jt (List.mem_cons_of_mem _ hj)) (List.all_eq_true.1 (List.all_eq_true.1 hf jt hj) k hk)
 | a :: r, i + 1, hA, hf => by
  intro jt hj
  simp only [cm1, Bool.and_eq_true] at hf
  simp only [List.set_cons_succ, List.mem_cons] at hj
  rcases hj with rfl | hj
  ·exact It.bh9 (hA _ (List.mem_cons_self ..)) (List.all_eq_true.1 hf.1 k hk)
  ·exact cP9 (A := r) hk hit (fun it hi => hA it (List.mem_cons_of_mem _ hi)) hf.2 jt hj
theorem c30 {S : AS} {L : Nat} {it : It} (hit : it.ok S L) : ∀ {A : List It} {i : Nat}, (∀ it ∈ A, it.ok S L) → ∀ jt ∈ A.set i it, jt.ok S L := by
 intro A i hA jt hj
 rcases List.mem_or_eq_of_mem_set hj with h | rfl
 ·exact hA jt h
 ·exact hit
theorem bA3 : ∀ {es : List (List V)} {ys : List (List AV)}, ad7 es ys → ys.all (fun e => e.all AV.one) = true
 | [], ys, h => by unfold ad7 at h; subst h; rfl
 | e :: r, ys, h => by
  unfold ad7 at h
  obtain ⟨a, t, rfl, h1, h2⟩ := h
  rw [List.all_cons, h1.ones, bA3 h2]
  rfl
end
section
variable [Cfg] {P : Program} {L : Nat} {f : Fr} {E : Env} {A : List It} {Φ : ax8} {m : Option (List (Nat × Nat))} {acc : AAcc} {r : List BI} {d : Nat}
def Stp (P : Program) (L : Nat) (f : Fr) (E : Env) (A : List It) (d : Nat) (bf : BF) (o : BO) (af : AF) (Q : AV → Prop) : Prop :=
 ∀ T S, Ag E T → StA S L f A → ∃ v ft, Q v ∧ okF (L + 1) af ft ∧ ∀ c r, ad5 P (aj6 P) c (⟨some d, none, bf, o⟩ :: r) T S = ad5 P (aj6 P) (c.push ft) r (T.put (some d) v) S
theorem aL6 {o : BO} {bf : BF} {af : AF} {Q : AV → Prop} (hop : ∀ T S, Ag E T → StA S L f A → ∃ v, bop P S T (some d) o = some (.val v) ∧ Q v)
  (hf : ∀ T S, Ag E T → StA S L f A → okF (L + 1) af ⟨bf.foot S T (some d), .none⟩) : Stp P L f E A d bf o af Q := by
 intro T S hT hS
 obtain ⟨v, h1, h2⟩ := hop T S hT hS
 exact ⟨v, _, h2, hf T S hT hS, fun c r => by rw [ai2, h1, b03]⟩
theorem ah6 {o : BO} {bf : BF} {af : AF} {Q : AV → Prop} (hs : Stp P L f E A d bf o af Q) (h : ∀ v, Q v → GO1 P m (accP acc af) r L f ((d, v) :: E) A Φ) : GO1 P m acc (⟨some d, none, bf, o⟩ :: r) L f E A Φ := by
 intro c T S hc hT hS
 obtain ⟨v, ft, h1, h2, h3⟩ := hs T S hT hS
 obtain ⟨x, T', S', k1, k2⟩ := h v h1 _ (T.put (some d) v) S (hc.push h2) (hT.put d v) hS
 exact ⟨x, T', S', by rw [h3]; exact k1, k2⟩
theorem o6 {o : BO} {bf : BF} {af : AF} {v : AV} (hs : Stp P L f E A d bf o af (fun u => u = v)) (h : GO1 P m (accP acc af) r L f ((d, v) :: E) A Φ) : GO1 P m acc (⟨some d, none, bf, o⟩ :: r) L f E A Φ :=
 ah6 hs fun u hu => by subst hu; exact h
theorem ax9 {o : BO} {bf : BF} {af : AF} {Q : AV → Prop} {t : Nat} {w gb : Bool} {u : AV} (ht : look E t = some u) (hw : cM2 w u = gb) (hs : gb = true → Stp P L f E A d bf o af Q)
  (h : ∀ v, (gb = true → Q v) → (gb = false → v = .lit undef) → GO1 P m (accP acc af) r L f ((d, v) :: E) A Φ) : GO1 P m acc (⟨some d, some (t, w), bf, o⟩ :: r) L f E A Φ := by
 intro c T S hc hT hS
 have e : aS6 T (some (t, w)) = gb := by rw [aQ6, hT t u ht, hw]
 cases hg : gb with
 | true =>
  obtain ⟨v, ft, h1, h2, h3⟩ := hs hg T S hT hS
  obtain ⟨x, T', S', k1, k2⟩ := h v (fun _ => h1) (fun e => by rw [hg] at e; cases e) _ (T.put (some d) v) S (hc.push h2) (hT.put d v) hS
  refine ⟨x, T', S', ?_, k2⟩
  rw [bS8, e, hg, cC1]
  simp only
  rw [h3]
  exact k1
 | false =>
  obtain ⟨x, T', S', k1, k2⟩ := h (.lit undef) (fun e => by rw [hg] at e; cases e) (fun _ => rfl) _ (T.put (some d) (.lit undef)) S (hc.push (f := ⟨.none, .none⟩) ⟨(by cases af.1 <;> first | trivial | exact .inl rfl), (by cases af.2 <;> first | trivial | exact .inl rfl)⟩) (hT.put d _) hS
  refine ⟨x, T', S', ?_, k2⟩
  rw [bS8, e, hg, b95]
  exact k1
theorem bD6 {o : BO} {v : AV} (hop : ∀ T S, Ag E T → bop P S T (some d) o = some (.val v)) : Stp P L f E A d .none o af0 (fun u => u = v) :=
 aL6 (fun T S hT _ => ⟨v, hop T S hT, rfl⟩) (fun _ _ _ _ => cG8)
theorem bO9 {o : BO} {Q : AV → Prop} (hop : ∀ T S, Ag E T → ∃ v, bop P S T (some d) o = some (.val v) ∧ Q v) : Stp P L f E A d .none o af0 Q :=
 aL6 (fun T S hT _ => hop T S hT) (fun _ _ _ _ => cG8)
theorem cK7 {c a : X} {t b : Bool} {u : AV} (hc : opd E c = some (.lit (.bool t))) (ha : opd E a = some u) (hu : t = true → u = .lit (.bool b)) : Stp P L f E A d .none (.pk c a (.c (.lit (.bool false)))) af0 (fun v => v = .lit (.bool (t && b))) :=
 bD6 fun T S hT => by
  simp only [bop, hT.at hc]
  cases t
  ·rfl
  ·simp only [if_true, hT.at ha, hu rfl, Bool.true_and]
theorem s_or {c a : X} {t b : Bool} {u : AV} (hc : opd E c = some (.lit (.bool t))) (ha : opd E a = some u) (hu : (!t) = true → u = .lit (.bool b)) : Stp P L f E A d .none (.pk c (.c (.lit (.bool true))) a) af0 (fun v => v = .lit (.bool (t || b))) :=
 bD6 fun T S hT => by
  simp only [bop, hT.at hc]
  cases t
  ·simp only [Bool.false_eq_true, if_false, hT.at ha, hu rfl, Bool.false_or]
  ·rfl
theorem s_mv {x : X} {v : AV} (hx : opd E x = some v) : Stp P L f E A d .none (.mv x) af0 (fun u => u = v) :=
 bD6 (fun T S hT => by show some (AR.val (x.at T)) = _; rw [hT.at hx])
theorem s_ib {op : BinOp} {x y : X} {a b v : AV} (hx : opd E x = some a) (hy : opd E y = some b) (hv : ibV op a b = some v) : Stp P L f E A d .none (.ib op x y) af0 (fun u => u = v) :=
 bD6 (fun T S hT => by simp only [bop, hT.at hx, hT.at hy, hv, Option.map_some])
theorem s_nt {x : X} {b : Bool} (hx : opd E x = some (.lit (.bool b))) : Stp P L f E A d .none (.nt x) af0 (fun u => u = .lit (.bool !b)) :=
 bD6 (fun T S hT => by simp only [bop, hT.at hx, ntV, Option.map_some])
theorem s_bb {ne : Bool} {x y : X} {a b : Bool} (hx : opd E x = some (.lit (.bool a))) (hy : opd E y = some (.lit (.bool b))) : Stp P L f E A d .none (.bb ne x y) af0 (fun u => u = .lit (.bool (decide (a = b) != ne))) :=
 bD6 (fun T S hT => by simp only [bop, hT.at hx, hT.at hy, bbV, Option.map_some])
theorem cS8 {k k' : IntKind} {x : X} {n : Int} (hx : opd E x = some (.lit (.int k' n))) : Stp P L f E A d (.at x) (.cvi k x) af0 (fun u => u = .lit (.int k (k.wrap n))) :=
 aL6 (fun T S hT _ => ⟨_, by simp only [bop, hT.at hx, cviV, Option.map_some], rfl⟩) (fun T S hT _ => ⟨.inl (by show ah4 (x.at T) = _; rw [hT.at hx]; rfl), .inl rfl⟩)
theorem s_seq1 {x y : X} {a b : List UInt8} (hx : opd E x = some (.lit (.string (bs a)))) (hy : opd E y = some (.lit (.string (bs b)))) : Stp P L f E A d .none (.sb .eql x y) af0 (fun u => u = .lit (.bool (decide (a = b)))) :=
 bD6 (fun T S hT => by simp only [bop, hT.at hx, hT.at hy, sbV, strB, aG2, Option.map_some])
theorem s_sne {x y : X} {a b : List UInt8} (hx : opd E x = some (.lit (.string (bs a)))) (hy : opd E y = some (.lit (.string (bs b)))) : Stp P L f E A d .none (.sb .neq x y) af0 (fun u => u = .lit (.bool (decide (a ≠ b)))) :=
 bD6 (fun T S hT => by simp only [bop, hT.at hx, hT.at hy, sbV, strB, aG2, Option.map_some])
theorem cq5 {x y : X} {a b c : List UInt8} (hx : opd E x = some (.lit (.string (bs a)))) (hy : opd E y = some (.lit (.string (bs b)))) (hc : G.catS a b = some c) : Stp P L f E A d .none (.sb .add x y) af0 (fun u => u = .lit (.string (bs c))) :=
 bD6 (fun T S hT => by
  unfold G.catS at hc
  split at hc
  ·rename_i hl
   cases hc
   simp only [bop, hT.at hx, hT.at hy, sbV, strB, aG2]
   rw [if_pos hl]
   rfl
  ·cases hc)
theorem s_ls {x : X} {a : List UInt8} (hx : opd E x = some (.lit (.string (bs a)))) : Stp P L f E A d (.at x) (.ls x) af0 (fun u => u = .lit (.int .i64 a.length)) :=
 aL6 (fun T S hT _ => ⟨_, by simp only [bop, hT.at hx, lsV, aG2, Option.map_some], rfl⟩) (fun T S hT _ => ⟨.inl (by show ah4 (x.at T) = _; rw [hT.at hx]; rfl), .inl rfl⟩)
theorem s_xs {x i : X} {a : List UInt8} {k : IntKind} {j c : Int} (hx : opd E x = some (.lit (.string (bs a)))) (hi : opd E i = some (.lit (.int k j))) (hc : G.idxS a j = some c) : Stp P L f E A d .none (.xs x i) af0 (fun u => u = .lit (.int .u8 c)) :=
 bD6 (fun T S hT => by
  unfold G.idxS at hc
  split at hc
  ·rename_i h0
   obtain ⟨b, hb, rfl⟩ := Option.map_eq_some_iff.1 hc
   have hlt := (List.getElem?_eq_some_iff.1 hb).1
   simp only [bop, hT.at hx, hT.at hi, xsV, aG2]
   rw [if_pos ⟨h0, by omega⟩]
   simp [List.getD_eq_getElem?_getD, hb]
  ·cases hc)
theorem s_ex {x : X} {i : Nat} {l : List AV} {a : AV} (hx : opd E x = some (.tup l)) (hi : l[i]? = some a) : Stp P L f E A d .none (.ex x i) af0 (fun u => u = a) :=
 bD6 (fun T S hT => by simp only [bop, hT.at hx, exV, hi, Option.map_some])
theorem s_fa {x : X} {p : Loc} {g n o off o' : Nat} (hx : opd E x = some (.ptr p g n o)) (ho : o + off = o') : Stp P L f E A d .none (.fa off x) af0 (fun u => u = .ptr p g n o') :=
 bD6 (fun T S hT => by subst ho; simp only [bop, hT.at hx, offV, Option.map_some])
theorem cI6 {x : X} {ys : List AV} {M : List V} {off : Nat} (hx : opd E x = some (.cref ys)) (hM : RelP M ys) : Stp P L f E A d .none (.fa off x) af0 (fun u => ∃ zs, u = .cref zs ∧ RelP (M.drop off) zs) :=
 bO9 (fun T S hT => ⟨_, by simp only [bop, hT.at hx, offV, Option.map_some], _, rfl, hM.drop off⟩)
theorem s_ia {α : Type} {x i : X} {a : AV} {xs : List α} {c : α → List V} {n : Nat} {k : IntKind} {j : Int} {e : α} (hx : opd E x = some a) (ha : RelS (L + 1) (.sl n (xs.map c)) a) (hi : opd E i = some (.lit (.int k j))) (he : G.idx xs j = some e)
  : Stp P L f E A d .none (.ia n x i) af0 (fun u => ∃ zs, u = .cref zs ∧ RelP (c e) zs) := by
 unfold G.idx at he
 split at he
 ·rename_i h0
  rcases ha with ⟨hn, _⟩ | ⟨sp, ys, rfl, _, hr⟩
  ·have : xs = [] := by simpa using hn
   subst this
   simp at he
  ·obtain ⟨zs, h1, h2⟩ := hr.get (i := j.toNat) (v := c e) (by rw [List.getElem?_map, he]; rfl)
   exact bO9 (fun T S hT => ⟨_, by
    simp only [bop, hT.at hx, hT.at hi, iaV]
    rw [if_pos ⟨h0, trivial⟩, h1]
    rfl, zs, rfl, h2.toP⟩)
 ·cases he
theorem s_ll {α : Type} {x : X} {a : AV} {xs : List α} {c : α → List V} {n : Nat} (hx : opd E x = some a) (ha : RelS (L + 1) (.sl n (xs.map c)) a) : Stp P L f E A d (.at x) (.ll x) (none, some []) (fun u => u = .lit (.int .i64 xs.length)) :=
 aL6 (fun T S hT _ => ⟨_, by
  simp only [bop, hT.at hx, ha.len, Option.map_some, List.length_map], rfl⟩) (fun _ _ _ _ => ⟨trivial, .inl rfl⟩)
theorem bX7 {α : Type} {x : X} {a : AV} {xs : List α} {c : α → List V} {n : Nat} (hx : opd E x = some a) (ha : RelC (.sl n (xs.map c)) a) : Stp P L f E A d (.at x) (.ll x) af0 (fun u => u = .lit (.int .i64 xs.length)) := by
 refine aL6 (fun T S hT _ => ⟨_, by
  simp only [bop, hT.at hx, (ha.toS (L := 0)).len, Option.map_some, List.length_map], rfl⟩) (fun T S hT _ => ⟨.inl ?_, .inl rfl⟩)
 show ah4 (x.at T) = _
 rw [hT.at hx]
 exact ha.cG9
theorem s_ldo {x : X} {k g off : Nat} {t : TypeId} {cs : List AV} {M : List V} {v : V} (hx : opd E x = some (.ptr ⟨L + 1, k, 0⟩ g 0 off)) (ho : lookO A k = some (g, t, cs)) (hM : as4 (L + 1) M cs) (hv : M[off]? = some v)
  : Stp P L f E A d (.at x) (.ld1 x) (some [k], some []) (fun c => RelS (L + 1) v c ∧ cs[off]? = some c) := by
 obtain ⟨c, h1, h2⟩ := hM.get hv
 refine aL6 (fun T S hT hS => ⟨c, ?_, h2, h1⟩) (fun T S hT _ => ⟨b35 (S := S) (d := some d) hT hx, .inl rfl⟩)
 simp only [bop, hT.at hx, ld1V, aM8, aY5 (aB5 hS.its ho), Option.map_some]
 rw [List.head?_drop, h1]
 rfl
theorem s_ldno {x : X} {k g off n : Nat} {t : TypeId} {cs : List AV} {M N : List V} (hx : opd E x = some (.ptr ⟨L + 1, k, 0⟩ g 0 off)) (ho : lookO A k = some (g, t, cs)) (hM : as4 (L + 1) M cs) (hn : Nat.ble (off + n) M.length = true) (hN : (M.drop off).take n = N)
  : Stp P L f E A d (.at x) (.ldn n x) (some [k], some []) (fun u => ∃ zs, u = .agg zs ∧ as4 (L + 1) N zs ∧ zs = (cs.drop off).take n) := by
 subst hN
 refine aL6 (fun T S hT hS => ⟨.agg ((cs.drop off).take n), ?_, _, rfl, (hM.drop off).take n, rfl⟩) (fun T S hT _ => ⟨b35 (S := S) (d := some d) hT hx, .inl rfl⟩)
 simp only [bop, hT.at hx, ldnV, aM8, aY5 (aB5 hS.its ho), Option.map_some]
 have := al0 hn
 rw [if_pos (by rw [List.length_drop, hM.length]; omega)]
 rfl
theorem cX8 {x : X} {ys : List AV} {M : List V} {v : V} (hx : opd E x = some (.cref ys)) (hM : RelP M ys) (hv : M[0]? = some v) : Stp P L f E A d (.at x) (.ld1 x) af0 (fun c => RelC v c) := by
 obtain ⟨c, h1, h2⟩ := hM.get hv
 refine aL6 (fun T S hT hS => ⟨c, ?_, h2⟩) (fun T S hT _ => ⟨.inl ?_, .inl rfl⟩)
 ·simp only [bop, hT.at hx, ld1V, aM8]
  rw [List.head?_eq_getElem?, h1]
  rfl
 ·show ah4 (x.at T) = _
  rw [hT.at hx]
  rfl
theorem cg8 {x : X} {ys : List AV} {M N : List V} {n : Nat} (hx : opd E x = some (.cref ys)) (hM : RelP M ys) (hn : Nat.ble n M.length = true) (hN : M.take n = N) : Stp P L f E A d (.at x) (.ldn n x) af0 (fun u => ∃ zs, u = .agg zs ∧ ab6 N zs) := by
 subst hN
 obtain ⟨hM1, hM2⟩ := hM.take (al0 hn)
 refine aL6 (fun T S hT hS => ⟨.agg (ys.take n), ?_, _, rfl, hM1⟩) (fun T S hT _ => ⟨.inl ?_, .inl rfl⟩)
 ·simp only [bop, hT.at hx, ldnV, aM8]
  rw [if_pos hM2]
  rfl
 ·show ah4 (x.at T) = _
  rw [hT.at hx]
  rfl
theorem g_chg {o : BO} {bf : BF} {dd : Option Nat} {k : Nat} {s : ad4} {v : AV} {E' : Env} {A' : List It} {T : BT} {S : AS} {c : Acc} (hop : bop P S T dd o = some (.chg v ⟨L + 1, k, 0⟩ s)) (hw : o.w = true) (hc : AccR (L + 1) acc c) (hr : okK (L + 1) (some [k]) (bf.foot S T dd)) (hT : Ag E' (T.put dd v)) (hS : StA (S.set ⟨L + 1, k, 0⟩ s) L f A')
  (h : GO1 P m (accP acc (some [k], some [k])) r L f E' A' Φ) : ∃ x T' S', finO m (ad5 P (aj6 P) c (⟨dd, none, bf, o⟩ :: r) T S) = some (x, T', S') ∧ Φ x T' S' := by
 obtain ⟨x, T', S', k1, k2⟩ := h _ (T.put dd v) (S.set ⟨L + 1, k, 0⟩ s) (hc.push (f := ⟨bf.foot S T dd, .slot ⟨L + 1, k, 0⟩⟩) ⟨hr, .inr ⟨[⟨L + 1, k, 0⟩], rfl, by simp, fun p hp => by
  simp only [List.mem_singleton] at hp
  subst hp
  rw [aP6]
  exact List.mem_singleton.2 rfl⟩⟩) hT hS
 exact ⟨x, T', S', by rw [ai2, hop, hw, bO7]; exact k1, k2⟩
theorem g_al {e : TypeId} {cs : List AV} (hf : bn4 d A = true) (h : ∀ g, GO1 P m (accP acc (some [d], some [d])) r L f ((d, .ptr ⟨L + 1, d, 0⟩ g 0 0) :: E) (setO d g e cs A) Φ) : GO1 P m acc (⟨some d, none, .here, .al e cs⟩ :: r) L f E A Φ := by
 intro c T S hc hT hS
 have e1 : S.here d = ⟨L + 1, d, 0⟩ := by rw [aL5, hS.lvl]
 exact g_chg (v := .ptr ⟨L + 1, d, 0⟩ (S.fresh ⟨L + 1, d, 0⟩) 0 0) (s := .obj (S.fresh ⟨L + 1, d, 0⟩) e cs) (by simp only [bop, e1]) rfl hc (aM7 hS) (hT.put d _) (hS.set d _ (aV8 hS.its hf)) (h _)
theorem g_bx {e : TypeId} {x : X} {a : AV} {cs : List AV} (hx : opd E x = some a) (hcs : a.cells = cs) (hf : bn4 d A = true) (h : ∀ g, GO1 P m (accP acc (some [d], some [d])) r L f ((d, .ptr ⟨L + 1, d, 0⟩ g 0 0) :: E) (setO d g e cs A) Φ) : GO1 P m acc (⟨some d, none, .here, .bx e x⟩ :: r) L f E A Φ := by
 subst hcs
 intro c T S hc hT hS
 have e1 : S.here d = ⟨L + 1, d, 0⟩ := by rw [aL5, hS.lvl]
 exact g_chg (v := .ptr ⟨L + 1, d, 0⟩ (S.fresh ⟨L + 1, d, 0⟩) 0 0) (s := .obj (S.fresh ⟨L + 1, d, 0⟩) e a.cells) (by simp only [bop, e1, hT.at hx]) rfl hc (aM7 hS) (hT.put d _) (hS.set d _ (aV8 hS.its hf)) (h _)
theorem g_st {x v : X} {k g off n : Nat} {t : TypeId} {cs : List AV} {a : AV} {M M' Xs : List V} (hx : opd E x = some (.ptr ⟨L + 1, k, 0⟩ g 0 off)) (ho : lookO A k = some (g, t, cs)) (hf : bn4 k A = true) (hv : opd E v = some a) (hM : as4 (L + 1) M cs) (ha : as4 (L + 1) Xs a.cells)
  (hn : Xs.length = n) (hle : Nat.ble (off + n) M.length = true) (hM' : bB4 M off Xs = M') (h : ∀ cs', as4 (L + 1) M' cs' → cs' = splice cs off a.cells → GO1 P m (accP acc (some [k], some [k])) r L f E (setO k g t cs' A) Φ) : GO1 P m acc (⟨none, none, .at x, .st n x v⟩ :: r) L f E A Φ := by
 subst hM'
 intro c T S hc hT hS
 have hg := aB5 hS.its ho
 have hl : a.cells.length = n := by rw [ha.length, hn]
 have hle' := al0 hle
 refine g_chg (dd := none) (v := .lit undef) (s := .obj g t (splice cs off a.cells)) (k := k) ?_ rfl hc (b35 (S := S) (d := none) hT hx) hT (hS.set k _ (aV8 hS.its hf)) (h _ (hM.spl off ha) rfl)
 simp only [bop, hT.at hx, hT.at hv]
 rw [bg5 hg hl (by rw [hl, hM.length]; exact hle') ha.ones]
 rfl
theorem s_clC {g : FuncId} {xs : List X} {args : List AV} {Q : AV → Prop} (hup : ∀ h, Cfg.up g h = false) (hx : optL E xs = some args) (hcl : AV.ae7 (args.map AV.af4) = true) (hc : a15 P g args Q) : Stp P L f E A d .none (.cl g xs) af0 Q := by
 intro T S hT hS
 have hb : bop P S T (some d) (.cl g xs) = some (.call g args) := by simp only [bop]; rw [bW5 hT hx]
 obtain ⟨v, h1, h2⟩ := hc .bare _ (cA6 args)
 exact ⟨v, ⟨BF.foot S T (some d) .none, .none⟩, h2, ⟨.inl rfl, .inl rfl⟩, fun c r => by rw [ai2, hb, show (BO.cl g xs).w = true from rfl, cc0, hup, hcl, Bool.not_false, Bool.true_and, bn8, h1, cB5]⟩
theorem cK1 {z : List AV} {pl : List (Nat × Nat × X)} {Z M M' : List V} (hz : ab6 Z z) (hp : cN9 E Z pl M) (hM : M = M') : Stp P L f E A d .none (.bd z pl) af0 (fun u => ∃ cs, u = .agg cs ∧ ab6 M' cs ∧ ∀ k, outP k pl = true → cs[k]? = z[k]?) := by
 subst hM
 refine bO9 (fun T S hT => ?_)
 obtain ⟨cs, k1, k2, k3⟩ := hp.ok hT hz
 exact ⟨.agg cs, by simp only [bop, k1, Option.map_some], cs, rfl, k2, k3⟩
theorem cE4 {e : TypeId} {n : Nat} {xs : List X} {es es' : List (List V)} (hl : Cfg.live f.fn d = false) (hx : BslR E n xs es) (he : es = es') : Stp P L f E A d .here (.bsl e n xs) (some [d], some []) (fun a => RelC (.sl n es') a ∧ ∃ ys, a = .list .full n ys) := by
 subst he
 refine aL6 (fun T S hT hS => ?_) (fun T S hT hS => ⟨aM7 (T := T) hS, .inl rfl⟩)
 obtain ⟨k1, k2, k3⟩ := hx.ok hT
 refine ⟨_, ?_, RelC.list rfl k3, _, rfl⟩
 simp only [bop]
 rw [if_pos ⟨k1, k2⟩, hS.fn, hl]
 rfl
theorem g_ap1 (af1 : Ks) {s x : X} {a b : AV} {i n bytes : Nat} {e : TypeId} {ks : List Nat} {α : Type} {c : α → List V} {xs ns zs : List α} (hl : Cfg.live f.fn d = false) (hs : opd E s = some a) (hx : opd E x = some b) (hA : A[i]? = some (.tok ks n e a)) (ha : RelS (L + 1) (.sl n (xs.map c)) a) (hb : RelS (L + 1) (.sl n (ns.map c)) b) (hby : Nat.ble bytes 100000 = true)
  (hrd : ∀ T S, Ag E T → StA S L f A → okK (L + 1) af1 (BF.foot S T (some d) (.app s x))) (hf : cm1 (insK d ks) i A = true) (hz : G.app xs ns = some zs) (h : ∀ a', RelS (L + 1) (.sl n (zs.map c)) a' → GO1 P m (accP acc (af1, some (insK d ks))) r L f ((d, a') :: E) (A.set i (.tok (insK d ks) n e a')) Φ) : GO1 P m acc (⟨some d, none, .app s x, .ap e n bytes s x⟩ :: r) L f E A Φ := by
 unfold G.app at hz
 split at hz
 case isFalse => cases hz
 rename_i hlen
 cases hz
 intro cc T S hc hT hS
 obtain ⟨hk1, hk2⟩ := cc4 d ks
 obtain ⟨news, k1, k2⟩ := hb.elems S
 have hnl : news.length = ns.length := by rw [k2.length, List.length_map]
 have hone := bA3 k2
 have hby' := al0 hby
 have e1 : S.here d = ⟨L + 1, d, 0⟩ := by rw [aL5, hS.lvl]
 have hop : bop P S T (some d) (.ap e n bytes s x) = appB S d e n bytes a news := by simp only [bop, hT.at hx, hT.at hs, k1]
 have hlive : Cfg.live S.fn d = false := by rw [hS.fn]; exact hl
 have hApp : App S (L + 1) ks n e a := hS.its _ (List.mem_of_getElem? hA)
 -- the ways it goes
 have stay : appB S d e n bytes a news = some (.val a) → ns = [] → ∃ x1 T' S', finO m (ad5 P (aj6 P) cc (⟨some d, none, .app s x, .ap e n bytes s x⟩ :: r) T S) = some (x1, T', S') ∧ Φ x1 T' S' := by
  intro hv hns
  subst hns
  have hA' : ∀ jt ∈ A.set i (.tok (insK d ks) n e a), jt.ok S (L + 1) := c30 (it := .tok (insK d ks) n e a) (by
   rcases hApp with h | h | ⟨p, g, es, h1, h2, h3, h4, h5⟩
   ·exact .inl h
   ·exact .inr (.inl h)
   ·exact .inr (.inr ⟨p, g, es, h1, h2, h3, h4, hk2 _ h5⟩)) hS.its
  obtain ⟨x1, T', S', q1, q2⟩ := h a (by simpa using ha) _ (T.put (some d) a) S (hc.push (f := ⟨BF.foot S T (some d) (.app s x), .none⟩) ⟨hrd T S hT hS, .inl rfl⟩) (hT.put d a) ⟨hS.lvl, hS.fn, hS.dfr, hS.out, hA', hS.reg.news (cD0 rfl hA rfl)⟩
  exact ⟨x1, T', S', by rw [ai2, hop, hv, b03]; exact q1, q2⟩
 have laid : ∀ (p : Loc) (g : Nat) (es : List (List AV)), p.l = L + 1 → p.i = 0 → p.k ∈ insK d ks → ad7 ((xs ++ ns).map c) es → appB S d e n bytes a news = some (.chg (.list (.own p g) n es) p (.tok g es.length n e)) → ∃ x1 T' S', finO m (ad5 P (aj6 P) cc (⟨some d, none, .app s x, .ap e n bytes s x⟩ :: r) T S) = some (x1, T', S') ∧ Φ x1 T' S' := by
  intro p g es hp1 hp2 hp3 hr hv
  obtain ⟨pl, pk, pi⟩ := p
  simp only at hp1 hp2 hp3
  subst hp1 hp2
  have hA' : ∀ jt ∈ A.set i (.tok (insK d ks) n e (.list (.own ⟨L + 1, pk, 0⟩ g) n es)), jt.ok (S.set ⟨L + 1, pk, 0⟩ (.tok g es.length n e)) (L + 1) :=
   cP9 (it := .tok (insK d ks) n e (.list (.own ⟨L + 1, pk, 0⟩ g) n es)) hp3 (show App _ _ _ _ _ _ from .inr (.inr ⟨_, g, es, rfl, AS.get_set_same .., rfl, rfl, hp3⟩)) hS.its hf
  obtain ⟨x1, T', S', q1, q2⟩ := h (.list (.own ⟨L + 1, pk, 0⟩ g) n es) (RelS.list (.inr ⟨_, g, rfl, rfl⟩) hr) _ (T.put (some d) _) (S.set ⟨L + 1, pk, 0⟩ (.tok g es.length n e)) (hc.push (f := ⟨BF.foot S T (some d) (.app s x), .slot ⟨L + 1, pk, 0⟩⟩) ⟨hrd T S hT hS, .inr ⟨[⟨L + 1, pk, 0⟩], rfl, by simp, fun q hq => by
   simp only [List.mem_singleton] at hq
   subst hq
   rw [aP6]; exact hp3⟩⟩) (hT.put d _) (hS.set pk _ hA' (cD0 rfl hA rfl))
  exact ⟨x1, T', S', by rw [ai2, hop, hv, show (BO.ap e n bytes s x).w = true from rfl, bO7]; exact q1, q2⟩
 by_cases h0 : ns = []
 ·subst h0
  have hn0 : news = [] := List.length_eq_zero_iff.1 (by rw [hnl]; rfl)
  subst hn0
  refine stay ?_ rfl
  rcases hApp with ⟨p, rfl⟩ | ⟨es, rfl⟩ | ⟨p, g, es, rfl, _⟩
  ·rfl
  ·exact aK9 d e n bytes _ _ _
  ·exact aK9 d e n bytes _ _ _
 ·have hpos : 0 < news.length := by rw [hnl]; exact List.length_pos_iff.2 h0
  rcases hApp with ⟨p, rfl⟩ | ⟨es, rfl⟩ | ⟨p, g, es, rfl, h2, h3, h4, h5⟩
  ·have hxs : xs = [] := by
    rcases ha with ⟨hn, _⟩ | ⟨sp, ys, hh, _⟩
    ·simpa using hn
    ·cases hh
   subst hxs
   refine laid (S.here d) (S.fresh (S.here d)) news (by rw [e1]) (by rw [e1]) (by rw [e1]; exact hk1) (by simpa using k2) ?_
   unfold appB
   rw [if_pos hone, if_neg (by omega)]
   simp only
   rw [if_pos (ci8 hby' (by simp at hlen; omega)), aQ4 hlive]
  ·have hes : ad7 (xs.map c) es := by
    rcases ha with ⟨_, p, hh⟩ | ⟨sp, ys, hh, _, hr⟩
    ·cases hh
    ·cases hh; exact hr
   refine laid (S.here d) (S.fresh (S.here d)) (es ++ news) (by rw [e1]) (by rw [e1]) (by rw [e1]; exact hk1) (by rw [List.map_append]; exact hes.append k2) ?_
   rw [bT7 hlive hone hpos hby' (by rw [hes.length, hnl, List.length_map]; exact hlen), List.length_append]
  ·have hes : ad7 (xs.map c) es := by
    rcases ha with ⟨_, p, hh⟩ | ⟨sp, ys, hh, _, hr⟩
    ·cases hh
    ·cases hh; exact hr
   refine laid p g (es ++ news) h3 h4 (hk2 _ h5) (by rw [List.map_append]; exact hes.append k2) ?_
   rw [bR4 h2 hone hpos hby' (by rw [hes.length, hnl, List.length_map]; exact hlen), List.length_append]
theorem g_apC {s x : X} {a b : AV} {i n bytes : Nat} {e : TypeId} {ks : List Nat} {α : Type} {c : α → List V} {xs ns zs : List α} (hl : Cfg.live f.fn d = false) (hs : opd E s = some a) (hx : opd E x = some b) (hA : A[i]? = some (.tok ks n e a)) (ha : RelS (L + 1) (.sl n (xs.map c)) a) (hb : RelC (.sl n (ns.map c)) b) (hby : Nat.ble bytes 100000 = true)
  (hf : cm1 (insK d ks) i A = true) (hz : G.app xs ns = some zs) (h : ∀ a', RelS (L + 1) (.sl n (zs.map c)) a' → GO1 P m (accP acc (some (insK d ks), some (insK d ks))) r L f ((d, a') :: E) (A.set i (.tok (insK d ks) n e a')) Φ) : GO1 P m acc (⟨some d, none, .app s x, .ap e n bytes s x⟩ :: r) L f E A Φ := by
 refine g_ap1 (some (insK d ks)) hl hs hx hA ha hb.toS hby (fun T S hT hS => ?_) hf hz h
 obtain ⟨hk1, hk2⟩ := cc4 d ks
 have hApp : App S (L + 1) ks n e a := hS.its _ (List.mem_of_getElem? hA)
 have e1 : S.here d = ⟨L + 1, d, 0⟩ := by rw [aL5, hS.lvl]
 show okK _ _ (aJ6 S (some d) [s.at T, x.at T])
 rw [hT.at hs, hT.at hx]
 rcases hApp with ⟨p, rfl⟩ | ⟨es, rfl⟩ | ⟨p, g, es, rfl, h2, h3, h4, h5⟩
 ·rw [bW3, hb.cG9, bI1, e1]
  exact .inr ⟨_, rfl, by simp, fun q hq => by rw [List.mem_singleton] at hq; subst hq; rw [aP6]; exact hk1⟩
 ·rw [bN4, hb.cG9, bI1, e1]
  exact .inr ⟨_, rfl, by simp, fun q hq => by rw [List.mem_singleton] at hq; subst hq; rw [aP6]; exact hk1⟩
 ·rw [bS5, hb.cG9, bI1]
  exact .inr ⟨_, rfl, by simp, fun q hq => by rw [List.mem_singleton] at hq; subst hq; rw [show keyOf (L + 1) q = q.k from if_pos ⟨h3, h4⟩]; exact hk2 _ h5⟩
end
def ae2 (L : Nat) (res : List BR) (rs : List RV) : ax8 := fun x T S => (x = .ret ∨ x = .normal) ∧ S.dfr = [] ∧ S.outs L = [] ∧ ∃ as1, aQ3 S T res = some as1 ∧ RVL (L + 1) rs as1
def numE : Nat → List AV → Env
 | _, [] => []
 | n, a :: r => (n, a) :: numE (n + 1) r
theorem cq3 : ∀ {l : List AV} {n k : Nat} {v : AV}, look (numE n l) k = some v → n ≤ k ∧ l[k - n]? = some v
 | [], _, _, _, h => by cases h
 | a :: r, n, k, v, h => by
  unfold numE at h
  rw [bV5] at h
  split at h
  ·rename_i e
   subst e
   cases h
   exact ⟨Nat.le_refl _, by simp⟩
  ·rename_i e
   obtain ⟨h1, h2⟩ := cq3 h
   refine ⟨by omega, ?_⟩
   rw [show k - n = (k - (n + 1)) + 1 by omega, List.getElem?_cons_succ]
   exact h2
theorem Ag.args (l : List AV) : Ag (numE 0 l) (bz4 l) := by
 intro k v h
 obtain ⟨_, h2⟩ := cq3 h
 simp only [Nat.sub_zero] at h2
 show l.getD k _ = v
 rw [List.getD_eq_getElem?_getD, h2]
 rfl
inductive ResE (L : Nat) (E : Env) (A : List It) : List BR → List RV → Prop where
 | nil : ResE L E A [] []
 | t {n : Nat} {a : AV} {v : RV} {r : List BR} {rs : List RV} (hx : look E n = some a) (hv : v.S (L + 1) a) (h : ResE L E A r rs) : ResE L E A (.t n :: r) (v :: rs)
 | c1 {n k g : Nat} {t : TypeId} {cs : List AV} {M : List V} {v : V} {w : RV} {r : List BR} {rs : List RV} (hx : look E n = some (.ptr ⟨L + 1, k, 0⟩ g 0 0)) (ho : lookO A k = some (g, t, cs)) (hM : as4 (L + 1) M cs) (hv : M[0]? = some v) (hw : ∀ c, RelS (L + 1) v c → w.S (L + 1) c) (h : ResE L E A r rs) : ResE L E A (.c1 n :: r) (w :: rs)
 | cn {n m k g : Nat} {t : TypeId} {cs : List AV} {M : List V} {r : List BR} {rs : List RV} (hx : look E n = some (.ptr ⟨L + 1, k, 0⟩ g 0 0)) (ho : lookO A k = some (g, t, cs)) (hM : as4 (L + 1) M cs) (hm : M.length = m) (h : ResE L E A r rs) : ResE L E A (.cn n m :: r) (.agg M :: rs)
theorem ResE.ok {L : Nat} {f : Fr} {E : Env} {A : List It} {T : BT} {S : AS} (hT : Ag E T) (hS : StA S L f A) {res : List BR} {rs : List RV} (h : ResE L E A res rs) : ∃ as1, aQ3 S T res = some as1 ∧ RVL (L + 1) rs as1 := by
 induction h with
 | nil => exact ⟨[], rfl, rfl⟩
 | @t n a v r rs hx hv h ih =>
  obtain ⟨as1, k1, k2⟩ := ih
  refine ⟨a :: as1, ?_, a, as1, rfl, hv, k2⟩
  rw [ap7, k1, b44, hT n a hx]
  rfl
 | @c1 n k g t cs M v w r rs hx ho hM hv hw h ih =>
  obtain ⟨as1, k1, k2⟩ := ih
  obtain ⟨c, q1, q2⟩ := hM.get hv
  refine ⟨c :: as1, ?_, c, as1, rfl, hw c q2, k2⟩
  rw [ap7, k1, ca5, hT n _ hx]
  simp only [ld1V, aM8, aY5 (aB5 hS.its ho), Option.map_some, List.drop_zero]
  rw [List.head?_eq_getElem?, q1]
  rfl
 | @cn n m k g t cs M r rs hx ho hM hm h ih =>
  obtain ⟨as1, k1, k2⟩ := ih
  refine ⟨.agg cs :: as1, ?_, .agg cs, as1, rfl, ⟨cs, rfl, hM⟩, k2⟩
  rw [ap7, k1, b88, hT n _ hx]
  have hl : cs.length = m := by rw [hM.length, hm]
  simp only [ldnV, aM8, aY5 (aB5 hS.its ho), Option.map_some, List.drop_zero]
  rw [if_pos (by omega), List.take_of_length_le (by omega)]
  rfl
inductive Ctl (σ β ρ : Type) where
 | nxt (s : σ)
 | brk (s : β)
 | ret (r : ρ)
inductive Out (β ρ : Type) where
 | brk (s : β)
 | ret (r : ρ)
def bK3 {σ β ρ : Type} (body : σ → Option (Ctl σ β ρ)) : Nat → σ → Option (Out β ρ)
 | 0, _ => none
 | n + 1, s => match body s with
  | some (.nxt s') => bK3 body n s'
  | some (.brk s') => some (.brk s')
  | some (.ret r) => some (.ret r)
  | none => none
theorem b31 {σ β ρ : Type} {body : σ → Option (Ctl σ β ρ)} : ∀ n m s r, n ≤ m → bK3 body n s = some r → bK3 body m s = some r
 | 0, _, _, _, _, h => by cases h
 | n + 1, 0, _, _, hm, _ => by omega
 | n + 1, m + 1, s, r, hm, h => by
  unfold bK3 at h ⊢
  cases hb : body s with
  | none => rw [hb] at h; cases h
  | some c =>
   rw [hb] at h
   cases c with
   | nxt s' => exact b31 n m s' r (by omega) h
   | _ => exact h
noncomputable def Loop {σ β ρ : Type} (body : σ → Option (Ctl σ β ρ)) (s : σ) : Option (Out β ρ) := lim fun n => bK3 body n s
theorem aO4 {σ β ρ : Type} {body : σ → Option (Ctl σ β ρ)} {s : σ} {r : Out β ρ} : Loop body s = some r ↔ ∃ n, bK3 body n s = some r := cb9 fun n m r hnm h => b31 n m s r hnm h
theorem br3 {x : AX} {L : Nat} {f : Fr} {E : Env} {A : List It} {res : List BR} {rs : List RV} (h : ResE L E A res rs) (hW : f.W = [] := by rfl) (hx : x = .ret ∨ x = .normal := by first | exact .inl rfl | exact .inr rfl) : G x L f E A (ae2 L res rs) := fun _ _ hT hS => ⟨hx, hS.dfr, hS.out.outs hW, h.ok hT hS⟩
section
variable [Cfg] {P : Program}
def at7 {σ β ρ : Type} (id : Nat) (IN : σ → BT → AS → Prop) (IB : β → BT → AS → Prop) (IR : ρ → ax8) : Ctl σ β ρ → ax8
 | .nxt s => fun x T S => x = .normal ∧ IN s T S
 | .brk s => fun x T S => x = .exit id ∧ IB s T S
 | .ret r => fun x T S => x = .ret ∧ IR r .ret T S
def OPost {β ρ : Type} (id : Nat) (IB : β → BT → AS → Prop) (IR : ρ → ax8) : Out β ρ → ax8
 | .brk s => fun x T S => x = .exit id ∧ IB s T S
 | .ret r => fun x T S => x = .ret ∧ IR r .ret T S
theorem cG1 {σ β ρ : Type} {c : BC} {body : σ → Option (Ctl σ β ρ)} {id : Nat} {IN : σ → BT → AS → Prop} {IB : β → BT → AS → Prop} {IR : ρ → ax8} (h : ∀ s c', body s = some c' → ∀ T S, IN s T S → RunB P c T S (at7 id IN IB IR c')) :
  ∀ n s out, bK3 body n s = some out → ∀ T S, IN s T S → RunB P (.loop c) T S (OPost id IB IR out)
 | 0, _, _, hl, _, _, _ => by cases hl
 | n + 1, s, out, hl, T, S, hI => by
  unfold bK3 at hl
  cases hb : body s with
  | none => rw [hb] at hl; cases hl
  | some c' =>
   rw [hb] at hl
   obtain ⟨x, T', S', k1, k2⟩ := h s c' hb T S hI
   unfold RunB
   rw [cJ1, k1]
   cases c' with
   | nxt s' =>
    obtain ⟨rfl, k2⟩ := k2
    exact cG1 h n s' out hl T' S' k2
   | brk s' =>
    obtain ⟨rfl, k2⟩ := k2
    cases hl
    exact ⟨_, T', S', rfl, rfl, k2⟩
   | ret r =>
    obtain ⟨rfl, k2⟩ := k2
    cases hl
    exact ⟨_, T', S', rfl, rfl, k2⟩
theorem aR0 {σ β ρ : Type} {c : BC} {body : σ → Option (Ctl σ β ρ)} {id : Nat} {IN : σ → BT → AS → Prop} {IB : β → BT → AS → Prop} {IR : ρ → ax8} {L : Nat} {f : Fr} {E : Env} {A : List It} {Φ : ax8} {s : σ} {out : Out β ρ} (hl : Loop body s = some out)
  (h : ∀ s c', body s = some c' → ∀ T S, IN s T S → RunB P c T S (at7 id IN IB IR c')) (hI : ∀ T S, Ag E T → StA S L f A → IN s T S) (hk : ∀ x T S, OPost id IB IR out x T S → Φ x T S) : GC P (.loop c) L f E A Φ := by
 intro T S hT hS
 obtain ⟨n, hn⟩ := aO4.1 hl
 obtain ⟨x, T', S', k1, k2⟩ := cG1 h n s out hn T S (hI T S hT hS)
 exact ⟨x, T', S', k1, hk x T' S' k2⟩
end
end Go.Proofs.YtbinfgmdamlkbaaGreatDoor
namespace Go.Proofs.YtbinfgmdamlkbaaGreatDoor
open Go.RowKit
structure A2 where
 x0 : Int
 x1 : Int
structure A4 where
 x0 : Int
 x1 : Int
 x2 : Int
 x3 : Int
def aj3 (k : IntKind) (n : Int) : List V := [.int k n]
def aa8 (l : List UInt8) : List V := [.str l]
def vref {α : Type} (c : α → List V) : Option α → V
 | none => .nilp
 | some x => .ref (c x)
def al3 {α : Type} (c : α → List V) (o : Option α) : List V := [vref c o]
theorem ac0 {k : IntKind} {n : Int} : RelC (.int k n) (.lit (.int k n)) := by unfold RelC; rfl
theorem aj0 {b : Bool} : RelC (.bool b) (.lit (.bool b)) := by unfold RelC; rfl
theorem ah3 {l : List UInt8} : RelC (.str l) (.lit (.string (bs l))) := by unfold RelC; rfl
theorem bd5 : RelC .nili (.lit .nilIface) := by unfold RelC; rfl
theorem RelC.some {α : Type} {c : α → List V} {x : α} {a : AV} (h : RelC (vref c (some x)) a) : ∃ ys, a = .cref ys ∧ RelP (c x) ys := by
 have h : RelC (.ref (c x)) a := h
 unfold RelC at h
 obtain ⟨ys, zs, rfl, h2⟩ := h
 exact ⟨_, rfl, ys, zs, rfl, h2⟩
theorem ar6 : ab6 [] [] := by unfold ab6; rfl
theorem x8 {v : V} {a : AV} {r : List V} {t : List AV} (h1 : RelC v a) (h2 : ab6 r t) : ab6 (v :: r) (a :: t) := by unfold ab6; exact ⟨a, t, rfl, h1, h2⟩
theorem cR4 (k : IntKind) (n : Int) : ab6 [.int k n] (AV.cells (.lit (.int k n))) := x8 ac0 ar6
theorem bo3 (b : Bool) : ab6 [.bool b] (AV.cells (.lit (.bool b))) := x8 aj0 ar6
theorem bk3 (l : List UInt8) : ab6 [.str l] (AV.cells (.lit (.string (bs l)))) := x8 ah3 ar6
theorem relS_int {L : Nat} {k : IntKind} {n : Int} {c : AV} (h : RelS L (.int k n) c) : c = .lit (.int k n) := h
theorem bR7 {L : Nat} {l : List UInt8} {c : AV} (h : RelS L (.str l) c) : c = .lit (.string (bs l)) := h
theorem relC_int {k : IntKind} {n : Int} {c : AV} (h : RelC (.int k n) c) : c = .lit (.int k n) := by unfold RelC at h; exact h
theorem cZ9 {b : Bool} {c : AV} (h : RelC (.bool b) c) : c = .lit (.bool b) := by unfold RelC at h; exact h
theorem aw4 {l : List UInt8} {c : AV} (h : RelC (.str l) c) : c = .lit (.string (bs l)) := by unfold RelC at h; exact h
theorem relCL1 {v : V} {a : AV} (h : RelC v a) : ab6 [v] a.cells := by rw [(h.toS (L := 0)).cells]; exact x8 h ar6
namespace G
def when {α : Type} (c : Bool) (o : Option α) (d : α) : Option α := match c with
 | true => o
 | false => some d
def subN {α : Type} (xs : List α) (i j : Int) : Option (List α) := if 0 < xs.length ∧ 0 ≤ i ∧ i ≤ j ∧ j ≤ xs.length then some ((xs.drop i.toNat).take (j.toNat - i.toNat)) else none
def shrK (k : IntKind) (a b : Int) : Option Int := if 0 ≤ b then some (a.fdiv (2 ^ (min b.toNat k.bits))) else none
end G
theorem whenT {α : Type} {c : Bool} {o : Option α} {d x : α} (h : G.when c o d = some x) (hc : c = true) : o = some x := by subst hc; exact h
theorem cz1 {k k' : IntKind} {a b c : Int} (h : G.shrK k a b = some c) : ibV .shr (.lit (.int k a)) (.lit (.int k' b)) = some (.lit (.int k c)) := by
 unfold G.shrK at h
 split at h
 ·rename_i h0
  cases h
  simp [ibV, intB, h0]
 ·cases h
section
variable [Cfg] {P : Program} {L : Nat} {f : Fr} {E : Env} {A : List It} {d : Nat}
theorem s_clX {g : FuncId} {xs : List X} {args : List AV} {Q : AV → Prop} (hup : ∀ h, Cfg.up g h = false) (hx : optL E xs = some args) (hcl : AV.ae7 (args.map AV.af4) = true) (hc : ∃ v, aj6 P g (args.map AV.af4) .bare = some (.ret v, none) ∧ Q v) : Stp P L f E A d .none (.cl g xs) af0 Q := by
 intro T S hT hS
 have hb : bop P S T (some d) (.cl g xs) = some (.call g args) := by simp only [bop]; rw [bW5 hT hx]
 obtain ⟨v, h1, h2⟩ := hc
 exact ⟨v, ⟨BF.foot S T (some d) .none, .none⟩, h2, ⟨.inl rfl, .inl rfl⟩, fun c r => by rw [ai2, hb, show (BO.cl g xs).w = true from rfl, cc0, hup, hcl, Bool.not_false, Bool.true_and, bn8, h1, cB5]⟩
theorem aO7 {x : X} {ys : List AV} {M : List V} {v : V} {a : AV} (hx : opd E x = some (.cref ys)) (hM : RelP M ys) (hv : M[0]? = some v) (ha : ∀ c, RelC v c → c = a) : Stp P L f E A d (.at x) (.ld1 x) af0 (fun u => u = a) := by
 intro T S hT hS
 obtain ⟨u, ft, h1, h2, h3⟩ := cX8 (P := P) (L := L) (f := f) (A := A) (d := d) hx hM hv T S hT hS
 exact ⟨u, ft, ha u h1, h2, h3⟩
theorem c61 {x : X} {k g off n : Nat} {t : TypeId} {cs : List AV} {M N : List V} (hx : opd E x = some (.ptr ⟨L + 1, k, 0⟩ g 0 off)) (ho : lookO A k = some (g, t, cs)) (hM : ab6 M cs) (hn : Nat.ble (off + n) M.length = true) (hN : (M.drop off).take n = N) :
  Stp P L f E A d (.at x) (.ldn n x) (some [k], some []) (fun u => ∃ zs, u = .agg zs ∧ ab6 N zs) := by
 intro T S hT hS
 obtain ⟨u, ft, ⟨zs, k1, _, k3⟩, h2, h3⟩ := s_ldno (P := P) (L := L) (f := f) (A := A) (d := d) hx ho hM.toS hn hN T S hT hS
 subst hN k3
 exact ⟨u, ft, ⟨_, k1, (hM.drop off).take n⟩, h2, h3⟩
theorem cu8 {x : X} {k g off : Nat} {t : TypeId} {cs : List AV} {M : List V} {v : V} {a : AV} (hx : opd E x = some (.ptr ⟨L + 1, k, 0⟩ g 0 off)) (ho : lookO A k = some (g, t, cs)) (hM : as4 (L + 1) M cs) (hv : M[off]? = some v) (ha : ∀ c, RelS (L + 1) v c → c = a) :
  Stp P L f E A d (.at x) (.ld1 x) (some [k], some []) (fun u => u = a) := by
 intro T S hT hS
 obtain ⟨u, ft, h1, h2, h3⟩ := s_ldo (P := P) (L := L) (f := f) (A := A) (d := d) hx ho hM hv T S hT hS
 exact ⟨u, ft, ha u h1.1, h2, h3⟩
variable {Φ : ax8} {m : Option (List (Nat × Nat))} {acc : AAcc} {r : List BI}
theorem g_stC {x v : X} {k g off n : Nat} {t : TypeId} {cs : List AV} {a : AV} {M M' Xs : List V} (hx : opd E x = some (.ptr ⟨L + 1, k, 0⟩ g 0 off)) (ho : lookO A k = some (g, t, cs)) (hf : bn4 k A = true) (hv : opd E v = some a) (hM : ab6 M cs) (ha : ab6 Xs a.cells)
  (hn : Xs.length = n) (hle : Nat.ble (off + n) M.length = true) (hM' : bB4 M off Xs = M') (h : ∀ cs', ab6 M' cs' → cs' = splice cs off a.cells → GO1 P m (accP acc (some [k], some [k])) r L f E (setO k g t cs' A) Φ) : GO1 P m acc (⟨none, none, .at x, .st n x v⟩ :: r) L f E A Φ :=
 g_st hx ho hf hv hM.toS ha.toS hn hle hM' fun cs' _ he => h cs' (by subst hM' he; exact hM.spl off ha) he
end
theorem ResC.one {n : Nat} {es : List (List V)} {v : AV} (h : ResC [.sl n es] v) : RelC (.sl n es) v := h
section
variable [Cfg] {P : Program} {L : Nat} {f : Fr} {E : Env} {A : List It} {d : Nat}
omit [Cfg] in
theorem sllV_ok {α : Type} {a : AV} {xs ys : List α} {c : α → List V} {n : Nat} {i j : Int} {lo hi : Option AV} (ha : RelS (L + 1) (.sl n (xs.map c)) a) (h1 : 0 ≤ i → an0 0 lo = some i.toNat) (h2 : 0 ≤ j → an0 xs.length hi = some j.toNat) (hc : G.subN xs i j = some ys) :
  ∃ v, sllV n a lo hi none = some v ∧ RelS (L + 1) (.sl n (ys.map c)) v := by
 unfold G.subN at hc
 split at hc
 ·rename_i h0
  obtain ⟨h00, hi0, hij, hjl⟩ := h0
  cases hc
  rcases ha with ⟨hn, _⟩ | ⟨sp, zs, rfl, hsp, hr⟩
  ·have : xs = [] := by simpa using hn
   subst this
   simp at h00
  ·have hl : zs.length = xs.length := by rw [hr.length, List.length_map]
   refine ⟨_, by
    have e3 : an0 xs.length none = some xs.length := rfl
    simp only [sllV, hl, h1 hi0, h2 (Int.le_trans hi0 hij), e3]
    rw [if_pos ⟨trivial, by omega, by omega, Nat.le_refl _, by simp⟩], .inr ⟨_, _, rfl, ?_, ?_⟩⟩
   ·simp only [Option.isSome_none, Bool.false_eq_true, if_false]
    split
    ·exact hsp
    ·exact .inl rfl
   ·rw [List.map_take, List.map_drop]
    exact (hr.drop _).take _
 ·cases hc
theorem s_slL {α : Type} {x lo : X} {a : AV} {xs ys : List α} {c : α → List V} {n : Nat} {k : IntKind} {i : Int} (hx : opd E x = some a) (ha : RelS (L + 1) (.sl n (xs.map c)) a) (h1 : opd E lo = some (.lit (.int k i))) (hc : G.subN xs i xs.length = some ys) : Stp P L f E A d .none (.sll n x (some lo) none none) af0 (fun u => RelS (L + 1) (.sl n (ys.map c)) u) := by
 obtain ⟨v, k1, k2⟩ := sllV_ok (lo := some (.lit (.int k i))) (hi := none) ha (fun h => by simp [an0, h]) (fun _ => by simp [an0]) hc
 exact bO9 (fun T S hT => ⟨v, by simp only [bop, hT.at hx, hT.at h1, Option.map_some, Option.map_none]; rw [k1]; rfl, k2⟩)
theorem cJ8 {α : Type} {x : X} {a : AV} {c : α → List V} {o : Option α} {y : α} (hx : opd E x = some a) (ha : RelC (vref c o) a) (ho : o = some y) : Stp P L f E A d .none (.nc x) af0 (fun u => ∃ ys, u = .cref ys ∧ RelP (c y) ys) := by
 subst ho
 obtain ⟨ys, rfl, h⟩ := ha.some
 exact bO9 fun T S hT => ⟨.cref ys, ce6 (hT.at hx), ys, rfl, h⟩
theorem ag4 {x : X} {p : Loc} {g n o : Nat} (hx : opd E x = some (.ptr p g n o)) : Stp P L f E A d .none (.nc x) af0 (fun u => u = .ptr p g n o) := bD6 fun T S hT => cI0 (hT.at hx)
end
end Go.Proofs.YtbinfgmdamlkbaaGreatDoor
namespace Go.Proofs.YtbinfgmdamlkbaaGreatDoor
open Go.RowKit
def G.appB (l : List UInt8) (n : Int) : Option (List UInt8) := if 0 ≤ n ∧ n ≤ 255 ∧ l.length + 1 ≤ 1000000000 then some (l ++ [UInt8.ofNat n.toNat]) else none
structure BldC [Cfg] (P : Program) (tp tb tu tz te fne fcc fws fwb fst : Nat) : Prop where
 F : aU5 P tp tb tu tz fne
 cc : ao9 P fcc = some (Kcc tp tu fne tz)
 ws : ao9 P fws = some (Kws fcc te)
 wb : ao9 P fwb = some (Kwb fcc te)
 gcc : Cfg.given fcc = none
 gws : Cfg.given fws = none
 gwb : Cfg.given fwb = none
 upw : Cfg.up fcc fws = true
 upb : Cfg.up fcc fwb = true
 lws : Cfg.live fws 14 = false
 lwb : Cfg.live fwb 14 = false
 lwb2 : Cfg.live fwb 13 = false
 lies : liesAt P P.depth tb (2 / P.cellsOf tb) 0 tb 1 = true
 st : Cfg.given fst = some (ay4 te)
section
variable [Cfg] {P : Program} {L : Nat} {f : Fr} {E : Env} {A : List It} {Φ : ax8} {m : Option (List (Nat × Nat))} {acc : AAcc} {r : List BI} {d : Nat} {bf : BF}
variable {tp tb tu tz te fne fcc fws fwb fst : Nat}
end
end Go.Proofs.YtbinfgmdamlkbaaGreatDoor
namespace Go.Proofs.YtbinfgmdamlkbaaGreatDoor
open Go.RowKit
def New (S : AS) (q : Loc) : Prop := q.l = S.lvl ∧ q.k = 0 ∧ q.i ≠ 0 ∧ S.get q = none
structure Left (S : AS) (u : Upd) (F G : List Loc) : Prop where
 lvl : (S.after u).lvl = S.lvl
 fn : (S.after u).fn = S.fn
 dfr : (S.after u).dfr = S.dfr
 dup : G.Nodup
 cov : ∀ q ∈ F, q ∈ G
 src : ∀ q ∈ G, q ∈ F ∨ New S q
 log : ∀ q ∈ ulog u, q ∈ F ∨ New S q
 frame : ∀ q, q ∉ ulog u → (S.after u).get q = S.get q
def outE (pan : Bool) (v : AV) : AE := match pan with
 | true => .pan v
 | false => .ret v
def bd8 [Cfg] (P : Program) (f : FuncId) (ins : List OA) (pan : Bool) (outs res : List OA) : Prop :=
 ∀ (S : AS) (args : List AV) (F : List Loc), Cfg.up f S.fn = true → AtAs S ins (args.map AV.af4) F → F.Nodup → (∀ q ∈ F, q.l ≤ S.lvl) →
  ∃ v u F1 F2 J, aj6 P f args S = some (outE pan v, u) ∧ AtAs (S.after u) outs (args.map AV.af4) F1 ∧ ResO (S.after u) res v F2 ∧ aF9 (S.after u) J ∧ Left S u F (F1 ++ (F2 ++ J))
theorem c06 {S : AS} {l : Nat} {ρ : Loc → Loc} {a : AV} (h : Cx S l a) (hd : AV.deep l a = []) : renX l ρ a = a := by
 cases h with
 | c h => exact av7 h
 | p h => simp only [renX, aI3, if_pos h]
 | pd h => simp only [AV.deep, if_neg (Nat.not_le.2 h)] at hd; cases hd
 | m h => simp only [renX, aI3, if_pos h]
 | md h => simp only [AV.deep, if_neg (Nat.not_le.2 h)] at hd; cases hd
 | r h => simp only [renX, aI3, if_pos h]
 | rd h => simp only [AV.deep, if_neg (Nat.not_le.2 h)] at hd; cases hd
 | t h h' => simp only [renX, aI3, if_pos h']
 | d h h' => simp only [AV.deep, if_neg (Nat.not_le.2 h')] at hd; cases hd
theorem bJ7 {S : AS} {l : Nat} {ρ : Loc → Loc} : ∀ {cs : List AV}, (∀ a ∈ cs, Cx S l a) → AV.am1 l cs = [] → cs.map (renX l ρ) = cs
 | [], _, _ => rfl
 | a :: r, h, hd => by
  simp only [AV.am1, List.append_eq_nil_iff] at hd
  rw [List.map_cons, c06 (h a (List.mem_cons_self ..)) hd.1, bJ7 (fun x hx => h x (List.mem_cons_of_mem _ hx)) hd.2]
theorem renY_id {S : AS} {l : Nat} {ρ : Loc → Loc} {a : AV} (h : Cy S l a) (hd : AV.deep l a = []) : renX l ρ a = a := by
 rcases h with h | ⟨cs, rfl, h⟩
 ·exact c06 h hd
 ·simp only [AV.deep] at hd
  show AV.agg _ = AV.agg _
  congr 1
  rw [show cs.map (aI3 l ρ) = cs.map (renX l ρ) from List.map_congr_left fun x hx => (h x hx).rx.symm]
  exact bJ7 h hd
theorem b80 {S : AS} {l : Nat} {ρ : Loc → Loc} : ∀ {cs : List AV}, (∀ a ∈ cs, Cy S l a) → AV.am1 l cs = [] → cs.map (renX l ρ) = cs
 | [], _, _ => rfl
 | a :: r, h, hd => by
  simp only [AV.am1, List.append_eq_nil_iff] at hd
  rw [List.map_cons, renY_id (h a (List.mem_cons_self ..)) hd.1, b80 (fun x hx => h x (List.mem_cons_of_mem _ hx)) hd.2]
theorem renSX_id {S : AS} {l : Nat} {ρ : Loc → Loc} {s : ad4} (h : br9 S l s) (hd : s.deep l = []) : bs6 l ρ s.gen s = s := by
 cases h with
 | obj h => simp only [bs6, ad4.gen, bJ7 h hd]
 | tok => rfl
 | @map g ck es h =>
  simp only [ad4.deep, bJ0] at hd
  have h1 : (es.map (·.val)).map (renX l ρ) = es.map (·.val) := bJ7 (fun a ha => by
   obtain ⟨e, he, rfl⟩ := List.mem_map.1 ha
   exact h e he) hd
  have h2 : ∀ {es : List ak7}, (es.map (·.val)).map (renX l ρ) = es.map (·.val) → es.map (cD2 l ρ) = es := by
   intro es
   induction es with
   | nil => intro _; rfl
   | cons e r ih =>
    intro h
    simp only [List.map_cons, List.cons.injEq] at h
    rw [List.map_cons, ih h.2]
    unfold cD2
    rw [h.1]
  simp only [bs6, ad4.gen, h2 h1]
 | row h => simp only [bs6, ad4.gen, bJ7 h hd]
 | itr => rfl
theorem Gs.reach {S : AS} {l n : Nat} {e : TypeId} {es : List (List V)} {a : AV} {F R : List Loc} (h : Gs S n e es a F) (ha : ∀ x ∈ AV.deep l a, x ∈ R) : ∀ q ∈ F, l < q.l → q ∈ R := by
 rcases h with ⟨_, _, rfl⟩ | ⟨ys, rfl, h2, rfl⟩ | ⟨q, k, ys, rfl, h2, h3, rfl⟩
 ·exact fun q hq => (nomatch hq)
 ·exact fun q hq => (nomatch hq)
 ·intro x hx hl
  rw [List.mem_singleton] at hx
  subst hx
  refine ha _ ?_
  simp only [AV.deep, if_neg (Nat.not_le.2 hl)]
  exact List.mem_append.2 (.inl (List.mem_singleton.2 rfl))
mutual
theorem AtO.reach {S : AS} {l : Nat} {R : List Loc} (hU : ∀ p s, (p.l ≤ l ∨ p ∈ R) → S.get p = some s → ∀ x ∈ s.deep l, x ∈ R) {p : Loc} {g i : Nat} : ∀ {o : OV} {a : AV} {F : List Loc}, AtO S p g i o a F → (∀ x ∈ AV.deep l a, x ∈ R) → ∀ q ∈ F, l < q.l → q ∈ R
 | .c v, a, F, h, _ => by
  unfold AtO at h
  obtain ⟨_, rfl⟩ := h
  exact fun q hq => (nomatch hq)
 | .self, a, F, h, _ => by
  unfold AtO at h
  obtain ⟨_, rfl⟩ := h
  exact fun q hq => (nomatch hq)
 | .bb te t, a, F, h, ha => by unfold AtO at h; exact h.gs.reach ha
 | .gs n e es, a, F, h, ha => by unfold AtO at h; exact h.reach ha
 | .li n e es, a, F, h, ha => by
  unfold AtO at h
  rcases h with h | ⟨_, _, _, rfl⟩
  ·exact h.reach ha
  ·exact fun q hq => (nomatch hq)
 | .it s pos, a, F, h, ha => by
  unfold AtO at h
  obtain ⟨q, k, rfl, rfl, h2⟩ := h
  intro x hx hl
  rw [List.mem_singleton] at hx
  subst hx
  exact ha _ (by simp only [AV.deep, if_neg (Nat.not_le.2 hl), List.mem_singleton])
 | .rw x0 n e es, a, F, h, ha => by
  unfold AtO at h
  rcases h with ⟨_, h⟩ | ⟨q, k, ys, zs, rfl, h2, h3, rfl⟩
  ·exact h.reach ha
  ·intro x hx hl
   rw [List.mem_singleton] at hx
   subst hx
   exact ha _ (by simp only [AV.deep, if_neg (Nat.not_le.2 hl), List.mem_singleton])
 | .ptr t os, a, F, h, ha => by
  unfold AtO at h
  obtain ⟨q, k, cs, F', rfl, rfl, h2, h3⟩ := h
  have hq : q.l ≤ l ∨ q ∈ R := by
   rcases Nat.lt_or_ge l q.l with hl | hl
   ·exact .inr (ha q (by simp only [AV.deep, if_neg (Nat.not_le.2 hl), List.mem_singleton]))
   ·exact .inl hl
  have := AtL.reach hU h3 (hU q _ hq h2)
  intro x hx hl
  rcases List.mem_cons.1 hx with rfl | hx
  ·rcases hq with hq | hq
   ·omega
   ·exact hq
  ·exact this x hx hl
 | .mp ks vs, a, F, h, ha => by
  unfold AtO at h
  obtain ⟨q, k, es, ck, F', rfl, rfl, h2, h3, h4, h5, h6⟩ := h
  have hq : q.l ≤ l ∨ q ∈ R := by
   rcases Nat.lt_or_ge l q.l with hl | hl
   ·exact .inr (ha q (by simp only [AV.deep, if_neg (Nat.not_le.2 hl), List.mem_singleton]))
   ·exact .inl hl
  have := AtL.reach hU h6 (by
   have := hU q _ hq h2
   simp only [ad4.deep, bJ0] at this
   exact this)
  intro x hx hl
  rcases List.mem_cons.1 hx with rfl | hx
  ·rcases hq with hq | hq
   ·omega
   ·exact hq
  ·exact this x hx hl
theorem AtL.reach {S : AS} {l : Nat} {R : List Loc} (hU : ∀ p s, (p.l ≤ l ∨ p ∈ R) → S.get p = some s → ∀ x ∈ s.deep l, x ∈ R) {p : Loc} {g : Nat} : ∀ {os : List OV} {i : Nat} {cs : List AV} {F : List Loc}, AtL S p g i os cs F → (∀ x ∈ AV.am1 l cs, x ∈ R) → ∀ q ∈ F, l < q.l → q ∈ R
 | [], i, cs, F, h, _ => by
  unfold AtL at h
  obtain ⟨_, rfl⟩ := h
  exact fun q hq => (nomatch hq)
 | o :: r, i, cs, F, h, ha => by
  unfold AtL at h
  obtain ⟨a, t, F1, F2, rfl, rfl, h2, h3⟩ := h
  simp only [AV.am1] at ha
  intro q hq hl
  rcases List.mem_append.1 hq with hq | hq
  ·exact AtO.reach hU h2 (fun x hx => ha x (List.mem_append.2 (.inl hx))) q hq hl
  ·exact AtL.reach hU h3 (fun x hx => ha x (List.mem_append.2 (.inr hx))) q hq hl
end
theorem AtAs.reach {S : AS} {l : Nat} {R : List Loc} (hU : ∀ p s, (p.l ≤ l ∨ p ∈ R) → S.get p = some s → ∀ x ∈ s.deep l, x ∈ R) : ∀ {os : List OA} {as1 : List AV} {F : List Loc}, AtAs S os as1 F → (∀ x ∈ AV.am1 l as1, x ∈ R) → ∀ q ∈ F, l < q.l → q ∈ R
 | [], as1, F, h, _ => by
  obtain ⟨_, rfl⟩ := h
  exact fun q hq => (nomatch hq)
 | o :: r, as1, F, h, ha => by
  obtain ⟨a, t, F1, F2, rfl, rfl, h2, h3⟩ := h
  simp only [AV.am1] at ha
  intro q hq hl
  rcases List.mem_append.1 hq with hq | hq
  ·cases o with
   | r v => rw [h2.2] at hq; cases hq
   | x =>
    have h2 : F1 = [] := h2
    rw [h2] at hq; cases hq
   | ag os =>
    obtain ⟨cs, rfl, h2⟩ := h2
    exact AtL.reach hU h2 (fun x hx => ha x (List.mem_append.2 (.inl (by simpa only [AV.deep] using hx)))) q hq hl
   | o v => exact AtO.reach hU h2 (fun x hx => ha x (List.mem_append.2 (.inl hx))) q hq hl
  ·exact AtAs.reach hU h3 (fun x hx => ha x (List.mem_append.2 (.inr hx))) q hq hl
theorem bT3 (l : Nat) (as1 : List AV) : AV.deep l (ay2 as1) = AV.am1 l as1 := by
 match as1 with
 | [] => rfl
 | [a] => simp only [ay2, AV.am1, List.append_nil]
 | a :: b :: r => rfl
theorem cY5 {S : AS} {l : Nat} {as1 : List AV} (h : ∀ a ∈ as1, Cy S l a) : Vx S l (ay2 as1) := by
 match as1 with
 | [] => exact .tup h
 | [a] => exact .one (h a (List.mem_singleton.2 rfl))
 | a :: b :: r => exact .tup h
theorem cl2 {S : AS} {l : Nat} {ρ : Loc → Loc} {as1 : List AV} (h : ∀ a ∈ as1, Cy S l a) : ck0 l ρ (ay2 as1) = ay2 (as1.map (renX l ρ)) := by
 match as1 with
 | [] => rfl
 | [a] =>
  show ck0 l ρ a = renX l ρ a
  cases a with
  | tup cs =>
   have hc : (AV.tup cs).closed = true := by
    rcases h _ (List.mem_singleton.2 rfl) with h | ⟨_, h, _⟩
    ·cases h with
     | c h => exact h
    ·cases h
   simp only [ck0, renX, aI3]
   congr 1
   exact aP5 (ak6 (by simpa only [AV.closed] using hc))
  | _ => rfl
 | a :: b :: r => rfl
theorem ResO_of {S : AS} {res : List OA} {as1 : List AV} {F : List Loc} (h : AtAs S res as1 F) : ResO S res (ay2 as1) F := by
 match res, h with
 | [], h =>
  obtain ⟨rfl, rfl⟩ := h
  exact ⟨[], rfl, rfl, rfl⟩
 | [o], h =>
  obtain ⟨a, t, F1, F2, rfl, rfl, h2, rfl, rfl⟩ := h
  rw [List.append_nil]
  exact h2
 | o :: o' :: r, h =>
  have h0 := h
  obtain ⟨a, t, F1, F2, rfl, rfl, h2, a', t', F3, F4, rfl, rfl, h3⟩ := h
  exact ⟨_, rfl, h0⟩
theorem bP4 {α β : Type} {f : α → β} : ∀ {l : List α}, l.Nodup → (∀ x ∈ l, ∀ y ∈ l, f x = f y → x = y) → (l.map f).Nodup
 | [], _, _ => List.nodup_nil
 | a :: r, hn, h => by
  have hn := List.nodup_cons.1 hn
  rw [List.map_cons, List.nodup_cons]
  refine ⟨fun hm => ?_, bP4 hn.2 fun x hx y hy => h x (List.mem_cons_of_mem _ hx) y (List.mem_cons_of_mem _ hy)⟩
  obtain ⟨b, hb, e⟩ := List.mem_map.1 hm
  have := h b (List.mem_cons_of_mem _ hb) a (List.mem_cons_self ..) e
  subst this
  exact hn.1 hb
theorem handUp_o [Cfg] {f : FuncId} {S S' : AS} {W : List Loc} {as1 args : List AV} {F1 F2 J : List Loc} {ins outs res : List OA} (hup : Cfg.up f S.fn = true) (hki : ins.all OA.keep = true) (hkr : res.all OA.keep = true) (hin : AtAs S ins args W) (hW : ∀ q ∈ W, q.l ≤ S.lvl)
  (hlog : ∀ r ∈ S'.log, r.l ≤ S.lvl → r ∈ W) (hun : ∀ r, r.l ≤ S.lvl → r ∉ S'.log → S'.get r = S.get r) (h1 : AtAs S' outs args F1) (h2 : AtAs S' res as1 F2) (h3 : aF9 S' J) (hd : (F1 ++ (F2 ++ J)).Nodup)
  (hc : ∀ q ∈ W, q ∈ F1 ++ (F2 ++ J)) (hs : ∀ q ∈ F1 ++ (F2 ++ J), q ∈ W ∨ S.lvl < q.l) :
  ∃ v u F1' F2' J', an1 f S S' (ay2 as1) = some (ay2 v, u) ∧ AtAs (S.after u) outs args F1' ∧ AtAs (S.after u) res v F2' ∧ aF9 (S.after u) J' ∧ Left S u W (F1' ++ (F2' ++ J')) := by
 obtain ⟨A, hA⟩ : ∃ A, A = F1 ++ (F2 ++ J) := ⟨_, rfl⟩
 rw [← hA] at hd hc hs
 obtain ⟨w1, w2, w3⟩ := hin.reg (l := S.lvl) hki
 have a3 := h1.slots (l := S.lvl)
 obtain ⟨b1, b2, b3⟩ := h2.reg (l := S.lvl) hkr
 have c3 := h3.reg (l := S.lvl)
 have hreg : ∀ q ∈ A, bI6 S' S.lvl A q := fun q hq => by
  rw [hA] at hq
  rcases List.mem_append.1 hq with hq | hq
  ·exact (a3 q hq).mono fun x hx => by rw [hA]; exact List.mem_append.2 (.inl hx)
  ·rcases List.mem_append.1 hq with hq | hq
   ·exact (b3 q hq).mono fun x hx => by rw [hA]; exact List.mem_append.2 (.inr (List.mem_append.2 (.inl hx)))
   ·exact (c3 q hq).mono fun x hx => by rw [hA]; exact List.mem_append.2 (.inr (List.mem_append.2 (.inr hx)))
 have hdeep : ∀ q ∈ W, ∃ s, S.get q = some s ∧ br9 S S.lvl s ∧ s.deep S.lvl = [] := fun q hq => by
  obtain ⟨s, k1, k2, k3⟩ := w3 q hq
  refine ⟨s, k1, k2, List.eq_nil_iff_forall_not_mem.2 fun x hx => ?_⟩
  have e1 := hW x (k3 x hx)
  have e2 : S.lvl < x.l := by
   cases k2 with
   | obj h =>
    obtain ⟨a, ha, hx⟩ : ∃ a, Cx S S.lvl a ∧ x ∈ AV.deep S.lvl a := by
     clear k1 k3
     rename_i cs
     have : ∀ {cs : List AV}, (∀ a ∈ cs, Cx S S.lvl a) → x ∈ AV.am1 S.lvl cs → ∃ a, Cx S S.lvl a ∧ x ∈ AV.deep S.lvl a := by
      intro cs
      induction cs with
      | nil => intro _ h; cases h
      | cons a r ih =>
       intro h hx
       simp only [AV.am1, List.mem_append] at hx
       rcases hx with hx | hx
       ·exact ⟨a, h a (List.mem_cons_self ..), hx⟩
       ·exact ih (fun y hy => h y (List.mem_cons_of_mem _ hy)) hx
     exact this h hx
    exact ha.gt x hx
   | tok => cases hx
   | map h =>
    obtain ⟨e, he, hx⟩ := List.mem_flatMap.1 hx
    exact (h e he).gt x hx
   | itr => cases hx
   | row h =>
    have : ∀ {cs : List AV}, (∀ a ∈ cs, Cx S S.lvl a) → x ∈ AV.am1 S.lvl cs → ∃ a, Cx S S.lvl a ∧ x ∈ AV.deep S.lvl a := by
     intro cs
     induction cs with
     | nil => intro _ h; cases h
     | cons a r ih =>
      intro h hx
      simp only [AV.am1, List.mem_append] at hx
      rcases hx with hx | hx
      ·exact ⟨a, h a (List.mem_cons_self ..), hx⟩
      ·exact ih (fun y hy => h y (List.mem_cons_of_mem _ hy)) hx
    obtain ⟨a, ha, hx⟩ := this h hx
    exact ha.gt x hx
  omega
 have hargs : args.map (renX S.lvl (fun q => q)) = args ∧ ∀ ρ, args.map (renX S.lvl ρ) = args := by
  have : AV.am1 S.lvl args = [] := List.eq_nil_iff_forall_not_mem.2 fun x hx => by
   have e1 := hW x (w2 x hx)
   have := bK1 w1 x hx
   omega
  exact ⟨b80 w1 this, fun ρ => b80 w1 this⟩
 have hout : ∀ p, p ∈ S'.outs S.lvl ↔ p ∈ S'.log ∧ p.l ≤ S.lvl := fun p => aq0
 have hund : ∀ q, q.l ≤ S.lvl → q ∉ S'.outs S.lvl → S'.get q = S.get q := fun q hl hn => hun q hl fun hm => hn ((hout q).2 ⟨hm, hl⟩)
 -- what is deep
 obtain ⟨D, hD⟩ : ∃ D, D = A.filter fun q => decide (S.lvl < q.l) := ⟨_, rfl⟩
 have memD : ∀ q, q ∈ D ↔ q ∈ A ∧ S.lvl < q.l := fun q => by rw [hD, List.mem_filter]; simp
 have gtS : ∀ {s : ad4}, br9 S' S.lvl s → ∀ x ∈ s.deep S.lvl, S.lvl < x.l := by
  intro s hs x hx
  have lst : ∀ {cs : List AV}, (∀ a ∈ cs, Cx S' S.lvl a) → x ∈ AV.am1 S.lvl cs → S.lvl < x.l := by
   intro cs
   induction cs with
   | nil => intro _ h; cases h
   | cons a r ih =>
    intro h hx
    simp only [AV.am1, List.mem_append] at hx
    rcases hx with hx | hx
    ·exact (h a (List.mem_cons_self ..)).gt x hx
    ·exact ih (fun y hy => h y (List.mem_cons_of_mem _ hy)) hx
  cases hs with
  | obj h => exact lst h hx
  | tok => cases hx
  | map h =>
   obtain ⟨e, he, hx⟩ := List.mem_flatMap.1 hx
   exact (h e he).gt x hx
  | row h => exact lst h hx
  | itr => cases hx
 have outA : ∀ p ∈ S'.outs S.lvl, p ∈ A := fun p hp => hc p (hlog p ((hout p).1 hp).1 ((hout p).1 hp).2)
 obtain ⟨u, ρ, R, k1, k2, k3⟩ := handUp_x (f := f) (S := S) (S' := S') (v := ay2 as1) hup (cY5 b1) (fun p hp => by
   obtain ⟨s, q1, q2, _⟩ := hreg p (outA p hp)
   exact ⟨s, q1, q2⟩) hund (D := D) (fun d hd => by
   obtain ⟨e1, e2⟩ := (memD d).1 hd
   obtain ⟨s, q1, q2, q3⟩ := hreg d e1
   exact ⟨e2, s, q1, q2, fun x hx => (memD x).2 ⟨q3 x hx, gtS q2 x hx⟩⟩) (fun d hd => by
   rw [bT3] at hd
   exact (memD d).2 ⟨by rw [hA]; exact List.mem_append.2 (.inr (List.mem_append.2 (.inl (b2 d hd)))), bK1 b1 d hd⟩) (fun p hp s q1 d hd => by
   obtain ⟨s', e1, e2, e3⟩ := hreg p (outA p hp)
   rw [q1] at e1; cases e1
   exact (memD d).2 ⟨e3 d hd, gtS e2 d hd⟩)
 -- all that is new and in use is reached
 have hU : ∀ p s, (p.l ≤ S.lvl ∧ p ∈ A ∨ p ∈ R) → S'.get p = some s → ∀ x ∈ s.deep S.lvl, x ∈ R := fun p s hp hps x hx => by
  rcases hp with ⟨hp, hpA⟩ | hp
  ·by_cases ho : p ∈ S'.outs S.lvl
   ·exact k3.out p ho s hps x hx
   ·rw [hund p hp ho] at hps
    obtain ⟨s', e1, _, e3⟩ := hdeep p ((hs p hpA).resolve_right (by omega))
    rw [hps] at e1; cases e1
    rw [e3] at hx; cases hx
  ·exact k3.own p hp s hps x hx
 have hf1 : ∀ q ∈ F1, S.lvl < q.l → q ∈ R := by
  have key : ∀ {os : List OA} {l1 : List AV} {F : List Loc}, AtAs S' os l1 F → (∀ q ∈ F, q ∈ A) → (∀ x ∈ AV.am1 S.lvl l1, x ∈ R) → ∀ q ∈ F, S.lvl < q.l → q ∈ R := by
   intro os l1 F hat hFA hdp
   -- slots above that are not of the region name nothing new here
   have h0 : AtAs S' os l1 F := hat
   obtain ⟨S2, hS2⟩ : ∃ S2 : AS, S2 = { S' with tab := S'.tab.filter fun x => A.contains x.1 } := ⟨_, rfl⟩
   have hget : ∀ p, S2.get p = if p ∈ A then S'.get p else none := by
    intro p
    rw [hS2]
    show Tab.get (S'.tab.filter fun x => A.contains x.1) p = _
    have : ∀ t : Tab, Tab.get (t.filter fun x => A.contains x.1) p = if p ∈ A then Tab.get t p else none := by
     intro t
     induction t with
     | nil => simp [Tab.get]
     | cons x r ih =>
      obtain ⟨q, s⟩ := x
      rw [List.filter_cons]
      by_cases hq : q ∈ A
      ·rw [if_pos (List.contains_iff_mem.2 hq)]
       simp only [Tab.get]
       by_cases e : q = p
       ·subst e; simp [hq]
       ·rw [if_neg e, if_neg e]; exact ih
      ·rw [if_neg (fun h => hq (List.contains_iff_mem.1 h)), ih]
       simp only [Tab.get]
       by_cases e : q = p
       ·subst e; simp [hq]
       ·rw [if_neg e]
    exact this _
   have hat2 : AtAs S2 os l1 F := hat.local fun q hq => by rw [hget, if_pos (hFA q hq)]
   exact AtAs.reach (S := S2) (l := S.lvl) (R := R) (fun p s hp hps x hx => by
    rw [hget] at hps
    split at hps
    ·rename_i hpA
     rcases hp with hp | hp
     ·exact hU p s (.inl ⟨hp, hpA⟩) hps x hx
     ·exact hU p s (.inr hp) hps x hx
    ·cases hps) hat2 hdp
  refine key h1 (fun q hq => by rw [hA]; exact List.mem_append.2 (.inl hq)) fun x hx => ?_
  have : AV.am1 S.lvl args = [] := List.eq_nil_iff_forall_not_mem.2 fun x hx => by
   have e1 := hW x (w2 x hx)
   have e2 := bK1 w1 x hx
   omega
  rw [this] at hx; cases hx
 have hf2 : ∀ q ∈ F2, S.lvl < q.l → q ∈ R := by
  obtain ⟨S2, hS2⟩ : ∃ S2 : AS, S2 = { S' with tab := S'.tab.filter fun x => A.contains x.1 } := ⟨_, rfl⟩
  have hget : ∀ p, S2.get p = if p ∈ A then S'.get p else none := by
   intro p
   rw [hS2]
   show Tab.get (S'.tab.filter fun x => A.contains x.1) p = _
   have : ∀ t : Tab, Tab.get (t.filter fun x => A.contains x.1) p = if p ∈ A then Tab.get t p else none := by
    intro t
    induction t with
    | nil => simp [Tab.get]
    | cons x r ih =>
     obtain ⟨q, s⟩ := x
     rw [List.filter_cons]
     by_cases hq : q ∈ A
     ·rw [if_pos (List.contains_iff_mem.2 hq)]
      simp only [Tab.get]
      by_cases e : q = p
      ·subst e; simp [hq]
      ·rw [if_neg e, if_neg e]; exact ih
     ·rw [if_neg (fun h => hq (List.contains_iff_mem.1 h)), ih]
      simp only [Tab.get]
      by_cases e : q = p
      ·subst e; simp [hq]
      ·rw [if_neg e]
   exact this _
  have hat2 : AtAs S2 res as1 F2 := h2.local fun q hq => by
   rw [hget, if_pos (by rw [hA]; exact List.mem_append.2 (.inr (List.mem_append.2 (.inl hq))))]
  exact AtAs.reach (S := S2) (l := S.lvl) (R := R) (fun p s hp hps x hx => by
   rw [hget] at hps
   split at hps
   ·rename_i hpA
    rcases hp with hp | hp
    ·exact hU p s (.inl ⟨hp, hpA⟩) hps x hx
    ·exact hU p s (.inr hp) hps x hx
   ·cases hps) hat2 (fun x hx => k3.val x (by rw [bT3]; exact hx))
 have hfr := as7 k1
 have hlogu : ∀ q ∈ ulog u, q ∈ W ∨ New S q := fun q hq => by
  rcases k3.log q hq with h | ⟨p, hp, rfl⟩
  ·exact .inl (hlog q ((hout q).1 h).1 ((hout q).1 h).2)
  ·obtain ⟨e1, e2, e3, e4, _⟩ := k3.new p hp
   exact .inr ⟨e1, e2, e3, e4⟩
 have hturn : ∀ q ∈ A, (S.lvl < q.l → q ∈ R) → ∀ s, S'.get q = some s → (S.after u).get (rL S.lvl ρ q) = some (bs6 S.lvl ρ (rG S.lvl q s.gen) s) := fun q hq hr s hqs => by
  unfold rL rG
  by_cases hl : q.l ≤ S.lvl
  ·rw [if_pos hl, if_pos hl]
   by_cases ho : q ∈ S'.outs S.lvl
   ·exact k3.outs q s ho hqs
   ·rw [hund q hl ho] at hqs
    obtain ⟨s', e1, e2, e3⟩ := hdeep q ((hs q hq).resolve_right (by omega))
    rw [hqs] at e1; cases e1
    rw [renSX_id e2 e3, hfr q fun hu => ?_]
    ·exact hqs
    ·rcases k3.log q hu with h | ⟨p, hp, rfl⟩
     ·exact ho h
     ·obtain ⟨_, _, _, e4, _⟩ := k3.new p hp
      rw [hqs] at e4; cases e4
  ·rw [if_neg hl, if_neg hl]
   obtain ⟨_, _, _, _, e5⟩ := k3.new q (hr (by omega))
   exact e5 s hqs
 have sub1 : ∀ q ∈ F1, q ∈ A := fun q hq => by rw [hA]; exact List.mem_append.2 (.inl hq)
 have sub2 : ∀ q ∈ F2, q ∈ A := fun q hq => by rw [hA]; exact List.mem_append.2 (.inr (List.mem_append.2 (.inl hq)))
 have subJ : ∀ q ∈ J, q ∈ A := fun q hq => by rw [hA]; exact List.mem_append.2 (.inr (List.mem_append.2 (.inr hq)))
 obtain ⟨J0, hJ0⟩ : ∃ J0, J0 = J.filter fun q => decide (q.l ≤ S.lvl) := ⟨_, rfl⟩
 have memJ : ∀ q, q ∈ J0 ↔ q ∈ J ∧ q.l ≤ S.lvl := fun q => by rw [hJ0, List.mem_filter]; simp
 obtain ⟨B, hB⟩ : ∃ B, B = F1 ++ (F2 ++ J0) := ⟨_, rfl⟩
 have hBA : ∀ q ∈ B, q ∈ A ∧ (S.lvl < q.l → q ∈ R) := fun q hq => by
  rw [hB] at hq
  rcases List.mem_append.1 hq with hq | hq
  ·exact ⟨sub1 q hq, hf1 q hq⟩
  ·rcases List.mem_append.1 hq with hq | hq
   ·exact ⟨sub2 q hq, hf2 q hq⟩
   ·obtain ⟨e1, e2⟩ := (memJ q).1 hq
    exact ⟨subJ q e1, fun h => by omega⟩
 have hBd : B.Nodup := by
  rw [hB]
  rw [hA] at hd
  have hd1 := List.nodup_append.1 hd
  have hd2 := List.nodup_append.1 hd1.2.1
  rw [List.nodup_append, List.nodup_append]
  refine ⟨hd1.1, ⟨hd2.1, by rw [hJ0]; exact hd2.2.1.filter _, fun a ha b hb => hd2.2.2 a ha b ((memJ b).1 hb).1⟩, fun a ha b hb => ?_⟩
  refine hd1.2.2 a ha b ?_
  rcases List.mem_append.1 hb with hb | hb
  ·exact List.mem_append.2 (.inl hb)
  ·exact List.mem_append.2 (.inr ((memJ b).1 hb).1)
 have hx1 : AtAs (S.after u) outs args (F1.map (rL S.lvl ρ)) := by
  have := h1.ren (l := S.lvl) (ρ := ρ) (S' := S.after u) fun q hq => hturn q (sub1 q hq) (hf1 q hq)
  rw [hargs.2 ρ] at this
  exact this
 have hx2 : AtAs (S.after u) res (as1.map (renX S.lvl ρ)) (F2.map (rL S.lvl ρ)) := h2.ren (l := S.lvl) (ρ := ρ) (S' := S.after u) fun q hq => hturn q (sub2 q hq) (hf2 q hq)
 have hx3 : aF9 (S.after u) (J0.map (rL S.lvl ρ)) := aF9.ren (S := S') (fun q hq => h3 q ((memJ q).1 hq).1) fun q hq => hturn q (subJ q ((memJ q).1 hq).1) fun h => by
  have := ((memJ q).1 hq).2
  omega
 refine ⟨as1.map (renX S.lvl ρ), u, F1.map (rL S.lvl ρ), F2.map (rL S.lvl ρ), J0.map (rL S.lvl ρ), ?_, hx1, hx2, hx3, ?_⟩
 ·rw [k1, cl2 b1]
 ·have hmap : F1.map (rL S.lvl ρ) ++ (F2.map (rL S.lvl ρ) ++ J0.map (rL S.lvl ρ)) = B.map (rL S.lvl ρ) := by rw [hB, List.map_append, List.map_append]
  rw [hmap]
  refine ⟨k3.lvl, k3.fn, k3.dfr, bP4 hBd fun x hx y hy e => ?_, fun q hq => ?_, fun q hq => ?_, hlogu, hfr⟩
  ·obtain ⟨x1, x2⟩ := hBA x hx
   obtain ⟨y1, y2⟩ := hBA y hy
   have up : ∀ z w, z.l ≤ S.lvl → z ∈ A → S.lvl < w.l → w ∈ R → z ≠ ρ w := fun z w hz hzA hw hwR e => by
    obtain ⟨s, e1, _⟩ := w3 z ((hs z hzA).resolve_right (by omega))
    obtain ⟨_, _, _, e4, _⟩ := k3.new w hwR
    rw [← e, e1] at e4; cases e4
   unfold rL at e
   by_cases hl : x.l ≤ S.lvl
   ·rw [if_pos hl] at e
    by_cases hl' : y.l ≤ S.lvl
    ·rw [if_pos hl'] at e; exact e
    ·rw [if_neg hl'] at e
     exact absurd e (up x y hl x1 (by omega) (y2 (by omega)))
   ·rw [if_neg hl] at e
    by_cases hl' : y.l ≤ S.lvl
    ·rw [if_pos hl'] at e
     exact absurd e.symm (up y x hl' y1 (by omega) (x2 (by omega)))
    ·rw [if_neg hl'] at e
     exact k3.inj x (x2 (by omega)) y (y2 (by omega)) e
  ·refine List.mem_map.2 ⟨q, ?_, by simp [rL, hW q hq]⟩
   have := hc q hq
   rw [hA] at this
   rw [hB]
   rcases List.mem_append.1 this with h | h
   ·exact List.mem_append.2 (.inl h)
   ·rcases List.mem_append.1 h with h | h
    ·exact List.mem_append.2 (.inr (List.mem_append.2 (.inl h)))
    ·exact List.mem_append.2 (.inr (List.mem_append.2 (.inr ((memJ q).2 ⟨h, hW q hq⟩))))
  ·obtain ⟨p, hp, rfl⟩ := List.mem_map.1 hq
   obtain ⟨p1, p2⟩ := hBA p hp
   unfold rL
   by_cases hl : p.l ≤ S.lvl
   ·rw [if_pos hl]
    exact .inl ((hs p p1).resolve_right (by omega))
   ·rw [if_neg hl]
    obtain ⟨e1, e2, e3, e4, _⟩ := k3.new p (p2 (by omega))
    exact .inr ⟨e1, e2, e3, e4⟩
end Go.Proofs.YtbinfgmdamlkbaaGreatDoor
namespace Go.Proofs.YtbinfgmdamlkbaaGreatDoor
open Go.RowKit
theorem It.there {S : AS} {L : Nat} {it : It} (h : it.ok S L) : ∀ q ∈ it.foot, (∃ s, S.get q = some s) ∧ Pl L it.keys q := by
 cases it with
 | own u ks o a F =>
  intro q hq
  obtain ⟨_, _, h3⟩ := AtO.reg (l := 0) (.inl (Nat.le_refl _)) h.1
  obtain ⟨s, h4, _⟩ := h3 q hq
  exact ⟨⟨s, h4⟩, h.2 q hq⟩
 | cel u ks p g t cs =>
  intro q hq
  rw [List.mem_singleton.1 hq]
  exact ⟨⟨_, h.1⟩, h.2.1⟩
 | jnk u ks J =>
  intro q hq
  obtain ⟨s, h4, _⟩ := h.1 q hq
  exact ⟨⟨s, h4⟩, h.2 q hq⟩
 | _ => intro q hq; cases hq
def okO (K : List Nat) : It → Bool
 | .obj k _ _ _ => !K.contains k
 | .tok ks _ _ _ => ks.all fun k => !K.contains k
 | .bld _ _ _ _ _ => false
 | _ => true
theorem It.stay {S S' : AS} {L : Nat} {K : List Nat} {it : It} (h : it.ok S L) (ho : okO K it = true) (hF : ∀ q ∈ it.foot, S'.get q = S.get q) (hk : ∀ k, K.contains k = false → S'.get ⟨L, k, 0⟩ = S.get ⟨L, k, 0⟩) : it.ok S' L := by
 cases it with
 | obj k g t cs =>
  simp only [okO, Bool.not_eq_true'] at ho
  show S'.get _ = _
  rw [hk k ho]; exact h
 | tok ks n e x =>
  simp only [okO, List.all_eq_true, Bool.not_eq_true'] at ho
  rcases h with h | h | ⟨p, g, es, h1, h2, h3, h4, h5⟩
  ·exact .inl h
  ·exact .inr (.inl h)
  ·refine .inr (.inr ⟨p, g, es, h1, ?_, h3, h4, h5⟩)
   have e : p = ⟨L, p.k, 0⟩ := by cases p; simp only at h3 h4; rw [h3, h4]
   rw [e, hk _ (ho _ h5), ← e]
   exact h2
 | bld => cases ho
 | own u ks o a F => exact ⟨h.1.local hF, h.2⟩
 | cel u ks p g t cs => exact ⟨by rw [hF p (List.mem_singleton.2 rfl)]; exact h.1, h.2⟩
 | jnk u ks J => exact ⟨h.1.local hF, h.2⟩
def OA.given : OA → Bool
 | .r _ => true
 | .o _ => true
 | _ => false
theorem cN6 {os : List OA} (h : os.all OA.given = true) : os.all OA.keep = true := by
 rw [List.all_eq_true] at h ⊢
 intro o ho
 have := h o ho
 cases o <;> first | rfl | cases this
def InI : List OA → List AV → List Loc → List It → Prop
 | [], l, F, A => l = [] ∧ F = [] ∧ A = []
 | .x :: _, _, _, _ => False
 | .ag _ :: _, _, _, _ => False
 | .r v :: r, l, F, A => ∃ a t, l = a :: t ∧ v.C a ∧ InI r t F A
 | .o v :: r, l, F, A => ∃ a t F1 F2 A', l = a :: t ∧ F = F1 ++ F2 ∧ A = .own true [] v a F1 :: A' ∧ InI r t F2 A'
theorem InI.of {S : AS} : ∀ {ins : List OA} {l : List AV} {F : List Loc}, AtAs S ins l F → ins.all OA.given = true → ∃ A, InI ins l F A ∧ A.flatMap It.foot = F ∧ (∀ it ∈ A, it.up = true) ∧ ∀ S' L, (∀ q, S'.get q = S.get q) → (∀ q ∈ F, q.l < L) → ∀ it ∈ A, it.ok S' L
 | [], l, F, h, _ => by
  obtain ⟨rfl, rfl⟩ := h
  exact ⟨[], ⟨rfl, rfl, rfl⟩, rfl, fun _ h => (nomatch h), fun _ _ _ _ _ h => (nomatch h)⟩
 | o :: r, l, F, h, hk => by
  obtain ⟨a, t, F1, F2, rfl, rfl, h2, h3⟩ := h
  simp only [List.all_cons, Bool.and_eq_true] at hk
  obtain ⟨A, k1, k2, k3, k4⟩ := InI.of h3 hk.2
  cases o with
  | x => cases hk.1
  | ag os => cases hk.1
  | r v =>
   obtain ⟨h2, rfl⟩ := h2
   exact ⟨A, ⟨a, t, rfl, h2, k1⟩, k2, k3, k4⟩
  | o v =>
   refine ⟨.own true [] v a F1 :: A, ⟨a, t, F1, F2, A, rfl, rfl, rfl, k1⟩, by rw [List.flatMap_cons, k2]; rfl, fun it hi => ?_, fun S' L hg hl it hi => ?_⟩
   ·rcases List.mem_cons.1 hi with rfl | hi
    ·rfl
    ·exact k3 it hi
   ·rcases List.mem_cons.1 hi with rfl | hi
    ·exact ⟨AtO.local h2 fun q _ => hg q, fun q hq => .inl (hl q (List.mem_append.2 (.inl hq)))⟩
    ·exact k4 S' L hg (fun q hq => hl q (List.mem_append.2 (.inr hq))) it hi
def OutI : List OA → List AV → List It → Prop
 | [], l, A => l = [] ∧ A = []
 | .r v :: r, a :: t, A => v.C a ∧ OutI r t A
 | .o v :: r, a :: t, .own _ _ v' a' _ :: A => v = v' ∧ a = a' ∧ OutI r t A
 | .x :: r, _ :: t, A => OutI r t A
 | _, _, _ => False
theorem OutI.at {S : AS} {L : Nat} : ∀ {outs : List OA} {l : List AV} {A : List It}, OutI outs l A → (∀ it ∈ A, it.ok S L) → AtAs S outs l (A.flatMap It.foot)
 | [], l, A, h, _ => by
  unfold OutI at h
  obtain ⟨rfl, rfl⟩ := h
  exact ⟨rfl, rfl⟩
 | .r v :: r, [], A, h, _ => by unfold OutI at h; exact h.elim
 | .r v :: r, a :: t, A, h, hA => by
  unfold OutI at h
  exact ⟨a, t, [], _, rfl, rfl, ⟨h.1, rfl⟩, h.2.at hA⟩
 | .x :: r, [], A, h, _ => by unfold OutI at h; exact h.elim
 | .x :: r, a :: t, A, h, hA => by
  unfold OutI at h
  exact ⟨a, t, [], _, rfl, rfl, rfl, OutI.at h hA⟩
 | .ag os :: r, l, A, h, _ => by unfold OutI at h; exact h.elim
 | .o v :: r, [], A, h, _ => by unfold OutI at h; exact h.elim
 | .o v :: r, a :: t, [], h, _ => by unfold OutI at h; exact h.elim
 | .o v :: r, a :: t, it :: A, h, hA => by
  cases it with
  | own u ks v' a' F =>
   unfold OutI at h
   obtain ⟨rfl, rfl, h2⟩ := h
   exact ⟨a, t, F, _, rfl, rfl, (hA _ (List.mem_cons_self ..)).1, h2.at fun it hi => hA it (List.mem_cons_of_mem _ hi)⟩
  | _ => unfold OutI at h; exact h.elim
def celAt (A : List It) (i : Nat) (p : Loc) (g : Nat) (cs : List AV) : Prop := ∃ u ks t, A[i]? = some (.cel u ks p g t cs)
def AgO : List OV → List AV → List It → Prop
 | [], cs, A => cs = [] ∧ A = []
 | o :: r, cs, A => ∃ a t, cs = a :: t ∧ ((∃ v, o = .c v ∧ RelC v a ∧ AgO r t A) ∨ ∃ u ks F A', A = .own u ks o a F :: A' ∧ AgO r t A')
theorem AgO.at {S : AS} {L : Nat} : ∀ {os : List OV} {cs : List AV} {A : List It} {i : Nat}, AgO os cs A → (∀ it ∈ A, it.ok S L) → os.all OV.sel = true → AtL S bC1 0 i os cs (A.flatMap It.foot)
 | [], cs, A, i, h, _, _ => by
  unfold AgO at h
  obtain ⟨rfl, rfl⟩ := h
  unfold AtL
  exact ⟨rfl, rfl⟩
 | o :: r, cs, A, i, h, hA, hs => by
  simp only [List.all_cons, Bool.and_eq_true] at hs
  unfold AgO at h
  obtain ⟨a, t, rfl, ⟨v, rfl, h1, h2⟩ | ⟨u, ks, F, A', rfl, h2⟩⟩ := h
  ·unfold AtL
   exact ⟨a, t, [], _, rfl, rfl, by unfold AtO; exact ⟨h1, rfl⟩, h2.at hA hs.2⟩
  ·unfold AtL
   have h0 := (hA _ (List.mem_cons_self ..)).1
   exact ⟨a, t, F, _, rfl, rfl, AtO.place h0 hs.1, h2.at (fun it hi => hA it (List.mem_cons_of_mem _ hi)) hs.2⟩
inductive ResI (A : List It) (E : Env) : List BR → List OA → List AV → List It → Prop
 | nil : ResI A E [] [] [] []
 | tr {n : Nat} {a : AV} {v : RV} {b : List BR} {r : List OA} {t : List AV} {N : List It} (hx : look E n = some a) (hv : v.C a) (h : ResI A E b r t N) : ResI A E (.t n :: b) (.r v :: r) (a :: t) N
 | l7 {n : Nat} {a : AV} {v : OV} {u : Bool} {ks : List Nat} {F : List Loc} {b : List BR} {r : List OA} {t : List AV} {N : List It} (hx : look E n = some a) (h : ResI A E b r t N) : ResI A E (.t n :: b) (.o v :: r) (a :: t) (.own u ks v a F :: N)
 | ta {n : Nat} {cs : List AV} {os : List OV} {b : List BR} {r : List OA} {t : List AV} {N1 N : List It} (hx : look E n = some (.agg cs)) (hs : os.all OV.sel = true) (ho : AgO os cs N1) (h : ResI A E b r t N) : ResI A E (.t n :: b) (.ag os :: r) (.agg cs :: t) (N1 ++ N)
 | c1 {n i g : Nat} {p : Loc} {cs : List AV} {a : AV} {v : RV} {b : List BR} {r : List OA} {t : List AV} {N : List It} (hx : look E n = some (.ptr p g 0 0)) (hA : celAt A i p g cs) (hc : cs[0]? = some a) (hv : v.C a) (h : ResI A E b r t N) : ResI A E (.c1 n :: b) (.r v :: r) (a :: t) N
 | cn {n m i g : Nat} {p : Loc} {cs : List AV} {M : List V} {b : List BR} {r : List OA} {t : List AV} {N : List It} (hx : look E n = some (.ptr p g 0 0)) (hA : celAt A i p g cs) (hM : ab6 M cs) (hm : M.length = m) (h : ResI A E b r t N) : ResI A E (.cn n m :: b) (.r (.agg M) :: r) (.agg cs :: t) N
theorem ResI.at {A0 : List It} {E : Env} {T : BT} {S : AS} {L : Nat} (hT : Ag E T) (h0 : ∀ it ∈ A0, it.ok S L) {br : List BR} {res : List OA} {l : List AV} {A : List It} (h : ResI A0 E br res l A) : (∀ it ∈ A, it.ok S L) → aQ3 S T br = some l ∧ AtAs S res l (A.flatMap It.foot) := by
 induction h with
 | nil => exact fun _ => ⟨rfl, rfl, rfl⟩
 | @tr n a v b r t N hx hv h ih =>
  intro hA
  obtain ⟨k1, k2⟩ := ih hA
  refine ⟨?_, a, t, [], _, rfl, rfl, ⟨hv, rfl⟩, k2⟩
  rw [ap7, k1, b44, hT n a hx]
  rfl
 | @l7 n a v u ks F b r t N hx h ih =>
  intro hA
  obtain ⟨k1, k2⟩ := ih fun it hi => hA it (List.mem_cons_of_mem _ hi)
  refine ⟨?_, a, t, F, _, rfl, rfl, (hA _ (List.mem_cons_self ..)).1, k2⟩
  rw [ap7, k1, b44, hT n a hx]
  rfl
 | @ta n cs os b r t N1 N hx hs ho h ih =>
  intro hA
  obtain ⟨k1, k2⟩ := ih fun it hi => hA it (List.mem_append.2 (.inr hi))
  refine ⟨?_, _, t, N1.flatMap It.foot, N.flatMap It.foot, rfl, by rw [List.flatMap_append], ⟨cs, rfl, ho.at (fun it hi => hA it (List.mem_append.2 (.inl hi))) hs⟩, k2⟩
  rw [ap7, k1, b44, hT n _ hx]
  rfl
 | @c1 n i g p cs a v b r t N hx hA0 hc hv h ih =>
  intro hA
  obtain ⟨k1, k2⟩ := ih hA
  obtain ⟨u, ks, ty, hA0⟩ := hA0
  refine ⟨?_, a, t, [], _, rfl, rfl, ⟨hv, rfl⟩, k2⟩
  rw [ap7, k1, ca5, hT n _ hx]
  rw [bk9 (h0 _ (List.mem_of_getElem? hA0)).1 hc]
  rfl
 | @cn n m i g p cs M b r t N hx hA0 hM hm h ih =>
  intro hA
  obtain ⟨k1, k2⟩ := ih hA
  obtain ⟨u, ks, ty, hA0⟩ := hA0
  refine ⟨?_, _, t, [], _, rfl, rfl, ⟨⟨cs, rfl, hM⟩, rfl⟩, k2⟩
  have hl : cs.length = m := by rw [ab6.length hM, hm]
  rw [ap7, k1, b88, hT n _ hx]
  rw [bp5 (h0 _ (List.mem_of_getElem? hA0)).1, if_pos (by simp [hl]), List.drop_zero, List.take_of_length_le (by omega)]
  rfl
def RetO (f : Fr) (L : Nat) (pan : Bool) (args : List AV) (br : List BR) (outs res : List OA) : ax8 := fun x T S =>
 (match pan with
  | true => ∃ v, x = .pan v ∧ AtAs S res [v] []
  | false => x = .ret ∨ x = .normal) ∧ S.dfr = [] ∧ FrOk f S L ∧ ∃ as1 F1 F2 J, (pan = false → aQ3 S T br = some as1) ∧ (pan = true → ∃ v, x = .pan v ∧ as1 = [v]) ∧ AtAs S outs args F1 ∧ AtAs S res as1 F2 ∧ aF9 S J ∧ (F1 ++ (F2 ++ J)).Nodup ∧ (∀ q ∈ f.W, q ∈ F1 ++ (F2 ++ J)) ∧ ∀ q ∈ F1 ++ (F2 ++ J), q ∈ f.W ∨ L < q.l
def isJnk : It → Bool
 | .jnk _ _ _ => true
 | _ => false
theorem jnk_at {S : AS} {L : Nat} : ∀ {A : List It}, A.all isJnk = true → (∀ it ∈ A, it.ok S L) → aF9 S (A.flatMap It.foot)
 | [], _, _ => fun q hq => (nomatch hq)
 | it :: r, h, hA => by
  simp only [List.all_cons, Bool.and_eq_true] at h
  intro q hq
  rw [List.flatMap_cons] at hq
  rcases List.mem_append.1 hq with hq | hq
  ·cases it with
   | jnk u ks J => exact (hA _ (List.mem_cons_self ..)).1 q hq
   | _ => cases h.1
  ·exact jnk_at h.2 (fun it hi => hA it (List.mem_cons_of_mem _ hi)) q hq
theorem ar5 {A : List It} {q : Loc} (h : q ∈ A.flatMap It.foot) : ∃ it ∈ A, q ∈ it.foot := List.mem_flatMap.1 h
theorem ak9 {x : AX} {f : Fr} {L : Nat} {E : Env} {A A1 A2 A3 B : List It} {args l : List AV} {br : List BR} {outs res : List OA} (hA : A = A1 ++ (A2 ++ (A3 ++ B))) (h1 : OutI outs args A1) (h2 : ResI A E br res l A2) (h3 : A3.all isJnk = true) (hB : (B.all fun it => !it.up) = true) (hx : x = .ret ∨ x = .normal := by first | exact .inl rfl | exact .inr rfl) :
  G x L f E A (RetO f L false args br outs res) := by
 intro T S hT hS
 have sub : ∀ it, (it ∈ A1 ∨ it ∈ A2 ∨ it ∈ A3 ∨ it ∈ B) ↔ it ∈ A := fun it => by rw [hA]; simp only [List.mem_append]
 have o1 := h1.at fun it hi => hS.its it ((sub it).1 (.inl hi))
 obtain ⟨o2, o3⟩ := ResI.at hT (fun it hi => hS.its it hi) h2 fun it hi => hS.its it ((sub it).1 (.inr (.inl hi)))
 have o4 := jnk_at h3 fun it hi => hS.its it ((sub it).1 (.inr (.inr (.inl hi))))
 have hflat : A.flatMap It.foot = (A1.flatMap It.foot ++ (A2.flatMap It.foot ++ A3.flatMap It.foot)) ++ B.flatMap It.foot := by
  rw [hA]; simp only [List.flatMap_append, List.append_assoc]
 have hsep := hS.reg.sep
 rw [hflat] at hsep
 refine ⟨hx, hS.dfr, hS.out, l, _, _, _, fun _ => o2, fun e => (nomatch e), o1, o3, o4, (List.nodup_append.1 hsep).1, fun q hq => ?_, fun q hq => ?_⟩
 ·obtain ⟨it, k1, k2, k3⟩ := hS.reg.cov q hq
  rcases (sub it).2 k1 with h | h | h | h
  ·exact List.mem_append.2 (.inl (List.mem_flatMap.2 ⟨it, h, k3⟩))
  ·exact List.mem_append.2 (.inr (List.mem_append.2 (.inl (List.mem_flatMap.2 ⟨it, h, k3⟩))))
  ·exact List.mem_append.2 (.inr (List.mem_append.2 (.inr (List.mem_flatMap.2 ⟨it, h, k3⟩))))
  ·have := List.all_eq_true.1 hB it h
   rw [k2] at this; cases this
 ·have : q ∈ A.flatMap It.foot := by rw [hflat]; exact List.mem_append.2 (.inl hq)
  obtain ⟨it, k1, k2⟩ := ar5 this
  obtain ⟨_, k4⟩ := It.there (hS.its it k1) q k2
  rcases Nat.lt_or_ge L q.l with h | h
  ·exact .inr h
  ·exact .inl (hS.reg.upr it k1 q k2 h).2
theorem AtAs.length {S : AS} : ∀ {os : List OA} {l : List AV} {F : List Loc}, AtAs S os l F → l.length = os.length
 | [], _, _, h => by rw [h.1]; rfl
 | _ :: r, _, _, h => by
  obtain ⟨a, t, _, _, rfl, _, _, h⟩ := h
  simp [h.length]
def InC : List OA → List AV → List It → Prop
 | [], l, A => l = [] ∧ A = []
 | .r v :: r, a :: t, A => v.C a.af4 ∧ InC r t A
 | .o v :: r, a :: t, .own _ _ v' a' _ :: A => v = v' ∧ a = a' ∧ InC r t A
 | _, _, _ => False
def AgI (u : Bool) (K : List Nat) : List OV → List AV → List It → Prop
 | [], cs, A => cs = [] ∧ A = []
 | .c v :: r, cs, A => ∃ a t, cs = a :: t ∧ RelC v a ∧ AgI u K r t A
 | o :: r, cs, A => ∃ a t F A', cs = a :: t ∧ A = .own u K o a F :: A' ∧ AgI u K r t A'
def OutC (u : Bool) (K : List Nat) : List OA → List AV → List It → Prop
 | [], _, A => A = []
 | .r _ :: r, _ :: t, A => OutC u K r t A
 | .x :: r, _ :: t, A => OutC u K r t A
 | .o v :: r, a :: t, A => ∃ F A', A = .own u K v a F :: A' ∧ OutC u K r t A'
 | _, _, _ => False
def OA.flat : OA → Bool
 | .x => false
 | .ag os => os.all OV.sel
 | _ => true
def RsC (u : Bool) (K : List Nat) : List OA → List AV → List It → Prop
 | [], l, A => l = [] ∧ A = []
 | .r v :: r, l, A => ∃ a t, l = a :: t ∧ v.C a ∧ RsC u K r t A
 | .o v :: r, l, A => ∃ a t F A', l = a :: t ∧ A = .own u K v a F :: A' ∧ RsC u K r t A'
 | .ag os :: r, l, A => ∃ cs t A1 A', l = .agg cs :: t ∧ A = A1 ++ A' ∧ AgI u K os cs A1 ∧ RsC u K r t A'
 | .x :: _, _, _ => False
def RsV (u : Bool) (K : List Nat) : List OA → AV → List It → Prop
 | [.r w], v, A => w.C v ∧ A = []
 | [.o w], v, A => ∃ F, A = [.own u K w v F]
 | [.ag os], v, A => ∃ cs, v = .agg cs ∧ AgI u K os cs A
 | [.x], _, _ => False
 | res, v, A => ∃ l, v = .tup l ∧ RsC u K res l A
def keysOf (A : List It) : List Nat := A.flatMap It.keys
def upOf (A : List It) : Bool := A.any It.up
def nrmO : OA → Bool
 | .o (.ptr _ _) => true
 | .o (.mp _ _) => true
 | .o _ => false
 | .r _ => true
 | _ => false
theorem AtO.nrm {S : AS} {p : Loc} {g i : Nat} {o : OV} {a : AV} {F : List Loc} (h : AtO S p g i o a F) (hn : nrmO (.o o) = true) : a.af4 = a := by
 cases o with
 | ptr t os =>
  unfold AtO at h
  obtain ⟨_, _, _, _, rfl, _⟩ := h
  rfl
 | mp ks vs =>
  unfold AtO at h
  obtain ⟨_, _, _, _, _, rfl, _⟩ := h
  rfl
 | _ => cases hn
def fitO : List OA → List OA → Bool
 | _, [] => true
 | .o _ :: r, .o _ :: r' => fitO r r'
 | _ :: r, .x :: r' => fitO r r'
 | _, _ => false
theorem InC.at {S : AS} {L : Nat} : ∀ {ins : List OA} {l : List AV} {A : List It}, InC ins l A → (∀ it ∈ A, it.ok S L) → ins.all nrmO = true → AtAs S ins (l.map AV.af4) (A.flatMap It.foot)
 | [], l, A, h, _, _ => by
  unfold InC at h
  obtain ⟨rfl, rfl⟩ := h
  exact ⟨rfl, rfl⟩
 | .x :: r, l, A, h, _, _ => by cases l <;> (unfold InC at h; exact h.elim)
 | .ag os :: r, l, A, h, _, _ => by cases l <;> (unfold InC at h; exact h.elim)
 | .r v :: r, [], A, h, _, _ => by unfold InC at h; exact h.elim
 | .r v :: r, a :: t, A, h, hA, hn => by
  unfold InC at h
  simp only [List.all_cons, Bool.and_eq_true] at hn
  exact ⟨_, _, [], _, rfl, rfl, ⟨h.1, rfl⟩, h.2.at hA hn.2⟩
 | .o v :: r, [], A, h, _, _ => by unfold InC at h; exact h.elim
 | .o v :: r, a :: t, [], h, _, _ => by unfold InC at h; exact h.elim
 | .o v :: r, a :: t, it :: A, h, hA, hn => by
  simp only [List.all_cons, Bool.and_eq_true] at hn
  cases it with
  | own u ks v' a' F =>
   unfold InC at h
   obtain ⟨rfl, rfl, h2⟩ := h
   have h3 := (hA _ (List.mem_cons_self ..)).1
   exact ⟨_, _, F, _, rfl, rfl, by show AtO _ _ _ _ _ _ _; rw [AtO.nrm h3 hn.1]; exact h3, h2.at (fun it hi => hA it (List.mem_cons_of_mem _ hi)) hn.2⟩
  | _ => unfold InC at h; exact h.elim
theorem AtAs.unnrm {S S' : AS} {L : Nat} : ∀ {ins outs : List OA} {l : List AV} {A : List It} {F : List Loc}, InC ins l A → (∀ it ∈ A, it.ok S L) → ins.all nrmO = true → fitO ins outs = true → AtAs S' outs (l.map AV.af4) F → AtAs S' outs l F
 | ins, [], l, A, F, _, _, _, _, h => by
  obtain ⟨h1, rfl⟩ := h
  exact ⟨List.map_eq_nil_iff.1 h1, rfl⟩
 | [], o :: r', l, A, F, _, _, _, hf, _ => by cases o <;> cases hf
 | i :: r, o :: r', [], A, F, _, _, _, _, h => by
  obtain ⟨a, t, F1, F2, h1, _⟩ := h
  cases h1
 | i :: r, .x :: r', a :: t, A, F, hi, hA, hn, hf, h => by
  obtain ⟨a', t', F1, F2, h1, rfl, h2, h3⟩ := h
  cases h1
  have hf' : fitO r r' = true := by cases i <;> exact hf
  simp only [List.all_cons, Bool.and_eq_true] at hn
  cases i with
  | x => cases hn.1
  | ag os => cases hn.1
  | r v =>
   unfold InC at hi
   exact ⟨a, t, F1, F2, rfl, rfl, h2, AtAs.unnrm hi.2 hA hn.2 hf' h3⟩
  | o v =>
   cases A with
   | nil => unfold InC at hi; exact hi.elim
   | cons it A =>
    cases it with
    | own u ks v' a' F' =>
     unfold InC at hi
     exact ⟨a, t, F1, F2, rfl, rfl, h2, AtAs.unnrm hi.2.2 (fun it hi => hA it (List.mem_cons_of_mem _ hi)) hn.2 hf' h3⟩
    | _ => unfold InC at hi; exact hi.elim
 | .o v :: r, .o v2 :: r', a :: t, A, F, hi, hA, hn, hf, h => by
  obtain ⟨a', t', F1, F2, h1, rfl, h2, h3⟩ := h
  cases h1
  have hf' : fitO r r' = true := hf
  simp only [List.all_cons, Bool.and_eq_true] at hn
  cases A with
  | nil => unfold InC at hi; exact hi.elim
  | cons it A =>
   cases it with
   | own u ks v' a' F' =>
    unfold InC at hi
    obtain ⟨rfl, rfl, hi⟩ := hi
    have e := AtO.nrm (hA _ (List.mem_cons_self ..)).1 hn.1
    rw [e] at h2
    exact ⟨a, t, F1, F2, rfl, rfl, h2, AtAs.unnrm hi (fun it hi => hA it (List.mem_cons_of_mem _ hi)) hn.2 hf' h3⟩
   | _ => unfold InC at hi; exact hi.elim
 | .r _ :: _, .o _ :: _, _, _, _, _, _, _, hf, _ => by cases hf
 | .x :: _, .o _ :: _, _, _, _, _, _, _, hf, _ => by cases hf
 | .ag _ :: _, .o _ :: _, _, _, _, _, _, _, hf, _ => by cases hf
 | i :: _, .r _ :: _, _, _, _, _, _, _, hf, _ => by cases i <;> cases hf
 | i :: _, .ag _ :: _, _, _, _, _, _, _, hf, _ => by cases i <;> cases hf
theorem cR9 : ∀ {ins outs : List OA}, fitO ins outs = true → outs.all (fun o => match o with | .ag _ => false | _ => true) = true
 | _, [], _ => rfl
 | i :: r, .x :: r', h => by
  have h : fitO r r' = true := by cases i <;> exact h
  simp only [List.all_cons, cR9 h, Bool.and_self]
 | .o _ :: r, .o _ :: r', h => by
  have h : fitO r r' = true := h
  simp only [List.all_cons, cR9 h, Bool.and_self]
 | [], o :: _, h => by cases o <;> cases h
 | .r _ :: _, .o _ :: _, h => by cases h
 | .x :: _, .o _ :: _, h => by cases h
 | .ag _ :: _, .o _ :: _, h => by cases h
 | i :: _, .r _ :: _, h => by cases i <;> cases h
 | i :: _, .ag _ :: _, h => by cases i <;> cases h
theorem OutC.of {S : AS} {u : Bool} {K : List Nat} : ∀ {outs : List OA} {l : List AV} {F : List Loc}, AtAs S outs l F → outs.all (fun o => match o with | .ag _ => false | _ => true) = true → ∃ A, OutC u K outs l A ∧ A.flatMap It.foot = F ∧ (∀ it ∈ A, it.up = u ∧ it.keys = K ∧ it.new = true) ∧ ∀ L, (∀ q ∈ F, Pl L K q) → ∀ it ∈ A, it.ok S L
 | [], l, F, h, _ => by
  obtain ⟨rfl, rfl⟩ := h
  exact ⟨[], rfl, rfl, fun _ h => (nomatch h), fun _ _ _ h => (nomatch h)⟩
 | o :: r, l, F, h, hk => by
  obtain ⟨a, t, F1, F2, rfl, rfl, h2, h3⟩ := h
  simp only [List.all_cons, Bool.and_eq_true] at hk
  obtain ⟨A, k1, k2, k3, k4⟩ := OutC.of h3 hk.2
  cases o with
  | ag os => cases hk.1
  | x =>
   have h2 : F1 = [] := h2
   subst h2
   exact ⟨A, k1, k2, k3, k4⟩
  | r v =>
   obtain ⟨h2, rfl⟩ := h2
   exact ⟨A, k1, k2, k3, k4⟩
  | o v =>
   refine ⟨.own u K v a F1 :: A, ⟨F1, A, rfl, k1⟩, by rw [List.flatMap_cons, k2]; rfl, fun it hi => ?_, fun L hl it hi => ?_⟩
   ·rcases List.mem_cons.1 hi with rfl | hi
    ·exact ⟨rfl, rfl, rfl⟩
    ·exact k3 it hi
   ·rcases List.mem_cons.1 hi with rfl | hi
    ·exact ⟨h2, fun q hq => hl q (List.mem_append.2 (.inl hq))⟩
    ·exact k4 L (fun q hq => hl q (List.mem_append.2 (.inr hq))) it hi
theorem AgI.of {S : AS} {u : Bool} {K : List Nat} : ∀ {os : List OV} {cs : List AV} {F : List Loc} {i : Nat}, AtL S bC1 0 i os cs F → os.all OV.sel = true → ∃ A, AgI u K os cs A ∧ A.flatMap It.foot = F ∧ (∀ it ∈ A, it.up = u ∧ it.keys = K ∧ it.new = true) ∧ ∀ L, (∀ q ∈ F, Pl L K q) → ∀ it ∈ A, it.ok S L
 | [], cs, F, i, h, _ => by
  unfold AtL at h
  obtain ⟨rfl, rfl⟩ := h
  exact ⟨[], ⟨rfl, rfl⟩, rfl, fun _ h => (nomatch h), fun _ _ _ h => (nomatch h)⟩
 | o :: r, cs, F, i, h, hs => by
  unfold AtL at h
  obtain ⟨a, t, F1, F2, rfl, rfl, h2, h3⟩ := h
  simp only [List.all_cons, Bool.and_eq_true] at hs
  obtain ⟨A, k1, k2, k3, k4⟩ := AgI.of h3 hs.2
  have gen : ∀ {o : OV}, AtO S bC1 0 i o a F1 → o.sel = true → (∀ cs A, (∃ a t F A', cs = a :: t ∧ A = .own u K o a F :: A' ∧ AgI u K r t A') → AgI u K (o :: r) cs A) →
    ∃ A, AgI u K (o :: r) (a :: t) A ∧ A.flatMap It.foot = F1 ++ F2 ∧ (∀ it ∈ A, it.up = u ∧ it.keys = K ∧ it.new = true) ∧ ∀ L, (∀ q ∈ F1 ++ F2, Pl L K q) → ∀ it ∈ A, it.ok S L := by
   intro o h2 hs hh
   refine ⟨.own u K o a F1 :: A, hh _ _ ⟨a, t, F1, A, rfl, rfl, k1⟩, by rw [List.flatMap_cons, k2]; rfl, fun it hi => ?_, fun L hl it hi => ?_⟩
   ·rcases List.mem_cons.1 hi with rfl | hi
    ·exact ⟨rfl, rfl, rfl⟩
    ·exact k3 it hi
   ·rcases List.mem_cons.1 hi with rfl | hi
    ·exact ⟨AtO.place h2 hs, fun q hq => hl q (List.mem_append.2 (.inl hq))⟩
    ·exact k4 L (fun q hq => hl q (List.mem_append.2 (.inr hq))) it hi
  cases o with
  | c v =>
   unfold AtO at h2
   obtain ⟨h2, rfl⟩ := h2
   exact ⟨A, ⟨a, t, rfl, h2, k1⟩, k2, k3, k4⟩
  | self => cases hs.1
  | _ => exact gen h2 rfl fun _ _ h => h
theorem RsC.of {S : AS} {u : Bool} {K : List Nat} : ∀ {outs : List OA} {l : List AV} {F : List Loc}, AtAs S outs l F → outs.all OA.flat = true → ∃ A, RsC u K outs l A ∧ A.flatMap It.foot = F ∧ (∀ it ∈ A, it.up = u ∧ it.keys = K ∧ it.new = true) ∧ ∀ L, (∀ q ∈ F, Pl L K q) → ∀ it ∈ A, it.ok S L
 | [], l, F, h, _ => by
  obtain ⟨rfl, rfl⟩ := h
  exact ⟨[], ⟨rfl, rfl⟩, rfl, fun _ h => (nomatch h), fun _ _ _ h => (nomatch h)⟩
 | o :: r, l, F, h, hk => by
  obtain ⟨a, t, F1, F2, rfl, rfl, h2, h3⟩ := h
  simp only [List.all_cons, Bool.and_eq_true] at hk
  obtain ⟨A, k1, k2, k3, k4⟩ := RsC.of h3 hk.2
  cases o with
  | x => cases hk.1
  | ag os =>
   obtain ⟨cs, rfl, h2⟩ := h2
   obtain ⟨A1, e1, e2, e3, e4⟩ := AgI.of (u := u) (K := K) h2 hk.1
   refine ⟨A1 ++ A, ⟨cs, t, A1, A, rfl, rfl, e1, k1⟩, by rw [List.flatMap_append, e2, k2], fun it hi => ?_, fun L hl it hi => ?_⟩
   ·rcases List.mem_append.1 hi with hi | hi
    ·exact e3 it hi
    ·exact k3 it hi
   ·rcases List.mem_append.1 hi with hi | hi
    ·exact e4 L (fun q hq => hl q (List.mem_append.2 (.inl hq))) it hi
    ·exact k4 L (fun q hq => hl q (List.mem_append.2 (.inr hq))) it hi
  | r v =>
   obtain ⟨h2, rfl⟩ := h2
   exact ⟨A, ⟨a, t, rfl, h2, k1⟩, k2, k3, k4⟩
  | o v =>
   refine ⟨.own u K v a F1 :: A, ⟨a, t, F1, A, rfl, rfl, k1⟩, by rw [List.flatMap_cons, k2]; rfl, fun it hi => ?_, fun L hl it hi => ?_⟩
   ·rcases List.mem_cons.1 hi with rfl | hi
    ·exact ⟨rfl, rfl, rfl⟩
    ·exact k3 it hi
   ·rcases List.mem_cons.1 hi with rfl | hi
    ·exact ⟨h2, fun q hq => hl q (List.mem_append.2 (.inl hq))⟩
    ·exact k4 L (fun q hq => hl q (List.mem_append.2 (.inr hq))) it hi
theorem RsV.of {S : AS} {u : Bool} {K : List Nat} {res : List OA} {v : AV} {F : List Loc} (h : ResO S res v F) (hk : res.all OA.flat = true) : ∃ A, RsV u K res v A ∧ A.flatMap It.foot = F ∧ (∀ it ∈ A, it.up = u ∧ it.keys = K ∧ it.new = true) ∧ ∀ L, (∀ q ∈ F, Pl L K q) → ∀ it ∈ A, it.ok S L := by
 match res, h, hk with
 | [], h, hk =>
  obtain ⟨l, rfl, hh⟩ := h
  obtain ⟨A, k1, k2⟩ := RsC.of (u := u) (K := K) hh hk
  exact ⟨A, ⟨l, rfl, k1⟩, k2⟩
 | [.x], h, hk => simp [OA.flat] at hk
 | [.ag os], h, hk =>
  obtain ⟨cs, rfl, h2⟩ := h
  simp only [List.all_cons, List.all_nil, Bool.and_true] at hk
  obtain ⟨A, k1, k2⟩ := AgI.of (u := u) (K := K) h2 hk
  exact ⟨A, ⟨cs, rfl, k1⟩, k2⟩
 | [.r w], h, hk =>
  obtain ⟨h1, rfl⟩ := h
  exact ⟨[], ⟨h1, rfl⟩, rfl, fun _ h => (nomatch h), fun _ _ _ h => (nomatch h)⟩
 | [.o w], h, hk =>
  refine ⟨[.own u K w v F], ⟨F, rfl⟩, by simp [It.foot], fun it hi => ?_, fun L hl it hi => ?_⟩
  ·rw [List.mem_singleton.1 hi]; exact ⟨rfl, rfl, rfl⟩
  ·rw [List.mem_singleton.1 hi]; exact ⟨h, hl⟩
 | o :: o' :: r, h, hk =>
  obtain ⟨l, rfl, hh⟩ := h
  obtain ⟨A, k1, k2⟩ := RsC.of (u := u) (K := K) hh hk
  exact ⟨A, by cases o <;> exact ⟨l, rfl, k1⟩, k2⟩
theorem b23 {L : Nat} {f : Fr} {S : AS} {u : Upd} {A1 B N : List It} {F G : List Loc} (hS : StA S L f (A1 ++ B)) (hF : A1.flatMap It.foot = F) (hL : Left S u F G) (hB : (B.all (okO (keysOf A1))) = true) (hN : N.flatMap It.foot = G) (hu : ∀ it ∈ N, it.up = upOf A1 ∧ it.keys = keysOf A1) (hok : (∀ q ∈ G, Pl (L + 1) (keysOf A1) q) → ∀ it ∈ N, it.ok (S.after u) (L + 1)) (hro : f.ro = false ∨ upOf A1 = false) :
  StA (S.after u) L f (N ++ B) := by
 have memA : ∀ it, it ∈ A1 ∨ it ∈ B ↔ it ∈ A1 ++ B := fun it => by rw [List.mem_append]
 have hsep := hS.reg.sep
 rw [List.flatMap_append, hF] at hsep
 have hs1 := List.nodup_append.1 hsep
 have hpl : ∀ q ∈ F, Pl (L + 1) (keysOf A1) q := fun q hq => by
  rw [← hF] at hq
  obtain ⟨it, h1, h2⟩ := ar5 hq
  obtain ⟨_, h3⟩ := It.there (hS.its it ((memA it).1 (.inl h1))) q h2
  rcases h3 with h | h | h
  ·exact .inl h
  ·exact .inr (.inl h)
  ·exact .inr (.inr ⟨h.1, h.2.1, List.mem_flatMap.2 ⟨it, h1, h.2.2⟩⟩)
 have hnew : ∀ q, New S q → q.l = L + 1 ∧ q.k = 0 ∧ q.i ≠ 0 := fun q h => ⟨by rw [h.1, hS.lvl], h.2.1, h.2.2.1⟩
 have hplG : ∀ q ∈ G, Pl (L + 1) (keysOf A1) q := fun q hq => by
  rcases hL.src q hq with h | h
  ·exact hpl q h
  ·exact .inr (.inl (hnew q h))
 have hupF : ∀ q ∈ F, q.l ≤ L → upOf A1 = true ∧ q ∈ f.W := fun q hq hl => by
  rw [← hF] at hq
  obtain ⟨it, h1, h2⟩ := ar5 hq
  obtain ⟨h3, h4⟩ := hS.reg.upr it ((memA it).1 (.inl h1)) q h2 hl
  exact ⟨List.any_eq_true.2 ⟨it, h1, h3⟩, h4⟩
 have hBF : ∀ q ∈ B.flatMap It.foot, q ∉ F ∧ ¬ New S q := fun q hq => by
  refine ⟨fun h => hs1.2.2 q h q hq rfl, fun h => ?_⟩
  obtain ⟨it, h1, h2⟩ := ar5 hq
  obtain ⟨⟨s, h3⟩, _⟩ := It.there (hS.its it ((memA it).1 (.inr h1))) q h2
  rw [h.2.2.2] at h3; cases h3
 refine ⟨by rw [hL.lvl, hS.lvl], by rw [hL.fn, hS.fn], by rw [hL.dfr, hS.dfr], hS.out.after (fun r hr => ?_) hL.frame, fun it hi => ?_, ?_⟩
 ·rcases hL.log r hr with h | h
  ·rcases Nat.lt_or_ge L r.l with hl | hl
   ·exact .inl hl
   ·exact .inr ⟨(hupF r h hl).2, hro.elim id fun e => by rw [(hupF r h hl).1] at e; cases e⟩
  ·exact .inl (by rw [(hnew r h).1]; exact Nat.lt_succ_self L)
 ·rcases List.mem_append.1 hi with hi | hi
  ·exact hok hplG it hi
  ·refine It.stay (hS.its it ((memA it).1 (.inr hi))) (List.all_eq_true.1 hB it hi) (fun q hq => hL.frame q fun hu => ?_) (fun k hk => hL.frame _ fun hu => ?_)
   ·obtain ⟨h1, h2⟩ := hBF q (List.mem_flatMap.2 ⟨it, hi, hq⟩)
    rcases hL.log q hu with h | h
    ·exact h1 h
    ·exact h2 h
   ·rcases hL.log _ hu with h | h
    ·rcases hpl _ h with h | h | h
     ·simp at h
     ·exact h.2.2 rfl
     ·rw [List.contains_iff_mem.2 h.2.2] at hk; cases hk
    ·exact (hnew _ h).2.2 rfl
 ·refine ⟨?_, fun it hi q hq hl => ?_, fun q hq => ?_, hS.reg.upl⟩
  ·rw [List.flatMap_append, hN, List.nodup_append]
   refine ⟨hL.dup, hs1.2.1, fun a ha b hb e => ?_⟩
   subst e
   obtain ⟨h1, h2⟩ := hBF a hb
   rcases hL.src a ha with h | h
   ·exact h1 h
   ·exact h2 h
  ·rcases List.mem_append.1 hi with hi | hi
   ·have hqG : q ∈ G := by rw [← hN]; exact List.mem_flatMap.2 ⟨it, hi, hq⟩
    rcases hL.src q hqG with h | h
    ·obtain ⟨h1, h2⟩ := hupF q h hl
     exact ⟨by rw [(hu it hi).1]; exact h1, h2⟩
    ·have := (hnew q h).1
     omega
   ·exact hS.reg.upr it ((memA it).1 (.inr hi)) q hq hl
  ·obtain ⟨it, h1, h2, h3⟩ := hS.reg.cov q hq
   rcases (memA it).2 h1 with h | h
   ·have hqF : q ∈ F := by rw [← hF]; exact List.mem_flatMap.2 ⟨it, h, h3⟩
    have hqG := hL.cov q hqF
    rw [← hN] at hqG
    obtain ⟨jt, k1, k2⟩ := ar5 hqG
    refine ⟨jt, List.mem_append.2 (.inl k1), ?_, k2⟩
    rw [(hu jt k1).1]
    exact List.any_eq_true.2 ⟨it, h, h2⟩
   ·exact ⟨it, List.mem_append.2 (.inr h), h2, h3⟩
def Mv (f : Fr) (L : Nat) (A : List It) (Q : List It → Prop) : Prop := ∀ S, StA S L f A → ∃ A', Q A' ∧ StA S L f A'
theorem Mv.sub {f : Fr} {L : Nat} {A A' : List It} {idx : List Nat} (hA : SubP A idx A') (hi : idxOk A idx = true) : Mv f L A (fun B => B = A') := fun _ hS => ⟨A', rfl, hS.sub hA hi⟩
section
variable [Cfg] {P : Program}
theorem al5 {f : FuncId} {b : BFn} {pan : Bool} {ins outs res : List OA} (hg : Cfg.given f = none) (hf : ao9 P f = some b) (hn : Nat.ble ins.length b.nt = true) (hki : ins.all OA.given = true) (hkr : res.all OA.keep = true)
  (h : ∀ L S0 F args A, InI ins args F A → GC P b.code L ⟨f, F, S0, true, false⟩ (numE 0 args) A (RetO ⟨f, F, S0, true, false⟩ L pan args b.res outs res)) : bd8 P f ins pan outs res := by
 intro S args F hup hat hnd hlv
 obtain ⟨A, k1, k2, k3, k4⟩ := InI.of hat hki
 obtain ⟨x, T', S', e1, e2, e3, e4, as1, F1, F2, J, e5, e6, e7, e8, e9, e10, e11, e12⟩ := h S.lvl S F (args.map AV.af4) A k1 (bz4 (args.map AV.af4)) (S.enter f) (Ag.args _)
  ⟨rfl, rfl, rfl, FrOk.enter f (.inr rfl), k4 _ _ (fun _ => rfl) (fun q hq => by have := hlv q hq; omega), by
   refine ⟨by rw [k2]; exact hnd, fun it hi q hq _ => ⟨k3 it hi, ?_⟩, fun q hq => ?_, hlv⟩
   ·rw [← k2]; exact List.mem_flatMap.2 ⟨it, hi, hq⟩
   ·have hq : q ∈ F := hq
    rw [← k2] at hq
    obtain ⟨it, h1, h2⟩ := ar5 hq
    exact ⟨it, h1, k3 it h1, h2⟩⟩
 have hun : ∀ r, r.l ≤ S.lvl → r ∉ S'.log → S'.get r = S.get r := by
  rcases e4.un with h | h
  ·cases h
  ·exact h
 obtain ⟨v, u, G1, G2, J', q1, q2, q3, q4, q5⟩ := handUp_o (f := f) (S := S) (S' := S') hup (cN6 hki) hkr hat hlv (fun r h1 h2 => (e4.log r h1 h2).1) hun e7 e8 e9 e10 e11 e12
 refine ⟨ay2 v, u, G1, G2, J', aY3 hg hf (by rw [← List.length_map (f := AV.af4), hat.length]; exact al0 hn) ?_, q2, ResO_of q3, q4, q5⟩
 rw [up_args hup, e1]
 cases pan with
 | false =>
  rcases e2 with rfl | rfl
  ·rw [aX5 e3, e5 rfl]
   unfold bret
   simp only [q1, Option.map_some]
   rfl
  ·rw [aO8 e3, e5 rfl]
   unfold bret
   simp only [q1, Option.map_some]
   rfl
 | true =>
  obtain ⟨w, rfl, rfl⟩ := e6 rfl
  rw [cG4 e3]
  have : ay2 [w] = w := rfl
  rw [this] at q1
  simp only [q1, Option.map_some]
  rfl
variable {L : Nat} {f : Fr} {E : Env} {A : List It} {Φ : ax8} {m : Option (List (Nat × Nat))} {acc : AAcc} {r : List BI} {d : Nat} {bf : BF}
theorem aq4 {l : List BI} {Q : List It → Prop} (h : Mv f L A Q) (k : ∀ A', Q A' → GO1 P m acc l L f E A' Φ) : GO1 P m acc l L f E A Φ := fun c T S hc hT hS => by
 obtain ⟨A', h1, h2⟩ := h S hS
 exact k A' h1 c T S hc hT h2
omit [Cfg] in
theorem g_mv {x : AX} {Q : List It → Prop} (h : Mv f L A Q) (k : ∀ A', Q A' → G x L f E A' Φ) : G x L f E A Φ := fun T S hT hS => by
 obtain ⟨A', h1, h2⟩ := h S hS
 exact k A' h1 T S hT h2
theorem aK7 {c : BC} {Q : List It → Prop} (h : Mv f L A Q) (k : ∀ A', Q A' → GC P c L f E A' Φ) : GC P c L f E A Φ := fun T S hT hS => by
 obtain ⟨A', h1, h2⟩ := h S hS
 exact k A' h1 T S hT h2
theorem aN0 {g0 : FuncId} {xs : List X} {args : List AV} {ins outs res : List OA} {A1 B : List It} (hup : Cfg.up g0 f.fn = true) (hx : optL E xs = some args) (hin : InC ins args A1) (hA : A = A1 ++ B) (hB : (B.all (okO (keysOf A1))) = true) (hni : ins.all nrmO = true) (hko : fitO ins outs = true) (hkr : res.all OA.flat = true) (hc : bd8 P g0 ins false outs res)
  (h : ∀ v A1' A2 J, OutC (upOf A1) (keysOf A1) outs args A1' → RsV (upOf A1) (keysOf A1) res v A2 → GO1 P m (accP acc (none, some (0 :: keysOf A1))) r L f ((d, v) :: E) (A1' ++ (A2 ++ (.jnk (upOf A1) (keysOf A1) J :: B))) Φ) (hro : f.ro = false ∨ upOf A1 = false := by first | exact .inl rfl | exact .inr rfl) :
  GO1 P m acc (⟨some d, none, bf, .cl g0 xs⟩ :: r) L f E A Φ := by
 subst hA
 intro c T S hcc hT hS
 have hat := hin.at (S := S) (L := L + 1) (fun it hi => hS.its it (List.mem_append.2 (.inl hi))) hni
 have hsep := hS.reg.sep
 rw [List.flatMap_append] at hsep
 obtain ⟨v, u, F1, F2, J, k1, k2, k3, k4, k5⟩ := hc S args _ (by rw [hS.fn]; exact hup) hat (List.nodup_append.1 hsep).1 (fun q hq => by
  obtain ⟨it, h1, h2⟩ := ar5 hq
  obtain ⟨_, h3⟩ := It.there (hS.its it (List.mem_append.2 (.inl h1))) q h2
  rw [hS.lvl]
  rcases h3 with h | h | h
  ·omega
  ·omega
  ·omega)
 obtain ⟨A1', a1, a2, a3, a4⟩ := OutC.of (u := upOf A1) (K := keysOf A1) (AtAs.unnrm hin (fun it hi => hS.its it (List.mem_append.2 (.inl hi))) hni hko k2) (cR9 hko)
 obtain ⟨A2, b1, b2, b3, b4⟩ := RsV.of (u := upOf A1) (K := keysOf A1) k3 hkr
 have hS' : StA (S.after u) L f ((A1' ++ (A2 ++ [.jnk (upOf A1) (keysOf A1) J])) ++ B) := by
  refine b23 hS rfl k5 hB (by rw [List.flatMap_append, List.flatMap_append, a2, b2]; simp [It.foot]) (fun it hi => ?_) (fun hpl it hi => ?_) hro
  ·rcases List.mem_append.1 hi with hi | hi
   ·exact ⟨(a3 it hi).1, (a3 it hi).2.1⟩
   ·rcases List.mem_append.1 hi with hi | hi
    ·exact ⟨(b3 it hi).1, (b3 it hi).2.1⟩
    ·rw [List.mem_singleton.1 hi]; exact ⟨rfl, rfl⟩
  ·rcases List.mem_append.1 hi with hi | hi
   ·exact a4 (L + 1) (fun q hq => hpl q (List.mem_append.2 (.inl hq))) it hi
   ·rcases List.mem_append.1 hi with hi | hi
    ·exact b4 (L + 1) (fun q hq => hpl q (List.mem_append.2 (.inr (List.mem_append.2 (.inl hq))))) it hi
    ·rw [List.mem_singleton.1 hi]
     exact ⟨k4, fun q hq => hpl q (List.mem_append.2 (.inr (List.mem_append.2 (.inr hq))))⟩
 rw [List.append_assoc, List.append_assoc, List.singleton_append] at hS'
 have hkey : okK (L + 1) (some (0 :: keysOf A1)) u.kind := by
  have hk : ∀ q ∈ ulog u, keyOf (L + 1) q ∈ 0 :: keysOf A1 := fun q hq => by
   rcases k5.log q hq with h | h
   ·obtain ⟨it, h1, h2⟩ := ar5 h
    obtain ⟨_, h3⟩ := It.there (hS.its it (List.mem_append.2 (.inl h1))) q h2
    unfold keyOf
    split
    ·rename_i e
     rcases h3 with h | h | h
     ·omega
     ·exact absurd e.2 h.2.2
     ·exact List.mem_cons_of_mem _ (List.mem_flatMap.2 ⟨it, h1, h.2.2⟩)
    ·exact List.mem_cons_self ..
   ·rw [keyOf_up (.inr ⟨by rw [h.1, hS.lvl], h.2.1, h.2.2.1⟩)]
    exact List.mem_cons_self ..
  cases u with
  | none => exact .inl rfl
  | some x => exact .inr ⟨x.2, rfl, .inr (by simp), hk⟩
 obtain ⟨x1, T', S', q3, q4⟩ := h v A1' A2 J a1 b1 _ (T.put (some d) v) (S.after u) (hcc.push (a := (none, some (0 :: keysOf A1))) (f := ⟨.all, u.kind⟩) ⟨trivial, hkey⟩) (hT.put d v) hS'
 refine ⟨x1, T', S', ?_, q4⟩
 rw [b_cl, bW5 hT hx, hS.fn, hup, Bool.not_true, Bool.false_and, aN7, k1]
 rw [show outE false v = AE.ret v from rfl, bL2]
 exact q3
end
end Go.Proofs.YtbinfgmdamlkbaaGreatDoor
namespace Go.Proofs.YtbinfgmdamlkbaaGreatDoor
open Go.RowKit
def CV : V → AV → Prop
 | .int k n, a => a = .lit (.int k n)
 | .bool b, a => a = .lit (.bool b)
 | .str l, a => a = .lit (.string (bs l))
 | v, a => RelC v a
theorem CV.rel {v : V} {a : AV} : CV v a ↔ RelC v a := by
 cases v <;> simp only [CV, RelC]
def OpnC (up : Bool) (ks : List Nat) (q : Loc) (g : Nat) : Nat → List OV → List AV → List It → Prop
 | _, [], cs, N => cs = [] ∧ N = []
 | i, .c v :: r, cs, N => ∃ a t, cs = a :: t ∧ CV v a ∧ OpnC up ks q g (i + 1) r t N
 | i, .self :: r, cs, N => ∃ a t, cs = a :: t ∧ (a = .lit (.pointer none) ∨ a = .ptr q g 0 i) ∧ OpnC up ks q g (i + 1) r t N
 | i, o :: r, cs, N => ∃ a t F N', cs = a :: t ∧ N = .own up ks o a F :: N' ∧ OpnC up ks q g (i + 1) r t N'
def selfO : OV → Bool
 | .self => true
 | _ => false
theorem AtO.noself {S : AS} {p p' : Loc} {g g' i i' : Nat} {o : OV} {a : AV} {F : List Loc} (h : AtO S p g i o a F) (ho : selfO o = false) : AtO S p' g' i' o a F := by
 cases o with
 | self => cases ho
 | _ => unfold AtO at h ⊢; exact h
theorem OpnC.of {S : AS} {L : Nat} {up : Bool} {ks : List Nat} {q : Loc} {g : Nat} : ∀ {os : List OV} {i : Nat} {cs : List AV} {F : List Loc}, AtL S q g i os cs F → (∀ x ∈ F, Pl L ks x) → ∃ N, OpnC up ks q g i os cs N ∧ N.flatMap It.foot = F ∧ (∀ it ∈ N, it.ok S L) ∧ ∀ it ∈ N, it.up = up
 | [], i, cs, F, h, _ => by
  unfold AtL at h
  obtain ⟨rfl, rfl⟩ := h
  exact ⟨[], ⟨rfl, rfl⟩, rfl, fun _ h => (nomatch h), fun _ h => (nomatch h)⟩
 | o :: r, i, cs, F, h, hF => by
  unfold AtL at h
  obtain ⟨a, t, F1, F2, rfl, rfl, h2, h3⟩ := h
  obtain ⟨N, k1, k2, k3, k4⟩ := OpnC.of (up := up) (ks := ks) h3 fun x hx => hF x (List.mem_append.2 (.inr hx))
  have own : selfO o = false → ∃ N, (∃ a' t' F' N', a :: t = a' :: t' ∧ N = .own up ks o a' F' :: N' ∧ OpnC up ks q g (i + 1) r t' N') ∧ N.flatMap It.foot = F1 ++ F2 ∧ (∀ it ∈ N, it.ok S L) ∧ ∀ it ∈ N, it.up = up := fun ho => by
   refine ⟨.own up ks o a F1 :: N, ⟨a, t, F1, N, rfl, rfl, k1⟩, by rw [List.flatMap_cons, k2]; rfl, fun it hi => ?_, fun it hi => ?_⟩
   ·rcases List.mem_cons.1 hi with rfl | hi
    ·exact ⟨h2.noself ho, fun x hx => hF x (List.mem_append.2 (.inl hx))⟩
    ·exact k3 it hi
   ·rcases List.mem_cons.1 hi with rfl | hi
    ·rfl
    ·exact k4 it hi
  cases o with
  | c v =>
   unfold AtO at h2
   obtain ⟨h2, rfl⟩ := h2
   exact ⟨N, ⟨a, t, rfl, CV.rel.2 h2, k1⟩, k2, k3, k4⟩
  | self =>
   unfold AtO at h2
   obtain ⟨h2, rfl⟩ := h2
   exact ⟨N, ⟨a, t, rfl, h2, k1⟩, k2, k3, k4⟩
  | bb te l => exact own rfl
  | gs n e es => exact own rfl
  | li n e es => exact own rfl
  | rw x n e es => exact own rfl
  | it s pos => exact own rfl
  | ptr t os => exact own rfl
  | mp ks vs => exact own rfl
def ShtC (q : Loc) (g : Nat) : Nat → List OV → List AV → List It → Prop
 | _, [], cs, N => cs = [] ∧ N = []
 | i, .c v :: r, a :: t, N => CV v a ∧ ShtC q g (i + 1) r t N
 | i, .self :: r, a :: t, N => (a = .lit (.pointer none) ∨ a = .ptr q g 0 i) ∧ ShtC q g (i + 1) r t N
 | i, o :: r, a :: t, .own _ _ o' a' _ :: N => o = o' ∧ a = a' ∧ ShtC q g (i + 1) r t N
 | _, _, _, _ => False
theorem ShtC.at {S : AS} {L : Nat} {q : Loc} {g : Nat} : ∀ {os : List OV} {i : Nat} {cs : List AV} {N : List It}, ShtC q g i os cs N → (∀ it ∈ N, it.ok S L) → AtL S q g i os cs (N.flatMap It.foot)
 | [], i, cs, N, h, _ => by
  unfold ShtC at h
  obtain ⟨rfl, rfl⟩ := h
  unfold AtL
  exact ⟨rfl, rfl⟩
 | o :: r, i, cs, N, h, hN => by
  have own : selfO o = false → ∀ {a t a' : _} {u ks F N'}, cs = a :: t → N = .own u ks o a' F :: N' → a = a' → ShtC q g (i + 1) r t N' → AtL S q g i (o :: r) cs (N.flatMap It.foot) := fun ho {a t a' u ks F N'} e1 e2 e3 h4 => by
   subst e1 e2 e3
   unfold AtL
   exact ⟨a, t, F, _, rfl, rfl, (hN _ (List.mem_cons_self ..)).1.noself ho, ShtC.at h4 fun it hi => hN it (List.mem_cons_of_mem _ hi)⟩
  cases o with
  | c v =>
   cases cs with
   | nil => unfold ShtC at h; exact h.elim
   | cons a t =>
    unfold ShtC at h
    unfold AtL
    exact ⟨a, t, [], _, rfl, rfl, by unfold AtO; exact ⟨CV.rel.1 h.1, rfl⟩, ShtC.at h.2 hN⟩
  | self =>
   cases cs with
   | nil => unfold ShtC at h; exact h.elim
   | cons a t =>
    unfold ShtC at h
    unfold AtL
    exact ⟨a, t, [], _, rfl, rfl, by unfold AtO; exact ⟨h.1, rfl⟩, ShtC.at h.2 hN⟩
  | bb te l =>
   cases cs with
   | nil => unfold ShtC at h; exact h.elim
   | cons a t =>
    cases N with
    | nil => unfold ShtC at h; exact h.elim
    | cons it N =>
     cases it with
     | own u ks o' a' F => unfold ShtC at h; obtain ⟨rfl, h2, h3⟩ := h; exact own rfl rfl rfl h2 h3
     | _ => unfold ShtC at h; exact h.elim
  | gs n e es =>
   cases cs with
   | nil => unfold ShtC at h; exact h.elim
   | cons a t =>
    cases N with
    | nil => unfold ShtC at h; exact h.elim
    | cons it N =>
     cases it with
     | own u ks o' a' F => unfold ShtC at h; obtain ⟨rfl, h2, h3⟩ := h; exact own rfl rfl rfl h2 h3
     | _ => unfold ShtC at h; exact h.elim
  | li n e es =>
   cases cs with
   | nil => unfold ShtC at h; exact h.elim
   | cons a t =>
    cases N with
    | nil => unfold ShtC at h; exact h.elim
    | cons it N =>
     cases it with
     | own u ks o' a' F => unfold ShtC at h; obtain ⟨rfl, h2, h3⟩ := h; exact own rfl rfl rfl h2 h3
     | _ => unfold ShtC at h; exact h.elim
  | it s pos =>
   cases cs with
   | nil => unfold ShtC at h; exact h.elim
   | cons a t =>
    cases N with
    | nil => unfold ShtC at h; exact h.elim
    | cons it N =>
     cases it with
     | own u ks o' a' F => unfold ShtC at h; obtain ⟨rfl, h2, h3⟩ := h; exact own rfl rfl rfl h2 h3
     | _ => unfold ShtC at h; exact h.elim
  | rw x n e es =>
   cases cs with
   | nil => unfold ShtC at h; exact h.elim
   | cons a t =>
    cases N with
    | nil => unfold ShtC at h; exact h.elim
    | cons it N =>
     cases it with
     | own u ks o' a' F => unfold ShtC at h; obtain ⟨rfl, h2, h3⟩ := h; exact own rfl rfl rfl h2 h3
     | _ => unfold ShtC at h; exact h.elim
  | ptr ty os =>
   cases cs with
   | nil => unfold ShtC at h; exact h.elim
   | cons a t =>
    cases N with
    | nil => unfold ShtC at h; exact h.elim
    | cons it N =>
     cases it with
     | own u ks o' a' F => unfold ShtC at h; obtain ⟨rfl, h2, h3⟩ := h; exact own rfl rfl rfl h2 h3
     | _ => unfold ShtC at h; exact h.elim
  | mp kk vs =>
   cases cs with
   | nil => unfold ShtC at h; exact h.elim
   | cons a t =>
    cases N with
    | nil => unfold ShtC at h; exact h.elim
    | cons it N =>
     cases it with
     | own u ks o' a' F => unfold ShtC at h; obtain ⟨rfl, h2, h3⟩ := h; exact own rfl rfl rfl h2 h3
     | _ => unfold ShtC at h; exact h.elim
theorem RegA.swap {f : Fr} {L : Nat} {A1 A2 B : List It} (h : RegA f L (A1 ++ B)) (e : A2.flatMap It.foot = A1.flatMap It.foot) (hu : ∀ it ∈ A2, it.foot ≠ [] → it.up = A1.any It.up) : RegA f L (A2 ++ B) := by
 have hsep := h.sep
 refine ⟨by rw [List.flatMap_append] at hsep ⊢; rw [e]; exact hsep, fun it hi q hq hl => ?_, fun q hq => ?_, h.upl⟩
 ·rcases List.mem_append.1 hi with hi | hi
  ·have : q ∈ A1.flatMap It.foot := by rw [← e]; exact List.mem_flatMap.2 ⟨it, hi, hq⟩
   obtain ⟨jt, h1, h2⟩ := ar5 this
   obtain ⟨h3, h4⟩ := h.upr jt (List.mem_append.2 (.inl h1)) q h2 hl
   exact ⟨by rw [hu it hi (fun e => by rw [e] at hq; cases hq)]; exact List.any_eq_true.2 ⟨jt, h1, h3⟩, h4⟩
  ·exact h.upr it (List.mem_append.2 (.inr hi)) q hq hl
 ·obtain ⟨it, h1, h2, h3⟩ := h.cov q hq
  rcases List.mem_append.1 h1 with h1 | h1
  ·have : q ∈ A2.flatMap It.foot := by rw [e]; exact List.mem_flatMap.2 ⟨it, h1, h3⟩
   obtain ⟨jt, k1, k2⟩ := ar5 this
   exact ⟨jt, List.mem_append.2 (.inl k1), by rw [hu jt k1 (fun e => by rw [e] at k2; cases k2)]; exact List.any_eq_true.2 ⟨it, h1, h2⟩, k2⟩
  ·exact ⟨it, List.mem_append.2 (.inr h1), h2, h3⟩
theorem StA.swap {S : AS} {L : Nat} {f : Fr} {A1 A2 B : List It} (h : StA S L f (A1 ++ B)) (e : A2.flatMap It.foot = A1.flatMap It.foot) (hu : ∀ it ∈ A2, it.foot ≠ [] → it.up = A1.any It.up) (hok : (∀ it ∈ A1, it.ok S (L + 1)) → ∀ it ∈ A2, it.ok S (L + 1)) : StA S L f (A2 ++ B) :=
 ⟨h.lvl, h.fn, h.dfr, h.out, fun it hi => by
  rcases List.mem_append.1 hi with hi | hi
  ·exact hok (fun jt hj => h.its jt (List.mem_append.2 (.inl hj))) it hi
  ·exact h.its it (List.mem_append.2 (.inr hi)), h.reg.swap e hu⟩
theorem cI3 {it : It} : ∀ {A : List It} {i : Nat} {a : It}, A[i]? = some a → it.foot = a.foot → (A.set i it).flatMap It.foot = A.flatMap It.foot
 | [], _, _, e, _ => by cases e
 | b :: r, 0, a, e, h => by cases e; simp [List.flatMap_cons, h]
 | b :: r, i + 1, a, e, h => by
  rw [List.set_cons_succ, List.flatMap_cons, List.flatMap_cons, cI3 (A := r) (i := i) e h]
theorem RegA.set {f : Fr} {L : Nat} {A : List It} {i : Nat} {a it : It} (h : RegA f L A) (hA : A[i]? = some a) (hf : it.foot = a.foot) (hu : it.up = a.up) : RegA f L (A.set i it) := by
 refine ⟨by rw [cI3 hA hf]; exact h.sep, fun jt hj q hq hl => ?_, fun q hq => ?_, h.upl⟩
 ·rcases List.mem_or_eq_of_mem_set hj with hj | rfl
  ·exact h.upr jt hj q hq hl
  ·rw [hf] at hq
   rw [hu]
   exact h.upr a (List.mem_of_getElem? hA) q hq hl
 ·obtain ⟨jt, h1, h2, h3⟩ := h.cov q hq
  obtain ⟨j, hj⟩ := List.getElem?_of_mem h1
  by_cases e : i = j
  ·subst e
   rw [hA] at hj; cases hj
   have hlt : i < A.length := (List.getElem?_eq_some_iff.1 hA).1
   exact ⟨it, List.mem_of_getElem? (i := i) (by rw [List.getElem?_set_self hlt]), by rw [hu]; exact h2, by rw [hf]; exact h3⟩
  ·exact ⟨jt, List.mem_of_getElem? (i := j) (by rw [List.getElem?_set_ne e]; exact hj), h2, h3⟩
theorem cO3 {A : List It} (h : (A.flatMap It.foot).Nodup) {i j : Nat} {a b : It} (hi : A[i]? = some a) (hj : A[j]? = some b) (hne : i ≠ j) : ∀ q ∈ b.foot, q ∉ a.foot := fun q hq hq' => ce7 h hi hj hne q hq' hq
theorem Pl.key {L : Nat} {ks : List Nat} {q : Loc} (h : Pl L ks q) : keyOf L q ∈ 0 :: ks := by
 unfold keyOf
 split
 ·rename_i e
  rcases h with h | h | h
  ·omega
  ·exact absurd e.2 h.2.2
  ·exact List.mem_cons_of_mem _ h.2.2
 ·exact List.mem_cons_self ..
theorem It.cf4 {it : It} {k : Nat} (h : it.free k = true) : k ∉ it.keys := fun hm => by
 have key : ∀ ks : List Nat, (!ks.contains k) = true → k ∈ ks → False := fun ks h hm => by
  rw [List.contains_iff_mem.2 hm] at h
  cases h
 cases it with
 | own u ks o a F => exact key ks h hm
 | cel u ks p g t cs => exact key ks h hm
 | jnk u ks J => exact key ks h hm
 | _ => cases hm
theorem Pl.own (L k : Nat) : Pl L [k] ⟨L, k, 0⟩ := .inr (.inr ⟨rfl, rfl, List.mem_singleton.2 rfl⟩)
theorem StA.wr {S : AS} {L : Nat} {f : Fr} {A : List It} (h : StA S L f A) {it : It} (hi : it ∈ A) {q : Loc} (hq : q ∈ it.foot) (hro : f.ro = false ∨ it.up = false) : L < q.l ∨ q ∈ f.W ∧ f.ro = false := by
 rcases Nat.lt_or_ge L q.l with hl | hl
 ·exact .inl hl
 ·exact .inr ⟨(h.reg.upr it hi q hq hl).2, hro.elim id fun e => by rw [(h.reg.upr it hi q hq hl).1] at e; cases e⟩
theorem FrOk.put {F : Fr} {S : AS} {L : Nat} (h : FrOk F S L) {p : Loc} (hp : L < p.l ∨ p ∈ F.W ∧ F.ro = false) (s : ad4) : FrOk F (S.set p s) L := by
 refine ⟨h.srt.put, fun r hr hl => ?_, h.un.imp id fun h r hl hr => ?_⟩
 ·rcases af2.1 hr with hr | rfl
  ·exact h.log r hr hl
  ·rcases hp with hp | hp
   ·omega
   ·exact hp
 ·have hne : r ≠ p := fun e => hr (af2.2 (.inr e))
  rw [AS.ag2 _ _ hne]
  exact h r hl fun hm => hr (af2.2 (.inl hm))
theorem StA.setI {S : AS} {L : Nat} {f : Fr} {A : List It} {i : Nat} {a it : It} (h : StA S L f A) (hA : A[i]? = some a) {p : Loc} (hp : p ∈ a.foot) {s : ad4} (hok : it.ok (S.set p s) (L + 1)) (hf : it.foot = a.foot) (hu : it.up = a.up) (ho : (A.all fun jt => okO a.keys jt) = true) (hro : f.ro = false ∨ a.up = false ∨ L < p.l) : StA (S.set p s) L f (A.set i it) := by
 have ha := List.mem_of_getElem? hA
 obtain ⟨_, hpl⟩ := It.there (h.its a ha) p hp
 refine ⟨h.lvl, h.fn, h.dfr, h.out.put (hro.elim (fun e => h.wr ha hp (.inl e)) fun e => e.elim (fun e => h.wr ha hp (.inr e)) .inl) s, fun jt hj => ?_, h.reg.set hA hf hu⟩
 obtain ⟨j, hj⟩ := List.getElem?_of_mem hj
 by_cases e : i = j
 ·subst e
  rw [List.getElem?_set_self (List.getElem?_eq_some_iff.1 hA).1] at hj
  cases hj
  exact hok
 ·rw [List.getElem?_set_ne e] at hj
  refine It.stay (K := a.keys) (h.its jt (List.mem_of_getElem? hj)) (List.all_eq_true.1 ho jt (List.mem_of_getElem? hj)) (fun q hq => ?_) (fun k hk => ?_)
  ·exact AS.ag2 _ _ fun e' => cO3 h.reg.sep hA hj e q hq (e' ▸ hp)
  ·refine AS.ag2 _ _ fun e' => ?_
   rcases hpl with h1 | h1 | h1
   ·rw [← e'] at h1; simp at h1
   ·exact h1.2.2 (by rw [← e'])
   ·rw [← e'] at h1
    rw [List.contains_iff_mem.2 h1.2.2] at hk; cases hk
section
variable {L : Nat} {f : Fr} {A B : List It} {up : Bool} {ks : List Nat} {p : Loc} {g : Nat} {t : TypeId} {cs : List AV}
theorem Cx.co {S : AS} {l : Nat} {a : AV} (h : Cx S l a) (hd : AV.deep l a = []) : Co l a := by
 cases h with
 | c h => exact .c h
 | p h => exact .p h
 | pd h => simp only [AV.deep, if_neg (Nat.not_le.2 h)] at hd; cases hd
 | m h => exact .m h
 | md h => simp only [AV.deep, if_neg (Nat.not_le.2 h)] at hd; cases hd
 | r h => exact .r h
 | rd h => simp only [AV.deep, if_neg (Nat.not_le.2 h)] at hd; cases hd
 | t h h' => exact .t h h'
 | d h h' => simp only [AV.deep, if_neg (Nat.not_le.2 h')] at hd; cases hd
theorem ch8 {l : Nat} {a : AV} {x : Loc} : ∀ {cs : List AV}, a ∈ cs → x ∈ AV.deep l a → x ∈ AV.am1 l cs
 | [], h, _ => by cases h
 | b :: r, h, hx => by
  simp only [AV.am1]
  rcases List.mem_cons.1 h with rfl | h
  ·exact List.mem_append.2 (.inl hx)
  ·exact List.mem_append.2 (.inr (ch8 h hx))
theorem b26 {cs ys : List AV} {off : Nat} {a : AV} (h : a ∈ splice cs off ys) : a ∈ cs ∨ a ∈ ys := by
 unfold splice at h
 simp only [List.mem_append] at h
 rcases h with (h | h) | h
 ·exact .inl (List.mem_of_mem_take h)
 ·exact .inr h
 ·exact .inl (List.mem_of_mem_drop h)
theorem own_co {S : AS} {L : Nat} {up : Bool} {ks : List Nat} {o : OV} {a : AV} {F : List Loc} (h : It.ok S L (.own up ks o a F)) : Co L a := by
 obtain ⟨h1, h2⟩ := h
 obtain ⟨c1, c2, _⟩ := AtO.reg (l := L) (p := bC1) (g := 0) (.inl (Nat.zero_le _)) h1
 refine c1.co (List.eq_nil_iff_forall_not_mem.2 fun x hx => ?_)
 have e1 := c1.gt x hx
 rcases c2 x hx with e2 | rfl
 ·rcases h2 x e2 with h | h | h
  ·omega
  ·omega
  ·omega
 ·simp at e1
theorem Mv.opn {os : List OV} {a : AV} {F : List Loc} (hA : A = .own up ks (.ptr t os) a F :: B) : Mv f L A (fun A' => ∃ q g cs N, a = .ptr q g 0 0 ∧ OpnC up ks q g 0 os cs N ∧ A' = .cel up ks q g t cs :: (N ++ B)) := by
 subst hA
 intro S hS
 obtain ⟨h1, h2⟩ := hS.its _ (List.mem_cons_self ..)
 unfold AtO at h1
 obtain ⟨q, g, cs, F', e1, rfl, h3, h4⟩ := h1
 obtain ⟨N, k1, k2, k3, k4⟩ := OpnC.of (up := up) (ks := ks) (L := L + 1) h4 fun x hx => h2 x (List.mem_cons_of_mem _ hx)
 refine ⟨_, ⟨q, g, cs, N, e1, k1, rfl⟩, ?_⟩
 refine StA.swap (A1 := [.own up ks (.ptr t os) a (q :: F')]) (A2 := .cel up ks q g t cs :: N) (B := B) hS (by simp [It.foot, k2]) (fun it hi _ => ?_) (fun _ it hi => ?_)
 ·rcases List.mem_cons.1 hi with rfl | hi
  ·simp [It.up]
  ·rw [k4 it hi]; simp [It.up]
 ·rcases List.mem_cons.1 hi with rfl | hi
  ·refine ⟨h3, h2 q (List.mem_cons_self ..), fun a ha => ?_⟩
   have hlv : ∀ x ∈ q :: F', x.l ≤ L + 1 := fun x hx => by
    rcases h2 x hx with h | h | h
    ·omega
    ·omega
    ·omega
   obtain ⟨c1, c2, _⟩ := AtL.reg (l := L + 1) (.inl (hlv q (List.mem_cons_self ..))) h4
   refine (c1 a ha).co (List.eq_nil_iff_forall_not_mem.2 fun x hx => ?_)
   have e1 := (c1 a ha).gt x hx
   have e2 := c2 x (ch8 ha hx)
   rcases e2 with e2 | rfl
   ·have := hlv x (List.mem_cons_of_mem _ e2); omega
   ·have := hlv x (List.mem_cons_self ..); omega
  ·exact k3 it hi
theorem Mv.opn2 {os : List OV} {F : List Loc} (hA : A = .own up ks (.ptr t os) (.ptr p g 0 0) F :: B) : Mv f L A (fun A' => ∃ cs N, OpnC up ks p g 0 os cs N ∧ A' = .cel up ks p g t cs :: (N ++ B)) := by
 intro S hS
 obtain ⟨A', ⟨q, g', cs, N, e, h1, h2⟩, h3⟩ := Mv.opn hA S hS
 injection e with e1 e2
 subst e1 e2
 exact ⟨A', ⟨cs, N, h1, h2⟩, h3⟩
theorem Mv.sht {os : List OV} {N : List It} (hA : A = .cel up ks p g t cs :: (N ++ B)) (h0 : ShtC p g 0 os cs N) : Mv f L A (fun A' => ∃ F, A' = .own (up || N.any It.up) (ks ++ N.flatMap It.keys) (.ptr t os) (.ptr p g 0 0) F :: B) := by
 subst hA
 intro S hS
 refine ⟨_, ⟨p :: N.flatMap It.foot, rfl⟩, ?_⟩
 refine StA.swap (A1 := .cel up ks p g t cs :: N) (A2 := [.own (up || N.any It.up) (ks ++ N.flatMap It.keys) (.ptr t os) (.ptr p g 0 0) (p :: N.flatMap It.foot)]) (B := B) hS (by simp [It.foot]) (fun it hi _ => ?_) (fun hok it hi => ?_)
 ·rw [List.mem_singleton.1 hi]
  simp [It.up, List.any_cons]
 ·rw [List.mem_singleton.1 hi]
  obtain ⟨h1, h2, _⟩ := hok _ (List.mem_cons_self ..)
  refine ⟨?_, fun q hq => ?_⟩
  ·unfold AtO
   exact ⟨p, g, cs, _, rfl, rfl, h1, h0.at fun it hi => hok it (List.mem_cons_of_mem _ hi)⟩
  ·rcases List.mem_cons.1 hq with rfl | hq
   ·rcases h2 with h | h | h
    ·exact .inl h
    ·exact .inr (.inl h)
    ·exact .inr (.inr ⟨h.1, h.2.1, List.mem_append.2 (.inl h.2.2)⟩)
   ·obtain ⟨it, k1, k2⟩ := ar5 hq
    obtain ⟨_, k3⟩ := It.there (hok it (List.mem_cons_of_mem _ k1)) q k2
    rcases k3 with h | h | h
    ·exact .inl h
    ·exact .inr (.inl h)
    ·exact .inr (.inr ⟨h.1, h.2.1, List.mem_append.2 (.inr (List.mem_flatMap.2 ⟨it, k1, h.2.2⟩))⟩)
theorem StA.addF {S : AS} {it : It} (hS : StA S L f A) (hok : it.ok S (L + 1)) (hf : it.foot = []) : StA S L f (it :: A) := by
 refine ⟨hS.lvl, hS.fn, hS.dfr, hS.out, fun jt hj => ?_, by rw [List.flatMap_cons, hf]; exact hS.reg.sep, fun jt hj q hq hl => ?_, fun q hq => ?_, hS.reg.upl⟩
 ·rcases List.mem_cons.1 hj with rfl | hj
  ·exact hok
  ·exact hS.its jt hj
 ·rcases List.mem_cons.1 hj with rfl | hj
  ·rw [hf] at hq; cases hq
  ·exact hS.reg.upr jt hj q hq hl
 ·obtain ⟨jt, h1, h2, h3⟩ := hS.reg.cov q hq
  exact ⟨jt, List.mem_cons_of_mem _ h1, h2, h3⟩
theorem Mv.addN {ks : List Nat} {n : Nat} {e : TypeId} {a : AV} (ha : ∃ p, a = .lit (.slice p 0 0)) : Mv f L A (fun A' => A' = .own false ks (.gs n e []) a [] :: A) := fun _ hS =>
 ⟨_, rfl, hS.addF (it := .own false ks (.gs n e []) a []) ⟨by unfold AtO; exact .inl ⟨rfl, ha, rfl⟩, fun q hq => (nomatch hq)⟩ rfl⟩
theorem Mv.addF {ks : List Nat} {n : Nat} {e : TypeId} {a : AV} {es : List (List V)} (hr : RelC (.sl n es) a) (ha : ∃ ys, a = .list .full n ys) : Mv f L A (fun A' => A' = .own false ks (.gs n e es) a [] :: A) := fun _ hS =>
 ⟨_, rfl, hS.addF (it := .own false ks (.gs n e es) a []) ⟨(by
  unfold AtO
  obtain ⟨ys, rfl⟩ := ha
  unfold RelC at hr
  rcases hr with ⟨_, p, e⟩ | ⟨sp, zs, e, _, hr⟩
  ·cases e
  ·cases e
   exact .inr (.inl ⟨ys, rfl, hr, rfl⟩)), fun q hq => (nomatch hq)⟩ rfl⟩
theorem Mv.newJ : Mv f L A (fun A' => A' = .jnk false [] [] :: A) := fun _ hS =>
 ⟨_, rfl, hS.addF (it := .jnk false [] []) ⟨fun q hq => (nomatch hq), fun q hq => (nomatch hq)⟩ rfl⟩
def leafO : OV → Bool
 | .gs _ _ _ => true
 | .li _ _ _ => true
 | .rw _ _ _ _ => true
 | .it _ _ => true
 | _ => false
theorem AtO.junk {S : AS} {p : Loc} {g i : Nat} {o : OV} {a : AV} {F : List Loc} (h : AtO S p g i o a F) (ho : leafO o = true) : aF9 S F := by
 have gs : ∀ {n e es}, Gs S n e es a F → aF9 S F := fun h => by
  rcases h with ⟨_, _, rfl⟩ | ⟨_, _, _, rfl⟩ | ⟨q, k, ys, _, _, h3, rfl⟩
  ·exact fun q hq => (nomatch hq)
  ·exact fun q hq => (nomatch hq)
  ·intro x hx
   rw [List.mem_singleton] at hx
   subst hx
   exact ⟨_, h3, .tok⟩
 cases o with
 | gs n e es => unfold AtO at h; exact gs h
 | li n e es =>
  unfold AtO at h
  rcases h with h | ⟨_, _, _, rfl⟩
  ·exact gs h
  ·exact fun q hq => (nomatch hq)
 | it s pos =>
  unfold AtO at h
  obtain ⟨q, k, _, rfl, h3⟩ := h
  intro x hx
  rw [List.mem_singleton] at hx
  subst hx
  exact ⟨_, h3, .itr⟩
 | rw x0 n e es =>
  unfold AtO at h
  rcases h with ⟨_, h⟩ | ⟨q, k, ys, zs, _, h2, h3, rfl⟩
  ·exact gs h
  ·intro x hx
   rw [List.mem_singleton] at hx
   subst hx
   exact ⟨_, h3, .row (aM3 (aQ5 h2.1.closed h2.2.2.1))⟩
 | _ => cases ho
theorem Pl.app {L : Nat} {ks ks' : List Nat} {q : Loc} (h : Pl L ks q) : Pl L (ks ++ ks') q ∧ Pl L (ks' ++ ks) q := by
 rcases h with h | h | h
 ·exact ⟨.inl h, .inl h⟩
 ·exact ⟨.inr (.inl h), .inr (.inl h)⟩
 ·exact ⟨.inr (.inr ⟨h.1, h.2.1, List.mem_append.2 (.inl h.2.2)⟩), .inr (.inr ⟨h.1, h.2.1, List.mem_append.2 (.inr h.2.2)⟩)⟩
theorem Mv.toJ {o : OV} {a : AV} {F J : List Loc} {u : Bool} {K : List Nat} (hA : A = .own up ks o a F :: .jnk u K J :: B) (ho : leafO o = true) : Mv f L A (fun A' => ∃ J', A' = .jnk (up || u) (ks ++ K) J' :: B) := by
 subst hA
 intro S hS
 refine ⟨_, ⟨F ++ J, rfl⟩, StA.swap (A1 := [.own up ks o a F, .jnk u K J]) (A2 := [.jnk (up || u) (ks ++ K) (F ++ J)]) (B := B) hS (by simp [It.foot]) (fun it hi _ => ?_) (fun hok it hi => ?_)⟩
 ·rw [List.mem_singleton.1 hi]; simp [It.up]
 ·rw [List.mem_singleton.1 hi]
  have h1 := hok _ (List.mem_cons_self ..)
  have h2 := hok _ (List.mem_cons_of_mem _ (List.mem_cons_self ..))
  refine ⟨fun q hq => ?_, fun q hq => ?_⟩
  ·rcases List.mem_append.1 hq with hq | hq
   ·exact h1.1.junk ho q hq
   ·exact h2.1 q hq
  ·rcases List.mem_append.1 hq with hq | hq
   ·exact (h1.2 q hq).app.1
   ·exact (h2.2 q hq).app.2
theorem Mv.jj {J J' : List Loc} {u : Bool} {K : List Nat} (hA : A = .jnk up ks J :: .jnk u K J' :: B) : Mv f L A (fun A' => ∃ J', A' = .jnk (up || u) (ks ++ K) J' :: B) := by
 subst hA
 intro S hS
 refine ⟨_, ⟨J ++ J', rfl⟩, StA.swap (A1 := [.jnk up ks J, .jnk u K J']) (A2 := [.jnk (up || u) (ks ++ K) (J ++ J')]) (B := B) hS (by simp [It.foot]) (fun it hi _ => ?_) (fun hok it hi => ?_)⟩
 ·rw [List.mem_singleton.1 hi]; simp [It.up]
 ·rw [List.mem_singleton.1 hi]
  have h1 := hok _ (List.mem_cons_self ..)
  have h2 := hok _ (List.mem_cons_of_mem _ (List.mem_cons_self ..))
  refine ⟨fun q hq => ?_, fun q hq => ?_⟩
  ·rcases List.mem_append.1 hq with hq | hq
   ·exact h1.1 q hq
   ·exact h2.1 q hq
  ·rcases List.mem_append.1 hq with hq | hq
   ·exact (h1.2 q hq).app.1
   ·exact (h2.2 q hq).app.2
end
section
variable [Cfg] {P : Program} {L : Nat} {f : Fr} {E : Env} {A B : List It} {Φ : ax8} {m : Option (List (Nat × Nat))} {acc : AAcc} {r l : List BI} {d : Nat} {bf : BF}
variable {up : Bool} {ks : List Nat} {p : Loc} {g : Nat} {t : TypeId} {cs : List AV}
omit [Cfg] in
theorem cz6 {x : X} {off i : Nat} {T : BT} {S : AS} {dd : Option Nat} (hT : Ag E T) (hS : StA S L f A) (hx : opd E x = some (.ptr p g 0 off)) (hA : A[i]? = some (.cel up ks p g t cs)) : okK (L + 1) (some (0 :: ks)) (BF.foot S T dd (.at x)) := by
 refine .inr ⟨[p], ?_, by simp, fun q hq => ?_⟩
 ·show ah4 (x.at T) = _
  rw [hT.at hx]
  rfl
 ·rw [List.mem_singleton.1 hq]
  exact (hS.its _ (List.mem_of_getElem? hA)).2.1.key
theorem ar8 {x : X} {i off : Nat} {a : AV} (hx : opd E x = some (.ptr p g 0 off)) (hA : A[i]? = some (.cel up ks p g t cs)) (hc : cs[off]? = some a) : Stp P L f E A d (.at x) (.ld1 x) (some (0 :: ks), some []) (fun u => u = a) := by
 refine aL6 (fun T S hT hS => ⟨a, ?_, rfl⟩) (fun T S hT hS => ⟨cz6 (dd := some d) hT hS hx hA, .inl rfl⟩)
 simp only [bop, hT.at hx]
 rw [bk9 (hS.its _ (List.mem_of_getElem? hA)).1 hc]
 rfl
theorem s_ldnP {x : X} {i off n : Nat} {N : List AV} (hx : opd E x = some (.ptr p g 0 off)) (hA : A[i]? = some (.cel up ks p g t cs)) (hn : Nat.ble (off + n) cs.length = true) (hN : (cs.drop off).take n = N) : Stp P L f E A d (.at x) (.ldn n x) (some (0 :: ks), some []) (fun u => u = .agg N) := by
 subst hN
 refine aL6 (fun T S hT hS => ⟨_, ?_, rfl⟩) (fun T S hT hS => ⟨cz6 (dd := some d) hT hS hx hA, .inl rfl⟩)
 have := al0 hn
 simp only [bop, hT.at hx]
 rw [bp5 (hS.its _ (List.mem_of_getElem? hA)).1, if_pos (by rw [List.length_drop]; omega)]
 rfl
theorem g_stP {x v : X} {i off n : Nat} {b : AV} {cs' : List AV} (hx : opd E x = some (.ptr p g 0 off)) (hv : opd E v = some b) (hA : A[i]? = some (.cel up ks p g t cs)) (hn : b.cells.length = n) (hone : b.cells.all AV.one = true) (hco : ∀ a ∈ b.cells, Co (L + 1) a) (hle : Nat.ble (off + n) cs.length = true) (hcs : splice cs off b.cells = cs')
  (ho : (A.all fun jt => okO ks jt) = true) (h : GO1 P m (accP acc (some (0 :: ks), some (0 :: ks))) r L f E (A.set i (.cel up ks p g t cs')) Φ) (hro : f.ro = false ∨ up = false := by first | exact .inl rfl | exact .inr rfl) : GO1 P m acc (⟨none, none, .at x, .st n x v⟩ :: r) L f E A Φ := by
 intro c T S hc hT hS
 subst hcs
 have hit := hS.its _ (List.mem_of_getElem? hA)
 have hle' := al0 hle
 have hst := bg5 (n := n) (xs := b.cells) hit.1 hn (off := off) (by rw [hn]; exact hle') hone
 have hS' : StA (S.set p (.obj g t (splice cs off b.cells))) L f (A.set i (.cel up ks p g t (splice cs off b.cells))) :=
  hS.setI hA (p := p) (List.mem_singleton.2 rfl) (it := .cel up ks p g t (splice cs off b.cells)) ⟨AS.get_set_same .., hit.2.1, fun a ha => (b26 ha).elim (hit.2.2 a) (hco a)⟩ rfl rfl ho (hro.imp id .inl)
 obtain ⟨x1, T', S', q1, q2⟩ := h _ (T.put none (.lit undef)) _ (hc.push (a := (some (0 :: ks), some (0 :: ks))) (f := ⟨BF.foot S T none (.at x), .slot p⟩) ⟨cz6 (dd := none) hT hS hx hA, .inr ⟨[p], rfl, by simp, fun q hq => by
  rw [List.mem_singleton.1 hq]; exact hit.2.1.key⟩⟩) hT hS'
 refine ⟨x1, T', S', ?_, q2⟩
 have hop : bop P S T none (.st n x v) = some (.chg (.lit undef) p (.obj g t (splice cs off b.cells))) := by
  simp only [bop, hT.at hx, hT.at hv]
  rw [hst]
  rfl
 rw [ai2, hop, show (BO.st n x v).w = true from rfl, bO7]
 exact q1
theorem aq6 {x v : X} {i off : Nat} {b : AV} {cs' : List AV} (hx : opd E x = some (.ptr p g 0 off)) (hv : opd E v = some b) (hA : A[i]? = some (.cel up ks p g t cs)) (hb : b.cells = [b] ∧ b.one = true) (hco : Co (L + 1) b) (hle : Nat.ble (off + 1) cs.length = true) (hcs : splice cs off [b] = cs')
  (ho : (A.all fun jt => okO ks jt) = true) (h : GO1 P m (accP acc (some (0 :: ks), some (0 :: ks))) r L f E (A.set i (.cel up ks p g t cs')) Φ) (hro : f.ro = false ∨ up = false := by first | exact .inl rfl | exact .inr rfl) : GO1 P m acc (⟨none, none, .at x, .st 1 x v⟩ :: r) L f E A Φ :=
 g_stP hx hv hA (by rw [hb.1]; rfl) (by rw [hb.1]; simp [hb.2]) (fun a ha => by rw [hb.1, List.mem_singleton] at ha; rw [ha]; exact hco) hle (by rw [hb.1]; exact hcs) ho h hro
omit [Cfg] in
theorem StA.push {S : AS} {A : List It} {it : It} {s : ad4} (hS : StA S L f A) (hf : (A.all fun jt => jt.free d) = true) (hfo : it.foot = [⟨L + 1, d, 0⟩] ∨ it.foot = []) (hok : it.ok (S.set ⟨L + 1, d, 0⟩ s) (L + 1)) : StA (S.set ⟨L + 1, d, 0⟩ s) L f (it :: A) := by
 have hno : ∀ jt ∈ A, (⟨L + 1, d, 0⟩ : Loc) ∉ jt.foot := fun jt hj hm => by
  obtain ⟨_, hpl⟩ := It.there (hS.its jt hj) _ hm
  have hfr := List.all_eq_true.1 hf jt hj
  rcases hpl with h | h | h
  ·simp at h
  ·exact h.2.2 rfl
  ·exact It.cf4 hfr h.2.2
 refine ⟨hS.lvl, hS.fn, hS.dfr, hS.out.own (Nat.lt_succ_self L) s, fun jt hj => ?_, ?_⟩
 ·rcases List.mem_cons.1 hj with rfl | hj
  ·exact hok
  ·exact It.bh9 (hS.its jt hj) (List.all_eq_true.1 hf jt hj)
 ·refine ⟨?_, fun jt hj q hq hl => ?_, fun q hq => ?_, hS.reg.upl⟩
  ·rw [List.flatMap_cons]
   rcases hfo with e | e
   ·rw [e, List.singleton_append, List.nodup_cons]
    refine ⟨fun hm => ?_, hS.reg.sep⟩
    obtain ⟨jt, h1, h2⟩ := ar5 hm
    exact hno jt h1 h2
   ·rw [e]; exact hS.reg.sep
  ·rcases List.mem_cons.1 hj with rfl | hj
   ·rcases hfo with e | e
    ·rw [e, List.mem_singleton] at hq; subst hq; simp only at hl; omega
    ·rw [e] at hq; cases hq
   ·exact hS.reg.upr jt hj q hq hl
  ·obtain ⟨jt, h1, h2, h3⟩ := hS.reg.cov q hq
   exact ⟨jt, List.mem_cons_of_mem _ h1, h2, h3⟩
omit [Cfg] in
theorem cd0 {K : List Nat} (hd : d ∈ K) : okK (L + 1) (some K) (.slots [⟨L + 1, d, 0⟩]) := .inr ⟨_, rfl, by simp, fun q hq => by
 rw [List.mem_singleton.1 hq, aP6]; exact hd⟩
theorem b41 {o : BO} {s : ad4} {v : AV} {E' : Env} {A' : List It} {T : BT} {S : AS} {c : Acc} {dd : Option Nat} (hop : bop P S T dd o = some (.chg v ⟨L + 1, d, 0⟩ s)) (hw : o.w = true) (hc : AccR (L + 1) acc c) (hr : okK (L + 1) (some [d]) (bf.foot S T dd)) (hT : Ag E' (T.put dd v)) (hS : StA (S.set ⟨L + 1, d, 0⟩ s) L f A')
  (h : GO1 P m (accP acc (some [d], some [d])) r L f E' A' Φ) : ∃ x T' S', finO m (ad5 P (aj6 P) c (⟨dd, none, bf, o⟩ :: r) T S) = some (x, T', S') ∧ Φ x T' S' := by
 obtain ⟨x, T', S', k1, k2⟩ := h _ (T.put dd v) (S.set ⟨L + 1, d, 0⟩ s) (hc.push (f := ⟨bf.foot S T dd, .slot ⟨L + 1, d, 0⟩⟩) ⟨hr, cd0 (List.mem_singleton.2 rfl)⟩) hT hS
 exact ⟨x, T', S', by rw [ai2, hop, hw, bO7]; exact k1, k2⟩
theorem cf6 {e : TypeId} {cs : List AV} (hcl : AV.ae7 cs = true) (hf : (A.all fun jt => jt.free d) = true) (h : ∀ g, GO1 P m (accP acc (some [d], some [d])) r L f ((d, .ptr ⟨L + 1, d, 0⟩ g 0 0) :: E) (.cel false [d] ⟨L + 1, d, 0⟩ g e cs :: A) Φ) : GO1 P m acc (⟨some d, none, .here, .al e cs⟩ :: r) L f E A Φ := by
 intro c T S hc hT hS
 have e1 : S.here d = ⟨L + 1, d, 0⟩ := by rw [aL5, hS.lvl]
 exact b41 (v := .ptr ⟨L + 1, d, 0⟩ (S.fresh ⟨L + 1, d, 0⟩) 0 0) (s := .obj (S.fresh ⟨L + 1, d, 0⟩) e cs) (by simp only [bop, e1]) rfl hc (aM7 hS) (hT.put d _) (hS.push hf (it := .cel false [d] ⟨L + 1, d, 0⟩ _ e cs) (.inl rfl) ⟨AS.get_set_same .., Pl.own _ _, fun a ha => .c (ak6 hcl a ha)⟩) (h _)
theorem g_bxP {e : TypeId} {x : X} {a : AV} {cs : List AV} (hx : opd E x = some a) (hcs : a.cells = cs) (hcl : AV.ae7 cs = true) (hf : (A.all fun jt => jt.free d) = true) (h : ∀ g, GO1 P m (accP acc (some [d], some [d])) r L f ((d, .ptr ⟨L + 1, d, 0⟩ g 0 0) :: E) (.cel false [d] ⟨L + 1, d, 0⟩ g e cs :: A) Φ) : GO1 P m acc (⟨some d, none, .here, .bx e x⟩ :: r) L f E A Φ := by
 subst hcs
 intro c T S hc hT hS
 have e1 : S.here d = ⟨L + 1, d, 0⟩ := by rw [aL5, hS.lvl]
 exact b41 (v := .ptr ⟨L + 1, d, 0⟩ (S.fresh ⟨L + 1, d, 0⟩) 0 0) (s := .obj (S.fresh ⟨L + 1, d, 0⟩) e a.cells) (by simp only [bop, e1, hT.at hx]) rfl hc (aM7 hS) (hT.put d _) (hS.push hf (it := .cel false [d] ⟨L + 1, d, 0⟩ _ e a.cells) (.inl rfl) ⟨AS.get_set_same .., Pl.own _ _, fun a ha => .c (ak6 hcl a ha)⟩) (h _)
def RelA (n : Nat) (es : List (List V)) (a : AV) : Prop := (es = [] ∧ ∃ p, a = .lit (.slice p 0 0)) ∨ ∃ sp ys, a = .list sp n ys ∧ ad7 es ys
omit [Cfg] in
theorem Gs.relA {S : AS} {n : Nat} {e : TypeId} {es : List (List V)} {a : AV} {F : List Loc} (h : Gs S n e es a F) : RelA n es a := by
 rcases h with ⟨h1, h2, _⟩ | ⟨ys, h1, h2, _⟩ | ⟨q, k, ys, h1, h2, _⟩
 ·exact .inl ⟨h1, h2⟩
 ·exact .inr ⟨_, ys, h1, h2⟩
 ·exact .inr ⟨_, ys, h1, h2⟩
theorem bP3 {i n : Nat} {e : TypeId} {es : List (List V)} {a : AV} {F : List Loc} (hA : A[i]? = some (.own up ks (.gs n e es) a F)) (h : RelA n es a → GO1 P m acc l L f E A Φ) : GO1 P m acc l L f E A Φ := fun c T S hc hT hS => by
 have h1 := (hS.its _ (List.mem_of_getElem? hA)).1
 unfold AtO at h1
 exact h h1.relA c T S hc hT hS
theorem g_co {i : Nat} {o : OV} {a : AV} {F : List Loc} (hA : A[i]? = some (.own up ks o a F)) (h : Co (L + 1) a → GO1 P m acc l L f E A Φ) : GO1 P m acc l L f E A Φ := fun c T S hc hT hS =>
 h (own_co (hS.its _ (List.mem_of_getElem? hA))) c T S hc hT hS
theorem s_iaA {α : Type} {x i : X} {a : AV} {xs : List α} {c : α → List V} {n : Nat} {k : IntKind} {j : Int} {e : α} (hx : opd E x = some a) (ha : RelA n (xs.map c) a) (hi : opd E i = some (.lit (.int k j))) (he : G.idx xs j = some e)
  : Stp P L f E A d .none (.ia n x i) af0 (fun u => ∃ zs, u = .cref zs ∧ RelP (c e) zs) := by
 unfold G.idx at he
 split at he
 ·rename_i h0
  rcases ha with ⟨hn, _⟩ | ⟨sp, ys, rfl, hr⟩
  ·have : xs = [] := by simpa using hn
   subst this
   simp at he
  ·obtain ⟨zs, h1, h2⟩ := hr.get (i := j.toNat) (v := c e) (by rw [List.getElem?_map, he]; rfl)
   exact bO9 (fun T S hT => ⟨_, by
    simp only [bop, hT.at hx, hT.at hi, iaV]
    rw [if_pos ⟨h0, trivial⟩, h1]
    rfl, zs, rfl, h2.toP⟩)
 ·cases he
omit [Cfg] in
theorem RelA.len {n : Nat} {es : List (List V)} {a : AV} (h : RelA n es a) : llV a = some (.lit (.int .i64 es.length)) := by
 rcases h with ⟨rfl, p, rfl⟩ | ⟨sp, ys, rfl, h⟩
 ·rfl
 ·show some _ = _
  rw [h.length]
theorem s_llA {α : Type} {x : X} {a : AV} {xs : List α} {c : α → List V} {n : Nat} (hx : opd E x = some a) (ha : RelA n (xs.map c) a) : Stp P L f E A d (.at x) (.ll x) (none, some []) (fun u => u = .lit (.int .i64 xs.length)) :=
 aL6 (fun T S hT _ => ⟨_, by
  simp only [bop, hT.at hx, ha.len, Option.map_some, List.length_map], rfl⟩) (fun _ _ _ _ => ⟨trivial, .inl rfl⟩)
theorem g_apP {s x : X} {a b : AV} {i n bytes : Nat} {e : TypeId} {F : List Loc} {α : Type} {c : α → List V} {xs ns zs : List α} (hl : Cfg.live f.fn d = false) (hs : opd E s = some a) (hx : opd E x = some b) (hA : A[i]? = some (.own up ks (.gs n e (xs.map c)) a F)) (hb : RelA n (ns.map c) b) (hby : Nat.ble bytes 100000 = true)
  (hf : cm1 [d] i A = true) (ho : (A.all fun jt => okO ks jt) = true) (hz : G.app xs ns = some zs) (h : ∀ a' F', GO1 P m (accP acc (none, some (0 :: insK d ks))) r L f ((d, a') :: E) (A.set i (.own up (insK d ks) (.gs n e (zs.map c)) a' F')) Φ) (hro : f.ro = false ∨ up = false := by first | exact .inl rfl | exact .inr rfl) : GO1 P m acc (⟨some d, none, .app s x, .ap e n bytes s x⟩ :: r) L f E A Φ := by
 unfold G.app at hz
 split at hz
 case isFalse => cases hz
 rename_i hlen
 cases hz
 intro cc T S hc hT hS
 obtain ⟨hk1, hk2⟩ := cc4 d ks
 have hks : (ks.all fun k => (insK d ks).contains k) = true := List.all_eq_true.2 fun k hk => List.contains_iff_mem.2 (hk2 k hk)
 have hmem := List.mem_of_getElem? hA
 obtain ⟨hat, hpl⟩ := hS.its _ hmem
 unfold AtO at hat
 have hbE : ∃ news, an3 S n b = some news ∧ ad7 (ns.map c) news := by
  rcases hb with ⟨h1, p, rfl⟩ | ⟨sp, ys, rfl, hr⟩
  ·exact ⟨[], rfl, by rw [h1]; unfold ad7; rfl⟩
  ·exact ⟨ys, aV5 n sp ys, hr⟩
 obtain ⟨news, k1, k2⟩ := hbE
 have hnl : news.length = ns.length := by rw [k2.length, List.length_map]
 have hone := bA3 k2
 have hby' := al0 hby
 have e1 : S.here d = ⟨L + 1, d, 0⟩ := by rw [aL5, hS.lvl]
 have hop : bop P S T (some d) (.ap e n bytes s x) = appB S d e n bytes a news := by simp only [bop, hT.at hx, hT.at hs, k1]
 have hlive : Cfg.live S.fn d = false := by rw [hS.fn]; exact hl
 -- nothing is laid
 have stay : appB S d e n bytes a news = some (.val a) → ns = [] → ∃ x1 T' S', finO m (ad5 P (aj6 P) cc (⟨some d, none, .app s x, .ap e n bytes s x⟩ :: r) T S) = some (x1, T', S') ∧ Φ x1 T' S' := by
  intro hv hns
  subst hns
  obtain ⟨x1, T', S', q1, q2⟩ := h a F _ (T.put (some d) a) S (hc.push (f := ⟨BF.foot S T (some d) (.app s x), .none⟩) ⟨trivial, .inl rfl⟩) (hT.put d a) (by
   rw [List.append_nil]
   exact ⟨hS.lvl, hS.fn, hS.dfr, hS.out, c30 (it := .own up (insK d ks) (.gs n e (xs.map c)) a F) ⟨by unfold AtO; exact hat, fun q hq => (hpl q hq).mono hks⟩ hS.its, hS.reg.set hA rfl rfl⟩)
  exact ⟨x1, T', S', by rw [ai2, hop, hv, b03]; exact q1, q2⟩
 -- a room is made
 have made : ∀ es : List (List AV), ad7 ((xs ++ ns).map c) es → F = [] → appB S d e n bytes a news = some (.chg (.list (.own ⟨L + 1, d, 0⟩ (S.fresh ⟨L + 1, d, 0⟩)) n es) ⟨L + 1, d, 0⟩ (.tok (S.fresh ⟨L + 1, d, 0⟩) es.length n e)) → ∃ x1 T' S', finO m (ad5 P (aj6 P) cc (⟨some d, none, .app s x, .ap e n bytes s x⟩ :: r) T S) = some (x1, T', S') ∧ Φ x1 T' S' := by
  intro es hr hF hv
  subst hF
  have hfree : ∀ j jt, A[j]? = some jt → j ≠ i → jt.free d = true := by
   have key : ∀ {A : List It} {i : Nat}, cm1 [d] i A = true → ∀ j jt, A[j]? = some jt → j ≠ i → jt.free d = true := by
    intro A
    induction A with
    | nil => intro i _ j jt hj; cases hj
    | cons a r ih =>
     intro i hf j jt hj hne
     cases i with
     | zero =>
      cases j with
      | zero => exact absurd rfl hne
      | succ j =>
       have := List.all_eq_true.1 hf jt (List.mem_of_getElem? (i := j) hj)
       simpa using this
     | succ i =>
      simp only [cm1, Bool.and_eq_true] at hf
      cases j with
      | zero => cases hj; simpa using hf.1
      | succ j => exact ih hf.2 j jt hj (fun e => hne (by rw [e]))
   exact key hf
  have hno : ∀ j jt, A[j]? = some jt → j ≠ i → (⟨L + 1, d, 0⟩ : Loc) ∉ jt.foot := fun j jt hj hne hm => by
   obtain ⟨_, hp⟩ := It.there (hS.its jt (List.mem_of_getElem? hj)) _ hm
   have hfr := hfree j jt hj hne
   rcases hp with h | h | h
   ·simp at h
   ·exact h.2.2 rfl
   ·exact It.cf4 hfr h.2.2
  have hlt : i < A.length := (List.getElem?_eq_some_iff.1 hA).1
  have hS' : StA (S.set ⟨L + 1, d, 0⟩ (.tok (S.fresh ⟨L + 1, d, 0⟩) es.length n e)) L f (A.set i (.own up (insK d ks) (.gs n e ((xs ++ ns).map c)) (.list (.own ⟨L + 1, d, 0⟩ (S.fresh ⟨L + 1, d, 0⟩)) n es) [⟨L + 1, d, 0⟩])) := by
   have hset : ∀ (j : Nat) (jt : It), (A.set i (.own up (insK d ks) (.gs n e ((xs ++ ns).map c)) (.list (.own ⟨L + 1, d, 0⟩ (S.fresh ⟨L + 1, d, 0⟩)) n es) [⟨L + 1, d, 0⟩]))[j]? = some jt → (j = i ∧ jt = .own up (insK d ks) (.gs n e ((xs ++ ns).map c)) (.list (.own ⟨L + 1, d, 0⟩ (S.fresh ⟨L + 1, d, 0⟩)) n es) [⟨L + 1, d, 0⟩]) ∨ (j ≠ i ∧ A[j]? = some jt) := fun j jt hj => by
    by_cases e : i = j
    ·subst e
     rw [List.getElem?_set_self hlt] at hj
     cases hj
     exact .inl ⟨rfl, rfl⟩
    ·rw [List.getElem?_set_ne e] at hj
     exact .inr ⟨fun e' => e e'.symm, hj⟩
   refine ⟨hS.lvl, hS.fn, hS.dfr, hS.out.own (Nat.lt_succ_self L) _, fun jt hj => ?_, ?_⟩
   ·obtain ⟨j, hj⟩ := List.getElem?_of_mem hj
    rcases hset j jt hj with ⟨_, rfl⟩ | ⟨hne, hj⟩
    ·refine ⟨?_, fun q hq => ?_⟩
     ·unfold AtO
      exact .inr (.inr ⟨_, _, es, rfl, hr, AS.get_set_same .., rfl⟩)
     ·rw [List.mem_singleton.1 hq]
      exact .inr (.inr ⟨rfl, rfl, hk1⟩)
    ·exact It.bh9 (hS.its jt (List.mem_of_getElem? hj)) (hfree j jt hj hne)
   ·refine ⟨?_, fun jt hj q hq hle => ?_, fun q hq => ?_, hS.reg.upl⟩
    ·have key : ∀ {A : List It} {i : Nat} {a it : It} {q : Loc}, (A.flatMap It.foot).Nodup → A[i]? = some a → a.foot = [] → it.foot = [q] → (∀ j jt, A[j]? = some jt → j ≠ i → q ∉ jt.foot) → ((A.set i it).flatMap It.foot).Nodup := by
      intro A
      induction A with
      | nil => intro i a it q _ h; cases h
      | cons b r ih =>
       intro i a it q hn hi ha hit hno
       rw [List.flatMap_cons] at hn
       have hn1 := List.nodup_append.1 hn
       cases i with
       | zero =>
        cases hi
        rw [List.set_cons_zero, List.flatMap_cons, hit, List.singleton_append, List.nodup_cons]
        refine ⟨fun hm => ?_, hn1.2.1⟩
        obtain ⟨jt, h1, h2⟩ := ar5 hm
        obtain ⟨j, hj⟩ := List.getElem?_of_mem h1
        exact hno (j + 1) jt hj (by omega) h2
       | succ i =>
        rw [List.set_cons_succ, List.flatMap_cons, List.nodup_append]
        refine ⟨hn1.1, ih hn1.2.1 hi ha hit fun j jt hj hne => hno (j + 1) jt hj (by omega), fun x hx y hy e => ?_⟩
        subst e
        obtain ⟨jt, h1, h2⟩ := ar5 hy
        rcases List.mem_or_eq_of_mem_set h1 with h1 | rfl
        ·exact hn1.2.2 x hx x (List.mem_flatMap.2 ⟨jt, h1, h2⟩) rfl
        ·rw [hit, List.mem_singleton] at h2
         subst h2
         exact hno 0 b rfl (by omega) hx
     exact key hS.reg.sep hA rfl rfl hno
    ·obtain ⟨j, hj⟩ := List.getElem?_of_mem hj
     rcases hset j jt hj with ⟨_, rfl⟩ | ⟨hne, hj⟩
     ·rw [show It.foot (.own up (insK d ks) (.gs n e ((xs ++ ns).map c)) (.list (.own ⟨L + 1, d, 0⟩ (S.fresh ⟨L + 1, d, 0⟩)) n es) [⟨L + 1, d, 0⟩]) = [⟨L + 1, d, 0⟩] from rfl, List.mem_singleton] at hq
      subst hq
      simp only at hle
      omega
     ·exact hS.reg.upr jt (List.mem_of_getElem? hj) q hq hle
    ·obtain ⟨jt, h1, h2, h3⟩ := hS.reg.cov q hq
     obtain ⟨j, hj⟩ := List.getElem?_of_mem h1
     by_cases e : i = j
     ·subst e
      rw [hA] at hj; cases hj
      cases h3
     ·exact ⟨jt, List.mem_of_getElem? (i := j) (by rw [List.getElem?_set_ne e]; exact hj), h2, h3⟩
  obtain ⟨x1, T', S', q1, q2⟩ := h _ _ _ (T.put (some d) _) _ (hc.push (a := (none, some (0 :: insK d ks))) (f := ⟨BF.foot S T (some d) (.app s x), .slot ⟨L + 1, d, 0⟩⟩) ⟨trivial, cd0 (List.mem_cons_of_mem _ hk1)⟩) (hT.put d _) hS'
  exact ⟨x1, T', S', by rw [ai2, hop, hv, show (BO.ap e n bytes s x).w = true from rfl, bO7]; exact q1, q2⟩
 by_cases h0 : ns = []
 ·subst h0
  have hn0 : news = [] := List.length_eq_zero_iff.1 (by rw [hnl]; rfl)
  subst hn0
  refine stay ?_ rfl
  rcases hat with ⟨_, ⟨p, rfl⟩, _⟩ | ⟨ys, rfl, _⟩ | ⟨q, k, ys, rfl, _⟩
  ·rfl
  ·exact aK9 d e n bytes _ _ _
  ·exact aK9 d e n bytes _ _ _
 ·have hpos : 0 < news.length := by rw [hnl]; exact List.length_pos_iff.2 h0
  rcases hat with ⟨hxs, ⟨p, rfl⟩, rfl⟩ | ⟨ys, rfl, hes, rfl⟩ | ⟨q, k, ys, rfl, hes, htok, rfl⟩
  ·have hxs : xs = [] := by simpa using hxs
   subst hxs
   refine made news (by simpa using k2) rfl ?_
   unfold appB
   rw [if_pos hone, if_neg (by omega)]
   simp only
   rw [if_pos (ci8 hby' (by simp at hlen; omega)), aQ4 hlive, e1]
  ·refine made (ys ++ news) (by rw [List.map_append]; exact hes.append k2) rfl ?_
   rw [bT7 hlive hone hpos hby' (by rw [hes.length, hnl, List.length_map]; exact hlen), List.length_append, e1]
  ·have hv := bR4 (d0 := d) (S := S) htok hone hpos hby' (by rw [hes.length, hnl, List.length_map]; exact hlen)
   have hS' : StA (S.set q (.tok k (ys.length + news.length) n e)) L f (A.set i (.own up (insK d ks) (.gs n e ((xs ++ ns).map c)) (.list (.own q k) n (ys ++ news)) [q])) := by
    refine hS.setI hA (p := q) (List.mem_singleton.2 rfl) (it := .own up (insK d ks) (.gs n e ((xs ++ ns).map c)) (.list (.own q k) n (ys ++ news)) [q]) ⟨?_, fun y hy => (hpl y hy).mono hks⟩ rfl rfl ho (hro.imp id .inl)
    unfold AtO
    exact .inr (.inr ⟨q, k, ys ++ news, rfl, by rw [List.map_append]; exact hes.append k2, by rw [List.length_append]; exact AS.get_set_same .., rfl⟩)
   obtain ⟨x1, T', S', q1, q2⟩ := h _ _ _ (T.put (some d) _) _ (hc.push (a := (none, some (0 :: insK d ks))) (f := ⟨BF.foot S T (some d) (.app s x), .slot q⟩) ⟨trivial, .inr ⟨[q], rfl, by simp, fun y hy => by
    rw [List.mem_singleton.1 hy]; exact ((hpl q (List.mem_singleton.2 rfl)).mono hks).key⟩⟩) (hT.put d _) hS'
   exact ⟨x1, T', S', by rw [ai2, hop, hv, show (BO.ap e n bytes s x).w = true from rfl, bO7]; exact q1, q2⟩
end
def ExL : List V → List AV → Prop
 | [], l => l = []
 | v :: r, l => ∃ a t, l = a :: t ∧ CV v a ∧ ExL r t
theorem exL : ∀ {M : List V} {cs : List AV}, ab6 M cs → ExL M cs
 | [], cs, h => by unfold ab6 at h; exact h
 | v :: r, cs, h => by
  unfold ab6 at h
  obtain ⟨a, t, h1, h2, h3⟩ := h
  exact ⟨a, t, h1, CV.rel.2 h2, exL h3⟩
theorem exL' {M : List V} {cs : List AV} (h : ab6 M cs) : ∃ l, cs = l ∧ ExL M l := ⟨cs, rfl, exL h⟩
theorem AtAs.closed {S : AS} : ∀ {rs : List RV} {l : List AV} {F : List Loc}, AtAs S (rs.map OA.r) l F → RVLC rs l
 | [], l, F, h => h.1
 | r :: rs, l, F, h => by
  obtain ⟨a, t, F1, F2, rfl, rfl, h2, h3⟩ := h
  exact ⟨a, t, rfl, h2.1, h3.closed⟩
theorem RVLC.toS {L : Nat} : ∀ {rs : List RV} {l : List AV}, RVLC rs l → RVL L rs l
 | [], l, h => h
 | r :: rs, l, h => by
  obtain ⟨a, t, rfl, h1, h2⟩ := h
  exact ⟨a, t, rfl, h1.toS, h2.toS⟩
theorem b05 {x : AX} {L : Nat} {f : Fr} {E : Env} {A : List It} {br : List BR} {rs : List RV} {l : List AV} (h : ResI A E br (rs.map OA.r) l []) (hW : f.W = [] ∨ f.ro = true := by first | exact .inl rfl | exact .inr rfl) (hx : x = .ret ∨ x = .normal := by first | exact .inl rfl | exact .inr rfl) : G x L f E A (ae2 L br rs) := fun T S hT hS => by
 obtain ⟨h1, h2⟩ := ResI.at hT (fun it hi => hS.its it hi) h fun _ h => (nomatch h)
 exact ⟨hx, hS.dfr, hW.elim hS.out.outs hS.out.outs', l, h1, h2.closed.toS⟩
theorem RelC.toA {n : Nat} {es : List (List V)} {a : AV} (h : RelC (.sl n es) a) : RelA n es a := by
 unfold RelC at h
 rcases h with h | ⟨sp, ys, h1, _, h2⟩
 ·exact .inl h
 ·exact .inr ⟨sp, ys, h1, h2⟩
theorem rc1 {v : V} {a : AV} (h : RelC v a) : a.cells = [a] ∧ a.one = true := ⟨(h.toS (L := 0)).cells, (h.toS (L := 0)).one⟩
theorem RelA.cells {n : Nat} {es : List (List V)} {a : AV} (h : RelA n es a) : a.cells = [a] ∧ a.one = true := by
 rcases h with ⟨_, p, rfl⟩ | ⟨sp, ys, rfl, _⟩ <;> exact ⟨rfl, rfl⟩
end Go.Proofs.YtbinfgmdamlkbaaGreatDoor
namespace Go.Proofs.YtbinfgmdamlkbaaGreatDoor
open Go.RowKit
theorem set2_eq {cs cs' : List AV} {off : Nat} {x y : AV} (hl : cs'.length = cs.length) (h1 : cs'[off]? = some x) (h2 : cs'[off + 1]? = some y) (h : ∀ i, i ≠ off → i ≠ off + 1 → cs'[i]? = cs[i]?) : cs' = (cs.set off x).set (off + 1) y := by
 have e1 := ap2 h1
 have e2 := ap2 h2
 refine List.ext_getElem? fun i => ?_
 by_cases a : i = off + 1
 ·subst a
  rw [List.getElem?_set_self (by rw [List.length_set]; omega)]
  exact h2
 ·rw [List.getElem?_set_ne (fun e => a e.symm)]
  by_cases b : i = off
  ·subst b
   rw [List.getElem?_set_self (by omega)]
   exact h1
  ·rw [List.getElem?_set_ne (fun e => b e.symm)]
   exact h i b a
section
variable [Cfg] {P : Program} {L : Nat} {f : Fr} {E : Env} {A B : List It} {Φ : ax8} {m : Option (List (Nat × Nat))} {acc : AAcc} {r : List BI} {d : Nat} {bf : BF}
variable {up u0 : Bool} {ks k0 : List Nat} {p : Loc} {g : Nat} {t : TypeId} {cs : List AV} {tp tb tu tz te fne fcc fws fwb fst : Nat}
omit [Cfg] in
theorem cY0 {S : AS} {off : Nat} {l : List UInt8} {sa a : AV} {F : List Loc} (hS : StA S L f (.cel up ks p g t cs :: .own u0 k0 (.bb te l) a F :: B)) (hs : cs[off]? = some sa) (hself : sa = .lit (.pointer none) ∨ sa = .ptr p g 0 off) (hb : cs[off + 1]? = some a) (hlen : Nat.ble cs.length 1000 = true) :
  ∃ q : Option Loc, BLD te S p g t off cs l q ∧ F = q.toList ∧ l.length ≤ 1000000000 := by
 obtain ⟨h1, h2, h3⟩ := hS.its _ (List.mem_cons_self ..)
 obtain ⟨h4, h5⟩ := hS.its _ (List.mem_cons_of_mem _ (List.mem_cons_self ..))
 have hlv : ∀ {ks q}, Pl (L + 1) ks q → q.l ≤ S.lvl := fun h => by
  rw [hS.lvl]
  rcases h with h | h | h <;> omega
 unfold AtO at h4
 rcases h4 with ⟨e1, e2, e3⟩ | ⟨q, k, e1, e2, e3, e4⟩
 ·refine ⟨none, ⟨h1, by rw [hS.lvl]; exact h3, al0 hlen, hlv h2, ?_, .inl ⟨e1, rfl, by rw [hb, e2]⟩⟩, e3, by rw [e1]; exact Nat.zero_le _⟩
  rcases hself with e | e <;> rw [e] at hs
  ·exact .inl hs
  ·exact .inr hs
 ·refine ⟨some q, ⟨h1, by rw [hS.lvl]; exact h3, al0 hlen, hlv h2, ?_, .inr ⟨q, k, e1.1, rfl, by rw [hb, e2], e3, hlv (h5 q (by rw [e4]; exact List.mem_singleton.2 rfl))⟩⟩, e4, e1.2⟩
  rcases hself with e | e <;> rw [e] at hs
  ·exact .inl hs
  ·exact .inr hs
omit [Cfg] in
theorem cj0 {S : AS} {u : Upd} {off : Nat} {l l' : List UInt8} {a : AV} {F : List Loc} {cs' : List AV} {q q' : Option Loc} (hS : StA S L f (.cel up ks p g t cs :: .own u0 k0 (.bb te l) a F :: B)) (hF : F = q.toList) (hl' : l'.length ≤ 1000000000) (hw : Wrote te S u p g t off cs cs' l' q q') (ho : (B.all (okO (ks ++ k0))) = true) (hro : f.ro = false ∨ (up || u0) = false) :
  ∃ sa' a', (sa' = .lit (.pointer none) ∨ sa' = .ptr p g 0 off) ∧ StA (S.after u) L f (.cel (up || u0) (ks ++ k0) p g t ((cs.set off sa').set (off + 1) a') :: .own (up || u0) (ks ++ k0) (.bb te l') a' q'.toList :: B) := by
 subst hF
 obtain ⟨sa', hsa, hs1⟩ : ∃ sa', cs'[off]? = some sa' ∧ (sa' = .lit (.pointer none) ∨ sa' = .ptr p g 0 off) := by
  rcases hw.bld.addr with h | h
  ·exact ⟨_, h, .inl rfl⟩
  ·exact ⟨_, h, .inr rfl⟩
 obtain ⟨a', ha', hbb⟩ : ∃ a', cs'[off + 1]? = some a' ∧ Bb (S.after u) te l' a' q'.toList := by
  rcases hw.bld.buf with ⟨e1, e2, e3⟩ | ⟨q1, k, e1, e2, e3, e4, _⟩
  ·subst e2
   exact ⟨_, e3, .inl ⟨e1, rfl, rfl⟩⟩
  ·subst e2
   exact ⟨_, e3, .inr ⟨q1, k, ⟨e1, hl'⟩, rfl, e4, rfl⟩⟩
 have hcs := set2_eq hw.len hsa ha' hw.others
 refine ⟨sa', a', hs1, ?_⟩
 have hsep := hS.reg.sep
 simp only [List.flatMap_cons, It.foot, List.singleton_append, List.nodup_cons, List.mem_append, not_or] at hsep
 have hL : Left S u (p :: q.toList) (p :: q'.toList) := by
  refine ⟨hw.lvl, hw.fn, hw.dfr, ?_, fun x hx => ?_, fun x hx => ?_, fun x hx => ?_, hw.frame⟩
  ·rw [List.nodup_cons]
   refine ⟨fun hm => ?_, by cases q' <;> simp⟩
   rcases hw.room with e | ⟨q1, e1, e2, e3, e4, e5, e6⟩
   ·rw [e] at hm; exact hsep.1.1 hm
   ·rw [e1] at hm
    simp only [Option.toList_some, List.mem_singleton] at hm
    obtain ⟨h1, _⟩ := hS.its _ (List.mem_cons_self ..)
    rw [hm, e6] at h1; cases h1
  ·rcases List.mem_cons.1 hx with rfl | hx
   ·exact List.mem_cons_self ..
   ·rcases hw.room with e | ⟨q1, e1, e2, _⟩
    ·rw [e]; exact List.mem_cons_of_mem _ hx
    ·rw [e2] at hx; cases hx
  ·rcases List.mem_cons.1 hx with rfl | hx
   ·exact .inl (List.mem_cons_self ..)
   ·rcases hw.room with e | ⟨q1, e1, e2, e3, e4, e5, e6⟩
    ·rw [e] at hx; exact .inl (List.mem_cons_of_mem _ hx)
    ·rw [e1] at hx
     simp only [Option.toList_some, List.mem_singleton] at hx
     subst hx
     exact .inr ⟨e3, e4, e5, e6⟩
  ·rcases hw.log x hx with h | h | h
   ·exact .inl (by rw [h]; exact List.mem_cons_self ..)
   ·exact .inl (List.mem_cons_of_mem _ (by rw [← h]; simp))
   ·exact .inr h
 refine b23 (A1 := [.cel up ks p g t cs, .own u0 k0 (.bb te l) a q.toList]) (N := [.cel (up || u0) (ks ++ k0) p g t ((cs.set off sa').set (off + 1) a'), .own (up || u0) (ks ++ k0) (.bb te l') a' q'.toList]) hS (by simp [It.foot]) hL (by simpa [keysOf, It.keys] using ho) (by simp [It.foot]) (fun it hi => ?_) (fun hpl it hi => ?_) (by simpa [upOf, It.up] using hro)
 ·simp only [List.mem_cons, List.not_mem_nil, or_false] at hi
  rcases hi with rfl | rfl <;> simp [It.up, upOf, keysOf, It.keys]
 ·have e0 : keysOf [It.cel up ks p g t cs, It.own u0 k0 (OV.bb te l) a q.toList] = ks ++ k0 := by simp [keysOf, It.keys]
  rw [e0] at hpl
  simp only [List.mem_cons, List.not_mem_nil, or_false] at hi
  rcases hi with rfl | rfl
  ·refine ⟨by rw [← hcs]; exact hw.bld.get, hpl p (List.mem_cons_self ..), fun x hx => ?_⟩
   have := hw.bld.co x (by rw [hcs]; exact hx)
   rw [hw.lvl, hS.lvl] at this
   exact this
  ·exact ⟨by unfold AtO; exact hbb, fun x hx => hpl x (List.mem_cons_of_mem _ hx)⟩
theorem ce9 {x y : X} {off : Nat} {l xs zs : List UInt8} {sa a : AV} {F : List Loc} (Bc : BldC P tp tb tu tz te fne fcc fws fwb fst) (hup : Cfg.up fws f.fn = true) (hx : opd E x = some (.ptr p g 0 off)) (hy : opd E y = some (.lit (.string (bs xs)))) (hA : A = .cel up ks p g t cs :: .own u0 k0 (.bb te l) a F :: B) (hs : cs[off]? = some sa) (hself : sa = .lit (.pointer none) ∨ sa = .ptr p g 0 off) (hb : cs[off + 1]? = some a) (hlen : Nat.ble cs.length 1000 = true)
  (hlies : liesAt P P.depth t (cs.length / P.cellsOf t) off tb 1 = true) (ho : (B.all (okO (ks ++ k0))) = true) (hz : G.app l xs = some zs) (h : ∀ v sa' a' F', (sa' = .lit (.pointer none) ∨ sa' = .ptr p g 0 off) → GO1 P m (accP acc (none, none)) r L f ((d, v) :: E) (.cel (up || u0) (ks ++ k0) p g t ((cs.set off sa').set (off + 1) a') :: .own (up || u0) (ks ++ k0) (.bb te zs) a' F' :: B) Φ) (hro : f.ro = false ∨ (up || u0) = false := by first | exact .inl rfl | exact .inr rfl) : GO1 P m acc (⟨some d, none, bf, .cl fws [x, y]⟩ :: r) L f E A Φ := by
 subst hA
 intro c T S hc hT hS
 unfold G.app at hz
 split at hz
 case isFalse => cases hz
 rename_i hsz
 cases hz
 obtain ⟨q, hB, hF, _⟩ := cY0 hS hs hself hb hlen
 obtain ⟨u, v, cs', q', k1, k2⟩ := ws_ok (x := xs) Bc.F Bc.gcc Bc.cc Bc.gws Bc.ws Bc.upw (by rw [hS.fn]; exact hup) Bc.lws hlies hB hsz
 obtain ⟨sa', a', e1, hS'⟩ := cj0 hS hF (by rw [List.length_append]; exact hsz) k2 ho hro
 obtain ⟨x1, T', S', q1, q2⟩ := h v sa' a' _ e1 _ (T.put (some d) v) (S.after u) (hc.push (a := (none, none)) (f := ⟨.all, u.kind⟩) ⟨trivial, trivial⟩) (hT.put d v) hS'
 refine ⟨x1, T', S', ?_, q2⟩
 rw [b_cl]
 simp only [List.map_cons, List.map_nil, hT.at hx, hT.at hy, hS.fn, hup, Bool.not_true, Bool.false_and, aN7, k1, bL2]
 exact q1
theorem g_bwbP {x y : X} {off : Nat} {l zs : List UInt8} {n : Int} {sa a : AV} {F : List Loc} (Bc : BldC P tp tb tu tz te fne fcc fws fwb fst) (hup : Cfg.up fwb f.fn = true) (hx : opd E x = some (.ptr p g 0 off)) (hy : opd E y = some (.lit (.int .u8 n))) (hA : A = .cel up ks p g t cs :: .own u0 k0 (.bb te l) a F :: B) (hs : cs[off]? = some sa) (hself : sa = .lit (.pointer none) ∨ sa = .ptr p g 0 off) (hb : cs[off + 1]? = some a) (hlen : Nat.ble cs.length 1000 = true)
  (hlies : liesAt P P.depth t (cs.length / P.cellsOf t) off tb 1 = true) (ho : (B.all (okO (ks ++ k0))) = true) (hz : G.appB l n = some zs) (h : ∀ v sa' a' F', (sa' = .lit (.pointer none) ∨ sa' = .ptr p g 0 off) → GO1 P m (accP acc (none, none)) r L f ((d, v) :: E) (.cel (up || u0) (ks ++ k0) p g t ((cs.set off sa').set (off + 1) a') :: .own (up || u0) (ks ++ k0) (.bb te zs) a' F' :: B) Φ) (hro : f.ro = false ∨ (up || u0) = false := by first | exact .inl rfl | exact .inr rfl) : GO1 P m acc (⟨some d, none, bf, .cl fwb [x, y]⟩ :: r) L f E A Φ := by
 subst hA
 intro c T S hc hT hS
 unfold G.appB at hz
 split at hz
 case isFalse => cases hz
 rename_i hsz
 cases hz
 have hn : (n : Int) = ((UInt8.ofNat n.toNat).toNat : Int) := by
  have : (UInt8.ofNat n.toNat).toNat = n.toNat := by simp [UInt8.toNat_ofNat']; omega
  rw [this]; omega
 obtain ⟨q, hB, hF, _⟩ := cY0 hS hs hself hb hlen
 obtain ⟨u, v, cs', q', k1, k2⟩ := wb_ok (x := UInt8.ofNat n.toNat) Bc.F Bc.gcc Bc.cc Bc.gwb Bc.wb Bc.upb (by rw [hS.fn]; exact hup) Bc.lwb Bc.lwb2 hlies hB hsz.2.2
 obtain ⟨sa', a', e1, hS'⟩ := cj0 hS hF (by rw [List.length_append]; exact hsz.2.2) k2 ho hro
 obtain ⟨x1, T', S', q1, q2⟩ := h v sa' a' _ e1 _ (T.put (some d) v) (S.after u) (hc.push (a := (none, none)) (f := ⟨.all, u.kind⟩) ⟨trivial, trivial⟩) (hT.put d v) hS'
 refine ⟨x1, T', S', ?_, q2⟩
 rw [b_cl]
 rw [← hn] at k1
 simp only [List.map_cons, List.map_nil, hT.at hx, hT.at hy, hS.fn, hup, Bool.not_true, Bool.false_and, aN7, k1, bL2]
 exact q1
theorem s_bstP {x : X} {off : Nat} {l : List UInt8} {sa a : AV} {F : List Loc} (Bc : BldC P tp tb tu tz te fne fcc fws fwb fst) (hx : opd E x = some (.ptr p g 0 off)) (hA : A = .cel up ks p g t cs :: .own u0 k0 (.bb te l) a F :: B) (hs : cs[off]? = some sa) (hself : sa = .lit (.pointer none) ∨ sa = .ptr p g 0 off) (hb : cs[off + 1]? = some a) (hlen : Nat.ble cs.length 1000 = true) : Stp P L f E A d bf (.cl fst [x]) (none, some []) (fun u => u = .lit (.string (bs l))) := by
 subst hA
 intro T S hT hS
 obtain ⟨q, hB, _, hl⟩ := cY0 hS hs hself hb hlen
 refine ⟨_, ⟨.all, Upd.kind none⟩, rfl, ⟨trivial, .inl rfl⟩, fun c r => ?_⟩
 have hread : aM8 S (.ptr p g 0 off) = some (cs.drop off) := by simp [aM8, AS.an5, hB.get]
 have hgiv : aj6 P fst [.ptr p g 0 off] S = some (.ret (.lit (.string (bs l))), none) := by
  refine ah7.2 ⟨1, ?_⟩
  show (match Cfg.given fst with
   | some h => h [.ptr p g 0 off] S
   | none => _) = _
  rw [Bc.st]
  show ay4 te _ S = _
  unfold ay4
  simp only [hread]
  have e1 := List.drop_eq_getElem_cons (ap2 hs)
  have e2 := List.drop_eq_getElem_cons (ap2 hb)
  rcases hB.buf with ⟨rfl, _, hb'⟩ | ⟨q1, h, hne, _, hb', htok, _⟩
  ·have e3 : cs[off + 1]'(ap2 hb) = .lit (.slice none 0 0) := by
    have := List.getElem?_eq_getElem (ap2 hb)
    rw [hb'] at this
    exact (Option.some.inj this).symm
   rw [e1, e2, e3]
   rfl
  ·have e3 : cs[off + 1]'(ap2 hb) = .list (.own q1 h) 1 (u8s l) := by
    have := List.getElem?_eq_getElem (ap2 hb)
    rw [hb'] at this
    exact (Option.some.inj this).symm
   have hlen : l.length ≠ 0 := fun e => hne (List.length_eq_zero_iff.1 e)
   rw [e1, e2, e3]
   simp only [htok, aQ1, cj3, Option.map_some, true_and, ne_eq, hlen, not_false_eq_true]
   rw [if_pos (by unfold maxLen; omega)]
 have hcl : AV.ae7 [AV.af4 (.ptr p g 0 off)] = false := rfl
 rw [b_cl]
 simp only [List.map_cons, List.map_nil, hT.at hx, hcl, Bool.and_false, aN7, hgiv, bL2]
 rfl
omit [Cfg] in
theorem Mv.addB {L : Nat} {f : Fr} {A : List It} {te : TypeId} {ks : List Nat} : Mv f L A (fun A' => A' = .own false ks (.bb te []) (.lit (.slice none 0 0)) [] :: A) := fun _ hS =>
 ⟨_, rfl, hS.addF (it := .own false ks (.bb te []) (.lit (.slice none 0 0)) []) ⟨by unfold AtO; exact .inl ⟨rfl, rfl, rfl⟩, fun q hq => (nomatch hq)⟩ rfl⟩
end
inductive cK3 (E : Env) : List AV → List (Nat × Nat × X) → List AV → Prop where
 | nil {z z' : List AV} (h : z = z') : cK3 E z [] z'
 | cons {z ys cs : List AV} {off size : Nat} {x : X} {a : AV} {r : List (Nat × Nat × X)} (hx : opd E x = some a) (hc : a.cells = ys) (hn : ys.length = size) (hle : Nat.ble (off + size) z.length = true) (h : cK3 E (splice z off ys) r cs) : cK3 E z ((off, size, x) :: r) cs
theorem cK3.ok {E : Env} {T : BT} (hT : Ag E T) {z : List AV} {pl : List (Nat × Nat × X)} {cs : List AV} (h : cK3 E z pl cs) : aT8 T z pl = some cs := by
 induction h with
 | nil h => subst h; rfl
 | @cons z ys cs off size x a r hx hc hn hle h ih =>
  rw [bo8 z off size x r (by rw [hT.at hx, hc]; exact hn) (al0 hle), hT.at hx, hc]
  exact ih
section
variable [Cfg] {P : Program} {L : Nat} {f : Fr} {E : Env} {A : List It} {Φ : ax8} {m : Option (List (Nat × Nat))} {acc : AAcc} {r : List BI} {d : Nat}
theorem s_bdX {z cs : List AV} {pl : List (Nat × Nat × X)} (hp : cK3 E z pl cs) : Stp P L f E A d .none (.bd z pl) af0 (fun u => u = .agg cs) :=
 bD6 fun T S hT => by simp only [bop, hp.ok hT, Option.map_some]
theorem cq6 {o : BO} {bf : BF} {dd : Option Nat} {t : Nat} {w : Bool} {u : AV} (ht : look E t = some u) (hw : cM2 w u = true) (h : GO1 P m acc (⟨dd, none, bf, o⟩ :: r) L f E A Φ) : GO1 P m acc (⟨dd, some (t, w), bf, o⟩ :: r) L f E A Φ := by
 intro c T S hc hT hS
 have e : aS6 T (some (t, w)) = true := by rw [aQ6, hT t u ht, hw]
 obtain ⟨x, T', S', k1, k2⟩ := h c T S hc hT hS
 refine ⟨x, T', S', ?_, k2⟩
 rw [bS8, e, cC1]
 exact k1
theorem cv4 {o : BO} {bf : BF} {t : Nat} {w : Bool} {u : AV} (ht : look E t = some u) (hw : cM2 w u = false) (h : GO1 P m (accP acc af0) r L f ((d, .lit undef) :: E) A Φ) : GO1 P m acc (⟨some d, some (t, w), bf, o⟩ :: r) L f E A Φ := by
 intro c T S hc hT hS
 have e : aS6 T (some (t, w)) = false := by rw [aQ6, hT t u ht, hw]
 obtain ⟨x, T', S', k1, k2⟩ := h _ (T.put (some d) (.lit undef)) S (hc.push (a := af0) (f := ⟨.none, .none⟩) ⟨.inl rfl, .inl rfl⟩) (hT.put d _) hS
 refine ⟨x, T', S', ?_, k2⟩
 rw [bS8, e, b95]
 exact k1
end
theorem g_relS {x : AX} {L : Nat} {f : Fr} {E : Env} {A : List It} {Φ : ax8} {i n : Nat} {e : TypeId} {es : List (List V)} {a : AV} {F : List Loc} {up : Bool} {ks : List Nat} (hA : A[i]? = some (.own up ks (.gs n e es) a F)) (h : RelS (L + 1) (.sl n es) a → G x L f E A Φ) (hW : f.W = [] ∨ up = false := by first | exact .inl rfl | exact .inr rfl) : G x L f E A Φ := fun T S hT hS => by
 refine h ?_ T S hT hS
 have hm := List.mem_of_getElem? hA
 obtain ⟨h1, h2⟩ := hS.its _ hm
 unfold AtO at h1
 rcases h1 with ⟨h3, h4, _⟩ | ⟨ys, rfl, h4, _⟩ | ⟨q, k, ys, rfl, h4, h5, rfl⟩
 ·exact .inl ⟨h3, h4⟩
 ·exact .inr ⟨_, ys, rfl, .inl rfl, h4⟩
 ·refine .inr ⟨_, ys, rfl, .inr ⟨q, k, rfl, ?_⟩, h4⟩
  have hq : q ∈ It.foot (.own up ks (.gs n e es) (.list (.own q k) n ys) [q]) := List.mem_singleton.2 rfl
  rcases h2 q (List.mem_singleton.2 rfl) with h | h | h
  ·have := hS.reg.upr _ hm q hq (by omega)
   rcases hW with e | e
   ·rw [e] at this; cases this.2
   ·rw [show It.up _ = up from rfl, e] at this; cases this.1
  ·exact h.1
  ·exact h.1
inductive ResS (L : Nat) (A : List It) (E : Env) : List BR → List RV → List AV → Prop
 | nil : ResS L A E [] [] []
 | t {n : Nat} {a : AV} {v : RV} {b : List BR} {r : List RV} {t : List AV} (hx : look E n = some a) (hv : v.S (L + 1) a) (h : ResS L A E b r t) : ResS L A E (.t n :: b) (v :: r) (a :: t)
 | c1 {n i g : Nat} {p : Loc} {cs : List AV} {a : AV} {v : RV} {b : List BR} {r : List RV} {t : List AV} (hx : look E n = some (.ptr p g 0 0)) (hA : celAt A i p g cs) (hc : cs[0]? = some a) (hv : v.S (L + 1) a) (h : ResS L A E b r t) : ResS L A E (.c1 n :: b) (v :: r) (a :: t)
 | cn {n m i g : Nat} {p : Loc} {cs : List AV} {M : List V} {b : List BR} {r : List RV} {t : List AV} (hx : look E n = some (.ptr p g 0 0)) (hA : celAt A i p g cs) (hM : as4 (L + 1) M cs) (hm : M.length = m) (h : ResS L A E b r t) : ResS L A E (.cn n m :: b) (.agg M :: r) (.agg cs :: t)
theorem ResS.at {L : Nat} {A0 : List It} {E : Env} {T : BT} {S : AS} (hT : Ag E T) (h0 : ∀ it ∈ A0, it.ok S (L + 1)) {br : List BR} {rs : List RV} {l : List AV} (h : ResS L A0 E br rs l) : aQ3 S T br = some l ∧ RVL (L + 1) rs l := by
 induction h with
 | nil => exact ⟨rfl, rfl⟩
 | @t n a v b r t hx hv h ih =>
  refine ⟨?_, a, t, rfl, hv, ih.2⟩
  rw [ap7, ih.1, b44, hT n a hx]
  rfl
 | @c1 n i g p cs a v b r t hx hA0 hc hv h ih =>
  obtain ⟨u, ks, ty, hA0⟩ := hA0
  refine ⟨?_, a, t, rfl, hv, ih.2⟩
  rw [ap7, ih.1, ca5, hT n _ hx]
  rw [bk9 (h0 _ (List.mem_of_getElem? hA0)).1 hc]
  rfl
 | @cn n m i g p cs M b r t hx hA0 hM hm h ih =>
  obtain ⟨u, ks, ty, hA0⟩ := hA0
  refine ⟨?_, _, t, rfl, ⟨cs, rfl, hM⟩, ih.2⟩
  have hl : cs.length = m := by rw [hM.length, hm]
  rw [ap7, ih.1, b88, hT n _ hx]
  rw [bp5 (h0 _ (List.mem_of_getElem? hA0)).1, if_pos (by simp [hl]), List.drop_zero, List.take_of_length_le (by omega)]
  rfl
theorem g_resS {x : AX} {L : Nat} {f : Fr} {E : Env} {A : List It} {br : List BR} {rs : List RV} {l : List AV} (h : ResS L A E br rs l) (hW : f.W = [] ∨ f.ro = true := by first | exact .inl rfl | exact .inr rfl) (hx : x = .ret ∨ x = .normal := by first | exact .inl rfl | exact .inr rfl) : G x L f E A (ae2 L br rs) := fun T S hT hS => by
 obtain ⟨h1, h2⟩ := ResS.at hT (fun it hi => hS.its it hi) h
 exact ⟨hx, hS.dfr, hW.elim hS.out.outs hS.out.outs', l, h1, h2⟩
section
variable [Cfg] {P : Program} {L : Nat} {f : Fr} {E : Env} {A : List It} {Φ : ax8} {m : Option (List (Nat × Nat))} {acc : AAcc} {r : List BI} {d : Nat}
variable {up : Bool} {ks : List Nat} {k g : Nat} {t : TypeId} {cs : List AV}
theorem aG7 {x : X} {i off : Nat} {a : AV} (hx : opd E x = some (.ptr ⟨L + 1, k, 0⟩ g 0 off)) (hA : A[i]? = some (.cel up ks ⟨L + 1, k, 0⟩ g t cs)) (hc : cs[off]? = some a) : Stp P L f E A d (.at x) (.ld1 x) (some [k], some []) (fun u => u = a) := by
 refine aL6 (fun T S hT hS => ⟨a, ?_, rfl⟩) (fun T S hT hS => ⟨b35 (S := S) (d := some d) hT hx, .inl rfl⟩)
 simp only [bop, hT.at hx]
 rw [bk9 (hS.its _ (List.mem_of_getElem? hA)).1 hc]
 rfl
theorem bv1 {x : X} {i off n : Nat} {N : List AV} (hx : opd E x = some (.ptr ⟨L + 1, k, 0⟩ g 0 off)) (hA : A[i]? = some (.cel up ks ⟨L + 1, k, 0⟩ g t cs)) (hn : Nat.ble (off + n) cs.length = true) (hN : (cs.drop off).take n = N) : Stp P L f E A d (.at x) (.ldn n x) (some [k], some []) (fun u => u = .agg N) := by
 subst hN
 refine aL6 (fun T S hT hS => ⟨_, ?_, rfl⟩) (fun T S hT hS => ⟨b35 (S := S) (d := some d) hT hx, .inl rfl⟩)
 have := al0 hn
 simp only [bop, hT.at hx]
 rw [bp5 (hS.its _ (List.mem_of_getElem? hA)).1, if_pos (by rw [List.length_drop]; omega)]
 rfl
theorem bY8 {x v : X} {i off n : Nat} {b : AV} {cs' : List AV} (hx : opd E x = some (.ptr ⟨L + 1, k, 0⟩ g 0 off)) (hv : opd E v = some b) (hA : A[i]? = some (.cel up ks ⟨L + 1, k, 0⟩ g t cs)) (hn : b.cells.length = n) (hone : b.cells.all AV.one = true) (hco : ∀ a ∈ b.cells, Co (L + 1) a) (hle : Nat.ble (off + n) cs.length = true) (hcs : splice cs off b.cells = cs')
  (ho : (A.all fun jt => okO ks jt) = true) (h : GO1 P m (accP acc (some [k], some [k])) r L f E (A.set i (.cel up ks ⟨L + 1, k, 0⟩ g t cs')) Φ) : GO1 P m acc (⟨none, none, .at x, .st n x v⟩ :: r) L f E A Φ := by
 intro c T S hc hT hS
 subst hcs
 have hit := hS.its _ (List.mem_of_getElem? hA)
 have hle' := al0 hle
 have hst := bg5 (n := n) (xs := b.cells) hit.1 hn (off := off) (by rw [hn]; exact hle') hone
 have hS' : StA (S.set ⟨L + 1, k, 0⟩ (.obj g t (splice cs off b.cells))) L f (A.set i (.cel up ks ⟨L + 1, k, 0⟩ g t (splice cs off b.cells))) :=
  hS.setI hA (p := ⟨L + 1, k, 0⟩) (List.mem_singleton.2 rfl) (it := .cel up ks ⟨L + 1, k, 0⟩ g t (splice cs off b.cells)) ⟨AS.get_set_same .., hit.2.1, fun a ha => (b26 ha).elim (hit.2.2 a) (hco a)⟩ rfl rfl ho (.inr (.inr (Nat.lt_succ_self L)))
 obtain ⟨x1, T', S', q1, q2⟩ := h _ (T.put none (.lit undef)) _ (hc.push (a := (some [k], some [k])) (f := ⟨BF.foot S T none (.at x), .slot ⟨L + 1, k, 0⟩⟩) ⟨b35 (S := S) (d := none) hT hx, cd0 (List.mem_singleton.2 rfl)⟩) hT hS'
 refine ⟨x1, T', S', ?_, q2⟩
 have hop : bop P S T none (.st n x v) = some (.chg (.lit undef) ⟨L + 1, k, 0⟩ (.obj g t (splice cs off b.cells))) := by
  simp only [bop, hT.at hx, hT.at hv]
  rw [hst]
  rfl
 rw [ai2, hop, show (BO.st n x v).w = true from rfl, bO7]
 exact q1
theorem cF9 {x v : X} {i off : Nat} {b : AV} {cs' : List AV} (hx : opd E x = some (.ptr ⟨L + 1, k, 0⟩ g 0 off)) (hv : opd E v = some b) (hA : A[i]? = some (.cel up ks ⟨L + 1, k, 0⟩ g t cs)) (hb : b.cells = [b] ∧ b.one = true) (hco : Co (L + 1) b) (hle : Nat.ble (off + 1) cs.length = true) (hcs : splice cs off [b] = cs')
  (ho : (A.all fun jt => okO ks jt) = true) (h : GO1 P m (accP acc (some [k], some [k])) r L f E (A.set i (.cel up ks ⟨L + 1, k, 0⟩ g t cs')) Φ) : GO1 P m acc (⟨none, none, .at x, .st 1 x v⟩ :: r) L f E A Φ :=
 bY8 hx hv hA (by rw [hb.1]; rfl) (by rw [hb.1]; simp [hb.2]) (fun a ha => by rw [hb.1, List.mem_singleton] at ha; rw [ha]; exact hco) hle (by rw [hb.1]; exact hcs) ho h
end
end Go.Proofs.YtbinfgmdamlkbaaGreatDoor
namespace Go.Proofs.YtbinfgmdamlkbaaGreatDoor
open Go.RowKit
section
variable [Cfg] {P : Program} {L : Nat} {f : Fr} {E : Env} {A : List It} {d : Nat}
end
def RVN (rs : List RV) (args : List AV) : Prop := RVLC rs (args.map AV.af4)
theorem RVL.toN {L : Nat} {rs : List RV} {args : List AV} (h : RVL L rs args) : RVN rs args := h.norm
theorem RVLC.len : ∀ {rs : List RV} {l : List AV}, RVLC rs l → l.length = rs.length
 | [], l, h => by cases h; rfl
 | r :: rs, l, h => by
  obtain ⟨a, t, rfl, _, h⟩ := h
  simp [h.len]
theorem RelA.nrmA {n : Nat} {es : List (List V)} {a : AV} (h : RelA n es a) : RV.C (.sl n es) a.af4 := by
 rcases h with ⟨rfl, p, rfl⟩ | ⟨sp, ys, rfl, h⟩
 ·exact RelC.nil n p
 ·exact RelC.list rfl h
theorem RV.C.nrmA {r : RV} {a : AV} (h : r.C a) : r.C a.af4 := (h.toS (L := 0)).norm
section
variable [Cfg] {P : Program}
omit [Cfg] in
theorem cH9 [Cfg] {S S' : AS} {T : BT} {g : FuncId} {res : List BR} {x : AX} (hx : x = .ret ∨ x = .normal) (hd : S'.dfr = []) : bfin g res S (some (x, T, S')) = bret g S S' (aQ3 S' T res) := by
 rcases hx with rfl | rfl
 ·exact aX5 hd
 ·exact aO8 hd
theorem ao1 {f : FuncId} {b : BFn} {args : List AV} {rsA rs : List RV} (hg : Cfg.given f = none) (hf : ao9 P f = some b) (hup : ∀ h, Cfg.up f h = false) (hn : Nat.ble rsA.length b.nt = true) (hsz : Nat.ble (rs.length + (rs.map RV.size).sum + 5) 100000 = true)
  (h : ∀ L as1, RVLC rsA as1 → GC P b.code L f (numE 0 as1) [] (ae2 L b.res rs)) (ha : RVN rsA args) : a15 P f args (ResC rs) := by
 intro S args0 he
 replace ha : RVN rsA args0 := by unfold RVN; rw [he]; exact ha
 clear he
 revert ha
 generalize args0 = args
 intro ha
 obtain ⟨x, T', S', h1, h2, h3, h4, as1, h5, h6⟩ := h S.lvl (args.map AV.af4) ha (bz4 (args.map AV.af4)) (S.enter f) (Ag.args _) ⟨rfl, rfl, rfl, FrOk.enter f (.inl rfl), fun _ hi => (nomatch hi), RegA.none rfl⟩
 obtain ⟨v, k1, k2⟩ := cT3 S' h6 (al0 hsz)
 have hl : args.length = rsA.length := by have := ha.len; rwa [List.length_map] at this
 refine ⟨v, aY3 hg hf (by rw [hl]; exact al0 hn) ?_, k2⟩
 rw [b39 (hup _), h1, cH9 h2 h3, h5]
 unfold bret
 simp only
 rw [bw1 (hup _) h4, k1]
 rfl
omit [Cfg] in
theorem RV.C.closed {r : RV} {a : AV} (h : r.C a) : a.closed = true := by
 cases r with
 | int k n => cases h; rfl
 | bool b => cases h; rfl
 | str l => cases h; rfl
 | sl sz es => exact RelC.closed h
 | v x => exact RelC.closed h
 | agg M => obtain ⟨cs, rfl, h⟩ := h; simp only [AV.closed]; exact ab6.closed h
omit [Cfg] in
theorem RVLC.closed : ∀ {rs : List RV} {l : List AV}, RVLC rs l → AV.ae7 l = true
 | [], l, h => by cases h; rfl
 | r :: rs, l, h => by
  obtain ⟨a, t, rfl, h1, h2⟩ := h
  simp only [AV.ae7, h1.closed, RVLC.closed h2, Bool.and_self]
variable {L : Nat} {f : Fr} {E : Env} {A : List It} {d : Nat}
theorem bW7 {g : FuncId} {xs : List X} {args : List AV} {rs : List RV} {Q : AV → Prop} (hup : ∀ h, Cfg.up g h = false) (hx : optL E xs = some args) (hn : RVN rs args) (hc : RVN rs args → a15 P g args Q) : Stp P L f E A d .none (.cl g xs) af0 Q :=
 s_clC hup hx (RVLC.closed hn) (hc hn)
end
end Go.Proofs.YtbinfgmdamlkbaaGreatDoor
namespace Go.Proofs.YtbinfgmdamlkbaaGreatDoor
open Go.RowKit
theorem flat_get {α : Type} {n : Nat} : ∀ {ys : List (List α)} {j k : Nat}, (∀ y ∈ ys, y.length = n) → k < n → ys.flatten[j * n + k]? = (ys[j]?).bind (·[k]?)
 | [], j, k, _, _ => by simp
 | y :: r, 0, k, h, hk => by
  have hy := h y (List.mem_cons_self ..)
  simp only [List.flatten_cons, Nat.zero_mul, Nat.zero_add, List.getElem?_cons_zero, Option.bind_some]
  rw [List.getElem?_append_left (by omega)]
 | y :: r, j + 1, k, h, hk => by
  have hy := h y (List.mem_cons_self ..)
  rw [List.flatten_cons, List.getElem?_append_right (by rw [hy, Nat.succ_mul]; omega), hy, List.getElem?_cons_succ, ← flat_get (ys := r) (fun z hz => h z (List.mem_cons_of_mem _ hz)) hk]
  congr 1
  rw [Nat.succ_mul]
  omega
theorem ad7.lens {n : Nat} : ∀ {es : List (List V)} {ys : List (List AV)}, ad7 es ys → (∀ y ∈ es, y.length = n) → ∀ y ∈ ys, y.length = n
 | [], ys, h, _ => by unfold ad7 at h; subst h; exact fun y hy => (nomatch hy)
 | e :: r, ys, h, hl => by
  unfold ad7 at h
  obtain ⟨a, t, rfl, h1, h2⟩ := h
  intro y hy
  rcases List.mem_cons.1 hy with rfl | hy
  ·rw [h1.length]; exact hl e (List.mem_cons_self ..)
  ·exact h2.lens (fun z hz => hl z (List.mem_cons_of_mem _ hz)) y hy
theorem idx_at {α : Type} {xs : List α} {j : Int} {el : α} (h : G.idx xs j = some el) : xs[j.toNat]? = some el := by
 unfold G.idx at h
 split at h
 ·exact h
 ·cases h
def G.make {α : Type} (l : Int) (z : α) : Option (List α) := if 0 ≤ l ∧ l ≤ 1000000 then some (List.replicate l.toNat z) else none
def G.emp {α : Type} (l : List α) : Option Unit := if l.length = 0 then some () else none
theorem G.emp_eq {α : Type} {l : List α} {u : Unit} (h : G.emp l = some u) : l = [] := by
 unfold G.emp at h
 split at h
 ·rename_i h0; exact List.eq_nil_of_length_eq_zero h0
 ·cases h
section
variable [Cfg] {P : Program} {L : Nat} {f : Fr} {E : Env} {A B : List It} {Φ : ax8} {m : Option (List (Nat × Nat))} {acc : AAcc} {r : List BI} {d : Nat} {bf : BF}
variable {up xr : Bool} {ks : List Nat} {n : Nat} {e : TypeId} {α : Type} {c : α → List V} {xs : List α} {F : List Loc}
theorem g_iaR {x y : X} {a : AV} {i : Nat} {k : IntKind} {j : Int} {el : α} (hA : A[i]? = some (.own up ks (.rw xr n e (xs.map c)) a F)) (hx : opd E x = some a) (hi : opd E y = some (.lit (.int k j))) (he : G.idx xs j = some el)
  (h : ∀ q g N M, a = .row .room q g N 0 M n → GO1 P m (accP acc af0) r L f ((d, .ptr q g N (j.toNat * n)) :: E) A Φ) : GO1 P m acc (⟨some d, none, .none, .ia n x y⟩ :: r) L f E A Φ := by
 intro cc T S hc hT hS
 have h1 := (hS.its _ (List.mem_of_getElem? hA)).1
 unfold AtO at h1
 unfold G.idx at he
 split at he
 case isFalse => cases he
 rename_i h0
 have hlt := (List.getElem?_eq_some_iff.1 he).1
 rcases h1 with ⟨h2, _⟩ | ⟨q, g, ys, zs, rfl, h2, h3, rfl⟩
 ·have : xs = [] := by simpa using h2
  subst this
  simp at hlt
 ·have hl : ys.length = xs.length := by rw [h2.1.length, List.length_map]
  obtain ⟨x1, T', S', q1, q2⟩ := h q g (ys.length + zs.length) ys.length rfl _ (T.put (some d) _) S (hc.push (a := af0) (f := ⟨BF.foot S T (some d) .none, .none⟩) ⟨.inl rfl, .inl rfl⟩) (hT.put d _) hS
  refine ⟨x1, T', S', ?_, q2⟩
  have hop : bop P S T (some d) (.ia n x y) = some (.val (.ptr q g (ys.length + zs.length) (j.toNat * n))) := by
   simp only [bop, hT.at hx, hT.at hi, iaV]
   rw [if_pos ⟨h0, trivial, by rw [hl]; exact hlt⟩, Nat.zero_add]
   rfl
  rw [ai2, hop, b03]
  exact q1
theorem s_ldR {x : X} {i o j k N M : Nat} {q : Loc} {g : Nat} {el : α} {v : V} (hA : A[i]? = some (.own up ks (.rw xr n e (xs.map c)) (.row .room q g N 0 M n) F)) (hx : opd E x = some (.ptr q g N o)) (ho : o = j * n + k) (hk : Nat.blt k n = true) (he : xs[j]? = some el) (hv : (c el)[k]? = some v) : Stp P L f E A d (.at x) (.ld1 x) (some (0 :: ks), some []) (fun u => RelC v u) := by
 intro T S hT hS
 subst ho
 have hm := List.mem_of_getElem? hA
 obtain ⟨h1, hpl⟩ := hS.its _ hm
 unfold AtO at h1
 rcases h1 with ⟨h0, _⟩ | ⟨q', g', ys, zs, h2, h3, h4, rfl⟩
 ·have : xs = [] := by simpa using h0
  subst this
  cases he
 ·injection h2 with _ e1 e2 e3 _ e4
  subst e1 e2
  have hy := h3.1.lens h3.2.1
  obtain ⟨y, k1, k2⟩ := h3.1.get (i := j) (v := c el) (by rw [List.getElem?_map, he]; rfl)
  obtain ⟨a, k3, k4⟩ := k2.get hv
  have hlt : k < n := by simpa [Nat.blt_eq] using hk
  refine ⟨a, ⟨BF.foot S T (some d) (.at x), .none⟩, k4, ⟨.inr ⟨[q], by show ah4 (x.at T) = _; rw [hT.at hx]; rfl, by simp, fun z hz => by rw [List.mem_singleton.1 hz]; exact (hpl q (List.mem_singleton.2 rfl)).key⟩, .inl rfl⟩, fun cc r => ?_⟩
  have hj := (List.getElem?_eq_some_iff.1 k1).1
  have hyz : ∀ z ∈ ys ++ zs, z.length = n := fun z hz => (List.mem_append.1 hz).elim (hy z) (h3.2.2.2.1 z)
  have hget : (ys ++ zs).flatten[j * n + k]? = some a := by rw [flat_get hyz hlt, List.getElem?_append_left hj, k1]; exact k3
  have hop : bop P S T (some d) (.ld1 x) = some (.val a) := by
   simp only [bop, hT.at hx]
   have hr : aM8 S (.ptr q g N (j * n + k)) = some ((ys ++ zs).flatten.drop (j * n + k)) := by
    simp only [aM8, AS.an5, h4]
    rw [if_pos ⟨trivial, e3.symm⟩]
    rfl
   simp only [ld1V, hr]
   rw [List.head?_drop, hget]
   rfl
  rw [ai2, hop, b03]
omit [Cfg] in
theorem Mv.addRN {ks : List Nat} {n : Nat} {e : TypeId} {a : AV} (ha : ∃ p, a = .lit (.slice p 0 0)) : Mv f L A (fun A' => A' = .own false ks (.rw xr n e []) a [] :: A) := fun _ hS =>
 ⟨_, rfl, hS.addF (it := .own false ks (.rw xr n e []) a []) ⟨by unfold AtO; exact .inl ⟨rfl, .inl ⟨rfl, ha, rfl⟩⟩, fun q hq => (nomatch hq)⟩ rfl⟩
theorem g_contRE {l : List BI} {a : AV} {i : Nat} (hA : A[i]? = some (.own up ks (.rw xr n e (xs.map c)) a F)) (he : xs = []) (h : RelA n (xs.map c) a → GO1 P m acc l L f E A Φ) : GO1 P m acc l L f E A Φ := fun cc T S hc hT hS => by
 have h1 := (hS.its _ (List.mem_of_getElem? hA)).1
 unfold AtO at h1
 refine h ?_ cc T S hc hT hS
 subst he
 rcases h1 with ⟨_, h3⟩ | ⟨q, g, ys, zs, _, h2, _⟩
 ·exact h3.relA
 ·exact absurd rfl h2.2.2.2.2.2
structure MkSl (P : Program) (t e : TypeId) (n : Nat) (zc : List AV) : Prop where
 und : P.underlying t = some (.slice e)
 inf : ∃ i z, P.info? e = some i ∧ i.zero = some z ∧ z.cells.size = n ∧ i.size = n ∧ 0 < n ∧ i.bytes ≤ 100000 ∧ z.cells.toList.map AV.lit = zc
omit [Cfg] in
theorem b30 {v : List V} {y : List AV} (h : ab6 v y) : ∀ k : Nat, ad7 (List.replicate k v) (List.replicate k y)
 | 0 => by unfold ad7; rfl
 | k + 1 => by
  rw [List.replicate_succ, List.replicate_succ]
  unfold ad7
  exact ⟨y, _, rfl, h, b30 h k⟩
theorem g_mkS {x : Operand} {t : TypeId} {zc : List AV} {z : α} {zs : List α} {k : IntKind} {l : Int} {ty : TypeId} (hM : MkSl P t e n zc) (hl : Cfg.live f.fn d = false) (hx : opd E (ai5 x) = some (.lit (.int k l))) (hz : ab6 (c z) zc) (he : G.make l z = some zs) (hf : (A.all fun jt => jt.free d) = true)
  (h : ∀ a F', GO1 P m (accP acc (some [d], some [d])) r L f ((d, a) :: E) (.own false [d] (.rw xr n e (zs.map c)) a F' :: A) Φ) : GO1 P m acc (⟨some d, none, .here, .gen (.makeSlice t x x) ty⟩ :: r) L f E A Φ := by
 unfold G.make at he
 split at he
 case isFalse => cases he
 rename_i h0
 cases he
 obtain ⟨i, z0, m1, m2, m3, m4, m5, m6, m7⟩ := hM.inf
 intro cc T S hc hT hS
 have e1 : S.here d = ⟨L + 1, d, 0⟩ := by rw [aL5, hS.lvl]
 have hlive : Cfg.live S.fn d = false := by rw [hS.fn]; exact hl
 have hxa : aevF T x = .lit (.int k l) := hT.at hx
 have hcz : (c z).length = n := by rw [← hz.length, ← m7, List.length_map, Array.length_toList, m3]
 have hcond : z0.cells.size = i.size ∧ 0 < i.size ∧ 0 ≤ l ∧ l ≤ l ∧ l ≤ 1000000 ∧ l * (i.bytes : Int) ≤ 140737488355328 := by
  refine ⟨by rw [m3, m4], by omega, h0.1, Int.le_refl _, h0.2, ?_⟩
  have : l * (i.bytes : Int) ≤ 1000000 * 100000 := Int.mul_le_mul h0.2 (by omega) (by omega) (by omega)
  omega
 by_cases hl0 : l = 0
 ·subst hl0
  refine b41 (v := .list (.own ⟨L + 1, d, 0⟩ (S.fresh ⟨L + 1, d, 0⟩)) n []) (s := .tok (S.fresh ⟨L + 1, d, 0⟩) 0 n e) ?_ rfl hc (aM7 hS) (hT.put d _) (hS.push hf (it := .own false [d] (.rw xr n e ((List.replicate (Int.toNat 0) z).map c)) _ [⟨L + 1, d, 0⟩]) (.inl rfl) ⟨?_, fun q hq => by rw [List.mem_singleton.1 hq]; exact Pl.own _ _⟩) (h _ _)
  ·simp only [bop, aop, aJ2, hM.und, hxa, m1, m2]
   rw [if_pos hcond, if_pos ⟨trivial, hlive⟩, e1, m4]
  ·unfold AtO
   refine .inl ⟨rfl, .inr (.inr ⟨_, _, [], rfl, by unfold ad7; rfl, AS.get_set_same .., rfl⟩)⟩
 ·have hlen : (List.replicate l.toNat zc).length = l.toNat := List.length_replicate ..
  refine b41 (v := .row .room ⟨L + 1, d, 0⟩ (S.fresh ⟨L + 1, d, 0⟩) l.toNat 0 l.toNat n) (s := .row (S.fresh ⟨L + 1, d, 0⟩) l.toNat n e (List.replicate l.toNat zc).flatten) ?_ rfl hc (aM7 hS) (hT.put d _) (hS.push hf (it := .own false [d] (.rw xr n e ((List.replicate l.toNat z).map c)) _ [⟨L + 1, d, 0⟩]) (.inl rfl) ⟨?_, fun q hq => by rw [List.mem_singleton.1 hq]; exact Pl.own _ _⟩) (h _ _)
  ·simp only [bop, aop, aJ2, hM.und, hxa, m1, m2]
   rw [if_pos hcond, if_neg (fun h => hl0 h.1), e1, m4, m7]
  ·unfold AtO
   refine .inr ⟨_, _, List.replicate l.toNat zc, [], by rw [hlen]; rfl, ⟨?_, ?_, rfl, fun z hz => (nomatch hz), fun _ => rfl, ?_⟩, ?_, rfl⟩
   ·rw [List.map_replicate]; exact b30 hz _
   ·intro y hy
    rw [List.map_replicate] at hy
    rw [List.eq_of_mem_replicate hy, hcz]
   ·intro e0
    have : (List.replicate l.toNat z).length = 0 := by
     rw [← List.length_map (f := c), e0]; rfl
    rw [List.length_replicate] at this
    omega
   ·rw [List.append_nil, hlen]
    exact AS.get_set_same ..
end
end Go.Proofs.YtbinfgmdamlkbaaGreatDoor
namespace Go.Proofs.YtbinfgmdamlkbaaGreatDoor
open Go.RowKit
abbrev Mp.ks (l : List UInt8) : Value := .string (bs l)
abbrev Mp.o {K β : Type} (κ : K → Value) (χ : β → V) (m : List (K × β)) : OV := .mp (m.map fun p => κ p.1) (m.map fun p => .c (χ p.2))
theorem atL_c {S : AS} {p : Loc} {g : Nat} : ∀ {vs : List V} {i : Nat} {cs : List AV} {F : List Loc}, AtL S p g i (vs.map OV.c) cs F ↔ ab6 vs cs ∧ F = []
 | [], i, cs, F => by simp only [List.map_nil]; unfold AtL ab6; rfl
 | v :: r, i, cs, F => by
  rw [List.map_cons]
  unfold AtL ab6 AtO
  constructor
  ·rintro ⟨a, t, F1, F2, rfl, rfl, ⟨h1, rfl⟩, h2⟩
   obtain ⟨h3, rfl⟩ := atL_c.1 h2
   exact ⟨⟨a, t, rfl, h1, h3⟩, rfl⟩
  ·rintro ⟨⟨a, t, rfl, h1, h2⟩, rfl⟩
   exact ⟨a, t, [], [], rfl, rfl, ⟨h1, rfl⟩, atL_c.2 ⟨h2, rfl⟩⟩
section
variable [Cfg] {P : Program} {L : Nat} {f : Fr} {E : Env} {A B : List It} {Φ : ax8} {m : Option (List (Nat × Nat))} {acc : AAcc} {r : List BI} {d : Nat} {bf : BF}
variable {up : Bool} {ks : List Nat} {K β : Type} [DecidableEq K] {κ : K → Value} {χ : β → V} {M : List (K × β)} {F : List Loc} {t kt vt ty : TypeId}
omit [DecidableEq K] in
theorem g_mkM (hf : (A.all fun jt => jt.free d) = true) (h : ∀ g, GO1 P m (accP acc (some [d], some [d])) r L f ((d, .mref ⟨L + 1, d, 0⟩ g) :: E) (.own false [d] (Mp.o κ χ []) (.mref ⟨L + 1, d, 0⟩ g) [⟨L + 1, d, 0⟩] :: A) Φ) : GO1 P m acc (⟨some d, none, .here, .gen (.makeMap t none) ty⟩ :: r) L f E A Φ := by
 intro c T S hc hT hS
 have e1 : S.here d = ⟨L + 1, d, 0⟩ := by rw [aL5, hS.lvl]
 refine b41 (v := .mref ⟨L + 1, d, 0⟩ (S.fresh ⟨L + 1, d, 0⟩)) (s := .map (S.fresh ⟨L + 1, d, 0⟩) [] 0) (by simp only [bop, aop, e1]) rfl hc (aM7 hS) (hT.put d _) (hS.push hf (it := .own false [d] (Mp.o κ χ []) _ [⟨L + 1, d, 0⟩]) (.inl rfl) ⟨?_, fun q hq => by rw [List.mem_singleton.1 hq]; exact Pl.own _ _⟩) (h _)
 unfold AtO
 exact ⟨_, _, [], 0, [], rfl, rfl, AS.get_set_same .., rfl, List.nodup_nil, fun e he => (nomatch he), by unfold AtL; exact ⟨rfl, rfl⟩⟩
end
section
variable [Cfg] {P : Program} {L : Nat} {f : Fr} {E : Env} {A B : List It} {Φ : ax8} {m : Option (List (Nat × Nat))} {acc : AAcc} {r : List BI} {d : Nat} {bf : BF}
def CoL (l : Nat) : List AV → Prop
 | [] => True
 | a :: r => Co l a ∧ CoL l r
omit [Cfg] in
theorem CoL.mem {l : Nat} : ∀ {cs : List AV}, CoL l cs → ∀ a ∈ cs, Co l a
 | _ :: _, h, a, ha => by
  rcases List.mem_cons.1 ha with rfl | ha
  ·exact h.1
  ·exact CoL.mem h.2 a ha
theorem g_bxO {e : TypeId} {x : X} {a : AV} {cs : List AV} (hx : opd E x = some a) (hcs : a.cells = cs) (hcl : CoL (L + 1) cs) (hf : (A.all fun jt => jt.free d) = true) (h : ∀ g, GO1 P m (accP acc (some [d], some [d])) r L f ((d, .ptr ⟨L + 1, d, 0⟩ g 0 0) :: E) (.cel false [d] ⟨L + 1, d, 0⟩ g e cs :: A) Φ) : GO1 P m acc (⟨some d, none, .here, .bx e x⟩ :: r) L f E A Φ := by
 subst hcs
 intro c T S hc hT hS
 have e1 : S.here d = ⟨L + 1, d, 0⟩ := by rw [aL5, hS.lvl]
 exact b41 (v := .ptr ⟨L + 1, d, 0⟩ (S.fresh ⟨L + 1, d, 0⟩) 0 0) (s := .obj (S.fresh ⟨L + 1, d, 0⟩) e a.cells) (by simp only [bop, e1, hT.at hx]) rfl hc (aM7 hS) (hT.put d _) (hS.push hf (it := .cel false [d] ⟨L + 1, d, 0⟩ _ e a.cells) (.inl rfl) ⟨AS.get_set_same .., Pl.own _ _, hcl.mem⟩) (h _)
end
theorem one_nil : ([] : List AV).all AV.one = true := rfl
theorem aQ9 {a : AV} {l : List AV} (h : a.one = true) (hl : l.all AV.one = true) : (a :: l).all AV.one = true := by simp only [List.all_cons, h, hl, Bool.and_self]
def oneO : OV → Bool
 | .mp _ _ => true
 | .ptr _ _ => true
 | o => leafO o
theorem leaf_one {S : AS} {p : Loc} {g i : Nat} {o : OV} {a : AV} {F : List Loc} (h : AtO S p g i o a F) (ho : oneO o = true) : a.cells = [a] ∧ a.one = true := by
 have gs : ∀ {n e es F}, Gs S n e es a F → a.cells = [a] ∧ a.one = true := fun h => h.relA.cells
 cases o with
 | gs n e es => unfold AtO at h; exact gs h
 | li n e es =>
  unfold AtO at h
  rcases h with h | ⟨_, rfl, _⟩
  ·exact gs h
  ·exact ⟨rfl, rfl⟩
 | rw x n e es =>
  unfold AtO at h
  rcases h with ⟨_, h⟩ | ⟨_, _, _, _, rfl, _⟩
  ·exact gs h
  ·exact ⟨rfl, rfl⟩
 | it s pos =>
  unfold AtO at h
  obtain ⟨_, _, rfl, _⟩ := h
  exact ⟨rfl, rfl⟩
 | mp ks vs =>
  unfold AtO at h
  obtain ⟨_, _, _, _, _, rfl, _⟩ := h
  exact ⟨rfl, rfl⟩
 | ptr t os =>
  unfold AtO at h
  obtain ⟨_, _, _, _, rfl, _⟩ := h
  exact ⟨rfl, rfl⟩
 | _ => cases ho
theorem cT5 [Cfg] {P : Program} {L : Nat} {f : Fr} {E : Env} {A : List It} {Φ : ax8} {m : Option (List (Nat × Nat))} {acc : AAcc} {l : List BI} {up : Bool} {ks : List Nat} {i : Nat} {o : OV} {a : AV} {F : List Loc} (hA : A[i]? = some (.own up ks o a F)) (ho : oneO o = true) (h : Co (L + 1) a → (a.cells = [a] ∧ a.one = true) → GO1 P m acc l L f E A Φ) : GO1 P m acc l L f E A Φ := fun c T S hc hT hS =>
 have hi := hS.its _ (List.mem_of_getElem? hA)
 h (own_co hi) (leaf_one hi.1 ho) c T S hc hT hS
theorem bd1 {l : Nat} : ∀ {t : Tab} {j : Nat}, ao6 l t ≤ j → t.get ⟨l, 0, j⟩ = none
 | [], j, _ => rfl
 | (q, s) :: r, j, h => by
  unfold ao6 at h
  unfold Tab.get
  split at h
  ·rw [if_neg (fun e => by subst e; simp only at h; omega)]
   exact bd1 (by omega)
  ·rename_i hk
   rw [if_neg (fun e => hk (by subst e; exact ⟨rfl, rfl⟩))]
   exact bd1 h
theorem cy9 [Cfg] {P : Program} {f : FuncId} (hg : Cfg.given f = some aN8) {K β : Type} (κ : K → Value) (χ : β → V) (M : List (K × β)) : bd8 P f [.o (Mp.o κ χ M)] false [.o (Mp.o κ χ M)] [.o (Mp.o κ χ M)] := by
 intro S args F hup hat hnd hlv
 obtain ⟨a, t, F1, F2, ha, rfl, h2, h3⟩ := hat
 obtain ⟨rfl, rfl⟩ := h3
 have h2' := h2
 unfold AtA AtO at h2
 obtain ⟨q, k, es, ck, F', rfl, rfl, g2, g3, g4, g5, g6⟩ := h2
 obtain ⟨b, rfl⟩ : ∃ b, args = [b] := by
  match args, ha with
  | [], ha => simp at ha
  | [b], _ => exact ⟨b, rfl⟩
  | b :: c :: r, ha => simp at ha
 have hb : b = .mref q k := by
  have : b.af4 = .mref q k := by simpa using ha
  cases b <;> simp [AV.af4, AV.au6] at this ⊢
  exact this
 subst hb
 have e0 : (M.map fun p => OV.c (χ p.2)) = (M.map fun p => χ p.2).map OV.c := by rw [List.map_map]; rfl
 rw [e0] at g6
 obtain ⟨h7, rfl⟩ := atL_c.1 g6
 obtain ⟨p, hp⟩ : ∃ p : Loc, p = ⟨S.lvl, 0, ao6 S.lvl S.tab⟩ := ⟨_, rfl⟩
 have hnone : S.get p = none := by rw [hp]; exact bd1 (Nat.le_refl _)
 have hqp : q ≠ p := fun e => by rw [e, hnone] at g2; cases g2
 have hget : ∀ x, x ≠ p → (S.after (some (S.tab.put p (.map 0 es ck), [p]))).get x = S.get x := fun x hx => AS.ag2 S _ hx
 refine ⟨.mref p 0, some (S.tab.put p (.map 0 es ck), [p]), [q], [p], [], ?_, ?_, ?_, fun x hx => (nomatch hx), ?_⟩
 ·refine ah7.2 ⟨1, ?_⟩
  show (match Cfg.given f with | some h => h [.mref q k] S | none => _) = _
  rw [hg]
  simp only [aN8, g2, ← hp, hnone, Option.isNone_none, and_self, if_true]
  rfl
 ·exact ⟨_, _, [q], [], rfl, rfl, h2'.local fun x hx => by rw [List.mem_singleton.1 hx]; exact hget q hqp, rfl, rfl⟩
 ·show AtO _ _ _ _ _ _ _
  unfold AtO
  exact ⟨p, 0, es, ck, [], rfl, rfl, AS.get_set_same .., g3, g4, g5, by rw [e0]; exact atL_c.2 ⟨h7, rfl⟩⟩
 ·refine ⟨rfl, rfl, rfl, ?_, ?_, ?_, ?_, ?_⟩
  ·simp [hqp]
  ·intro x hx; simpa using .inl (by simpa using hx)
  ·intro x hx
   rcases (by simpa using hx : x = q ∨ x = p) with rfl | rfl
   ·exact .inl (by simp)
   ·exact .inr (by have := az6 S.lvl S.tab; rw [hp]; exact ⟨rfl, rfl, by simp only; omega, by rw [← hp]; exact hnone⟩)
  ·intro x hx
   rw [List.mem_singleton.1 hx]
   exact .inr (by have := az6 S.lvl S.tab; rw [hp]; exact ⟨rfl, rfl, by simp only; omega, by rw [← hp]; exact hnone⟩)
  ·intro x hx
   exact hget x fun e => hx (by rw [e]; exact List.mem_singleton.2 rfl)
end Go.Proofs.YtbinfgmdamlkbaaGreatDoor
namespace Go.Proofs.YtbinfgmdamlkbaaGreatDoor
open Go.RowKit
def cI5 [Cfg] (P : Program) (f : FuncId) (ins : List OA) (rs : List RV) : Prop :=
 ∀ (S : AS) (args : List AV) (F : List Loc), AtAs S ins (args.map AV.af4) F → F.Nodup → (∀ q ∈ F, q.l ≤ S.lvl) → ∃ v, aj6 P f args S = some (.ret v, none) ∧ ResC rs v
def ptrO : OA → Bool
 | .o (.ptr _ _) => true
 | .o _ => false
 | .r _ => true
 | _ => false
def isO : OA → Bool
 | .o _ => true
 | _ => false
theorem cR3 {os : List OA} (h : os.all ptrO = true) : os.all OA.given = true := by
 rw [List.all_eq_true] at h ⊢
 intro o ho
 have := h o ho
 cases o <;> first | rfl | cases this
theorem ptr_nrm {os : List OA} (h : os.all ptrO = true) : os.all nrmO = true := by
 rw [List.all_eq_true] at h ⊢
 intro o ho
 have := h o ho
 cases o with
 | o v => cases v <;> first | rfl | cases this
 | r v => rfl
 | _ => cases this
theorem cX6 (a : AV) : a.au6.au6 = a.au6 := by cases a <;> rfl
theorem cQ3 (a : AV) : a.af4.af4 = a.af4 := by
 cases a with
 | agg cs =>
  simp only [AV.af4, List.map_map]
  congr 1
  exact List.map_congr_left fun x _ => cX6 x
 | _ => rfl
theorem AtO.ptr {S : AS} {t : TypeId} {os : List OV} {a : AV} {F : List Loc} (h : AtO S bC1 0 0 (.ptr t os) a F) : ∃ q g, a = .ptr q g 0 0 := by
 unfold AtO at h
 obtain ⟨q, g, _, _, h, _⟩ := h
 exact ⟨q, g, h⟩
theorem AtAs.open {S : AS} : ∀ {ins : List OA} {l : List AV} {F : List Loc}, AtAs S ins l F → ins.all ptrO = true → ins.any isO = true → AV.ae7 (l.map AV.af4) = false
 | [], _, _, _, _, h => by cases h
 | o :: r, l, F, h, hp, ha => by
  obtain ⟨a, t, F1, F2, rfl, rfl, h2, h3⟩ := h
  simp only [List.all_cons, Bool.and_eq_true] at hp
  simp only [List.any_cons, Bool.or_eq_true] at ha
  rw [List.map_cons]
  unfold AV.ae7
  rcases ha with ha | ha
  ·cases o with
   | x => cases ha
   | ag os => cases ha
   | r v => cases ha
   | o v =>
    cases v with
    | ptr ty os =>
     obtain ⟨q, g, rfl⟩ := AtO.ptr h2
     simp [AV.closed, AV.af4, AV.au6]
    | _ => cases hp.1
  ·rw [h3.open hp.2 ha, Bool.and_false]
section
variable [Cfg] {P : Program}
theorem bC0 {f : FuncId} {b : BFn} {ins : List OA} {rs : List RV} (hg : Cfg.given f = none) (hf : ao9 P f = some b) (hup : ∀ h, Cfg.up f h = false) (hp : ins.all ptrO = true) (hn : Nat.ble ins.length b.nt = true) (hsz : Nat.ble (rs.length + (rs.map RV.size).sum + 5) 100000 = true)
  (h : ∀ L S0 F args A, InI ins args F A → GC P b.code L ⟨f, F, S0, false, true⟩ (numE 0 args) A (ae2 L b.res rs)) : cI5 P f ins rs := by
 intro S args F hat hnd hlv
 obtain ⟨A, k1, k2, k3, k4⟩ := InI.of hat (cR3 hp)
 obtain ⟨x, T', S', h1, h2, h3, h4, as1, h5, h6⟩ := h S.lvl S F (args.map AV.af4) A k1 (bz4 (args.map AV.af4)) (S.enter f) (Ag.args _)
  ⟨rfl, rfl, rfl, FrOk.enter f (.inl rfl), k4 _ _ (fun _ => rfl) (fun q hq => by have := hlv q hq; omega), by
   refine ⟨by rw [k2]; exact hnd, fun it hi q hq _ => ⟨k3 it hi, ?_⟩, fun q hq => ?_, hlv⟩
   ·rw [← k2]; exact List.mem_flatMap.2 ⟨it, hi, hq⟩
   ·have hq : q ∈ F := hq
    rw [← k2] at hq
    obtain ⟨it, h1, h2⟩ := ar5 hq
    exact ⟨it, h1, k3 it h1, h2⟩⟩
 obtain ⟨v, q1, q2⟩ := cT3 S' h6 (al0 hsz)
 refine ⟨v, aY3 hg hf (by rw [← List.length_map (f := AV.af4), hat.length]; exact al0 hn) ?_, q2⟩
 rw [b39 (hup _), h1, cH9 h2 h3, h5]
 unfold bret
 simp only
 rw [bw1 (hup _) h4, q1]
 rfl
variable {L : Nat} {f : Fr} {E : Env} {A1 B : List It} {d : Nat}
theorem s_clQ {g0 : FuncId} {xs : List X} {args : List AV} {ins : List OA} {rs : List RV} {A : List It} (hup : ∀ h, Cfg.up g0 h = false) (hp : ins.all ptrO = true) (ha : ins.any isO = true) (hx : optL E xs = some args) (hin : InC ins args A1) (hA : A = A1 ++ B) (hc : cI5 P g0 ins rs) : Stp P L f E A d .none (.cl g0 xs) (none, some []) (ResC rs) := by
 subst hA
 intro T S hT hS
 have hat := hin.at (S := S) (L := L + 1) (fun it hi => hS.its it (List.mem_append.2 (.inl hi))) (ptr_nrm hp)
 have hsep := hS.reg.sep
 rw [List.flatMap_append] at hsep
 obtain ⟨v, k1, k2⟩ := hc S args _ hat (List.nodup_append.1 hsep).1 (fun q hq => by
  obtain ⟨it, h1, h2⟩ := ar5 hq
  obtain ⟨_, h3⟩ := It.there (hS.its it (List.mem_append.2 (.inl h1))) q h2
  rw [hS.lvl]
  rcases h3 with h | h | h
  ·omega
  ·omega
  ·omega)
 have hb : bop P S T (some d) (.cl g0 xs) = some (.call g0 args) := by simp only [bop]; rw [bW5 hT hx]
 have hcl : AV.ae7 (args.map AV.af4) = false := by have := hat.open hp ha; rwa [List.map_map, show AV.af4 ∘ AV.af4 = AV.af4 from funext cQ3] at this
 exact ⟨v, ⟨.all, Upd.kind none⟩, k2, ⟨trivial, .inl rfl⟩, fun c r => by rw [ai2, hb, show (BO.cl g0 xs).w = true from rfl, cc0, hup, hcl, Bool.not_false, Bool.true_and, aN7, k1, bL2]; rfl⟩
end
end Go.Proofs.YtbinfgmdamlkbaaGreatDoor
namespace Go.Proofs.YtbinfgmdamlkbaaGreatDoor
open Go.RowKit
section
variable {P : Program} {t e : TypeId}
theorem aop_nilS [Cfg] {S : AS} {ρ : Operand → AV} {d : Option Tmp} {op : BinOp} {ne : Bool} {x y : Operand} {yt ty : TypeId} {pos : String} {aft : Array Edge} {g : Option (Nat × Bool)} {p : Option Addr} (hn : neOp op = some ne) (hu : P.underlying t = some (.slice e)) (hx : ρ x = .lit (.slice p 0 0)) (hy : ρ y = .lit (.slice none 0 0)) :
  aop P S ρ ⟨d, .binOp op t x y yt, ty, pos, aft, g⟩ = some (.val (.lit (.bool (p.isNone != ne)))) := by
 refine bS0 (v := .bool (p.isNone != ne)) (a := .slice p 0 0) (b := .slice none 0 0) (by rw [hx]; rfl) (by rw [hy]; rfl) (bE6 ?_) ?_ ?_
 ·rw [hx, hy]; unfold aL9; rw [hu]; cases p <;> rfl
 ·unfold eqGuard; split <;> rfl
 ·refine aY0 hn (by simp) (by simp) (by simp) (by simp) ?_
  show ab7 P (Op.equalIn (9999 + 1) t (.slice p 0 0) (.slice none 0 0)) = _
  unfold Op.equalIn
  rw [ac9, an2 hu]
  cases p <;> simp [al6]
variable [Cfg] {L : Nat} {f : Fr} {E : Env} {A : List It} {d : Nat} {ty : TypeId} {op : BinOp} {ne : Bool}
theorem s_nilS {x : Operand} {a : AV} {n : Nat} {es : List (List V)} (hn : neOp op = some ne) (hu : P.underlying t = some (.slice e)) (hx : opd E (ai5 x) = some a) (ha : RelA n es a) :
  Stp P L f E A d .none (.gen (.binOp op t x (.const (.slice none 0 0)) t) ty) af0 (fun u => ∃ b : Bool, u = .lit (.bool (b != ne)) ∧ (b = true → es = [])) := bO9 fun T S hT => by
 have hxa : aevF T x = a := hT.at hx
 rcases ha with ⟨he, p, rfl⟩ | ⟨sp, ys, rfl, hr⟩
 ·exact ⟨_, by simp only [bop]; exact aop_nilS hn hu hxa rfl, p.isNone, rfl, fun _ => he⟩
 ·refine ⟨.lit (.bool (false != ne)), ?_, false, rfl, fun h => by cases h⟩
  have hy : aevF T (.const (.slice none 0 0)) = .lit (.slice none 0 0) := rfl
  rcases bR9 hn with ⟨rfl, rfl⟩ | ⟨rfl, rfl⟩ <;> simp only [bop, aop, hxa, hy, acmp, aL9, hu, bx4, if_true, Option.map_some, aq9] <;> rfl
theorem s_fd1c {x : X} {off : Nat} {cs : List AV} {v : AV} (hx : opd E x = some (.agg cs)) (hv : cs[off]? = some v) : Stp P L f E A d .none (.fd1 off x) af0 (fun u => u = v) :=
 bO9 fun T S hT => ⟨v, by simp only [bop, hT.at hx, fd1V, hv, Option.map_some], rfl⟩
end
def cloneB (e n by' t tb : Nat) : BFn := ⟨8, [.t 2], .seq (.ops [⟨some 2, none, .none, .mv (.c (.lit (.slice none 0 0)))⟩])
 (.seq (.seq (.ops [⟨some 3, none, .none, .mv (.t 0)⟩, ⟨some 4, none, .none, .gen (.binOp .eql t (.tmp 3) (.const (.slice none 0 0)) t) tb⟩]) (.cond (.t 4) (.seq (.ops [⟨some 2, none, .none, .mv (.c (.lit (.slice none 0 0)))⟩]) .ret) .skip))
  (.seq (.ops [⟨some 5, none, .here, .bsl e n []⟩, ⟨some 6, none, .none, .mv (.t 0)⟩, ⟨some 7, none, .app (.t 5) (.t 6), .ap e n by' (.t 5) (.t 6)⟩, ⟨some 2, none, .none, .mv (.t 7)⟩]) .ret))⟩
def G.clone {α : Type} (xs : List α) : Option (List α) := G.app [] xs
def G.split (s sep : List UInt8) : Option (List (List UInt8)) := if sep = [10] ∧ s.length < 4294967281 then some (cutL s) else none
section
variable [Cfg] {P : Program} {f : FuncId}
def bZ3 (P : Program) (g : FuncId) (args : List AV) (Q : AV → Prop) : Prop := ∃ v, aj6 P g (args.map AV.af4) .bare = some (.ret v, none) ∧ Q v
theorem a15.b {g : FuncId} {args : List AV} {Q : AV → Prop} (h : a15 P g args Q) : bZ3 P g args Q := h .bare (args.map AV.af4) (by rw [List.map_map, show AV.af4 ∘ AV.af4 = AV.af4 from funext cQ3])
theorem s_clB {L : Nat} {f : Fr} {E : Env} {A : List It} {d : Nat} {g : FuncId} {xs : List X} {args : List AV} {rs : List RV} {Q : AV → Prop} (hup : ∀ h, Cfg.up g h = false) (hx : optL E xs = some args) (hn : RVN rs args) (hc : RVN rs args → bZ3 P g args Q) : Stp P L f E A d .none (.cl g xs) af0 Q :=
 s_clX hup hx (RVLC.closed hn) (hc hn)
theorem split_ok (hg : Cfg.given f = some aN6) (a0 a1 : List UInt8) (r : List (List UInt8)) (h : G.split a0 a1 = some r) (_k0 : Nat) (args : List AV) (ha : RVN [.str a0, .str a1] args) : a15 P f args (ResC [.sl 1 (r.map aa8)]) := by
 unfold G.split at h
 split at h
 case isFalse => cases h
 rename_i hc
 cases h
 intro S args' he
 have hargs : args' = [.lit (.string (bs a0)), .lit (.string (bs a1))] := by
  have h1 : args'.map AV.af4 = [.lit (.string (bs a0)), .lit (.string (bs a1))] := by
   rw [he]
   obtain ⟨x, t, h1, h2, y, t2, h3, h4, h5⟩ := ha
   rw [h1, h3, h5, show x = _ from h2, show y = _ from h4]
  match args', h1 with
  | [], h1 => simp at h1
  | [x], h1 => simp at h1
  | x :: y :: z :: r, h1 => simp at h1
  | [x, y], h1 =>
   simp only [List.map_cons, List.map_nil, List.cons.injEq, and_true] at h1
   have fin : ∀ (z : AV) (v : Value), z.af4 = .lit v → z = .lit v := fun z v h => by
    cases z <;> simp [AV.af4, AV.au6] at h ⊢
    exact h
   rw [fin _ _ h1.1, fin _ _ h1.2]
 subst hargs
 refine ⟨.list .full 1 ((cutL a0).map fun l => [.lit (.string ⟨l.toArray⟩)]), ah7.2 ⟨1, ?_⟩, ?_⟩
 ·show (match Cfg.given f with | some h => h [.lit (.string (bs a0)), .lit (.string (bs a1))] S | none => _) = _
  rw [hg]
  simp only [aN6]
  rw [if_pos ⟨by rw [hc.1]; rfl, by show a0.toArray.size < _; rw [List.size_toArray]; exact hc.2⟩]
  simp [bs]
 ·refine RelC.list rfl ?_
  induction cutL a0 with
  | nil => unfold ad7; rfl
  | cons x r ih =>
   simp only [List.map_cons]
   unfold ad7
   exact ⟨_, _, rfl, ⟨_, _, rfl, rfl, rfl⟩, ih⟩
theorem cd7 {α : Type} {c : α → List V} {e n by' t tb : Nat} (hg : Cfg.given f = none) (hf : ao9 P f = some (cloneB e n by' t tb)) (hup : ∀ h, Cfg.up f h = false) (hl : ∀ d, Cfg.live f d = false) (hu : P.underlying t = some (.slice e)) (hb : Nat.ble by' 100000 = true)
  (a0 r : List α) (h : G.clone a0 = some r) (_k0 : Nat) (args : List AV) (ha : RVN [.sl n (a0.map c)] args) : a15 P f args (ResC [.sl n (r.map c)]) := by
 refine ao1 (b := cloneB e n by' t tb) hg hf hup rfl rfl ?_ ha
 rintro L _ ⟨av0, _, rfl, ar0, rfl⟩
 unfold G.clone at h
 show GC P _ L f [(0, av0)] [] (ae2 L [.t 2] [.sl n (r.map c)])
 refine aa1 ?_
 refine aa2 ?_
 refine o6 (s_mv rfl) ?_
 refine aa4 ?_
 refine aa0 ?_
 refine aa1 ?_
 refine aa1 ?_
 refine aa2 ?_
 refine o6 (s_mv rfl) ?_
 refine ah6 (s_nilS (ne := false) rfl hu rfl (RelC.toA ar0)) ?_
 rintro _ ⟨b, rfl, hnil⟩
 refine aa4 ?_
 refine aa0 ?_
 cases b with
 | true =>
  obtain rfl : a0 = [] := by simpa using hnil rfl
  obtain rfl : r = [] := by
   unfold G.app at h
   rw [if_pos (by simp)] at h
   simpa using h.symm
  refine g_cT rfl rfl ?_
  refine aa1 ?_
  refine aa2 ?_
  refine o6 (s_mv rfl) ?_
  refine aa4 ?_
  refine aa0 ?_
  refine ar4 ?_
  refine aY6 ?_
  exact b05 (.tr rfl (RelC.nil n none) .nil)
 | false =>
  refine g_cF rfl rfl ?_
  refine ai6 ?_
  refine aa0 ?_
  refine aa1 ?_
  refine aa2 ?_
  refine ah6 (cE4 (es' := List.map c []) (hl _) .nil rfl) ?_
  rintro v1 ⟨r1, k1⟩
  refine o6 (s_mv rfl) ?_
  refine aq4 (Mv.addF (ks := [5]) (n := n) (e := e) (a := v1) r1 k1) ?_
  rintro _ rfl
  refine g_apP (i := 0) (c := c) (hl _) rfl rfl rfl (RelC.toA ar0) hb rfl rfl h fun w1 F1 => ?_
  refine o6 (s_mv rfl) ?_
  refine aa4 ?_
  refine aa0 ?_
  refine ar4 ?_
  refine g_relS (i := 0) rfl (fun rs => ?_)
  exact g_resS (.t rfl rs .nil)
end
end Go.Proofs.YtbinfgmdamlkbaaGreatDoor
namespace Go.Proofs.YtbinfgmdamlkbaaGreatDoor
open Go.RowKit
inductive D.an7 where
 | nil
 | Alt (Parts : (List D.an7))
 | Back (Number : Int)
 | Cat (Parts : (List D.an7))
 | Empty
 | End
 | Group (Number : Int) (Of : D.an7)
 | One (Set : A4)
 | Rep (Of : D.an7) (Min : Int) (Max : Int)
 | Start
mutual
def ai9 : D.an7 → V
 | .nil => .nili
 | .Alt Parts => .ifc 393 true [.sl 1 (bm0 Parts)]
 | .Back Number => .ifc 390 true [.int .i64 Number]
 | .Cat Parts => .ifc 392 true [.sl 1 (bm0 Parts)]
 | .Empty => .ifc 473 true []
 | .End => .ifc 388 true []
 | .Group Number Of => .ifc 380 true [.int .i64 Number, ai9 Of]
 | .One Set => .ifc 385 true [.int .u64 Set.x0, .int .u64 Set.x1, .int .u64 Set.x2, .int .u64 Set.x3]
 | .Rep Of Min Max => .ifc 396 true [ai9 Of, .int .i64 Min, .int .i64 Max]
 | .Start => .ifc 387 true []
def bm0 : List D.an7 → List (List V)
 | [] => []
 | x :: r => [ai9 x] :: bm0 r
end
structure D.as6 where
 Kind : Int
 Line : Int
 Text : List UInt8
 Tree : D.an7
structure D.aT4 where
 A : D.as6
 B : D.as6
 Not : Bool
def bN8 (x : D.aT4) : List V := [.int .i64 x.A.Kind, .int .i64 x.A.Line, .str x.A.Text, ai9 x.A.Tree, .int .i64 x.B.Kind, .int .i64 x.B.Line, .str x.B.Text, ai9 x.B.Tree, .bool x.Not]
structure D.cG5 where
 Group : Int
 Text : List UInt8
def bp2 (x : D.cG5) : List V := [.int .i64 x.Group, .str x.Text]
structure D.cd2 where
 Text : List UInt8
 Tree : D.an7
 Parts : (List D.cG5)
 Nth : Int
 All : Bool
 Print : Bool
 File : List UInt8
structure D.aO5 where
 At : Int
 Guard : D.aT4
 Name : Int
 Arg : List UInt8
 Sub : D.cd2
 Table : List UInt8
def aM1 (x : D.aO5) : List V := [.int .i64 x.At, .int .i64 x.Guard.A.Kind, .int .i64 x.Guard.A.Line, .str x.Guard.A.Text, ai9 x.Guard.A.Tree, .int .i64 x.Guard.B.Kind, .int .i64 x.Guard.B.Line, .str x.Guard.B.Text, ai9 x.Guard.B.Tree, .bool x.Guard.Not, .int .u8 x.Name, .str x.Arg, .str x.Sub.Text, ai9 x.Sub.Tree, .sl 2 (x.Sub.Parts.map bp2), .int .i64 x.Sub.Nth, .bool x.Sub.All, .bool x.Sub.Print, .str x.Sub.File, .str x.Table]
theorem b68 : ab6 (aM1 (D.aO5.mk 0 (D.aT4.mk (D.as6.mk 0 0 [] D.an7.nil) (D.as6.mk 0 0 [] D.an7.nil) false) 0 [] (D.cd2.mk [] D.an7.nil [] 0 false false []) [])) [.lit (.int .i64 0), .lit (.int .i64 0), .lit (.int .i64 0), .lit (.string (bs [])), .lit .nilIface, .lit (.int .i64 0), .lit (.int .i64 0), .lit (.string (bs [])), .lit .nilIface, .lit (.bool false), .lit (.int .u8 0), .lit (.string (bs [])), .lit (.string (bs [])), .lit .nilIface, .lit (.slice none 0 0), .lit (.int .i64 0), .lit (.bool false), .lit (.bool false), .lit (.string (bs [])), .lit (.string (bs []))] := (x8 ac0 (x8 ac0 (x8 ac0 (x8 ah3 (x8 bd5 (x8 ac0 (x8 ac0 (x8 ah3 (x8 bd5 (x8 aj0 (x8 ac0 (x8 ah3 (x8 ah3 (x8 bd5 (x8 (RelC.nil _ _) (x8 ac0 (x8 aj0 (x8 aj0 (x8 ah3 (x8 ah3 ar6))))))))))))))))))))
structure D.ao2 where
 Command : D.aO5
 A : Int
 B : Int
 Sub : Int
 Range : Int
 Else : Int
 To : Int
def ae9 (x : D.ao2) : List V := [.int .i64 x.Command.At, .int .i64 x.Command.Guard.A.Kind, .int .i64 x.Command.Guard.A.Line, .str x.Command.Guard.A.Text, ai9 x.Command.Guard.A.Tree, .int .i64 x.Command.Guard.B.Kind, .int .i64 x.Command.Guard.B.Line, .str x.Command.Guard.B.Text, ai9 x.Command.Guard.B.Tree, .bool x.Command.Guard.Not, .int .u8 x.Command.Name, .str x.Command.Arg, .str x.Command.Sub.Text, ai9 x.Command.Sub.Tree, .sl 2 (x.Command.Sub.Parts.map bp2), .int .i64 x.Command.Sub.Nth, .bool x.Command.Sub.All, .bool x.Command.Sub.Print, .str x.Command.Sub.File, .str x.Command.Table, .int .i64 x.A, .int .i64 x.B, .int .i64 x.Sub, .int .i64 x.Range, .int .i64 x.Else, .int .i64 x.To]
theorem cQ2 : ab6 (ae9 (D.ao2.mk (D.aO5.mk 0 (D.aT4.mk (D.as6.mk 0 0 [] D.an7.nil) (D.as6.mk 0 0 [] D.an7.nil) false) 0 [] (D.cd2.mk [] D.an7.nil [] 0 false false []) []) 0 0 0 0 0 0)) [.lit (.int .i64 0), .lit (.int .i64 0), .lit (.int .i64 0), .lit (.string (bs [])), .lit .nilIface, .lit (.int .i64 0), .lit (.int .i64 0), .lit (.string (bs [])), .lit .nilIface, .lit (.bool false), .lit (.int .u8 0), .lit (.string (bs [])), .lit (.string (bs [])), .lit .nilIface, .lit (.slice none 0 0), .lit (.int .i64 0), .lit (.bool false), .lit (.bool false), .lit (.string (bs [])), .lit (.string (bs [])), .lit (.int .i64 0), .lit (.int .i64 0), .lit (.int .i64 0), .lit (.int .i64 0), .lit (.int .i64 0), .lit (.int .i64 0)] := (x8 ac0 (x8 ac0 (x8 ac0 (x8 ah3 (x8 bd5 (x8 ac0 (x8 ac0 (x8 ah3 (x8 bd5 (x8 aj0 (x8 ac0 (x8 ah3 (x8 ah3 (x8 bd5 (x8 (RelC.nil _ _) (x8 ac0 (x8 aj0 (x8 aj0 (x8 ah3 (x8 ah3 (x8 ac0 (x8 ac0 (x8 ac0 (x8 ac0 (x8 ac0 (x8 ac0 ar6))))))))))))))))))))))))))
structure D.cv0 where
 Op : Int
 Set : A4
 X : Int
 Y : Int
def bX1 (x : D.cv0) : List V := [.int .i64 x.Op, .int .u64 x.Set.x0, .int .u64 x.Set.x1, .int .u64 x.Set.x2, .int .u64 x.Set.x3, .int .i64 x.X, .int .i64 x.Y]
structure D.av8 where
 Insts : (List D.cv0)
 Groups : Int
 Loops : Int
 Backs : Bool
def au4 (x : D.av8) : List V := [.sl 7 (x.Insts.map bX1), .int .i64 x.Groups, .int .i64 x.Loops, .bool x.Backs]
structure D.ab9 where
 Quiet : Bool
 Ops : (List D.ao2)
 Programs : (List D.av8)
 Ranges : Int
def ac2 (x : D.ab9) : List V := [.bool x.Quiet, .sl 26 (x.Ops.map ae9), .sl 4 (x.Programs.map au4), .int .i64 x.Ranges]
inductive D.ap5 where
 | mk (Kind : Int) (Set : A4) (Parts : (List D.ap5)) (Min : Int) (Max : Int) (Number : Int)
def D.ap5.Kind : D.ap5 → Int
 | .mk x _ _ _ _ _ => x
def D.ap5.Set : D.ap5 → A4
 | .mk _ x _ _ _ _ => x
def D.ap5.Parts : D.ap5 → (List D.ap5)
 | .mk _ _ x _ _ _ => x
def D.ap5.Min : D.ap5 → Int
 | .mk _ _ _ x _ _ => x
def D.ap5.Max : D.ap5 → Int
 | .mk _ _ _ _ x _ => x
def D.ap5.Number : D.ap5 → Int
 | .mk _ _ _ _ _ x => x
mutual
def bm6 : D.ap5 → List V
 | .mk Kind Set Parts Min Max Number => [.int .i64 Kind, .int .u64 Set.x0, .int .u64 Set.x1, .int .u64 Set.x2, .int .u64 Set.x3, .sl 9 (b08 Parts), .int .i64 Min, .int .i64 Max, .int .i64 Number]
def b08 : List D.ap5 → List (List V)
 | [] => []
 | x :: r => bm6 x :: b08 r
end
structure D.cd4 where
 Kind : Int
 Line : Int
 Text : List UInt8
 Tree : D.ap5
structure D.cS7 where
 A : D.cd4
 B : D.cd4
 Not : Bool
structure D.cR1 where
 Group : Int
 Text : List UInt8
def c22 (x : D.cR1) : List V := [.int .i64 x.Group, .str x.Text]
structure D.cS1 where
 Text : List UInt8
 Tree : D.ap5
 Parts : (List D.cR1)
 Nth : Int
 All : Bool
 Print : Bool
 File : List UInt8
structure D.cw5 where
 At : Int
 Guard : D.cS7
 Name : Int
 Arg : List UInt8
 Sub : D.cS1
 Table : List UInt8
structure D.b53 where
 Command : D.cw5
 A : Int
 B : Int
 Sub : Int
 Range : Int
 Else : Int
 To : Int
def bD2 (x : D.b53) : List V := [.int .i64 x.Command.At, .int .i64 x.Command.Guard.A.Kind, .int .i64 x.Command.Guard.A.Line, .str x.Command.Guard.A.Text, .int .i64 x.Command.Guard.A.Tree.Kind, .int .u64 x.Command.Guard.A.Tree.Set.x0, .int .u64 x.Command.Guard.A.Tree.Set.x1, .int .u64 x.Command.Guard.A.Tree.Set.x2, .int .u64 x.Command.Guard.A.Tree.Set.x3, .sl 9 (x.Command.Guard.A.Tree.Parts.map bm6), .int .i64 x.Command.Guard.A.Tree.Min, .int .i64 x.Command.Guard.A.Tree.Max, .int .i64 x.Command.Guard.A.Tree.Number, .int .i64 x.Command.Guard.B.Kind, .int .i64 x.Command.Guard.B.Line, .str x.Command.Guard.B.Text, .int .i64 x.Command.Guard.B.Tree.Kind, .int .u64 x.Command.Guard.B.Tree.Set.x0, .int .u64 x.Command.Guard.B.Tree.Set.x1, .int .u64 x.Command.Guard.B.Tree.Set.x2, .int .u64 x.Command.Guard.B.Tree.Set.x3, .sl 9 (x.Command.Guard.B.Tree.Parts.map bm6), .int .i64 x.Command.Guard.B.Tree.Min, .int .i64 x.Command.Guard.B.Tree.Max, .int .i64 x.Command.Guard.B.Tree.Number, .bool x.Command.Guard.Not, .int .u8 x.Command.Name, .str x.Command.Arg, .str x.Command.Sub.Text, .int .i64 x.Command.Sub.Tree.Kind, .int .u64 x.Command.Sub.Tree.Set.x0, .int .u64 x.Command.Sub.Tree.Set.x1, .int .u64 x.Command.Sub.Tree.Set.x2, .int .u64 x.Command.Sub.Tree.Set.x3, .sl 9 (x.Command.Sub.Tree.Parts.map bm6), .int .i64 x.Command.Sub.Tree.Min, .int .i64 x.Command.Sub.Tree.Max, .int .i64 x.Command.Sub.Tree.Number, .sl 2 (x.Command.Sub.Parts.map c22), .int .i64 x.Command.Sub.Nth, .bool x.Command.Sub.All, .bool x.Command.Sub.Print, .str x.Command.Sub.File, .str x.Command.Table, .int .i64 x.A, .int .i64 x.B, .int .i64 x.Sub, .int .i64 x.Range, .int .i64 x.Else, .int .i64 x.To]
structure D.c47 where
 Op : Int
 Set : A4
 X : Int
 Y : Int
def cZ4 (x : D.c47) : List V := [.int .i64 x.Op, .int .u64 x.Set.x0, .int .u64 x.Set.x1, .int .u64 x.Set.x2, .int .u64 x.Set.x3, .int .i64 x.X, .int .i64 x.Y]
structure D.cY6 where
 Insts : (List D.c47)
 Groups : Int
 Loops : Int
 Backs : Bool
def cX9 (x : D.cY6) : List V := [.sl 7 (x.Insts.map cZ4), .int .i64 x.Groups, .int .i64 x.Loops, .bool x.Backs]
structure D.ax6 where
 Quiet : Bool
 Ops : (List D.b53)
 Programs : (List D.cY6)
 Trees : (List D.ap5)
 Ranges : Int
def ci1 (x : D.ax6) : List V := [.bool x.Quiet, .sl 50 (x.Ops.map bD2), .sl 4 (x.Programs.map cX9), .sl 9 (x.Trees.map bm6), .int .i64 x.Ranges]
structure D.y5 where
 lines : List ((List UInt8) × (List (List UInt8)))
def o7 (x : D.y5) : List OV := [(Mp.o Mp.ks (fun v => .sl 1 (List.map aa8 v)) x.lines)]
structure D.at6 where
 p : D.av8
def y9 (x : D.at6) : List V := [.sl 7 (x.p.Insts.map bX1), .int .i64 x.p.Groups, .int .i64 x.p.Loops, .bool x.p.Backs]
structure D.an4 where
 File : Bool
 Text : List UInt8
def y8 (x : D.an4) : List V := [.bool x.File, .str x.Text]
theorem bT0 : ab6 (y8 (D.an4.mk false [])) [.lit (.bool false), .lit (.string (bs []))] := (x8 aj0 (x8 ah3 ar6))
structure D.y7 where
 Op : Int
 Pattern : List UInt8
 Hold : List UInt8
 Flag : Bool
 Line : Int
 Ranges : (List Int)
 Queue : (List D.an4)
 Done : Bool
def aK5 (x : D.y7) : List V := [.int .i64 x.Op, .str x.Pattern, .str x.Hold, .bool x.Flag, .int .i64 x.Line, .sl 1 (x.Ranges.map (aj3 .i64)), .sl 2 (x.Queue.map y8), .bool x.Done]
structure D.o5 where
 f : (Option D.ab9)
 regexes : (List (Option D.at6))
 input : (List (List UInt8))
 files : D.y5
 out : List UInt8
 state : D.y7
def l9 (x : D.o5) : List OV := [.c (vref ac2 x.f), .gs 1 88 (List.map (al3 y9) x.regexes), .gs 1 9 (List.map aa8 x.input), .ptr 96 (o7 x.files), .self, .bb 5 x.out, .c (.int .i64 x.state.Op), .c (.str x.state.Pattern), .c (.str x.state.Hold), .c (.bool x.state.Flag), .c (.int .i64 x.state.Line), .rw true 1 3 (List.map (aj3 .i64) x.state.Ranges), .gs 2 122 (List.map y8 x.state.Queue), .c (.bool x.state.Done)]
set_option maxHeartbeats 4000000 in
theorem ac8 {up : Bool} {ks : List Nat} {q : Loc} {g : Nat} {x : D.o5} {cs : List AV} {N : List It} (h : OpnC up ks q g 0 (l9 x) cs N) : ∃ (v0 : AV) (v1 : AV) (F1 : List Loc) (v2 : AV) (F2 : List Loc) (v3 : AV) (F3 : List Loc) (v4 : AV) (v5 : AV) (F5 : List Loc) (v11 : AV) (F11 : List Loc) (v12 : AV) (F12 : List Loc), cs = [v0, v1, v2, v3, v4, v5, .lit (.int .i64 x.state.Op), .lit (.string (bs x.state.Pattern)), .lit (.string (bs x.state.Hold)), .lit (.bool x.state.Flag), .lit (.int .i64 x.state.Line), v11, v12, .lit (.bool x.state.Done)] ∧ N = [.own up ks (.gs 1 88 (List.map (al3 y9) x.regexes)) v1 F1, .own up ks (.gs 1 9 (List.map aa8 x.input)) v2 F2, .own up ks (.ptr 96 (o7 x.files)) v3 F3, .own up ks (.bb 5 x.out) v5 F5, .own up ks (.rw true 1 3 (List.map (aj3 .i64) x.state.Ranges)) v11 F11, .own up ks (.gs 2 122 (List.map y8 x.state.Queue)) v12 F12] ∧ CV (vref ac2 x.f) v0 ∧ (v4 = .lit (.pointer none) ∨ v4 = .ptr q g 0 4) := by
 obtain ⟨v0, _, rfl, r0, v1, _, F1, _, rfl, rfl, v2, _, F2, _, rfl, rfl, v3, _, F3, _, rfl, rfl, v4, _, rfl, r4, v5, _, F5, _, rfl, rfl, _, _, rfl, rfl, _, _, rfl, rfl, _, _, rfl, rfl, _, _, rfl, rfl, _, _, rfl, rfl, v11, _, F11, _, rfl, rfl, v12, _, F12, _, rfl, rfl, _, _, rfl, rfl, rfl, rfl⟩ := h
 exact ⟨v0, v1, F1, v2, F2, v3, F3, v4, v5, F5, v11, F11, v12, F12, rfl, rfl, r0, r4⟩
structure D.aj7 where
 Name : List UInt8
 Lines : (List (List UInt8))
def ai8 (x : D.aj7) : List V := [.str x.Name, .sl 1 (x.Lines.map aa8)]
structure D.aB1 where
 Name : List UInt8
 Lines : (List (List UInt8))
structure D.ref19_I where
 File : Bool
 Text : List UInt8
structure D.bW1 where
 Op : Int
 Pattern : List UInt8
 Hold : List UInt8
 Flag : Bool
 Line : Int
 Ranges : (List Int)
 Queue : (List D.ref19_I)
 Done : Bool
structure D.am7 where
 F : D.ax6
 Input : (List (List UInt8))
 Files : (List D.aB1)
 Out : List UInt8
 S : D.bW1
structure D.ak3 where
 Extended : Bool
 Quiet : Bool
def ao7 (x : D.ak3) : List V := [.bool x.Extended, .bool x.Quiet]
theorem bH0 : ab6 (ao7 (D.ak3.mk false false)) [.lit (.bool false), .lit (.bool false)] := (x8 aj0 (x8 aj0 ar6))
structure D.bF1 where
 At : Int
 Word : List UInt8
def cJ7 (x : D.bF1) : List V := [.int .i64 x.At, .str x.Word]
structure D.ae4 where
 Out : List UInt8
 Files : (List D.aj7)
 Steps : Int
def an6 (x : D.ae4) : List V := [.str x.Out, .sl 2 (x.Files.map ai8), .int .i64 x.Steps]
theorem bg4 : ab6 (an6 (D.ae4.mk [] [] 0)) [.lit (.string (bs [])), .lit (.slice none 0 0), .lit (.int .i64 0)] := (x8 ah3 (x8 (RelC.nil _ _) (x8 ac0 ar6)))
set_option maxHeartbeats 4000000 in
theorem aT5 {x : D.ao2} {cs : List AV} (h : ab6 (ae9 x) cs) : ∃ (v4 : AV) (v8 : AV) (v13 : AV) (v14 : AV), cs = [.lit (.int .i64 x.Command.At), .lit (.int .i64 x.Command.Guard.A.Kind), .lit (.int .i64 x.Command.Guard.A.Line), .lit (.string (bs x.Command.Guard.A.Text)), v4, .lit (.int .i64 x.Command.Guard.B.Kind), .lit (.int .i64 x.Command.Guard.B.Line), .lit (.string (bs x.Command.Guard.B.Text)), v8, .lit (.bool x.Command.Guard.Not), .lit (.int .u8 x.Command.Name), .lit (.string (bs x.Command.Arg)), .lit (.string (bs x.Command.Sub.Text)), v13, v14, .lit (.int .i64 x.Command.Sub.Nth), .lit (.bool x.Command.Sub.All), .lit (.bool x.Command.Sub.Print), .lit (.string (bs x.Command.Sub.File)), .lit (.string (bs x.Command.Table)), .lit (.int .i64 x.A), .lit (.int .i64 x.B), .lit (.int .i64 x.Sub), .lit (.int .i64 x.Range), .lit (.int .i64 x.Else), .lit (.int .i64 x.To)] ∧ CV (ai9 x.Command.Guard.A.Tree) v4 ∧ CV (ai9 x.Command.Guard.B.Tree) v8 ∧ CV (ai9 x.Command.Sub.Tree) v13 ∧ RelC (.sl 2 (x.Command.Sub.Parts.map bp2)) v14 := by
 obtain ⟨_, hE, _, _, rfl, rfl, _, _, rfl, rfl, _, _, rfl, rfl, _, _, rfl, rfl, v4, _, rfl, r4, _, _, rfl, rfl, _, _, rfl, rfl, _, _, rfl, rfl, v8, _, rfl, r8, _, _, rfl, rfl, _, _, rfl, rfl, _, _, rfl, rfl, _, _, rfl, rfl, v13, _, rfl, r13, v14, _, rfl, r14, _, _, rfl, rfl, _, _, rfl, rfl, _, _, rfl, rfl, _, _, rfl, rfl, _, _, rfl, rfl, _, _, rfl, rfl, _, _, rfl, rfl, _, _, rfl, rfl, _, _, rfl, rfl, _, _, rfl, rfl, _, _, rfl, rfl, rfl⟩ := exL' h
 exact ⟨v4, v8, v13, v14, hE, r4, r8, r13, r14⟩
set_option maxHeartbeats 4000000 in
theorem cc5 {x : D.y7} {cs : List AV} (h : ab6 (aK5 x) cs) : ∃ (v5 : AV) (v6 : AV), cs = [.lit (.int .i64 x.Op), .lit (.string (bs x.Pattern)), .lit (.string (bs x.Hold)), .lit (.bool x.Flag), .lit (.int .i64 x.Line), v5, v6, .lit (.bool x.Done)] ∧ RelC (.sl 1 (x.Ranges.map (aj3 .i64))) v5 ∧ RelC (.sl 2 (x.Queue.map y8)) v6 := by
 obtain ⟨_, hE, _, _, rfl, rfl, _, _, rfl, rfl, _, _, rfl, rfl, _, _, rfl, rfl, _, _, rfl, rfl, v5, _, rfl, r5, v6, _, rfl, r6, _, _, rfl, rfl, rfl⟩ := exL' h
 exact ⟨v5, v6, hE, r5, r6⟩
end Go.Proofs.YtbinfgmdamlkbaaGreatDoor
namespace Go.Proofs.YtbinfgmdamlkbaaGreatDoor
open Go.RowKit
def ah0 : Nat → List UInt8
 | 0 => [35, 32, 110, 111, 116, 104, 105, 110, 103, 10]
 | n + 1 => ah0 n ++ [58, UInt8.ofNat (97 + n), 10]
def lOp (k : Nat) : D.ao2 := D.ao2.mk (D.aO5.mk ((10 + 3 * k : Nat) : Int) (D.aT4.mk (D.as6.mk 0 0 [] D.an7.nil) (D.as6.mk 0 0 [] D.an7.nil) false) 58 [UInt8.ofNat (97 + k)] (D.cd2.mk [] D.an7.nil [] 0 false false []) []) (-1) (-1) (-1) (-1) ((k + 1 : Nat) : Int) (-1)
def cp9 (n : Nat) : D.ab9 := D.ab9.mk false ((List.range n).map lOp) [] 0
def rOp (k : Nat) : D.b53 := D.b53.mk (D.cw5.mk ((10 + 3 * k : Nat) : Int) (D.cS7.mk (D.cd4.mk 0 0 [] (D.ap5.mk 0 (A4.mk 0 0 0 0) [] 0 0 0)) (D.cd4.mk 0 0 [] (D.ap5.mk 0 (A4.mk 0 0 0 0) [] 0 0 0)) false) 58 [UInt8.ofNat (97 + k)] (D.cS1.mk [] (D.ap5.mk 0 (A4.mk 0 0 0 0) [] 0 0 0) [] 0 false false []) []) (-1) (-1) (-1) (-1) ((k + 1 : Nat) : Int) (-1)
def cB7 (n : Nat) : D.ax6 := D.ax6.mk false ((List.range n).map rOp) [] [] 0
def G.made (a : List UInt8) (b : Bool) : Option (Option D.ab9 × D.ax6 × Bool) :=
 if b = true then none else if a = ah0 0 then some (some (cp9 0), cB7 0, true) else if a = ah0 1 then some (some (cp9 1), cB7 1, true) else if a = ah0 2 then some (some (cp9 2), cB7 2, true)
 else if a = ah0 3 then some (some (cp9 3), cB7 3, true) else if a = ah0 4 then some (some (cp9 4), cB7 4, true) else none
def aU1 (q : Bool) : D.ab9 := D.ab9.mk q [] [] 0
def G.load (a : List UInt8) (o : D.ak3) : Option (Option D.ab9 × List D.bF1 × Int × Int) := if a.length = 0 ∧ o.Extended = false then some (some (aU1 o.Quiet), [], 0, 0) else none
def G.list0 (f : D.y5) : Option (List D.aj7) := if f.lines.length = 0 then some [] else none
end Go.Proofs.YtbinfgmdamlkbaaGreatDoor
namespace Go.Proofs.YtbinfgmdamlkbaaGreatDoor
open Go.RowKit
def iA (n : Int) : AV := .lit (.int .i64 n)
def uA (n : Int) : AV := .lit (.int .u64 n)
def sA (l : List UInt8) : AV := .lit (.string (bs l))
def bA (b : Bool) : AV := .lit (.bool b)
def nS : AV := .lit (.slice none 0 0)
def nI : AV := .lit .nilIface
def scA (k : Nat) : List AV := [iA ((10 + 3 * k : Nat) : Int), iA 0, iA 0, sA [], nI, iA 0, iA 0, sA [], nI, bA false, .lit (.int .u8 58), sA [UInt8.ofNat (97 + k)], sA [], nI, nS, iA 0, bA false, bA false, sA [], sA []]
def opA (k : Nat) : List AV := [iA ((10 + 3 * k : Nat) : Int), iA 0, iA 0, sA [], nI, iA 0, iA 0, sA [], nI, bA false, .lit (.int .u8 58), sA [UInt8.ofNat (97 + k)], sA [], nI, nS, iA 0, bA false, bA false, sA [], sA [], iA (-1), iA (-1), iA (-1), iA (-1), iA ((k + 1 : Nat) : Int), iA (-1)]
def rfA (k : Nat) : List AV := [iA ((10 + 3 * k : Nat) : Int), iA 0, iA 0, sA [], iA 0, uA 0, uA 0, uA 0, uA 0, nS, iA 0, iA 0, iA 0, iA 0, iA 0, sA [], iA 0, uA 0, uA 0, uA 0, uA 0, nS, iA 0, iA 0, iA 0, bA false, .lit (.int .u8 58), sA [UInt8.ofNat (97 + k)], sA [], iA 0, uA 0, uA 0, uA 0, uA 0, nS, iA 0, iA 0, iA 0, nS, iA 0, bA false, bA false, sA [], sA [], iA (-1), iA (-1), iA (-1), iA (-1), iA ((k + 1 : Nat) : Int), iA (-1)]
def lstA (sz : Nat) : List (List AV) → AV
 | [] => nS
 | x :: r => .list .no sz (x :: r)
def flatA (n : Nat) : AV := .cref [bA false, lstA 26 ((List.range n).map opA), nS, iA 0, bA false, lstA 20 ((List.range n).map scA), iA 0]
def refA (n : Nat) : AV := .agg [bA false, lstA 50 ((List.range n).map rfA), nS, nS, iA 0]
def bN2 (n : Nat) : AV := .tup [flatA n, refA n, bA true]
theorem bv8 {ι : Type} (f : ι → List V) (g : ι → List AV) (h : ∀ x, ab6 (f x) (g x)) : ∀ l : List ι, ad7 (l.map f) (l.map g)
 | [] => by unfold ad7; rfl
 | x :: r => by
  rw [List.map_cons]
  unfold ad7
  exact ⟨_, _, rfl, h x, bv8 f g h r⟩
theorem cS0 {ι : Type} {sz : Nat} (f : ι → List V) (g : ι → List AV) (h : ∀ x, ab6 (f x) (g x)) (l : List ι) : RelC (.sl sz (l.map f)) (lstA sz (l.map g)) := by
 cases l with
 | nil => exact RelC.nil sz none
 | cons x r => exact RelC.list rfl (bv8 f g h (x :: r))
set_option maxRecDepth 10000 in
theorem op_rel (k : Nat) : ab6 (ae9 (lOp k)) (opA k) := by
 unfold ae9 opA lOp
 repeat (first | exact ar6 | refine x8 (by first | exact ac0 | exact ah3 | exact aj0 | exact bd5 | exact RelC.nil _ _) ?_)
set_option maxRecDepth 10000 in
theorem rf_rel (k : Nat) : ab6 (bD2 (rOp k)) (rfA k) := by
 unfold bD2 rfA rOp
 repeat (first | exact ar6 | refine x8 (by first | exact ac0 | exact ah3 | exact aj0 | exact bd5 | exact RelC.nil _ _) ?_)
theorem cJ5 {ι : Type} {sz : Nat} (g : ι → List AV) (h : ∀ x, AV.ae7 (g x) = true) (l : List ι) : (lstA sz (l.map g)).closed = true := by
 have : ∀ l : List ι, AV.ah8 (l.map g) = true := by
  intro l
  induction l with
  | nil => rfl
  | cons x r ih => simp only [List.map_cons, AV.ah8, h x, ih, Bool.and_self]
 cases l with
 | nil => rfl
 | cons x r =>
  show (AV.list .no sz (g x :: r.map g)).closed = true
  have := this (x :: r)
  simp only [AV.closed, List.map_cons] at this ⊢
  rw [this]
  rfl
theorem cY9 (n : Nat) : ResC [.v (vref ac2 (some (cp9 n))), .agg (ci1 (cB7 n)), .bool true] (bN2 n) := by
 refine ⟨_, rfl, _, _, rfl, ?_, _, _, rfl, ⟨_, rfl, ?_⟩, _, _, rfl, rfl, rfl⟩
 ·show RelC (vref ac2 (some (cp9 n))) (flatA n)
  unfold vref RelC
  refine ⟨[bA false, lstA 26 ((List.range n).map opA), nS, iA 0], [bA false, lstA 20 ((List.range n).map scA), iA 0], rfl, ?_, ?_⟩
  ·refine x8 aj0 (x8 ?_ (x8 (RelC.nil _ _) (x8 ac0 ar6)))
   show RelC (.sl 26 (((List.range n).map lOp).map ae9)) _
   rw [List.map_map]
   exact cS0 _ _ op_rel _
  ·have : (lstA 20 ((List.range n).map scA)).closed = true := cJ5 scA (fun _ => rfl) _
   simp only [AV.ae7, this]
   rfl
 ·refine x8 aj0 (x8 ?_ (x8 (RelC.nil _ _) (x8 (RelC.nil _ _) (x8 ac0 ar6))))
  show RelC (.sl 50 (((List.range n).map rOp).map bD2)) _
  rw [List.map_map]
  exact cS0 _ _ rf_rel _
theorem cJ9 {a : List UInt8} {b : Bool} {r : Option D.ab9 × D.ax6 × Bool} (h : G.made a b = some r) : b = false ∧ ∃ n, n < 5 ∧ a = ah0 n ∧ r = (some (cp9 n), cB7 n, true) := by
 unfold G.made at h
 cases b with
 | true => simp at h
 | false =>
  refine ⟨rfl, ?_⟩
  simp only [Bool.false_eq_true, if_false] at h
  split at h
  ·rename_i e; cases h; exact ⟨0, by omega, e, rfl⟩
  split at h
  ·rename_i e; cases h; exact ⟨1, by omega, e, rfl⟩
  split at h
  ·rename_i e; cases h; exact ⟨2, by omega, e, rfl⟩
  split at h
  ·rename_i e; cases h; exact ⟨3, by omega, e, rfl⟩
  split at h
  ·rename_i e; cases h; exact ⟨4, by omega, e, rfl⟩
  ·cases h
end Go.Proofs.YtbinfgmdamlkbaaGreatDoor
namespace Go.Proofs.YtbinfgmdamlkbaaGreatDoor
open Go.RowKit
theorem cC4 : al4 Tryz.prog 120 F.aj8 [sA (ah0 0), bA false] .bare = some (.ret (bN2 0), none) := by kernel_rfl
theorem cP8 : aj6 Tryz.prog F.aj8 [sA (ah0 0), bA false] .bare = some (.ret (bN2 0), none) := ah7.2 ⟨120, cC4⟩
end Go.Proofs.YtbinfgmdamlkbaaGreatDoor
namespace Go.Proofs.YtbinfgmdamlkbaaGreatDoor
open Go.RowKit
theorem cz9 : al4 Tryz.prog 120 F.aj8 [sA (ah0 1), bA false] .bare = some (.ret (bN2 1), none) := by kernel_rfl
theorem cW5 : aj6 Tryz.prog F.aj8 [sA (ah0 1), bA false] .bare = some (.ret (bN2 1), none) := ah7.2 ⟨120, cz9⟩
end Go.Proofs.YtbinfgmdamlkbaaGreatDoor
namespace Go.Proofs.YtbinfgmdamlkbaaGreatDoor
open Go.RowKit
theorem cx9 : al4 Tryz.prog 120 F.aj8 [sA (ah0 2), bA false] .bare = some (.ret (bN2 2), none) := by kernel_rfl
theorem cQ6 : aj6 Tryz.prog F.aj8 [sA (ah0 2), bA false] .bare = some (.ret (bN2 2), none) := ah7.2 ⟨120, cx9⟩
end Go.Proofs.YtbinfgmdamlkbaaGreatDoor
namespace Go.Proofs.YtbinfgmdamlkbaaGreatDoor
open Go.RowKit
def eqTV : Value → Value → Bool
 | .int k a, .int k' b => decide (k = k') && decide (a = b)
 | .bool a, .bool b => decide (a = b)
 | .string a, .string b => decide (a.data.toList = b.data.toList)
 | .slice none 0 0, .slice none 0 0 => true
 | .nilIface, .nilIface => true
 | _, _ => false
theorem eqTV_ok {a b : Value} (h : eqTV a b = true) : a = b := by
 unfold eqTV at h
 split at h
 ·simp only [Bool.and_eq_true, decide_eq_true_eq] at h
  rw [h.1, h.2]
 ·rw [of_decide_eq_true h]
 ·rename_i x y
  have h := of_decide_eq_true h
  obtain ⟨⟨x⟩⟩ := x
  obtain ⟨⟨y⟩⟩ := y
  simp only at h
  subst h
  rfl
 ·rfl
 ·rfl
 ·cases h
mutual
def eqTA : AV → AV → Bool
 | .lit a, .lit b => eqTV a b
 | .agg xs, .agg ys => eqTL xs ys
 | .list .no n xs, .list .no m ys => decide (n = m) && cN1 xs ys
 | _, _ => false
def eqTL : List AV → List AV → Bool
 | [], [] => true
 | a :: r, b :: t => eqTA a b && eqTL r t
 | _, _ => false
def cN1 : List (List AV) → List (List AV) → Bool
 | [], [] => true
 | a :: r, b :: t => eqTL a b && cN1 r t
 | _, _ => false
end
mutual
theorem eqTA_ok : ∀ {a b : AV}, eqTA a b = true → a = b
 | .lit a, b, h => by
  cases b <;> simp only [eqTA, Bool.false_eq_true] at h
  rw [eqTV_ok h]
 | .agg xs, b, h => by
  cases b <;> simp only [eqTA, Bool.false_eq_true] at h
  rw [cd1 h]
 | .list .no n xs, b, h => by
  cases b with
  | list sp m ys =>
   cases sp <;> simp only [eqTA, Bool.false_eq_true, Bool.and_eq_true, decide_eq_true_eq] at h
   rw [h.1, cF5 h.2]
  | _ => simp only [eqTA, Bool.false_eq_true] at h
 | .list .full n xs, b, h => by cases b <;> simp only [eqTA, Bool.false_eq_true] at h
 | .list (.own _ _) n xs, b, h => by cases b <;> simp only [eqTA, Bool.false_eq_true] at h
 | .tup _, b, h => by cases b <;> simp only [eqTA, Bool.false_eq_true] at h
 | .ptr .., b, h => by cases b <;> simp only [eqTA, Bool.false_eq_true] at h
 | .cref _, b, h => by cases b <;> simp only [eqTA, Bool.false_eq_true] at h
 | .row .., b, h => by cases b <;> simp only [eqTA, Bool.false_eq_true] at h
 | .mref .., b, h => by cases b <;> simp only [eqTA, Bool.false_eq_true] at h
 | .iface .., b, h => by cases b <;> simp only [eqTA, Bool.false_eq_true] at h
 | .fn .., b, h => by cases b <;> simp only [eqTA, Bool.false_eq_true] at h
theorem cd1 : ∀ {a b : List AV}, eqTL a b = true → a = b
 | [], [], _ => rfl
 | [], _ :: _, h => by simp only [eqTL, Bool.false_eq_true] at h
 | _ :: _, [], h => by simp only [eqTL, Bool.false_eq_true] at h
 | a :: r, b :: t, h => by
  simp only [eqTL, Bool.and_eq_true] at h
  rw [eqTA_ok h.1, cd1 h.2]
theorem cF5 : ∀ {a b : List (List AV)}, cN1 a b = true → a = b
 | [], [], _ => rfl
 | [], _ :: _, h => by simp only [cN1, Bool.false_eq_true] at h
 | _ :: _, [], h => by simp only [cN1, Bool.false_eq_true] at h
 | a :: r, b :: t, h => by
  simp only [cN1, Bool.and_eq_true] at h
  rw [cd1 h.1, cF5 h.2]
end
def tabO (rows : List (FuncId × List AV × AV)) : aj2 := fun f args S => match S with
 | ⟨0, 0, [], [], []⟩ => (rows.find? fun r => decide (r.1 = f) && eqTL r.2.1 args).map fun r => (.ret r.2.2, none)
 | _ => none
section
variable [Cfg] {P : Program}
theorem cQ7 {rows : List (FuncId × List AV × AV)} (h : ∀ r ∈ rows, aj6 P r.1 r.2.1 .bare = some (.ret r.2.2, none)) : (tabO rows).le (aj6 P) := by
 intro f args S r hr
 unfold tabO at hr
 split at hr
 ·obtain ⟨x, hx, rfl⟩ := Option.map_eq_some_iff.1 hr
  have h1 := List.find?_some hx
  have h2 := List.mem_of_find?_eq_some hx
  simp only [Bool.and_eq_true, decide_eq_true_eq] at h1
  have := h x h2
  rw [h1.1, cd1 h1.2] at this
  exact this
 ·cases hr
def cI4 (P : Program) (rows : List (FuncId × List AV × AV)) (n : Nat) (f : FuncId) (args : List AV) : Option (AE × Upd) := match P.funcs[f]? with
 | some fn => match fn.body with
  | some c => if (fn.name == "runtime.NumGoroutine") = false ∧ args.length ≤ fn.ntmps then finish P (tabO rows) n fn f .bare (ai1 P (tabO rows) n c (aA1 fn (aQ2 f AS.bare.fn args)) (AS.bare.enter f)) else none
  | none => none
 | none => none
theorem cH7 {rows : List (FuncId × List AV × AV)} {n : Nat} {f : FuncId} {args : List AV} {r : AE × Upd} (hg : Cfg.given f = none) (hr : ∀ r ∈ rows, aj6 P r.1 r.2.1 .bare = some (.ret r.2.2, none)) (h : cI4 P rows n f args = some r) : aj6 P f args .bare = some r := by
 unfold cI4 at h
 split at h
 case h_2 => cases h
 rename_i fn hf
 split at h
 case h_2 => cases h
 rename_i c hb
 split at h
 case isFalse => cases h
 rename_i hc
 exact bU4 hg hf hb hc.1 hc.2 (bS4 (cQ7 hr) (Nat.le_refl _) (fun z hz => an8 (cQ7 hr) (Nat.le_refl _) c _ _ z hz) h)
end
end Go.Proofs.YtbinfgmdamlkbaaGreatDoor
namespace Go.Proofs.YtbinfgmdamlkbaaGreatDoor
open Go.RowKit
def r14c (k : Nat) : List AV := [iA ((10 + 3 * k : Nat) : Int), iA 0, iA 0, sA [], iA 0, uA 0, uA 0, uA 0, uA 0, nS, iA 0, iA 0, iA 0, iA 0, iA 0, sA [], iA 0, uA 0, uA 0, uA 0, uA 0, nS, iA 0, iA 0, iA 0, bA false, .lit (.int .u8 58), sA [UInt8.ofNat (97 + k)], sA [], iA 0, uA 0, uA 0, uA 0, uA 0, nS, iA 0, iA 0, iA 0, nS, iA 0, bA false, bA false, sA [], sA []]
def scrG (n : Nat) : AV := .agg [bA false, lstA 20 ((List.range n).map scA)]
def scrA (n : Nat) : AV := .tup [scrG n, nS, iA 0, iA 0]
def r14G (n : Nat) : AV := .agg [bA false, lstA 44 ((List.range n).map r14c)]
def r14A (n : Nat) : AV := .tup [r14G n, nS, iA 0, iA 0]
def flnA (n : Nat) : AV := .tup [flatA n, iA 0]
def r16A (n : Nat) : AV := .tup [refA n, iA 0]
end Go.Proofs.YtbinfgmdamlkbaaGreatDoor
namespace Go.Proofs.YtbinfgmdamlkbaaGreatDoor
open Go.RowKit
theorem scr_run3 : al4 Tryz.prog 120 F.aS4 [sA (ah0 3), bA false] .bare = some (.ret (scrA 3), none) := by kernel_rfl
end Go.Proofs.YtbinfgmdamlkbaaGreatDoor
namespace Go.Proofs.YtbinfgmdamlkbaaGreatDoor
open Go.RowKit
theorem r14_run3 : al4 Tryz.prog 120 F.aV2 [sA (ah0 3), bA false] .bare = some (.ret (r14A 3), none) := by kernel_rfl
end Go.Proofs.YtbinfgmdamlkbaaGreatDoor
namespace Go.Proofs.YtbinfgmdamlkbaaGreatDoor
open Go.RowKit
theorem fln_run3 : al4 Tryz.prog 120 F.bR0 [scrG 3] .bare = some (.ret (flnA 3), none) := by kernel_rfl
theorem r16_run3 : al4 Tryz.prog 120 F.bG5 [r14G 3] .bare = some (.ret (r16A 3), none) := by kernel_rfl
def b38 : List (FuncId × List AV × AV) := [(F.aS4, [sA (ah0 3), bA false], scrA 3), (F.aV2, [sA (ah0 3), bA false], r14A 3), (F.bR0, [scrG 3], flnA 3), (F.bG5, [r14G 3], r16A 3)]
theorem cV3 : cI4 Tryz.prog b38 120 F.aj8 [sA (ah0 3), bA false] = some (.ret (bN2 3), none) := by kernel_rfl
theorem c55 : aj6 Tryz.prog F.aj8 [sA (ah0 3), bA false] .bare = some (.ret (bN2 3), none) :=
 cH7 rfl (fun r hr => by
  unfold b38 at hr
  simp only [List.mem_cons, List.mem_nil_iff, or_false] at hr
  rcases hr with rfl | rfl | rfl | rfl
  ·exact ah7.2 ⟨120, scr_run3⟩
  ·exact ah7.2 ⟨120, r14_run3⟩
  ·exact ah7.2 ⟨120, fln_run3⟩
  ·exact ah7.2 ⟨120, r16_run3⟩) cV3
end Go.Proofs.YtbinfgmdamlkbaaGreatDoor
namespace Go.Proofs.YtbinfgmdamlkbaaGreatDoor
open Go.RowKit
theorem scr_run4 : al4 Tryz.prog 120 F.aS4 [sA (ah0 4), bA false] .bare = some (.ret (scrA 4), none) := by kernel_rfl
end Go.Proofs.YtbinfgmdamlkbaaGreatDoor
namespace Go.Proofs.YtbinfgmdamlkbaaGreatDoor
open Go.RowKit
theorem r14_run4 : al4 Tryz.prog 120 F.aV2 [sA (ah0 4), bA false] .bare = some (.ret (r14A 4), none) := by kernel_rfl
end Go.Proofs.YtbinfgmdamlkbaaGreatDoor
namespace Go.Proofs.YtbinfgmdamlkbaaGreatDoor
open Go.RowKit
theorem fln_run4 : al4 Tryz.prog 120 F.bR0 [scrG 4] .bare = some (.ret (flnA 4), none) := by kernel_rfl
theorem r16_run4 : al4 Tryz.prog 120 F.bG5 [r14G 4] .bare = some (.ret (r16A 4), none) := by kernel_rfl
def b29 : List (FuncId × List AV × AV) := [(F.aS4, [sA (ah0 4), bA false], scrA 4), (F.aV2, [sA (ah0 4), bA false], r14A 4), (F.bR0, [scrG 4], flnA 4), (F.bG5, [r14G 4], r16A 4)]
theorem c44 : cI4 Tryz.prog b29 120 F.aj8 [sA (ah0 4), bA false] = some (.ret (bN2 4), none) := by kernel_rfl
theorem cS4 : aj6 Tryz.prog F.aj8 [sA (ah0 4), bA false] .bare = some (.ret (bN2 4), none) :=
 cH7 rfl (fun r hr => by
  unfold b29 at hr
  simp only [List.mem_cons, List.mem_nil_iff, or_false] at hr
  rcases hr with rfl | rfl | rfl | rfl
  ·exact ah7.2 ⟨120, scr_run4⟩
  ·exact ah7.2 ⟨120, r14_run4⟩
  ·exact ah7.2 ⟨120, fln_run4⟩
  ·exact ah7.2 ⟨120, r16_run4⟩) c44
end Go.Proofs.YtbinfgmdamlkbaaGreatDoor
namespace Go.Proofs.YtbinfgmdamlkbaaGreatDoor
open Go.RowKit
def loadA (q : Bool) : AV := .tup [.cref [bA q, nS, nS, iA 0, bA q, nS, iA 0], nS, iA 0, iA 0]
theorem cV2 : al4 Tryz.prog 120 F.au9 [sA [], .agg [bA false, bA false]] .bare = some (.ret (loadA false), none) := by kernel_rfl
theorem cU0 : al4 Tryz.prog 120 F.au9 [sA [], .agg [bA false, bA true]] .bare = some (.ret (loadA true), none) := by kernel_rfl
end Go.Proofs.YtbinfgmdamlkbaaGreatDoor
namespace Go.Proofs.YtbinfgmdamlkbaaGreatDoor
open Go.RowKit
noncomputable section
def aj8 (a0 : List UInt8) (a1 : Bool) : Option ((Option D.ab9) × D.ax6 × Bool) := G.made a0 a1
def S.aj8 (P : Program) (φ : (List UInt8) → Bool → Option ((Option D.ab9) × D.ax6 × Bool)) : Prop := ∀ (a0 : List UInt8) (a1 : Bool) (r : ((Option D.ab9) × D.ax6 × Bool)), φ a0 a1 = some r → ∀ (k0 : Nat) (args : List AV), RVN [.str a0, .bool a1] args → bZ3 P F.aj8 args (ResC [.v (vref ac2 r.1), .agg (ci1 r.2.1), .bool r.2.2])
def strings_Split (a0 : List UInt8) (a1 : List UInt8) : Option (List (List UInt8)) := G.split a0 a1
def S.strings_Split (P : Program) (φ : (List UInt8) → (List UInt8) → Option (List (List UInt8))) : Prop := ∀ (a0 : List UInt8) (a1 : List UInt8) (r : (List (List UInt8))), φ a0 a1 = some r → ∀ (k0 : Nat) (args : List AV), RVN [.str a0, .str a1] args → bZ3 P F.strings_Split args (ResC [.sl 1 (r.map aa8)])
def ag6 (a0 : (List Int)) : Option (List Int) := G.clone a0
def S.ag6 (P : Program) (φ : (List Int) → Option (List Int)) : Prop := ∀ (a0 : (List Int)) (r : (List Int)), φ a0 = some r → ∀ (k0 : Nat) (args : List AV), RVN [.sl 1 (a0.map (aj3 .i64))] args → bZ3 P F.ag6 args (ResC [.sl 1 (r.map (aj3 .i64))])
def ab4 (a0 : (List D.an4)) : Option (List D.an4) := G.clone a0
def S.ab4 (P : Program) (φ : (List D.an4) → Option (List D.an4)) : Prop := ∀ (a0 : (List D.an4)) (r : (List D.an4)), φ a0 = some r → ∀ (k0 : Nat) (args : List AV), RVN [.sl 2 (a0.map y8)] args → bZ3 P F.ab4 args (ResC [.sl 2 (r.map y8)])
def au9 (a0 : List UInt8) (a1 : D.ak3) : Option ((Option D.ab9) × (List D.bF1) × Int × Int) := G.load a0 a1
def S.au9 (P : Program) (φ : (List UInt8) → D.ak3 → Option ((Option D.ab9) × (List D.bF1) × Int × Int)) : Prop := ∀ (a0 : List UInt8) (a1 : D.ak3) (r : ((Option D.ab9) × (List D.bF1) × Int × Int)), φ a0 a1 = some r → ∀ (k0 : Nat) (args : List AV), RVN [.str a0, .agg (ao7 a1)] args → bZ3 P F.au9 args (ResC [.v (vref ac2 r.1), .sl 2 (r.2.1.map cJ7), .int .i64 r.2.2.1, .int .i64 r.2.2.2])
def ag8 (a0 : D.y5) : Option (List D.aj7) := G.list0 a0
def S.ag8 (P : Program) (φ : D.y5 → Option (List D.aj7)) : Prop := ∀ (a0 : D.y5) (r : (List D.aj7)), φ a0 = some r → cI5 P F.ag8 [.o (.ptr 96 (o7 a0))] [.sl 2 (r.map ai8)]
def aj9 (a0 : (List (List UInt8))) : Option (List (List UInt8)) := G.clone a0
def S.aj9 (P : Program) (φ : (List (List UInt8)) → Option (List (List UInt8))) : Prop := ∀ (a0 : (List (List UInt8))) (r : (List (List UInt8))), φ a0 = some r → ∀ (k0 : Nat) (args : List AV), RVN [.sl 1 (a0.map aa8)] args → bZ3 P F.aj9 args (ResC [.sl 1 (r.map aa8)])
def aO3 : Option Bool := some true
def aH7 : Option Bool := some true
end
end Go.Proofs.YtbinfgmdamlkbaaGreatDoor
