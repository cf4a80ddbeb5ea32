/-
  RunB of resolved code, step by step, of which just the temporaries and the slots that are known are spoken. The steps, one law for each kind of operation.
-/
import Derived.Test.YtjdccpmbaobpdaaGreatDoorME
namespace Go.Proofs.YtjdccpmbaobpdaaGreatDoor
open Go.RowKit

/-! ### Temporaries that are known -/
abbrev Env := List (Nat × AV)
def look : Env → Nat → Option AV
  | [], _ => none
  | (k, v) :: r, t => match Nat.beq k t with
    | true => some v
    | false => look r t
def opd (E : Env) : X → Option AV
  | .t n => look E n
  | .c a => some a
def Ag (E : Env) (T : BT) : Prop := ∀ k v, look E k = some v → T k = v
theorem Ag.at {E : Env} {T : BT} (h : Ag E T) {x : X} {v : AV} (hx : opd E x = some v) : x.at T = v := by
  cases x with
  | t n => exact h n v hx
  | c a => exact Option.some.inj hx
theorem look_cons (k : Nat) (v : AV) (r : Env) (t : Nat) : look ((k, v) :: r) t = if k = t then some v else look r t := by
  show (match Nat.beq k t with | true => some v | false => look r t) = _
  by_cases h : k = t
  · subst h; rw [if_pos rfl, Nat.beq_refl]
  · have : Nat.beq k t = false := by
      cases hb : Nat.beq k t with
      | false => rfl
      | true => exact absurd (Nat.eq_of_beq_eq_true hb) h
    rw [if_neg h, this]
theorem Ag.put {E : Env} {T : BT} (h : Ag E T) (d : Nat) (v : AV) : Ag ((d, v) :: E) (T.put (some d) v) := by
  intro k u hk
  rw [look_cons] at hk
  simp only [BT.put]
  by_cases e : d = k
  · subst e
    rw [if_pos rfl] at hk ⊢
    cases hk
    rfl
  · rw [if_neg e] at hk
    rw [if_neg (Ne.symm e)]
    exact h k u hk
/-- Fewer are known. -/
def subE (E E' : Env) : Prop := ∀ k v, look E' k = some v → look E k = some v
theorem Ag.sub {E E' : Env} {T : BT} (h : Ag E T) (hs : subE E E') : Ag E' T := fun k v hk => h k v (hs k v hk)
theorem subE.nil (E : Env) : subE E [] := fun k v h => by cases h
theorem subE.cons {E E' : Env} {k : Nat} {v : AV} (h : look E k = some v) (hs : subE E E') : subE E ((k, v) :: E') := by
  intro t u ht
  rw [look_cons] at ht
  by_cases e : k = t
  · subst e
    rw [if_pos rfl] at ht
    cases ht
    exact h
  · rw [if_neg e] at ht
    exact hs t u ht

/-! ### Slots that are known -/
inductive It where
  | obj (k g : Nat) (t : TypeId) (cs : List AV)
  | tok (ks : List Nat) (n : Nat) (e : TypeId) (x : AV)
  | bld (k g : Nat) (t te : TypeId) (l : List UInt8)
/-- A slice behind which may be laid. -/
def App (S : AS) (L : Nat) (ks : List Nat) (n : Nat) (e : TypeId) (x : AV) : Prop :=
  (∃ p, x = .lit (.slice p 0 0)) ∨ (∃ es, x = .list .full n es) ∨ ∃ p g es, x = .list (.own p g) n es ∧ S.get p = some (.tok g es.length n e) ∧ p.l = L ∧ p.i = 0 ∧ p.k ∈ ks
def It.ok (S : AS) (L : Nat) : It → Prop
  | .obj k g t cs => S.get ⟨L, k, 0⟩ = some (.obj g t cs)
  | .tok ks n e x => App S L ks n e x
  | .bld k g t te l => ∃ cs q, BLD te S ⟨L, k, 0⟩ g t 0 cs l q ∧ cs.length = 2 ∧ l.length ≤ 1000000000 ∧ ∀ q1, q = some q1 → q1.l = L ∧ q1.k = 0 ∧ q1.i ≠ 0
def It.free (k : Nat) : It → Bool
  | .obj k' _ _ _ => !(Nat.beq k' k)
  | .tok ks _ _ _ => !ks.contains k
  | .bld k' _ _ _ _ => !(Nat.beq k' k)
structure StA (S : AS) (L : Nat) (f : FuncId) (A : List It) : Prop where
  lvl : S.lvl = L + 1
  fn : S.fn = f
  dfr : S.dfr = []
  out : S.outs L = []
  its : ∀ it ∈ A, it.ok S (L + 1)

theorem BLD.set {te : TypeId} {S : AS} {p r : Loc} {g off : Nat} {t : TypeId} {cs : List AV} {l : List UInt8} {q : Option Loc} {s : ASlot} (h : BLD te S p g t off cs l q) (hp : p ≠ r) (hq : ∀ q1, q = some q1 → q1 ≠ r) : BLD te (S.set r s) p g t off cs l q := by
  refine ⟨by rw [AS.get_set_ne _ _ hp]; exact h.get, h.co, h.len, h.lv, h.addr, ?_⟩
  rcases h.buf with k | ⟨q', g', k1, k2, k3, k4, k5⟩
  · exact .inl k
  · exact .inr ⟨q', g', k1, k2, k3, by rw [AS.get_set_ne _ _ (hq _ k2)]; exact k4, k5⟩
theorem It.ok_set {S : AS} {L k : Nat} {it : It} {s : ASlot} (h : it.ok S L) (hf : it.free k = true) : it.ok (S.set ⟨L, k, 0⟩ s) L := by
  cases it with
  | obj k' g t cs =>
    simp only [It.free, Bool.not_eq_true'] at hf
    show (S.set _ s).get _ = _
    rw [AS.get_set_ne]
    · exact h
    · intro e
      have : k' = k := (Loc.mk.inj e).2.1
      subst this
      rw [Nat.beq_refl] at hf
      cases hf
  | bld k' g t te l =>
    simp only [It.free, Bool.not_eq_true'] at hf
    obtain ⟨cs, q, h1, h2, h3, h4⟩ := h
    refine ⟨cs, q, h1.set (fun e => ?_) (fun q1 hq e => ?_), h2, h3, h4⟩
    · have : k' = k := (Loc.mk.inj e).2.1
      subst this
      rw [Nat.beq_refl] at hf
      cases hf
    · subst e
      exact (h4 _ hq).2.2 rfl
  | tok ks n e x =>
    rcases h with h | h | ⟨p, g, es, h1, h2, h3, h4, h5⟩
    · exact .inl h
    · exact .inr (.inl h)
    · refine .inr (.inr ⟨p, g, es, h1, ?_, h3, h4, h5⟩)
      rw [AS.get_set_ne]
      · exact h2
      · intro e
        subst e
        simp only [It.free, Bool.not_eq_true'] at hf
        have := List.contains_iff_mem.2 h5
        rw [hf] at this
        cases this

/-- What is said of an object is replaced. -/
def setO (k g : Nat) (t : TypeId) (cs : List AV) : List It → List It
  | [] => [.obj k g t cs]
  | .obj k' g' t' cs' :: r => match Nat.beq k' k with
    | true => .obj k g t cs :: r
    | false => .obj k' g' t' cs' :: setO k g t cs r
  | .tok ks n e x :: r => .tok ks n e x :: setO k g t cs r
  | .bld k' g' t' te l :: r => .bld k' g' t' te l :: setO k g t cs r
/-- No other thing has this name. -/
def freeO (k : Nat) : List It → Bool
  | [] => true
  | .obj k' _ _ _ :: r => match Nat.beq k' k with
    | true => r.all (It.free k)
    | false => freeO k r
  | .tok ks _ _ _ :: r => !ks.contains k && freeO k r
  | .bld k' _ _ _ _ :: r => !(Nat.beq k' k) && freeO k r
def lookO : List It → Nat → Option (Nat × TypeId × List AV)
  | [], _ => none
  | .obj k' g t cs :: r, k => match Nat.beq k' k with
    | true => some (g, t, cs)
    | false => lookO r k
  | .tok _ _ _ _ :: r, k => lookO r k
  | .bld _ _ _ _ _ :: r, k => lookO r k
theorem lookO_ok {S : AS} {L : Nat} : ∀ {A : List It} {k g : Nat} {t : TypeId} {cs : List AV}, (∀ it ∈ A, it.ok S L) → lookO A k = some (g, t, cs) → S.get ⟨L, k, 0⟩ = some (.obj g t cs)
  | [], _, _, _, _, _, h => by cases h
  | .obj k' g' t' cs' :: r, k, g, t, cs, hA, h => by
    unfold lookO at h
    split at h
    · rename_i hb
      cases h
      have := Nat.eq_of_beq_eq_true hb
      subst this
      exact hA _ (List.mem_cons_self ..)
    · exact lookO_ok (fun it hi => hA it (List.mem_cons_of_mem _ hi)) h
  | .tok _ _ _ _ :: r, k, g, t, cs, hA, h => lookO_ok (A := r) (fun it hi => hA it (List.mem_cons_of_mem _ hi)) h
  | .bld _ _ _ _ _ :: r, k, g, t, cs, hA, h => lookO_ok (A := r) (fun it hi => hA it (List.mem_cons_of_mem _ hi)) h
theorem setO_ok {S : AS} {L : Nat} {k g : Nat} {t : TypeId} {cs : List AV} : ∀ {A : List It}, (∀ it ∈ A, it.ok S L) → freeO k A = true → ∀ it ∈ setO k g t cs A, it.ok (S.set ⟨L, k, 0⟩ (.obj g t cs)) L
  | [], _, _ => by
    intro it hi
    simp only [setO, List.mem_singleton] at hi
    subst hi
    exact AS.get_set_same ..
  | .obj k' g' t' cs' :: r, hA, hf => by
    intro it hi
    unfold setO at hi
    unfold freeO at hf
    cases hb : Nat.beq k' k with
    | true =>
      rw [hb] at hi hf
      simp only [List.mem_cons] at hi
      rcases hi with rfl | hi
      · exact AS.get_set_same ..
      · exact It.ok_set (hA it (List.mem_cons_of_mem _ hi)) (List.all_eq_true.1 hf it hi)
    | false =>
      rw [hb] at hi hf
      simp only [List.mem_cons] at hi
      rcases hi with rfl | hi
      · exact It.ok_set (hA _ (List.mem_cons_self ..)) (by simp [It.free, hb])
      · exact setO_ok (A := r) (fun it hi => hA it (List.mem_cons_of_mem _ hi)) hf it hi
  | .tok ks n e x :: r, hA, hf => by
    intro it hi
    simp only [freeO, Bool.and_eq_true, Bool.not_eq_true'] at hf
    simp only [setO, List.mem_cons] at hi
    rcases hi with rfl | hi
    · exact It.ok_set (hA _ (List.mem_cons_self ..)) (by simp only [It.free, hf.1, Bool.not_false])
    · exact setO_ok (A := r) (fun it hi => hA it (List.mem_cons_of_mem _ hi)) hf.2 it hi
  | .bld k' g' t' te l :: r, hA, hf => by
    intro it hi
    simp only [freeO, Bool.and_eq_true, Bool.not_eq_true'] at hf
    simp only [setO, List.mem_cons] at hi
    rcases hi with rfl | hi
    · exact It.ok_set (hA _ (List.mem_cons_self ..)) (by simp only [It.free, hf.1, Bool.not_false])
    · exact setO_ok (A := r) (fun it hi => hA it (List.mem_cons_of_mem _ hi)) hf.2 it hi
theorem StA.set {S : AS} {L : Nat} {f : FuncId} {A A' : List It} (h : StA S L f A) (k : Nat) (s : ASlot) (h' : ∀ it ∈ A', it.ok (S.set ⟨L + 1, k, 0⟩ s) (L + 1)) : StA (S.set ⟨L + 1, k, 0⟩ s) L f A' :=
  ⟨h.lvl, h.fn, h.dfr, by rw [outs_set_own L _ s (Nat.lt_succ_self L)]; exact h.out, h'⟩
theorem StA.sub {S : AS} {L : Nat} {f : FuncId} {A A' : List It} (h : StA S L f A) (hs : ∀ it ∈ A', it ∈ A) : StA S L f A' := ⟨h.lvl, h.fn, h.dfr, h.out, fun it hi => h.its it (hs it hi)⟩
theorem StA.add {S : AS} {L : Nat} {f : FuncId} {A : List It} (h : StA S L f A) {it : It} (hi : it.ok S (L + 1)) : StA S L f (it :: A) := ⟨h.lvl, h.fn, h.dfr, h.out, fun j hj => by
  rcases List.mem_cons.1 hj with rfl | hj
  · exact hi
  · exact h.its j hj⟩

/-! ### What a step reads and writes, by names; none: anything -/
abbrev Ks := Option (List Nat)
abbrev AF := Ks × Ks
def okK (L : Nat) : Ks → FK → Prop
  | none, _ => True
  | some ks, k => k = .none ∨ ∃ Ls, k = .slots Ls ∧ Ls ≠ [] ∧ ∀ p ∈ Ls, p.l = L ∧ p.k ∈ ks
def okF (L : Nat) (a : AF) (f : Foot) : Prop := okK L a.1 f.rd ∧ okK L a.2 f.wr
def clearK : Ks → Ks → Bool
  | some [], _ => true
  | _, some [] => true
  | some a, some b => a.all fun x => !b.contains x
  | _, _ => false
theorem okK_empty {L : Nat} {k : FK} (h : okK L (some []) k) : k = .none := by
  rcases h with h | ⟨Ls, rfl, h1, h2⟩
  · exact h
  · cases Ls with
    | nil => exact absurd rfl h1
    | cons p r => exact absurd (h2 p (List.mem_cons_self ..)).2 (List.not_mem_nil)
theorem fkclear_l (k : FK) : FK.clear .none k = true := by cases k <;> rfl
theorem fkclear_r (k : FK) : FK.clear k .none = true := by cases k <;> rfl
theorem clearK_ok {L : Nat} {a b : Ks} {x y : FK} (ha : okK L a x) (hb : okK L b y) (h : clearK a b = true) : x.clear y = true := by
  cases a with
  | none =>
    cases b with
    | none => cases h
    | some b =>
      cases b with
      | nil => rw [okK_empty hb]; exact fkclear_r x
      | cons => cases h
  | some a =>
    cases a with
    | nil => rw [okK_empty ha]; exact fkclear_l y
    | cons a0 a1 =>
      cases b with
      | none => cases h
      | some b =>
        cases b with
        | nil => rw [okK_empty hb]; exact fkclear_r x
        | cons b0 b1 =>
          rcases ha with rfl | ⟨Ls, rfl, _, ha⟩
          · exact fkclear_l y
          · rcases hb with rfl | ⟨Ms, rfl, _, hb⟩
            · exact fkclear_r _
            · show (Ls.all fun p => !Ms.contains p) = true
              refine List.all_eq_true.2 fun p hp => ?_
              simp only [Bool.not_eq_true']
              cases hc : Ms.contains p with
              | false => rfl
              | true =>
                have h1 := (ha p hp).2
                have h2 := (hb p (List.contains_iff_mem.1 hc)).2
                have h3 := List.all_eq_true.1 h p.k h1
                simp only [Bool.not_eq_true'] at h3
                have := List.contains_iff_mem.2 h2
                rw [h3] at this
                cases this
def indepA (a b : AF) : Bool := clearK a.2 b.1 && clearK a.2 b.2 && clearK b.2 a.1
theorem indepA_ok {L : Nat} {a b : AF} {f g : Foot} (ha : okF L a f) (hb : okF L b g) (h : indepA a b = true) : f.indep g = true := by
  simp only [indepA, Bool.and_eq_true] at h
  unfold Foot.indep
  simp only [Bool.and_eq_true]
  exact ⟨⟨clearK_ok ha.2 hb.1 h.1.1, clearK_ok ha.2 hb.2 h.1.2⟩, clearK_ok hb.2 ha.1 h.2⟩
def FsR (L : Nat) : List AF → List Foot → Prop
  | [], l => l = []
  | a :: r, l => ∃ f t, l = f :: t ∧ okF L a f ∧ FsR L r t
theorem FsR.get {L : Nat} : ∀ {as1 : List AF} {fs : List Foot} {i : Nat} {a : AF}, FsR L as1 fs → as1[i]? = some a → ∃ f, fs[i]? = some f ∧ okF L a f
  | [], _, _, _, _, h => by cases h
  | b :: r, fs, 0, a, h, hi => by
    obtain ⟨f, t, rfl, h1, h2⟩ := h
    cases hi
    exact ⟨f, rfl, h1⟩
  | b :: r, fs, i + 1, a, h, hi => by
    obtain ⟨f, t, rfl, h1, h2⟩ := h
    exact h2.get hi
theorem FsR.push {L : Nat} {a : AF} {f : Foot} (hf : okF L a f) : ∀ {as1 : List AF} {fs : List Foot}, FsR L as1 fs → FsR L (as1 ++ [a]) (fs ++ [f])
  | [], fs, h => by cases h; exact ⟨f, [], rfl, hf, rfl⟩
  | b :: r, fs, h => by
    obtain ⟨g, t, rfl, h1, h2⟩ := h
    exact ⟨g, t ++ [f], rfl, h1, h2.push hf⟩
abbrev AAcc := Option (List AF)
def AccR (L : Nat) : AAcc → Acc → Prop
  | none, c => c = none
  | some l, c => ∃ fs, c = some fs ∧ FsR L l fs
def accP (c : AAcc) (a : AF) : AAcc := c.map (· ++ [a])
theorem AccR.push {L : Nat} {c : AAcc} {d : Acc} {a : AF} {f : Foot} (h : AccR L c d) (hf : okF L a f) : AccR L (accP c a) (d.push f) := by
  cases c with
  | none => cases h; rfl
  | some l =>
    obtain ⟨fs, rfl, h⟩ := h
    exact ⟨fs ++ [f], rfl, h.push hf⟩
/-- The pairs of a region that draws its order. -/
def chkL : List (Nat × Nat) → AAcc → Bool
  | [], _ => true
  | L, some as1 => L.all fun p => match as1[p.1]?, as1[p.2]? with
    | some a, some b => indepA a b
    | _, _ => false
  | _, none => false
def finO : Option (List (Nat × Nat)) → BO4 → XB
  | none => bend
  | some L => bdraw L
def acc1 : List (Nat × Nat) → AAcc
  | [] => none
  | _ => some []

/-! ### Goals -/
abbrev PostX := AX → BT → AS → Prop
section
variable [Cfg]
/-- From here on it ends so. -/
def G (x : AX) (L : Nat) (f : FuncId) (E : Env) (A : List It) (Φ : PostX) : Prop := ∀ T S, Ag E T → StA S L f A → Φ x T S
def RunB (P : Program) (c : BC) (T : BT) (S : AS) (Φ : PostX) : Prop := ∃ x T' S', execB P c T S = some (x, T', S') ∧ Φ x T' S'
def GC (P : Program) (c : BC) (L : Nat) (f : FuncId) (E : Env) (A : List It) (Φ : PostX) : Prop := ∀ T S, Ag E T → StA S L f A → RunB P c T S Φ
def GO1 (P : Program) (m : Option (List (Nat × Nat))) (acc : AAcc) (l : List BI) (L : Nat) (f : FuncId) (E : Env) (A : List It) (Φ : PostX) : Prop :=
  ∀ c T S, AccR (L + 1) acc c → Ag E T → StA S L f A → ∃ x T' S', finO m (bsteps P (callT P) c l T S) = some (x, T', S') ∧ Φ x T' S'
/-- Behind it another part is run. -/
def Thn (P : Program) (b : BC) (Φ : PostX) : PostX
  | .normal, T, S => RunB P b T S Φ
  | x, T, S => Φ x T S
def Blk (id : Nat) (Φ : PostX) : PostX
  | .exit j, T, S => if j = id then Φ .normal T S else Φ (.exit j) T S
  | x, T, S => Φ x T S
variable {P : Program} {L : Nat} {f : FuncId} {E : Env} {A : List It} {Φ Ψ : PostX}
theorem g_seq {a b : BC} (h : GC P a L f E A (Thn P b Φ)) : GC P (.seq a b) L f E A Φ := by
  intro T S hT hS
  obtain ⟨x, T', S', h1, h2⟩ := h T S hT hS
  unfold RunB
  rw [execB_seq, h1]
  cases x with
  | normal => exact h2
  | _ => exact ⟨_, T', S', rfl, h2⟩
theorem g_block {id : Nat} {b : BC} (h : GC P b L f E A (Blk id Φ)) : GC P (.block id b) L f E A Φ := by
  intro T S hT hS
  obtain ⟨x, T', S', h1, h2⟩ := h T S hT hS
  unfold RunB
  rw [execB_block, h1]
  cases x with
  | exit j =>
    simp only [Blk] at h2
    by_cases e : j = id
    · rw [if_pos e] at h2
      exact ⟨.normal, T', S', by simp [blockB, e], h2⟩
    · rw [if_neg e] at h2
      exact ⟨.exit j, T', S', by simp [blockB, e], h2⟩
  | _ => exact ⟨_, T', S', rfl, h2⟩
theorem g_condT {c : X} {a b : BC} (hc : opd E c = some (.lit (.bool true))) (h : GC P a L f E A Φ) : GC P (.cond c a b) L f E A Φ := by
  intro T S hT hS
  unfold RunB
  rw [execB_condK, hT.at hc, condK_true]
  exact h T S hT hS
theorem g_condF {c : X} {a b : BC} (hc : opd E c = some (.lit (.bool false))) (h : GC P b L f E A Φ) : GC P (.cond c a b) L f E A Φ := by
  intro T S hT hS
  unfold RunB
  rw [execB_condK, hT.at hc, condK_false]
  exact h T S hT hS
theorem g_cT {c : X} {a b : BC} {t : Bool} (hc : opd E c = some (.lit (.bool t))) (ht : t = true) (h : GC P a L f E A Φ) : GC P (.cond c a b) L f E A Φ := by
  subst ht
  exact g_condT hc h
theorem g_cF {c : X} {a b : BC} {t : Bool} (hc : opd E c = some (.lit (.bool t))) (ht : t = false) (h : GC P b L f E A Φ) : GC P (.cond c a b) L f E A Φ := by
  subst ht
  exact g_condF hc h
theorem g_skip (h : G .normal L f E A Φ) : GC P .skip L f E A Φ := fun T S hT hS => ⟨_, T, S, execB_skip T S, h T S hT hS⟩
theorem g_exit {id : Nat} (h : G (.exit id) L f E A Φ) : GC P (.exit id) L f E A Φ := fun T S hT hS => ⟨_, T, S, execB_exit id T S, h T S hT hS⟩
theorem g_ret (h : G .ret L f E A Φ) : GC P .ret L f E A Φ := fun T S hT hS => ⟨_, T, S, execB_ret T S, h T S hT hS⟩
theorem g_thn {b : BC} (h : GC P b L f E A Φ) : G .normal L f E A (Thn P b Φ) := h
theorem g_thnR {b : BC} (h : G .ret L f E A Φ) : G .ret L f E A (Thn P b Φ) := h
theorem g_thnX {b : BC} {j : Nat} (h : G (.exit j) L f E A Φ) : G (.exit j) L f E A (Thn P b Φ) := h
theorem g_ops {l : List BI} (h : GO1 P none none l L f E A Φ) : GC P (.ops l) L f E A Φ := by
  intro T S hT hS
  obtain ⟨x, T', S', h1, h2⟩ := h none T S rfl hT hS
  exact ⟨x, T', S', by rw [execB_ops]; exact h1, h2⟩
theorem g_draw {l : List BI} {D : List (Nat × Nat)} (h : GO1 P (some D) (acc1 D) l L f E A Φ) : GC P (.draw l D) L f E A Φ := by
  intro T S hT hS
  obtain ⟨x, T', S', h1, h2⟩ := h (acc0 D) T S (by cases D with
    | nil => rfl
    | cons => exact ⟨[], rfl, rfl⟩) hT hS
  exact ⟨x, T', S', by rw [execB_draw]; exact h1, h2⟩
theorem g_end {acc : AAcc} (h : G .normal L f E A Φ) : GO1 P none acc [] L f E A Φ := fun c T S _ hT hS => ⟨.normal, T, S, rfl, h T S hT hS⟩
theorem g_endD {acc : AAcc} {D : List (Nat × Nat)} (hc : chkL D acc = true) (h : G .normal L f E A Φ) : GO1 P (some D) acc [] L f E A Φ := by
  intro c T S hR hT hS
  refine ⟨.normal, T, S, ?_, h T S hT hS⟩
  cases D with
  | nil => rfl
  | cons d D =>
    cases acc with
    | none => cases hc
    | some l =>
      obtain ⟨fs, rfl, hF⟩ := hR
      refine bdraw_cons d D fs (List.all_eq_true.2 fun p hp => ?_)
      have h1 := List.all_eq_true.1 hc p hp
      unfold indepAt
      revert h1
      cases ha : l[p.1]? with
      | none => intro h1; cases h1
      | some a =>
        cases hb : l[p.2]? with
        | none => intro h1; cases h1
        | some b =>
          intro h1
          obtain ⟨x, hx, kx⟩ := hF.get ha
          obtain ⟨y, hy, ky⟩ := hF.get hb
          rw [hx, hy]
          exact indepA_ok kx ky h1
/-- Less is known from here on. -/
theorem gc_sub {c : BC} {E' : Env} {A' : List It} (hE : subE E E') (hA : ∀ it ∈ A', it ∈ A) (h : GC P c L f E' A' Φ) : GC P c L f E A Φ := fun T S hT hS => h T S (hT.sub hE) (hS.sub hA)
theorem g_add {m : Option (List (Nat × Nat))} {acc : AAcc} {l : List BI} {ks : List Nat} {n : Nat} {e : TypeId} {x : AV} (hx : (∃ p, x = .lit (.slice p 0 0)) ∨ ∃ es, x = .list .full n es) (h : GO1 P m acc l L f E (.tok ks n e x :: A) Φ) : GO1 P m acc l L f E A Φ :=
  fun c T S hc hT hS => h c T S hc hT (hS.add (by
    rcases hx with hx | hx
    · exact .inl hx
    · exact .inr (.inl hx)))
theorem g_addC {c : BC} {ks : List Nat} {n : Nat} {e : TypeId} {x : AV} (hx : (∃ p, x = .lit (.slice p 0 0)) ∨ ∃ es, x = .list .full n es) (h : GC P c L f E (.tok ks n e x :: A) Φ) : GC P c L f E A Φ :=
  fun T S hT hS => h T S hT (hS.add (by
    rcases hx with hx | hx
    · exact .inl hx
    · exact .inr (.inl hx)))
end

section
variable {L : Nat} {f : FuncId} {E : Env} {A : List It} {Φ : PostX}
theorem g_blkN {id : Nat} (h : G .normal L f E A Φ) : G .normal L f E A (Blk id Φ) := h
theorem g_blkR {id : Nat} (h : G .ret L f E A Φ) : G .ret L f E A (Blk id Φ) := h
theorem g_blkH {id : Nat} (h : G .normal L f E A Φ) : G (.exit id) L f E A (Blk id Φ) := by
  intro T S hT hS
  show (if id = id then _ else _)
  rw [if_pos rfl]
  exact h T S hT hS
theorem g_blkM {id j : Nat} (hj : (Nat.beq j id) = false) (h : G (.exit j) L f E A Φ) : G (.exit j) L f E A (Blk id Φ) := by
  intro T S hT hS
  show (if j = id then _ else _)
  rw [if_neg (fun e => by subst e; rw [Nat.beq_refl] at hj; cases hj)]
  exact h T S hT hS
theorem g_sub {x : AX} {E' : Env} {A' : List It} (hE : subE E E') (hA : ∀ it ∈ A', it ∈ A) (h : G x L f E' A' Φ) : G x L f E A Φ := fun T S hT hS => h T S (hT.sub hE) (hS.sub hA)
theorem memA_nil {A : List It} : ∀ it ∈ ([] : List It), it ∈ A := fun _ h => by cases h
theorem memA_cons {A A' : List It} {i : Nat} {j : It} (hi : A[i]? = some j) (h : ∀ it ∈ A', it ∈ A) : ∀ it ∈ j :: A', it ∈ A := fun it hm => by
  rcases List.mem_cons.1 hm with rfl | hm
  · exact List.mem_of_getElem? hi
  · exact h it hm
end
end Go.Proofs.YtjdccpmbaobpdaaGreatDoor

namespace Go.Proofs.YtjdccpmbaobpdaaGreatDoor
open Go.RowKit

/-! ### What the operations reckon -/
namespace G
abbrev addI (a b : Int) : Int := IntKind.i64.wrap (a + b)
abbrev subI (a b : Int) : Int := IntKind.i64.wrap (a - b)
abbrev mulI (a b : Int) : Int := IntKind.i64.wrap (a * b)
def idx {α : Type} (l : List α) (i : Int) : Option α := if 0 ≤ i then l[i.toNat]? else none
def idxS (l : List UInt8) (i : Int) : Option Int := if 0 ≤ i then (l[i.toNat]?).map (fun c => (c.toNat : Int)) else none
def subS (l : List UInt8) (lo hi : Int) : Option (List UInt8) := if 0 ≤ lo ∧ lo ≤ hi ∧ hi ≤ l.length then some ((l.take hi.toNat).drop lo.toNat) else none
def subL {α : Type} (l : List α) (lo hi : Int) : Option (List α) := if 0 ≤ lo ∧ lo ≤ hi ∧ hi ≤ l.length then some ((l.take hi.toNat).drop lo.toNat) else none
def catS (a b : List UInt8) : Option (List UInt8) := if a.length + b.length ≤ 9223372036854775807 then some (a ++ b) else none
def app {α : Type} (a b : List α) : Option (List α) := if a.length + b.length ≤ 1000000000 then some (a ++ b) else none
end G
theorem bindI {α β : Type} {o : Option α} {k : α → Option β} {r : β} (h : o.bind k = some r) : ∃ x, o = some x ∧ k x = some r := by
  cases o with
  | none => cases h
  | some x => exact ⟨x, rfl, h⟩
theorem iteT {α : Type} {c : Prop} [Decidable c] {a b : α} {r : α} (h : (if c then a else b) = r) (hc : c) : a = r := by rw [if_pos hc] at h; exact h
theorem iteF {α : Type} {c : Prop} [Decidable c] {a b : α} {r : α} (h : (if c then a else b) = r) (hc : ¬ c) : b = r := by rw [if_neg hc] at h; exact h

def CallR [Cfg] (P : Program) (g : FuncId) (args : List AV) (Q : AV → Prop) : Prop := ∀ S, ∃ v, callT P g args S = some (.ret v, none) ∧ Q v
def optL (E : Env) : List X → Option (List AV)
  | [] => some []
  | x :: r => match opd E x, optL E r with
    | some a, some l => some (a :: l)
    | _, _ => none
theorem optL_ok {E : Env} {T : BT} (h : Ag E T) : ∀ {xs : List X} {as1 : List AV}, optL E xs = some as1 → xs.map (X.at T) = as1
  | [], as1, hx => by cases hx; rfl
  | x :: r, as1, hx => by
    unfold optL at hx
    split at hx
    · rename_i a l h1 h2
      cases hx
      rw [List.map_cons, h.at h1, optL_ok h h2]
    · cases hx
abbrev af0 : AF := (some [], some [])

section
variable {L : Nat} {f : FuncId} {E : Env} {A : List It} {d : Nat}
theorem wantN {g c w : Bool} {u : AV} (h1 : g = true → u = .lit (.bool c)) (h2 : g = false → u = .lit undef) : wantV w u = (g && (c == w)) := by
  cases g with
  | true => rw [h1 rfl]; rfl
  | false => rw [h2 rfl]; rfl
theorem RelC.noslot {v : V} {b : AV} (h : RelC v b) : ptrSlot b = .none := by
  cases v with
  | sl sz es =>
    unfold RelC at h
    rcases h with ⟨_, p, rfl⟩ | ⟨sp, ys, rfl, hc, _⟩
    · rfl
    · cases sp <;> first | rfl | cases hc
  | _ => unfold RelC at h; subst h; rfl
theorem okF_none {T : BT} {S : AS} {d : Option Nat} : okF (L + 1) af0 ⟨BF.foot S T d .none, .none⟩ := ⟨.inl rfl, .inl rfl⟩
theorem RelSL.get {L : Nat} : ∀ {M : List V} {ys : List AV} {i : Nat} {v : V}, RelSL L M ys → M[i]? = some v → ∃ c, ys[i]? = some c ∧ RelS L v c
  | [], _, _, _, _, h => by cases h
  | u :: M, ys, i, v, h, hi => by
    obtain ⟨a, t, rfl, h1, h2⟩ := h
    cases i with
    | zero => cases hi; exact ⟨a, rfl, h1⟩
    | succ i => exact h2.get (i := i) hi
theorem RelCL.get : ∀ {M : List V} {ys : List AV} {i : Nat} {v : V}, RelCL M ys → M[i]? = some v → ∃ c, ys[i]? = some c ∧ RelC v c
  | [], _, _, _, _, h => by cases h
  | u :: M, ys, i, v, h, hi => by
    unfold RelCL at h
    obtain ⟨a, t, rfl, h1, h2⟩ := h
    cases i with
    | zero => cases hi; exact ⟨a, rfl, h1⟩
    | succ i => exact h2.get (i := i) hi
theorem RelCL.length {vs : List V} {ys : List AV} (h : RelCL vs ys) : ys.length = vs.length := (h.toS (L := 0)).length
theorem le_of_ble {a b : Nat} (h : Nat.ble a b = true) : a ≤ b := Nat.le_of_ble_eq_true h
theorem okF_at {x : X} {k g o : Nat} {T : BT} {S : AS} {d : Option Nat} (hT : Ag E T) (hx : opd E x = some (.ptr ⟨L + 1, k, 0⟩ g 0 o)) : okK (L + 1) (some [k]) (BF.foot S T d (.at x)) := by
  refine .inr ⟨[⟨L + 1, k, 0⟩], ?_, by simp, fun p hp => ?_⟩
  · show ptrSlot (x.at T) = _
    rw [hT.at hx]
    rfl
  · simp only [List.mem_singleton] at hp
    subst hp
    exact ⟨rfl, List.mem_singleton.2 rfl⟩
theorem okF_here {T : BT} {S : AS} (hS : StA S L f A) : okK (L + 1) (some [d]) (BF.foot S T (some d) .here) := by
  refine .inr ⟨[⟨L + 1, d, 0⟩], ?_, by simp, fun p hp => ?_⟩
  · show FK.slots [S.here d] = _
    rw [here_eq, hS.lvl]
  · simp only [List.mem_singleton] at hp
    subst hp
    exact ⟨rfl, List.mem_singleton.2 rfl⟩
theorem cellsAt_obj {S : AS} {p : Loc} {g : Nat} {t : TypeId} {cs : List AV} (h : S.get p = some (.obj g t cs)) : S.cellsAt p g 0 = some cs := by simp [AS.cellsAt, h]
/-- Parts laid over cells. -/
inductive FillS (L : Nat) (E : Env) : List V → List (Nat × Nat × X) → List V → Prop where
  | nil (M : List V) : FillS L E M [] M
  | cons {M Xs M' : List V} {off size : Nat} {x : X} {a : AV} {r : List (Nat × Nat × X)} (hx : opd E x = some a) (ha : RelSL L Xs a.cells) (hn : Xs.length = size) (hle : Nat.ble (off + size) M.length = true) (h : FillS L E (spliceV M off Xs) r M') : FillS L E M ((off, size, x) :: r) M'
/-- No part is laid over this cell. -/
def outP (k : Nat) : List (Nat × Nat × X) → Bool
  | [] => true
  | (off, size, _) :: r => (Nat.blt k off || Nat.ble (off + size) k) && outP k r
theorem splice_keep {cs ys : List AV} {off k : Nat} (hk : (Nat.blt k off || Nat.ble (off + ys.length) k) = true) (hl : off + ys.length ≤ cs.length) : (splice cs off ys)[k]? = cs[k]? := by
  unfold splice
  simp only [Bool.or_eq_true, Nat.blt_eq, Nat.ble_eq] at hk
  rcases hk with hk | hk
  · rw [List.append_assoc, List.getElem?_append_left (by rw [List.length_take]; omega), List.getElem?_take_of_lt hk]
  · rw [List.getElem?_append_right (by rw [List.length_append, List.length_take]; omega), List.length_append, List.length_take, List.getElem?_drop]
    rw [show off + ys.length + (k - (min off cs.length + ys.length)) = k by omega]
theorem FillS.ok {T : BT} (hT : Ag E T) {M M' : List V} {pl : List (Nat × Nat × X)} (h : FillS L E M pl M') : ∀ {z : List AV}, RelSL L M z → ∃ cs, fillB T z pl = some cs ∧ RelSL L M' cs ∧ ∀ k, outP k pl = true → cs[k]? = z[k]? := by
  induction h with
  | nil M => exact fun {z} hz => ⟨z, rfl, hz, fun _ _ => rfl⟩
  | @cons M Xs M' off size x a r hx ha hn hle h ih =>
    intro z hz
    obtain ⟨cs, k1, k2, k3⟩ := ih (hz.spl off ha)
    have hl : a.cells.length = size := by rw [ha.length, hn]
    refine ⟨cs, ?_, k2, fun k hk => ?_⟩
    case refine_2 =>
      simp only [outP, Bool.and_eq_true] at hk
      rw [k3 k hk.2]
      exact splice_keep (by rw [hl]; exact hk.1) (by rw [hl, hz.length]; exact le_of_ble hle)
    rw [fillB_cons z off size x r (by rw [hT.at hx]; exact hl) (by rw [hz.length]; exact le_of_ble hle), hT.at hx]
    exact k1
/-- The same of cells that name nothing. -/
inductive FillC (E : Env) : List V → List (Nat × Nat × X) → List V → Prop where
  | nil (M : List V) : FillC E M [] M
  | cons {M Xs M' : List V} {off size : Nat} {x : X} {a : AV} {r : List (Nat × Nat × X)} (hx : opd E x = some a) (ha : RelCL Xs a.cells) (hn : Xs.length = size) (hle : Nat.ble (off + size) M.length = true) (h : FillC E (spliceV M off Xs) r M') : FillC E M ((off, size, x) :: r) M'
theorem RelCL.append {vs us : List V} : ∀ {as1 cs : List AV}, RelCL vs as1 → RelCL us cs → RelCL (vs ++ us) (as1 ++ cs) := by
  induction vs with
  | nil => intro as1 cs h h'; unfold RelCL at h; subst h; exact h'
  | cons v r ih =>
    intro as1 cs h h'
    unfold RelCL at h
    obtain ⟨a, t, rfl, h1, h2⟩ := h
    show RelCL (v :: (r ++ us)) _
    unfold RelCL
    exact ⟨a, t ++ cs, rfl, h1, ih h2 h'⟩
theorem RelCL.spl {vs xs : List V} {as1 ys : List AV} (off : Nat) (h : RelCL vs as1) (h' : RelCL xs ys) : RelCL (spliceV vs off xs) (splice as1 off ys) := by
  unfold spliceV splice
  rw [h'.length]
  exact ((h.take off).append h').append (h.drop _)
theorem FillC.ok {T : BT} (hT : Ag E T) {M M' : List V} {pl : List (Nat × Nat × X)} (h : FillC E M pl M') : ∀ {z : List AV}, RelCL M z → ∃ cs, fillB T z pl = some cs ∧ RelCL M' cs ∧ ∀ k, outP k pl = true → cs[k]? = z[k]? := by
  induction h with
  | nil M => exact fun {z} hz => ⟨z, rfl, hz, fun _ _ => rfl⟩
  | @cons M Xs M' off size x a r hx ha hn hle h ih =>
    intro z hz
    obtain ⟨cs, k1, k2, k3⟩ := ih (hz.spl off ha)
    have hl : a.cells.length = size := by rw [ha.length, hn]
    refine ⟨cs, ?_, k2, fun k hk => ?_⟩
    case refine_2 =>
      simp only [outP, Bool.and_eq_true] at hk
      rw [k3 k hk.2]
      exact splice_keep (by rw [hl]; exact hk.1) (by rw [hl, hz.length]; exact le_of_ble hle)
    rw [fillB_cons z off size x r (by rw [hT.at hx]; exact hl) (by rw [hz.length]; exact le_of_ble hle), hT.at hx]
    exact k1
/-- Elements of a slice that is made. -/
inductive BslR (E : Env) (n : Nat) : List X → List (List V) → Prop where
  | nil : BslR E n [] []
  | cons {x : X} {a : AV} {Xs : List V} {r : List X} {es : List (List V)} (hx : opd E x = some a) (ha : RelCL Xs a.cells) (hn : Xs.length = n) (h : BslR E n r es) : BslR E n (x :: r) (Xs :: es)
theorem RelCL.ones {vs : List V} {ys : List AV} (h : RelCL vs ys) : ys.all AV.one = true := (h.toS (L := 0)).ones
theorem BslR.ok {n : Nat} {T : BT} (hT : Ag E T) {xs : List X} {es : List (List V)} (h : BslR E n xs es) : xs.all (fun x => (x.at T).cells.length == n) = true ∧ xs.all (fun x => (x.at T).cells.all AV.one) = true ∧ RelCLL es (xs.map fun x => (x.at T).cells) := by
  induction h with
  | nil => exact ⟨rfl, rfl, by unfold RelCLL; rfl⟩
  | @cons x a Xs r es hx ha hn h ih =>
    obtain ⟨k1, k2, k3⟩ := ih
    have e : x.at T = a := hT.at hx
    refine ⟨?_, ?_, ?_⟩
    · rw [List.all_cons, e, k1, ha.length, hn]
      simp
    · rw [List.all_cons, e, k2, ha.ones]
      rfl
    · rw [List.map_cons, e]
      unfold RelCLL
      exact ⟨_, _, rfl, ha, k3⟩
def insK (d : Nat) (ks : List Nat) : List Nat := match ks.contains d with
  | true => ks
  | false => d :: ks
theorem insK_mem (d : Nat) (ks : List Nat) : d ∈ insK d ks ∧ ∀ k ∈ ks, k ∈ insK d ks := by
  unfold insK
  cases h : ks.contains d with
  | true => exact ⟨List.contains_iff_mem.1 h, fun k hk => hk⟩
  | false => exact ⟨List.mem_cons_self .., fun k hk => List.mem_cons_of_mem _ hk⟩
/-- No other thing but this has one of these names. -/
def freeT (ks : List Nat) : Nat → List It → Bool
  | _, [] => true
  | 0, _ :: r => r.all fun it => ks.all fun k => it.free k
  | i + 1, a :: r => (ks.all fun k => a.free k) && freeT ks i r
theorem setT_ok {S : AS} {L k : Nat} {s : ASlot} {ks : List Nat} {it : It} (hk : k ∈ ks) (hit : it.ok (S.set ⟨L, k, 0⟩ s) L) : ∀ {A : List It} {i : Nat}, (∀ it ∈ A, it.ok S L) → freeT ks i A = true → ∀ jt ∈ A.set i it, jt.ok (S.set ⟨L, k, 0⟩ s) L
  | [], _, _, _ => by intro jt hj; simp at hj
  | a :: r, 0, hA, hf => by
    intro jt hj
    simp only [List.set_cons_zero, List.mem_cons] at hj
    rcases hj with rfl | hj
    · exact hit
    · exact It.ok_set (hA jt (List.mem_cons_of_mem _ hj)) (List.all_eq_true.1 (List.all_eq_true.1 hf jt hj) k hk)
  | a :: r, i + 1, hA, hf => by
    intro jt hj
    simp only [freeT, Bool.and_eq_true] at hf
    simp only [List.set_cons_succ, List.mem_cons] at hj
    rcases hj with rfl | hj
    · exact It.ok_set (hA _ (List.mem_cons_self ..)) (List.all_eq_true.1 hf.1 k hk)
    · exact setT_ok (A := r) hk hit (fun it hi => hA it (List.mem_cons_of_mem _ hi)) hf.2 jt hj
theorem set_ok' {S : AS} {L : Nat} {it : It} (hit : it.ok S L) : ∀ {A : List It} {i : Nat}, (∀ it ∈ A, it.ok S L) → ∀ jt ∈ A.set i it, jt.ok S L := by
  intro A i hA jt hj
  rcases List.mem_or_eq_of_mem_set hj with h | rfl
  · exact hA jt h
  · exact hit
theorem relCLL_ones : ∀ {es : List (List V)} {ys : List (List AV)}, RelCLL es ys → ys.all (fun e => e.all AV.one) = true
  | [], ys, h => by unfold RelCLL at h; subst h; rfl
  | e :: r, ys, h => by
    unfold RelCLL at h
    obtain ⟨a, t, rfl, h1, h2⟩ := h
    rw [List.all_cons, h1.ones, relCLL_ones h2]
    rfl
end

section
variable [Cfg] {P : Program} {L : Nat} {f : FuncId} {E : Env} {A : List It} {Φ : PostX} {m : Option (List (Nat × Nat))} {acc : AAcc} {r : List BI} {d : Nat}

/-- A step that changes nothing but a temporary. -/
def Stp (P : Program) (L : Nat) (f : FuncId) (E : Env) (A : List It) (d : Nat) (bf : BF) (o : BO) (af : AF) (Q : AV → Prop) : Prop :=
  ∀ T S, Ag E T → StA S L f A → ∃ v ft, Q v ∧ okF (L + 1) af ft ∧ ∀ c r, bsteps P (callT P) c (⟨some d, none, bf, o⟩ :: r) T S = bsteps P (callT P) (c.push ft) r (T.put (some d) v) S
theorem stp_of {o : BO} {bf : BF} {af : AF} {Q : AV → Prop} (hop : ∀ T S, Ag E T → StA S L f A → ∃ v, bop P S T (some d) o = some (.val v) ∧ Q v)
    (hf : ∀ T S, Ag E T → StA S L f A → okF (L + 1) af ⟨bf.foot S T (some d), .none⟩) : Stp P L f E A d bf o af Q := by
  intro T S hT hS
  obtain ⟨v, h1, h2⟩ := hop T S hT hS
  exact ⟨v, _, h2, hf T S hT hS, fun c r => by rw [b_cons, h1, kr_val]⟩
theorem g_stp {o : BO} {bf : BF} {af : AF} {Q : AV → Prop} (hs : Stp P L f E A d bf o af Q) (h : ∀ v, Q v → GO1 P m (accP acc af) r L f ((d, v) :: E) A Φ) : GO1 P m acc (⟨some d, none, bf, o⟩ :: r) L f E A Φ := by
  intro c T S hc hT hS
  obtain ⟨v, ft, h1, h2, h3⟩ := hs T S hT hS
  obtain ⟨x, T', S', k1, k2⟩ := h v h1 _ (T.put (some d) v) S (hc.push h2) (hT.put d v) hS
  exact ⟨x, T', S', by rw [h3]; exact k1, k2⟩
theorem g_val {o : BO} {bf : BF} {af : AF} {v : AV} (hs : Stp P L f E A d bf o af (fun u => u = v)) (h : GO1 P m (accP acc af) r L f ((d, v) :: E) A Φ) : GO1 P m acc (⟨some d, none, bf, o⟩ :: r) L f E A Φ :=
  g_stp hs fun u hu => by subst hu; exact h
/-- A step that is taken where a guard wants it. -/
theorem g_gua {o : BO} {bf : BF} {af : AF} {Q : AV → Prop} {t : Nat} {w gb : Bool} {u : AV} (ht : look E t = some u) (hw : wantV w u = gb) (hs : gb = true → Stp P L f E A d bf o af Q)
    (h : ∀ v, (gb = true → Q v) → (gb = false → v = .lit undef) → GO1 P m (accP acc af) r L f ((d, v) :: E) A Φ) : GO1 P m acc (⟨some d, some (t, w), bf, o⟩ :: r) L f E A Φ := by
  intro c T S hc hT hS
  have e : bwanted T (some (t, w)) = gb := by rw [bwanted_some, hT t u ht, hw]
  cases hg : gb with
  | true =>
    obtain ⟨v, ft, h1, h2, h3⟩ := hs hg T S hT hS
    obtain ⟨x, T', S', k1, k2⟩ := h v (fun _ => h1) (fun e => by rw [hg] at e; cases e) _ (T.put (some d) v) S (hc.push h2) (hT.put d v) hS
    refine ⟨x, T', S', ?_, k2⟩
    rw [b_guard, e, hg, kg_true]
    simp only
    rw [h3]
    exact k1
  | false =>
    obtain ⟨x, T', S', k1, k2⟩ := h (.lit undef) (fun e => by rw [hg] at e; cases e) (fun _ => rfl) _ (T.put (some d) (.lit undef)) S (hc.push (f := ⟨.none, .none⟩) ⟨(by cases af.1 <;> first | trivial | exact .inl rfl), (by cases af.2 <;> first | trivial | exact .inl rfl)⟩) (hT.put d _) hS
    refine ⟨x, T', S', ?_, k2⟩
    rw [b_guard, e, hg, kg_false]
    exact k1
theorem s_val {o : BO} {v : AV} (hop : ∀ T S, Ag E T → bop P S T (some d) o = some (.val v)) : Stp P L f E A d .none o af0 (fun u => u = v) :=
  stp_of (fun T S hT _ => ⟨v, hop T S hT, rfl⟩) (fun _ _ _ _ => okF_none)
theorem s_valE {o : BO} {Q : AV → Prop} (hop : ∀ T S, Ag E T → ∃ v, bop P S T (some d) o = some (.val v) ∧ Q v) : Stp P L f E A d .none o af0 Q :=
  stp_of (fun T S hT _ => hop T S hT) (fun _ _ _ _ => okF_none)
/-- One of two, the first of which is known where it is wanted. -/
theorem s_and {c a : X} {t b : Bool} {u : AV} (hc : opd E c = some (.lit (.bool t))) (ha : opd E a = some u) (hu : t = true → u = .lit (.bool b)) : Stp P L f E A d .none (.pk c a (.c (.lit (.bool false)))) af0 (fun v => v = .lit (.bool (t && b))) :=
  s_val fun T S hT => by
    simp only [bop, hT.at hc]
    cases t
    · rfl
    · simp only [if_true, hT.at ha, hu rfl, Bool.true_and]
theorem s_or {c a : X} {t b : Bool} {u : AV} (hc : opd E c = some (.lit (.bool t))) (ha : opd E a = some u) (hu : (!t) = true → u = .lit (.bool b)) : Stp P L f E A d .none (.pk c (.c (.lit (.bool true))) a) af0 (fun v => v = .lit (.bool (t || b))) :=
  s_val fun T S hT => by
    simp only [bop, hT.at hc]
    cases t
    · simp only [Bool.false_eq_true, if_false, hT.at ha, hu rfl, Bool.false_or]
    · rfl
theorem s_mv {x : X} {v : AV} (hx : opd E x = some v) : Stp P L f E A d .none (.mv x) af0 (fun u => u = v) :=
  s_val (fun T S hT => by show some (AR.val (x.at T)) = _; rw [hT.at hx])
theorem s_ib {op : BinOp} {x y : X} {a b v : AV} (hx : opd E x = some a) (hy : opd E y = some b) (hv : ibV op a b = some v) : Stp P L f E A d .none (.ib op x y) af0 (fun u => u = v) :=
  s_val (fun T S hT => by simp only [bop, hT.at hx, hT.at hy, hv, Option.map_some])
theorem s_nt {x : X} {b : Bool} (hx : opd E x = some (.lit (.bool b))) : Stp P L f E A d .none (.nt x) af0 (fun u => u = .lit (.bool !b)) :=
  s_val (fun T S hT => by simp only [bop, hT.at hx, ntV, Option.map_some])
theorem s_bb {ne : Bool} {x y : X} {a b : Bool} (hx : opd E x = some (.lit (.bool a))) (hy : opd E y = some (.lit (.bool b))) : Stp P L f E A d .none (.bb ne x y) af0 (fun u => u = .lit (.bool (decide (a = b) != ne))) :=
  s_val (fun T S hT => by simp only [bop, hT.at hx, hT.at hy, bbV, Option.map_some])
theorem s_cvi {k k' : IntKind} {x : X} {n : Int} (hx : opd E x = some (.lit (.int k' n))) : Stp P L f E A d (.at x) (.cvi k x) af0 (fun u => u = .lit (.int k (k.wrap n))) :=
  stp_of (fun T S hT _ => ⟨_, by simp only [bop, hT.at hx, cviV, Option.map_some], rfl⟩) (fun T S hT _ => ⟨.inl (by show ptrSlot (x.at T) = _; rw [hT.at hx]; rfl), .inl rfl⟩)
theorem s_seq1 {x y : X} {a b : List UInt8} (hx : opd E x = some (.lit (.string (bs a)))) (hy : opd E y = some (.lit (.string (bs b)))) : Stp P L f E A d .none (.sb .eql x y) af0 (fun u => u = .lit (.bool (decide (a = b)))) :=
  s_val (fun T S hT => by simp only [bop, hT.at hx, hT.at hy, sbV, strB, toL_bs, Option.map_some])
theorem s_sne {x y : X} {a b : List UInt8} (hx : opd E x = some (.lit (.string (bs a)))) (hy : opd E y = some (.lit (.string (bs b)))) : Stp P L f E A d .none (.sb .neq x y) af0 (fun u => u = .lit (.bool (decide (a ≠ b)))) :=
  s_val (fun T S hT => by simp only [bop, hT.at hx, hT.at hy, sbV, strB, toL_bs, Option.map_some])
theorem s_slt {x y : X} {a b : List UInt8} (hx : opd E x = some (.lit (.string (bs a)))) (hy : opd E y = some (.lit (.string (bs b)))) : Stp P L f E A d .none (.sb .lss x y) af0 (fun u => u = .lit (.bool (Op.bytesLess a b))) :=
  s_val (fun T S hT => by simp only [bop, hT.at hx, hT.at hy, sbV, strB, toL_bs, Option.map_some])
theorem s_sge {x y : X} {a b : List UInt8} (hx : opd E x = some (.lit (.string (bs a)))) (hy : opd E y = some (.lit (.string (bs b)))) : Stp P L f E A d .none (.sb .geq x y) af0 (fun u => u = .lit (.bool (!(Op.bytesLess a b)))) :=
  s_val (fun T S hT => by simp only [bop, hT.at hx, hT.at hy, sbV, strB, toL_bs, Option.map_some])
theorem s_cat {x y : X} {a b c : List UInt8} (hx : opd E x = some (.lit (.string (bs a)))) (hy : opd E y = some (.lit (.string (bs b)))) (hc : G.catS a b = some c) : Stp P L f E A d .none (.sb .add x y) af0 (fun u => u = .lit (.string (bs c))) :=
  s_val (fun T S hT => by
    unfold G.catS at hc
    split at hc
    · rename_i hl
      cases hc
      simp only [bop, hT.at hx, hT.at hy, sbV, strB, toL_bs]
      rw [if_pos hl]
      rfl
    · cases hc)
theorem s_ls {x : X} {a : List UInt8} (hx : opd E x = some (.lit (.string (bs a)))) : Stp P L f E A d (.at x) (.ls x) af0 (fun u => u = .lit (.int .i64 a.length)) :=
  stp_of (fun T S hT _ => ⟨_, by simp only [bop, hT.at hx, lsV, toL_bs, Option.map_some], rfl⟩) (fun T S hT _ => ⟨.inl (by show ptrSlot (x.at T) = _; rw [hT.at hx]; rfl), .inl rfl⟩)
theorem s_xs {x i : X} {a : List UInt8} {k : IntKind} {j c : Int} (hx : opd E x = some (.lit (.string (bs a)))) (hi : opd E i = some (.lit (.int k j))) (hc : G.idxS a j = some c) : Stp P L f E A d .none (.xs x i) af0 (fun u => u = .lit (.int .u8 c)) :=
  s_val (fun T S hT => by
    unfold G.idxS at hc
    split at hc
    · rename_i h0
      obtain ⟨b, hb, rfl⟩ := Option.map_eq_some_iff.1 hc
      have hlt := (List.getElem?_eq_some_iff.1 hb).1
      simp only [bop, hT.at hx, hT.at hi, xsV, toL_bs]
      rw [if_pos ⟨h0, by omega⟩]
      simp [List.getD_eq_getElem?_getD, hb]
    · cases hc)
theorem s_sls {x lo hi : X} {a c : List UInt8} {k k' : IntKind} {i j : Int} (hx : opd E x = some (.lit (.string (bs a)))) (h1 : opd E lo = some (.lit (.int k i))) (h2 : opd E hi = some (.lit (.int k' j))) (hc : G.subS a i j = some c) : Stp P L f E A d .none (.sls x (some lo) (some hi)) af0 (fun u => u = .lit (.string (bs c))) :=
  s_val (fun T S hT => by
    unfold G.subS at hc
    split at hc
    · rename_i h0
      cases hc
      simp only [bop, hT.at hx, hT.at h1, hT.at h2, Option.map_some]
      rw [slsV_both _ _ _ _ _ h0.1 h0.2.1 (by rw [toL_bs]; exact h0.2.2), toL_bs]
      rfl
    · cases hc)
theorem s_slsL {x lo : X} {a c : List UInt8} {k : IntKind} {i : Int} (hx : opd E x = some (.lit (.string (bs a)))) (hi : opd E lo = some (.lit (.int k i))) (hc : G.subS a i a.length = some c) : Stp P L f E A d .none (.sls x (some lo) none) af0 (fun u => u = .lit (.string (bs c))) :=
  s_val (fun T S hT => by
    unfold G.subS at hc
    split at hc
    · rename_i h0
      cases hc
      simp only [bop, hT.at hx, hT.at hi, Option.map_some, Option.map_none]
      rw [slsV_lo _ _ _ h0.1 (by rw [toL_bs]; exact h0.2.1), toL_bs, Int.toNat_natCast, List.take_length]
      rfl
    · cases hc)
theorem s_slsH {x hi : X} {a c : List UInt8} {k' : IntKind} {j : Int} (hx : opd E x = some (.lit (.string (bs a)))) (hj : opd E hi = some (.lit (.int k' j))) (hc : G.subS a 0 j = some c) : Stp P L f E A d .none (.sls x none (some hi)) af0 (fun u => u = .lit (.string (bs c))) :=
  s_val (fun T S hT => by
    unfold G.subS at hc
    split at hc
    · rename_i h0
      cases hc
      simp only [bop, hT.at hx, hT.at hj, Option.map_some, Option.map_none]
      rw [slsV_hi _ _ _ h0.2.1 (by rw [toL_bs]; exact h0.2.2), toL_bs]
      rfl
    · cases hc)
theorem s_ex {x : X} {i : Nat} {l : List AV} {a : AV} (hx : opd E x = some (.tup l)) (hi : l[i]? = some a) : Stp P L f E A d .none (.ex x i) af0 (fun u => u = a) :=
  s_val (fun T S hT => by simp only [bop, hT.at hx, exV, hi, Option.map_some])
theorem s_fa {x : X} {p : Loc} {g n o off o' : Nat} (hx : opd E x = some (.ptr p g n o)) (ho : o + off = o') : Stp P L f E A d .none (.fa off x) af0 (fun u => u = .ptr p g n o') :=
  s_val (fun T S hT => by subst ho; simp only [bop, hT.at hx, offV, Option.map_some])
theorem s_fac {x : X} {ys : List AV} {M : List V} {off : Nat} (hx : opd E x = some (.cref ys)) (hM : RelCL M ys) : Stp P L f E A d .none (.fa off x) af0 (fun u => ∃ zs, u = .cref zs ∧ RelCL (M.drop off) zs) :=
  s_valE (fun T S hT => ⟨_, by simp only [bop, hT.at hx, offV, Option.map_some], _, rfl, hM.drop off⟩)
theorem s_fd1 {x : X} {ys : List AV} {M : List V} {off : Nat} {v : V} (hx : opd E x = some (.agg ys)) (hM : RelSL (L + 1) M ys) (hv : M[off]? = some v) : Stp P L f E A d .none (.fd1 off x) af0 (fun c => RelS (L + 1) v c) := by
  obtain ⟨c, h1, h2⟩ := hM.get hv
  exact s_valE (fun T S hT => ⟨c, by simp only [bop, hT.at hx, fd1V, h1, Option.map_some], h2⟩)
theorem s_fd1C {x : X} {ys : List AV} {M : List V} {off : Nat} {v : V} (hx : opd E x = some (.agg ys)) (hM : RelCL M ys) (hv : M[off]? = some v) : Stp P L f E A d .none (.fd1 off x) af0 (fun c => RelC v c) := by
  obtain ⟨c, h1, h2⟩ := hM.get hv
  exact s_valE (fun T S hT => ⟨c, by simp only [bop, hT.at hx, fd1V, h1, Option.map_some], h2⟩)
theorem s_fdn {x : X} {ys : List AV} {M N : List V} {off n : Nat} (hx : opd E x = some (.agg ys)) (hM : RelSL (L + 1) M ys) (hn : Nat.ble (off + n) M.length = true) (hN : (M.drop off).take n = N) : Stp P L f E A d .none (.fdn off n x) af0 (fun u => ∃ zs, u = .agg zs ∧ RelSL (L + 1) N zs) := by
  subst hN
  exact s_valE (fun T S hT => ⟨_, by
    simp only [bop, hT.at hx, fdnV]
    rw [if_pos (by rw [hM.length]; exact le_of_ble hn)]
    rfl, _, rfl, (hM.drop off).take n⟩)
theorem s_fdnC {x : X} {ys : List AV} {M N : List V} {off n : Nat} (hx : opd E x = some (.agg ys)) (hM : RelCL M ys) (hn : Nat.ble (off + n) M.length = true) (hN : (M.drop off).take n = N) : Stp P L f E A d .none (.fdn off n x) af0 (fun u => ∃ zs, u = .agg zs ∧ RelCL N zs) := by
  subst hN
  exact s_valE (fun T S hT => ⟨_, by
    simp only [bop, hT.at hx, fdnV]
    rw [if_pos (by rw [hM.length]; exact le_of_ble hn)]
    rfl, _, rfl, (hM.drop off).take n⟩)
/-- An element's place. -/
theorem s_ia {α : Type} {x i : X} {a : AV} {xs : List α} {c : α → List V} {n : Nat} {k : IntKind} {j : Int} {e : α} (hx : opd E x = some a) (ha : RelS (L + 1) (.sl n (xs.map c)) a) (hi : opd E i = some (.lit (.int k j))) (he : G.idx xs j = some e)
    : Stp P L f E A d .none (.ia n x i) af0 (fun u => ∃ zs, u = .cref zs ∧ RelCL (c e) zs) := by
  unfold G.idx at he
  split at he
  · rename_i h0
    rcases ha with ⟨hn, _⟩ | ⟨sp, ys, rfl, _, hr⟩
    · have : xs = [] := by simpa using hn
      subst this
      simp at he
    · obtain ⟨zs, h1, h2⟩ := hr.get (i := j.toNat) (v := c e) (by rw [List.getElem?_map, he]; rfl)
      exact s_valE (fun T S hT => ⟨_, by
        simp only [bop, hT.at hx, hT.at hi, iaV]
        rw [if_pos ⟨h0, trivial⟩, h1]
        rfl, zs, rfl, h2⟩)
  · cases he
theorem s_ll {α : Type} {x : X} {a : AV} {xs : List α} {c : α → List V} {n : Nat} (hx : opd E x = some a) (ha : RelS (L + 1) (.sl n (xs.map c)) a) : Stp P L f E A d (.at x) (.ll x) (none, some []) (fun u => u = .lit (.int .i64 xs.length)) :=
  stp_of (fun T S hT _ => ⟨_, by
    simp only [bop, hT.at hx, ha.len, Option.map_some, List.length_map], rfl⟩) (fun _ _ _ _ => ⟨trivial, .inl rfl⟩)
/-- A load from an object. -/
theorem s_ldo {x : X} {k g off : Nat} {t : TypeId} {cs : List AV} {M : List V} {v : V} (hx : opd E x = some (.ptr ⟨L + 1, k, 0⟩ g 0 off)) (ho : lookO A k = some (g, t, cs)) (hM : RelSL (L + 1) M cs) (hv : M[off]? = some v)
    : Stp P L f E A d (.at x) (.ld1 x) (some [k], some []) (fun c => RelS (L + 1) v c ∧ cs[off]? = some c) := by
  obtain ⟨c, h1, h2⟩ := hM.get hv
  refine stp_of (fun T S hT hS => ⟨c, ?_, h2, h1⟩) (fun T S hT _ => ⟨okF_at (S := S) (d := some d) hT hx, .inl rfl⟩)
  simp only [bop, hT.at hx, ld1V, aread, cellsAt_obj (lookO_ok hS.its ho), Option.map_some]
  rw [List.head?_drop, h1]
  rfl
theorem s_ldno {x : X} {k g off n : Nat} {t : TypeId} {cs : List AV} {M N : List V} (hx : opd E x = some (.ptr ⟨L + 1, k, 0⟩ g 0 off)) (ho : lookO A k = some (g, t, cs)) (hM : RelSL (L + 1) M cs) (hn : Nat.ble (off + n) M.length = true) (hN : (M.drop off).take n = N)
    : Stp P L f E A d (.at x) (.ldn n x) (some [k], some []) (fun u => ∃ zs, u = .agg zs ∧ RelSL (L + 1) N zs ∧ zs = (cs.drop off).take n) := by
  subst hN
  refine stp_of (fun T S hT hS => ⟨.agg ((cs.drop off).take n), ?_, _, rfl, (hM.drop off).take n, rfl⟩) (fun T S hT _ => ⟨okF_at (S := S) (d := some d) hT hx, .inl rfl⟩)
  simp only [bop, hT.at hx, ldnV, aread, cellsAt_obj (lookO_ok hS.its ho), Option.map_some]
  have := le_of_ble hn
  rw [if_pos (by rw [List.length_drop, hM.length]; omega)]
  rfl
theorem s_ldc {x : X} {ys : List AV} {M : List V} {v : V} (hx : opd E x = some (.cref ys)) (hM : RelCL M ys) (hv : M[0]? = some v) : Stp P L f E A d (.at x) (.ld1 x) af0 (fun c => RelC v c) := by
  obtain ⟨c, h1, h2⟩ := hM.get hv
  refine stp_of (fun T S hT hS => ⟨c, ?_, h2⟩) (fun T S hT _ => ⟨.inl ?_, .inl rfl⟩)
  · simp only [bop, hT.at hx, ld1V, aread]
    rw [List.head?_eq_getElem?, h1]
    rfl
  · show ptrSlot (x.at T) = _
    rw [hT.at hx]
    rfl
theorem s_ldnc {x : X} {ys : List AV} {M N : List V} {n : Nat} (hx : opd E x = some (.cref ys)) (hM : RelCL M ys) (hn : Nat.ble n M.length = true) (hN : M.take n = N) : Stp P L f E A d (.at x) (.ldn n x) af0 (fun u => ∃ zs, u = .agg zs ∧ RelCL N zs) := by
  subst hN
  refine stp_of (fun T S hT hS => ⟨.agg (ys.take n), ?_, _, rfl, hM.take n⟩) (fun T S hT _ => ⟨.inl ?_, .inl rfl⟩)
  · simp only [bop, hT.at hx, ldnV, aread]
    rw [if_pos (by rw [hM.length]; exact le_of_ble hn)]
    rfl
  · show ptrSlot (x.at T) = _
    rw [hT.at hx]
    rfl
theorem g_chg {o : BO} {bf : BF} {dd : Option Nat} {k : Nat} {s : ASlot} {v : AV} {E' : Env} {A' : List It} {T : BT} {S : AS} {c : Acc} (hop : bop P S T dd o = some (.chg v ⟨L + 1, k, 0⟩ s)) (hw : o.w = true) (hc : AccR (L + 1) acc c) (hr : okK (L + 1) (some [k]) (bf.foot S T dd)) (hT : Ag E' (T.put dd v)) (hS : StA (S.set ⟨L + 1, k, 0⟩ s) L f A')
    (h : GO1 P m (accP acc (some [k], some [k])) r L f E' A' Φ) : ∃ x T' S', finO m (bsteps P (callT P) c (⟨dd, none, bf, o⟩ :: r) T S) = some (x, T', S') ∧ Φ x T' S' := by
  obtain ⟨x, T', S', k1, k2⟩ := h _ (T.put dd v) (S.set ⟨L + 1, k, 0⟩ s) (hc.push (f := ⟨bf.foot S T dd, .slot ⟨L + 1, k, 0⟩⟩) ⟨hr, .inr ⟨[⟨L + 1, k, 0⟩], rfl, by simp, fun p hp => by
    simp only [List.mem_singleton] at hp
    subst hp
    exact ⟨rfl, List.mem_singleton.2 rfl⟩⟩⟩) hT hS
  exact ⟨x, T', S', by rw [b_cons, hop, hw, kr_chg]; exact k1, k2⟩
theorem g_al {e : TypeId} {cs : List AV} (hf : freeO d A = true) (h : ∀ g, GO1 P m (accP acc (some [d], some [d])) r L f ((d, .ptr ⟨L + 1, d, 0⟩ g 0 0) :: E) (setO d g e cs A) Φ) : GO1 P m acc (⟨some d, none, .here, .al e cs⟩ :: r) L f E A Φ := by
  intro c T S hc hT hS
  have e1 : S.here d = ⟨L + 1, d, 0⟩ := by rw [here_eq, hS.lvl]
  exact g_chg (v := .ptr ⟨L + 1, d, 0⟩ (S.fresh ⟨L + 1, d, 0⟩) 0 0) (s := .obj (S.fresh ⟨L + 1, d, 0⟩) e cs) (by simp only [bop, e1]) rfl hc (okF_here hS) (hT.put d _) (hS.set d _ (setO_ok hS.its hf)) (h _)
theorem g_bx {e : TypeId} {x : X} {a : AV} {cs : List AV} (hx : opd E x = some a) (hcs : a.cells = cs) (hf : freeO d A = true) (h : ∀ g, GO1 P m (accP acc (some [d], some [d])) r L f ((d, .ptr ⟨L + 1, d, 0⟩ g 0 0) :: E) (setO d g e cs A) Φ) : GO1 P m acc (⟨some d, none, .here, .bx e x⟩ :: r) L f E A Φ := by
  subst hcs
  intro c T S hc hT hS
  have e1 : S.here d = ⟨L + 1, d, 0⟩ := by rw [here_eq, hS.lvl]
  exact g_chg (v := .ptr ⟨L + 1, d, 0⟩ (S.fresh ⟨L + 1, d, 0⟩) 0 0) (s := .obj (S.fresh ⟨L + 1, d, 0⟩) e a.cells) (by simp only [bop, e1, hT.at hx]) rfl hc (okF_here hS) (hT.put d _) (hS.set d _ (setO_ok hS.its hf)) (h _)
theorem g_st {x v : X} {k g off n : Nat} {t : TypeId} {cs : List AV} {a : AV} {M M' Xs : List V} (hx : opd E x = some (.ptr ⟨L + 1, k, 0⟩ g 0 off)) (ho : lookO A k = some (g, t, cs)) (hf : freeO k A = true) (hv : opd E v = some a) (hM : RelSL (L + 1) M cs) (ha : RelSL (L + 1) Xs a.cells)
    (hn : Xs.length = n) (hle : Nat.ble (off + n) M.length = true) (hM' : spliceV M off Xs = M') (h : ∀ cs', RelSL (L + 1) M' cs' → cs' = splice cs off a.cells → GO1 P m (accP acc (some [k], some [k])) r L f E (setO k g t cs' A) Φ) : GO1 P m acc (⟨none, none, .at x, .st n x v⟩ :: r) L f E A Φ := by
  subst hM'
  intro c T S hc hT hS
  have hg := lookO_ok hS.its ho
  have hl : a.cells.length = n := by rw [ha.length, hn]
  have hle' := le_of_ble hle
  refine g_chg (dd := none) (v := .lit undef) (s := .obj g t (splice cs off a.cells)) (k := k) ?_ rfl hc (okF_at (S := S) (d := none) hT hx) hT (hS.set k _ (setO_ok hS.its hf)) (h _ (hM.spl off ha) rfl)
  simp only [bop, hT.at hx, hT.at hv]
  rw [stV_obj hg hl (by rw [hl, hM.length]; exact hle') ha.ones]
  rfl

/-- A call. -/
theorem s_cl {g : FuncId} {xs : List X} {args : List AV} {Q : AV → Prop} (hup : ∀ h, Cfg.up g h = false) (hx : optL E xs = some args) (hc : CallR P g args Q) : Stp P L f E A d .none (.cl g xs) (none, some []) Q := by
  intro T S hT hS
  have hb : bop P S T (some d) (.cl g xs) = some (.call g args) := by simp only [bop]; rw [optL_ok hT hx]
  cases hcl : AV.closedL args with
  | true =>
    obtain ⟨v, h1, h2⟩ := hc .bare
    exact ⟨v, ⟨BF.foot S T (some d) .none, .none⟩, h2, ⟨trivial, .inl rfl⟩, fun c r => by rw [b_cons, hb, show (BO.cl g xs).w = true from rfl, kr_call, hup, hcl, Bool.not_false, Bool.true_and, kcall_closed, h1, kcl_ret]⟩
  | false =>
    obtain ⟨v, h1, h2⟩ := hc S
    exact ⟨v, ⟨.all, Upd.kind none⟩, h2, ⟨trivial, .inl rfl⟩, fun c r => by rw [b_cons, hb, show (BO.cl g xs).w = true from rfl, kr_call, hup, hcl, Bool.not_false, Bool.true_and, kcall_open, h1, kop_ret]; rfl⟩
/-- A call of what names nothing. -/
theorem s_clC {g : FuncId} {xs : List X} {args : List AV} {Q : AV → Prop} (hup : ∀ h, Cfg.up g h = false) (hx : optL E xs = some args) (hcl : AV.closedL args = true) (hc : CallR P g args Q) : Stp P L f E A d .none (.cl g xs) af0 Q := by
  intro T S hT hS
  have hb : bop P S T (some d) (.cl g xs) = some (.call g args) := by simp only [bop]; rw [optL_ok hT hx]
  obtain ⟨v, h1, h2⟩ := hc .bare
  exact ⟨v, ⟨BF.foot S T (some d) .none, .none⟩, h2, ⟨.inl rfl, .inl rfl⟩, fun c r => by rw [b_cons, hb, show (BO.cl g xs).w = true from rfl, kr_call, hup, hcl, Bool.not_false, Bool.true_and, kcall_closed, h1, kcl_ret]⟩

/-! ### Structs, and slices, that are made -/
theorem s_bd {z : List AV} {pl : List (Nat × Nat × X)} {Z M M' : List V} (hz : RelSL (L + 1) Z z) (hp : FillS (L + 1) E Z pl M) (hM : M = M') : Stp P L f E A d .none (.bd z pl) af0 (fun u => ∃ cs, u = .agg cs ∧ RelSL (L + 1) M' cs ∧ ∀ k, outP k pl = true → cs[k]? = z[k]?) := by
  subst hM
  refine s_valE (fun T S hT => ?_)
  obtain ⟨cs, k1, k2, k3⟩ := hp.ok hT hz
  exact ⟨.agg cs, by simp only [bop, k1, Option.map_some], cs, rfl, k2, k3⟩
theorem s_bdC {z : List AV} {pl : List (Nat × Nat × X)} {Z M M' : List V} (hz : RelCL Z z) (hp : FillC E Z pl M) (hM : M = M') : Stp P L f E A d .none (.bd z pl) af0 (fun u => ∃ cs, u = .agg cs ∧ RelCL M' cs ∧ ∀ k, outP k pl = true → cs[k]? = z[k]?) := by
  subst hM
  refine s_valE (fun T S hT => ?_)
  obtain ⟨cs, k1, k2, k3⟩ := hp.ok hT hz
  exact ⟨.agg cs, by simp only [bop, k1, Option.map_some], cs, rfl, k2, k3⟩
theorem s_bsl {e : TypeId} {n : Nat} {xs : List X} {es es' : List (List V)} (hl : Cfg.live f d = false) (hx : BslR E n xs es) (he : es = es') : Stp P L f E A d .here (.bsl e n xs) (some [d], some []) (fun a => RelC (.sl n es') a ∧ ∃ ys, a = .list .full n ys) := by
  subst he
  refine stp_of (fun T S hT hS => ?_) (fun T S hT hS => ⟨okF_here (T := T) hS, .inl rfl⟩)
  obtain ⟨k1, k2, k3⟩ := hx.ok hT
  refine ⟨_, ?_, RelC.list rfl k3, _, rfl⟩
  simp only [bop]
  rw [if_pos ⟨k1, k2⟩, hS.fn, hl]
  rfl

/-! ### Elements laid behind -/
theorem g_ap1 (af1 : Ks) {s x : X} {a b : AV} {i n bytes : Nat} {e : TypeId} {ks : List Nat} {α : Type} {c : α → List V} {xs ns zs : List α} (hl : Cfg.live f d = false) (hs : opd E s = some a) (hx : opd E x = some b) (hA : A[i]? = some (.tok ks n e a)) (ha : RelS (L + 1) (.sl n (xs.map c)) a) (hb : RelS (L + 1) (.sl n (ns.map c)) b) (hby : Nat.ble bytes 100000 = true)
    (hrd : ∀ T S, Ag E T → StA S L f A → okK (L + 1) af1 (BF.foot S T (some d) (.app s x))) (hf : freeT (insK d ks) i A = true) (hz : G.app xs ns = some zs) (h : ∀ a', RelS (L + 1) (.sl n (zs.map c)) a' → GO1 P m (accP acc (af1, some (insK d ks))) r L f ((d, a') :: E) (A.set i (.tok (insK d ks) n e a')) Φ) : GO1 P m acc (⟨some d, none, .app s x, .ap e n bytes s x⟩ :: r) L f E A Φ := by
  unfold G.app at hz
  split at hz
  case isFalse => cases hz
  rename_i hlen
  cases hz
  intro cc T S hc hT hS
  obtain ⟨hk1, hk2⟩ := insK_mem d ks
  obtain ⟨news, k1, k2⟩ := hb.elems S
  have hnl : news.length = ns.length := by rw [k2.length, List.length_map]
  have hone := relCLL_ones k2
  have hby' := le_of_ble hby
  have e1 : S.here d = ⟨L + 1, d, 0⟩ := by rw [here_eq, hS.lvl]
  have hop : bop P S T (some d) (.ap e n bytes s x) = appB S d e n bytes a news := by simp only [bop, hT.at hx, hT.at hs, k1]
  have hlive : Cfg.live S.fn d = false := by rw [hS.fn]; exact hl
  have hApp : App S (L + 1) ks n e a := hS.its _ (List.mem_of_getElem? hA)
  -- the ways it goes
  have stay : appB S d e n bytes a news = some (.val a) → ns = [] → ∃ x1 T' S', finO m (bsteps P (callT P) cc (⟨some d, none, .app s x, .ap e n bytes s x⟩ :: r) T S) = some (x1, T', S') ∧ Φ x1 T' S' := by
    intro hv hns
    subst hns
    have hA' : ∀ jt ∈ A.set i (.tok (insK d ks) n e a), jt.ok S (L + 1) := set_ok' (it := .tok (insK d ks) n e a) (by
      rcases hApp with h | h | ⟨p, g, es, h1, h2, h3, h4, h5⟩
      · exact .inl h
      · exact .inr (.inl h)
      · exact .inr (.inr ⟨p, g, es, h1, h2, h3, h4, hk2 _ h5⟩)) hS.its
    obtain ⟨x1, T', S', q1, q2⟩ := h a (by simpa using ha) _ (T.put (some d) a) S (hc.push (f := ⟨BF.foot S T (some d) (.app s x), .none⟩) ⟨hrd T S hT hS, .inl rfl⟩) (hT.put d a) ⟨hS.lvl, hS.fn, hS.dfr, hS.out, hA'⟩
    exact ⟨x1, T', S', by rw [b_cons, hop, hv, kr_val]; exact q1, q2⟩
  have laid : ∀ (p : Loc) (g : Nat) (es : List (List AV)), p.l = L + 1 → p.i = 0 → p.k ∈ insK d ks → RelCLL ((xs ++ ns).map c) es → appB S d e n bytes a news = some (.chg (.list (.own p g) n es) p (.tok g es.length n e)) → ∃ x1 T' S', finO m (bsteps P (callT P) cc (⟨some d, none, .app s x, .ap e n bytes s x⟩ :: r) T S) = some (x1, T', S') ∧ Φ x1 T' S' := by
    intro p g es hp1 hp2 hp3 hr hv
    obtain ⟨pl, pk, pi⟩ := p
    simp only at hp1 hp2 hp3
    subst hp1 hp2
    have hA' : ∀ jt ∈ A.set i (.tok (insK d ks) n e (.list (.own ⟨L + 1, pk, 0⟩ g) n es)), jt.ok (S.set ⟨L + 1, pk, 0⟩ (.tok g es.length n e)) (L + 1) :=
      setT_ok (it := .tok (insK d ks) n e (.list (.own ⟨L + 1, pk, 0⟩ g) n es)) hp3 (show App _ _ _ _ _ _ from .inr (.inr ⟨_, g, es, rfl, AS.get_set_same .., rfl, rfl, hp3⟩)) hS.its hf
    obtain ⟨x1, T', S', q1, q2⟩ := h (.list (.own ⟨L + 1, pk, 0⟩ g) n es) (RelS.list (.inr ⟨_, g, rfl, rfl⟩) hr) _ (T.put (some d) _) (S.set ⟨L + 1, pk, 0⟩ (.tok g es.length n e)) (hc.push (f := ⟨BF.foot S T (some d) (.app s x), .slot ⟨L + 1, pk, 0⟩⟩) ⟨hrd T S hT hS, .inr ⟨[⟨L + 1, pk, 0⟩], rfl, by simp, fun q hq => by
      simp only [List.mem_singleton] at hq
      subst hq
      exact ⟨rfl, hp3⟩⟩⟩) (hT.put d _) (hS.set pk _ hA')
    exact ⟨x1, T', S', by rw [b_cons, hop, hv, show (BO.ap e n bytes s x).w = true from rfl, kr_chg]; exact q1, q2⟩
  by_cases h0 : ns = []
  · subst h0
    have hn0 : news = [] := List.length_eq_zero_iff.1 (by rw [hnl]; rfl)
    subst hn0
    refine stay ?_ rfl
    rcases hApp with ⟨p, rfl⟩ | ⟨es, rfl⟩ | ⟨p, g, es, rfl, _⟩
    · rfl
    · exact appB_no_list d e n bytes _ _ _
    · exact appB_no_list d e n bytes _ _ _
  · have hpos : 0 < news.length := by rw [hnl]; exact List.length_pos_iff.2 h0
    rcases hApp with ⟨p, rfl⟩ | ⟨es, rfl⟩ | ⟨p, g, es, rfl, h2, h3, h4, h5⟩
    · have hxs : xs = [] := by
        rcases ha with ⟨hn, _⟩ | ⟨sp, ys, hh, _⟩
        · simpa using hn
        · cases hh
      subst hxs
      refine laid (S.here d) (S.fresh (S.here d)) news (by rw [e1]) (by rw [e1]) (by rw [e1]; exact hk1) (by simpa using k2) ?_
      unfold appB
      rw [if_pos hone, if_neg (by omega)]
      simp only
      rw [if_pos (big_ok hby' (by simp at hlen; omega)), anewRow_dead hlive]
    · have hes : RelCLL (xs.map c) es := by
        rcases ha with ⟨_, p, hh⟩ | ⟨sp, ys, hh, _, hr⟩
        · cases hh
        · cases hh; exact hr
      refine laid (S.here d) (S.fresh (S.here d)) (es ++ news) (by rw [e1]) (by rw [e1]) (by rw [e1]; exact hk1) (by rw [List.map_append]; exact hes.append k2) ?_
      rw [appB_full hlive hone hpos hby' (by rw [hes.length, hnl, List.length_map]; exact hlen), List.length_append]
    · have hes : RelCLL (xs.map c) es := by
        rcases ha with ⟨_, p, hh⟩ | ⟨sp, ys, hh, _, hr⟩
        · cases hh
        · cases hh; exact hr
      refine laid p g (es ++ news) h3 h4 (hk2 _ h5) (by rw [List.map_append]; exact hes.append k2) ?_
      rw [appB_own h2 hone hpos hby' (by rw [hes.length, hnl, List.length_map]; exact hlen), List.length_append]
theorem g_ap {s x : X} {a b : AV} {i n bytes : Nat} {e : TypeId} {ks : List Nat} {α : Type} {c : α → List V} {xs ns zs : List α} (hl : Cfg.live f d = false) (hs : opd E s = some a) (hx : opd E x = some b) (hA : A[i]? = some (.tok ks n e a)) (ha : RelS (L + 1) (.sl n (xs.map c)) a) (hb : RelS (L + 1) (.sl n (ns.map c)) b) (hby : Nat.ble bytes 100000 = true)
    (hf : freeT (insK d ks) i A = true) (hz : G.app xs ns = some zs) (h : ∀ a', RelS (L + 1) (.sl n (zs.map c)) a' → GO1 P m (accP acc (none, some (insK d ks))) r L f ((d, a') :: E) (A.set i (.tok (insK d ks) n e a')) Φ) : GO1 P m acc (⟨some d, none, .app s x, .ap e n bytes s x⟩ :: r) L f E A Φ :=
  g_ap1 none hl hs hx hA ha hb hby (fun _ _ _ _ => trivial) hf hz h
theorem g_apC {s x : X} {a b : AV} {i n bytes : Nat} {e : TypeId} {ks : List Nat} {α : Type} {c : α → List V} {xs ns zs : List α} (hl : Cfg.live f d = false) (hs : opd E s = some a) (hx : opd E x = some b) (hA : A[i]? = some (.tok ks n e a)) (ha : RelS (L + 1) (.sl n (xs.map c)) a) (hb : RelC (.sl n (ns.map c)) b) (hby : Nat.ble bytes 100000 = true)
    (hf : freeT (insK d ks) i A = true) (hz : G.app xs ns = some zs) (h : ∀ a', RelS (L + 1) (.sl n (zs.map c)) a' → GO1 P m (accP acc (some (insK d ks), some (insK d ks))) r L f ((d, a') :: E) (A.set i (.tok (insK d ks) n e a')) Φ) : GO1 P m acc (⟨some d, none, .app s x, .ap e n bytes s x⟩ :: r) L f E A Φ := by
  refine g_ap1 (some (insK d ks)) hl hs hx hA ha hb.toS hby (fun T S hT hS => ?_) hf hz h
  obtain ⟨hk1, hk2⟩ := insK_mem d ks
  have hApp : App S (L + 1) ks n e a := hS.its _ (List.mem_of_getElem? hA)
  have e1 : S.here d = ⟨L + 1, d, 0⟩ := by rw [here_eq, hS.lvl]
  show okK _ _ (appSlot S (some d) [s.at T, x.at T])
  rw [hT.at hs, hT.at hx]
  rcases hApp with ⟨p, rfl⟩ | ⟨es, rfl⟩ | ⟨p, g, es, rfl, h2, h3, h4, h5⟩
  · rw [appSlot_lit, hb.noslot, with_none, e1]
    exact .inr ⟨_, rfl, by simp, fun q hq => by rw [List.mem_singleton] at hq; subst hq; exact ⟨rfl, hk1⟩⟩
  · rw [appSlot_full, hb.noslot, with_none, e1]
    exact .inr ⟨_, rfl, by simp, fun q hq => by rw [List.mem_singleton] at hq; subst hq; exact ⟨rfl, hk1⟩⟩
  · rw [appSlot_own, hb.noslot, with_none]
    exact .inr ⟨_, rfl, by simp, fun q hq => by rw [List.mem_singleton] at hq; subst hq; exact ⟨h3, hk2 _ h5⟩⟩
end

/-! ### The end, and the beginning, of a function -/
def RetPost (L : Nat) (res : List BR) (rs : List RV) : PostX := fun x T S => x = .ret ∧ S.dfr = [] ∧ S.outs L = [] ∧ ∃ as1, bresL S T res = some as1 ∧ RVL (L + 1) rs as1
def numE : Nat → List AV → Env
  | _, [] => []
  | n, a :: r => (n, a) :: numE (n + 1) r
theorem numE_look : ∀ {l : List AV} {n k : Nat} {v : AV}, look (numE n l) k = some v → n ≤ k ∧ l[k - n]? = some v
  | [], _, _, _, h => by cases h
  | a :: r, n, k, v, h => by
    unfold numE at h
    rw [look_cons] at h
    split at h
    · rename_i e
      subst e
      cases h
      exact ⟨Nat.le_refl _, by simp⟩
    · rename_i e
      obtain ⟨h1, h2⟩ := numE_look h
      refine ⟨by omega, ?_⟩
      rw [show k - n = (k - (n + 1)) + 1 by omega, List.getElem?_cons_succ]
      exact h2
theorem Ag.args (l : List AV) : Ag (numE 0 l) (argsT l) := by
  intro k v h
  obtain ⟨_, h2⟩ := numE_look h
  simp only [Nat.sub_zero] at h2
  show l.getD k _ = v
  rw [List.getD_eq_getElem?_getD, h2]
  rfl
/-- What a function answers out of its temporaries, and objects. -/
inductive ResE (L : Nat) (E : Env) (A : List It) : List BR → List RV → Prop where
  | nil : ResE L E A [] []
  | t {n : Nat} {a : AV} {v : RV} {r : List BR} {rs : List RV} (hx : look E n = some a) (hv : v.S (L + 1) a) (h : ResE L E A r rs) : ResE L E A (.t n :: r) (v :: rs)
  | c1 {n k g : Nat} {t : TypeId} {cs : List AV} {M : List V} {v : V} {w : RV} {r : List BR} {rs : List RV} (hx : look E n = some (.ptr ⟨L + 1, k, 0⟩ g 0 0)) (ho : lookO A k = some (g, t, cs)) (hM : RelSL (L + 1) M cs) (hv : M[0]? = some v) (hw : ∀ c, RelS (L + 1) v c → w.S (L + 1) c) (h : ResE L E A r rs) : ResE L E A (.c1 n :: r) (w :: rs)
  | cn {n m k g : Nat} {t : TypeId} {cs : List AV} {M : List V} {r : List BR} {rs : List RV} (hx : look E n = some (.ptr ⟨L + 1, k, 0⟩ g 0 0)) (ho : lookO A k = some (g, t, cs)) (hM : RelSL (L + 1) M cs) (hm : M.length = m) (h : ResE L E A r rs) : ResE L E A (.cn n m :: r) (.agg M :: rs)
theorem ResE.ok {L : Nat} {f : FuncId} {E : Env} {A : List It} {T : BT} {S : AS} (hT : Ag E T) (hS : StA S L f A) {res : List BR} {rs : List RV} (h : ResE L E A res rs) : ∃ as1, bresL S T res = some as1 ∧ RVL (L + 1) rs as1 := by
  induction h with
  | nil => exact ⟨[], rfl, rfl⟩
  | @t n a v r rs hx hv h ih =>
    obtain ⟨as1, k1, k2⟩ := ih
    refine ⟨a :: as1, ?_, a, as1, rfl, hv, k2⟩
    rw [bresL_cons, k1, bres_t, hT n a hx]
    rfl
  | @c1 n k g t cs M v w r rs hx ho hM hv hw h ih =>
    obtain ⟨as1, k1, k2⟩ := ih
    obtain ⟨c, q1, q2⟩ := hM.get hv
    refine ⟨c :: as1, ?_, c, as1, rfl, hw c q2, k2⟩
    rw [bresL_cons, k1, bres_c1, hT n _ hx]
    simp only [ld1V, aread, cellsAt_obj (lookO_ok hS.its ho), Option.map_some, List.drop_zero]
    rw [List.head?_eq_getElem?, q1]
    rfl
  | @cn n m k g t cs M r rs hx ho hM hm h ih =>
    obtain ⟨as1, k1, k2⟩ := ih
    refine ⟨.agg cs :: as1, ?_, .agg cs, as1, rfl, ⟨cs, rfl, hM⟩, k2⟩
    rw [bresL_cons, k1, bres_cn, hT n _ hx]
    have hl : cs.length = m := by rw [hM.length, hm]
    simp only [ldnV, aread, cellsAt_obj (lookO_ok hS.its ho), Option.map_some, List.drop_zero]
    rw [if_pos (by omega), List.take_of_length_le (by omega)]
    rfl
inductive Ctl (σ β ρ : Type) where
  | nxt (s : σ)
  | brk (s : β)
  | ret (r : ρ)
inductive Out (β ρ : Type) where
  | brk (s : β)
  | ret (r : ρ)
def loopN {σ β ρ : Type} (body : σ → Option (Ctl σ β ρ)) : Nat → σ → Option (Out β ρ)
  | 0, _ => none
  | n + 1, s => match body s with
    | some (.nxt s') => loopN body n s'
    | some (.brk s') => some (.brk s')
    | some (.ret r) => some (.ret r)
    | none => none
theorem loopN_mono {σ β ρ : Type} {body : σ → Option (Ctl σ β ρ)} : ∀ n m s r, n ≤ m → loopN body n s = some r → loopN body m s = some r
  | 0, _, _, _, _, h => by cases h
  | n + 1, 0, _, _, hm, _ => by omega
  | n + 1, m + 1, s, r, hm, h => by
    unfold loopN at h ⊢
    cases hb : body s with
    | none => rw [hb] at h; cases h
    | some c =>
      rw [hb] at h
      cases c with
      | nxt s' => exact loopN_mono n m s' r (by omega) h
      | _ => exact h
noncomputable def Loop {σ β ρ : Type} (body : σ → Option (Ctl σ β ρ)) (s : σ) : Option (Out β ρ) := lim fun n => loopN body n s
theorem Loop_some {σ β ρ : Type} {body : σ → Option (Ctl σ β ρ)} {s : σ} {r : Out β ρ} : Loop body s = some r ↔ ∃ n, loopN body n s = some r := lim_some fun n m r hnm h => loopN_mono n m s r hnm h
theorem g_res {L : Nat} {f : FuncId} {E : Env} {A : List It} {res : List BR} {rs : List RV} (h : ResE L E A res rs) : G .ret L f E A (RetPost L res rs) := fun _ _ hT hS => ⟨rfl, hS.dfr, hS.out, h.ok hT hS⟩
section
variable [Cfg] {P : Program}
theorem call_intro {f : FuncId} {b : BFn} {args : List AV} {rsA rs : List RV} (hg : Cfg.given f = none) (hf : compF P f = some b) (hup : ∀ h, Cfg.up f h = false) (hn : Nat.ble rsA.length b.nt = true) (hsz : Nat.ble (rs.length + (rs.map RV.size).sum + 5) 100000 = true)
    (h : ∀ L as1, RVLC rsA as1 → GC P b.code L f (numE 0 as1) [] (RetPost L b.res rs)) {K : Nat} (ha : RVL K rsA args) : CallR P f args (ResC rs) := by
  intro S
  obtain ⟨x, T', S', h1, h2, h3, h4, as1, h5, h6⟩ := h S.lvl (args.map AV.normA) ha.norm (argsT (args.map AV.normA)) (S.enter f) (Ag.args _) ⟨rfl, rfl, rfl, rfl, fun _ hi => by cases hi⟩
  subst h2
  obtain ⟨v, k1, k2⟩ := res_frz S' h6 (le_of_ble hsz)
  refine ⟨v, callT_of hg hf (by rw [ha.length]; exact le_of_ble hn) ?_, k2⟩
  rw [aargs_down (hup _), h1, bfin_ret h3, h5]
  unfold bret
  simp only
  rw [handUp_same (hup _) h4, k1]
  rfl

/-! ### Loops -/
def LPost {σ β ρ : Type} (id : Nat) (IN : σ → BT → AS → Prop) (IB : β → BT → AS → Prop) (IR : ρ → PostX) : Ctl σ β ρ → PostX
  | .nxt s => fun x T S => x = .normal ∧ IN s T S
  | .brk s => fun x T S => x = .exit id ∧ IB s T S
  | .ret r => fun x T S => x = .ret ∧ IR r .ret T S
def OPost {β ρ : Type} (id : Nat) (IB : β → BT → AS → Prop) (IR : ρ → PostX) : Out β ρ → PostX
  | .brk s => fun x T S => x = .exit id ∧ IB s T S
  | .ret r => fun x T S => x = .ret ∧ IR r .ret T S
theorem loop_run {σ β ρ : Type} {c : BC} {body : σ → Option (Ctl σ β ρ)} {id : Nat} {IN : σ → BT → AS → Prop} {IB : β → BT → AS → Prop} {IR : ρ → PostX} (h : ∀ s c', body s = some c' → ∀ T S, IN s T S → RunB P c T S (LPost id IN IB IR c')) :
    ∀ n s out, loopN body n s = some out → ∀ T S, IN s T S → RunB P (.loop c) T S (OPost id IB IR out)
  | 0, _, _, hl, _, _, _ => by cases hl
  | n + 1, s, out, hl, T, S, hI => by
    unfold loopN at hl
    cases hb : body s with
    | none => rw [hb] at hl; cases hl
    | some c' =>
      rw [hb] at hl
      obtain ⟨x, T', S', k1, k2⟩ := h s c' hb T S hI
      unfold RunB
      rw [execB_loop, k1]
      cases c' with
      | nxt s' =>
        obtain ⟨rfl, k2⟩ := k2
        exact loop_run h n s' out hl T' S' k2
      | brk s' =>
        obtain ⟨rfl, k2⟩ := k2
        cases hl
        exact ⟨_, T', S', rfl, rfl, k2⟩
      | ret r =>
        obtain ⟨rfl, k2⟩ := k2
        cases hl
        exact ⟨_, T', S', rfl, rfl, k2⟩
theorem g_loop {σ β ρ : Type} {c : BC} {body : σ → Option (Ctl σ β ρ)} {id : Nat} {IN : σ → BT → AS → Prop} {IB : β → BT → AS → Prop} {IR : ρ → PostX} {L : Nat} {f : FuncId} {E : Env} {A : List It} {Φ : PostX} {s : σ} {out : Out β ρ} (hl : Loop body s = some out)
    (h : ∀ s c', body s = some c' → ∀ T S, IN s T S → RunB P c T S (LPost id IN IB IR c')) (hI : ∀ T S, Ag E T → StA S L f A → IN s T S) (hk : ∀ x T S, OPost id IB IR out x T S → Φ x T S) : GC P (.loop c) L f E A Φ := by
  intro T S hT hS
  obtain ⟨n, hn⟩ := Loop_some.1 hl
  obtain ⟨x, T', S', k1, k2⟩ := loop_run h n s out hn T S (hI T S hT hS)
  exact ⟨x, T', S', k1, hk x T' S' k2⟩
end
end Go.Proofs.YtjdccpmbaobpdaaGreatDoor
