/-
  The plain law of tables of files: what is told of each name; the table as a list, by names rising.
-/
import Derived.Test.YtkbekdfgeiannaaDoorCutLaw
namespace Go.Proofs.YtkbekdfgeiannaaDoor

/-- What is told of a name: its lines, or that it isn't there. -/
abbrev Tab := List UInt8 → Option (List ByteArray)

def Tab.set (T : Tab) (k : List UInt8) (l : List ByteArray) : Tab := fun x => if x = k then some l else T x

def tab0 : Tab := fun _ => none

theorem Tab.set_set (T : Tab) (k : List UInt8) (a b : List ByteArray) : (T.set k a).set k b = T.set k b := by
  funext x
  unfold Tab.set
  split <;> rfl

theorem Tab.set_comm (T : Tab) {k k' : List UInt8} (h : k ≠ k') (a b : List ByteArray) : (T.set k a).set k' b = (T.set k' b).set k a := by
  funext x
  unfold Tab.set
  by_cases h1 : x = k
  · subst h1
    rw [if_neg h, if_pos rfl, if_pos rfl]
  · rw [if_neg h1, if_neg h1]

theorem Tab.set_same (T : Tab) (k : List UInt8) (a : List ByteArray) : T.set k a k = some a := by simp [Tab.set]
theorem Tab.set_other (T : Tab) {k k' : List UInt8} (h : k' ≠ k) (a : List ByteArray) : T.set k a k' = T k' := by simp [Tab.set, h]

/-- A row of a table: a name, and lines. -/
abbrev Fl := List (ByteArray × List ByteArray)
def nm (p : ByteArray × List ByteArray) : List UInt8 := p.1.data.toList

def look : Fl → Tab
  | [], _ => none
  | p :: r, k => if nm p = k then some p.2 else look r k

/-- By names rising. -/
def Rising (l : Fl) : Prop := l.Pairwise fun a b => nm a < nm b

/-- A list that tells this table, by names rising. -/
def RefOk (l : Fl) (T : Tab) : Prop := Rising l ∧ ∀ k, look l k = T k

theorem look_none {l : Fl} {k : List UInt8} (h : ∀ p ∈ l, nm p ≠ k) : look l k = none := by
  induction l with
  | nil => rfl
  | cons p r ih =>
    simp only [look, if_neg (h p List.mem_cons_self)]
    exact ih fun q hq => h q (List.mem_cons_of_mem _ hq)

theorem lt_ne {a b : List UInt8} (h : a < b) : a ≠ b := fun e => by subst e; exact List.lt_irrefl _ h

theorem lt_or {a b : List UInt8} (h : ¬ a < b) : a = b ∨ b < a := by
  by_cases h' : b < a
  · exact .inr h'
  · exact .inl (List.le_antisymm (List.not_lt.1 h') (List.not_lt.1 h))

theorem refOk_unique : ∀ {a b : Fl}, Rising a → Rising b → (∀ k, look a k = look b k) → a = b
  | [], [], _, _, _ => rfl
  | [], q :: b, _, _, h => by have := h (nm q); simp [look] at this
  | p :: a, [], _, _, h => by have := h (nm p); simp [look] at this
  | p :: a, q :: b, ha, hb, h => by
    obtain ⟨ha1, ha2⟩ := List.pairwise_cons.1 ha
    obtain ⟨hb1, hb2⟩ := List.pairwise_cons.1 hb
    have e : nm p = nm q := by
      by_cases h1 : nm p < nm q
      · have h2 := h (nm p)
        rw [look_none (l := q :: b) (k := nm p) (fun x hx => by
          rcases List.mem_cons.1 hx with rfl | hx
          · exact (lt_ne h1).symm
          · exact (lt_ne (List.lt_trans h1 (hb1 x hx))).symm)] at h2
        simp [look] at h2
      · rcases lt_or h1 with e | h1
        · exact e
        · have h2 := h (nm q)
          rw [look_none (l := p :: a) (k := nm q) (fun x hx => by
            rcases List.mem_cons.1 hx with rfl | hx
            · exact (lt_ne h1).symm
            · exact (lt_ne (List.lt_trans h1 (ha1 x hx))).symm)] at h2
          simp [look] at h2
    have e2 : p.2 = q.2 := by
      have h2 := h (nm p)
      simpa [look, e] using h2
    have e1 : p = q := by
      obtain ⟨p1, p2⟩ := p
      obtain ⟨q1, q2⟩ := q
      simp only at e2
      have : p1 = q1 := data_inj e
      rw [this, e2]
    subst e1
    congr 1
    refine refOk_unique ha2 hb2 fun k => ?_
    by_cases hk : nm p = k
    · subst hk
      rw [look_none fun x hx => (lt_ne (ha1 x hx)).symm, look_none fun x hx => (lt_ne (hb1 x hx)).symm]
    · have h2 := h k
      simpa only [look, if_neg hk] using h2

/-! ### a row put in -/
def put (n : ByteArray) (ls : List ByteArray) : Fl → Fl
  | [] => [(n, ls)]
  | p :: r => if nm p < n.data.toList then p :: put n ls r else if nm p = n.data.toList then (n, ls) :: r else (n, ls) :: p :: r

theorem mem_put {n : ByteArray} {ls : List ByteArray} : ∀ {l : Fl} {q}, q ∈ put n ls l → q = (n, ls) ∨ q ∈ l
  | [], q, h => .inl (by simpa [put] using h)
  | p :: r, q, h => by
    unfold put at h
    split at h
    · rcases List.mem_cons.1 h with rfl | h
      · exact .inr List.mem_cons_self
      · rcases mem_put h with e | e
        · exact .inl e
        · exact .inr (List.mem_cons_of_mem _ e)
    · split at h
      · rcases List.mem_cons.1 h with rfl | h
        · exact .inl rfl
        · exact .inr (List.mem_cons_of_mem _ h)
      · rcases List.mem_cons.1 h with rfl | h
        · exact .inl rfl
        · exact .inr h

theorem put_look (n : ByteArray) (ls : List ByteArray) (k : List UInt8) : ∀ l : Fl, look (put n ls l) k = if k = n.data.toList then some ls else look l k
  | [] => by simp [put, look, nm, eq_comm]
  | p :: r => by
    unfold put
    have ih := put_look n ls k r
    split
    · rename_i h
      simp only [look, ih]
      by_cases hk : k = n.data.toList
      · subst hk
        rw [if_pos rfl, if_neg (lt_ne h)]
        simp
      · simp only [if_neg hk]
    · split
      · rename_i h
        by_cases hk : k = n.data.toList
        · subst hk
          simp [look, nm]
        · have e1 : ¬ nm (n, ls) = k := fun e => hk e.symm
          have e2 : ¬ nm p = k := fun e => hk (e.symm.trans h)
          simp only [look, e1, e2, hk, if_false]
      · by_cases hk : k = n.data.toList
        · subst hk
          simp [look, nm]
        · have : ¬ n.data.toList = k := fun e => hk e.symm
          simp [look, nm, this, hk]

theorem put_rising (n : ByteArray) (ls : List ByteArray) : ∀ l : Fl, Rising l → Rising (put n ls l)
  | [], _ => by simp [put, Rising]
  | p :: r, h => by
    obtain ⟨h1, h2⟩ := List.pairwise_cons.1 h
    unfold put
    split
    · rename_i hp
      refine List.pairwise_cons.2 ⟨fun q hq => ?_, put_rising n ls r h2⟩
      rcases mem_put hq with rfl | hq
      · exact hp
      · exact h1 q hq
    · rename_i hp
      split
      · rename_i e
        refine List.pairwise_cons.2 ⟨fun q hq => ?_, h2⟩
        have := h1 q hq
        rw [e] at this
        exact this
      · rename_i e
        have hlt : n.data.toList < nm p := by
          rcases lt_or hp with e' | h'
          · exact (e e').elim
          · exact h'
        refine List.pairwise_cons.2 ⟨fun q hq => ?_, h⟩
        rcases List.mem_cons.1 hq with rfl | hq
        · exact hlt
        · exact List.lt_trans hlt (h1 q hq)

theorem RefOk.put {l : Fl} {T : Tab} (h : RefOk l T) (n : ByteArray) (ls : List ByteArray) : RefOk (put n ls l) (T.set n.data.toList ls) := by
  refine ⟨put_rising n ls l h.1, fun k => ?_⟩
  rw [put_look]
  unfold Tab.set
  rw [h.2]

theorem RefOk.nil : RefOk [] tab0 := ⟨List.Pairwise.nil, fun _ => rfl⟩

/-! ### the document's way to put a row in: each row once, with a mark -/
def putGo (n : ByteArray) (ls : List ByteArray) : Bool → Fl → Fl
  | d, [] => if d then [] else [(n, ls)]
  | d, p :: r => (if !d && !decide (nm p < n.data.toList) then [(n, ls)] else []) ++ (if nm p = n.data.toList then [] else [p]) ++ putGo n ls (d || !decide (nm p < n.data.toList)) r

theorem putGo_done (n : ByteArray) (ls : List ByteArray) : ∀ l : Fl, (∀ p ∈ l, n.data.toList < nm p) → putGo n ls true l = l
  | [], _ => rfl
  | p :: r, h => by
    have h1 := lt_ne (h p List.mem_cons_self)
    unfold putGo
    rw [Bool.true_or, putGo_done n ls r fun q hq => h q (List.mem_cons_of_mem _ hq), if_neg h1.symm]
    simp

theorem putGo_put (n : ByteArray) (ls : List ByteArray) : ∀ l : Fl, Rising l → putGo n ls false l = put n ls l
  | [], _ => rfl
  | p :: r, h => by
    obtain ⟨h1, h2⟩ := List.pairwise_cons.1 h
    unfold putGo put
    by_cases hp : nm p < n.data.toList
    · rw [if_neg (lt_ne hp), if_pos hp]
      simp [hp, putGo_put n ls r h2]
    · rw [if_neg hp]
      by_cases e : nm p = n.data.toList
      · rw [if_pos e, if_pos e]
        simp only [hp, decide_false, Bool.not_false, Bool.or_true]
        rw [putGo_done n ls r fun q hq => by rw [← e]; exact h1 q hq]
        simp
      · rw [if_neg e, if_neg e]
        have hlt : n.data.toList < nm p := by
          rcases lt_or hp with e' | h'
          · exact (e e').elim
          · exact h'
        simp only [hp, decide_false, Bool.not_false, Bool.or_true]
        rw [putGo_done n ls r fun q hq => List.lt_trans hlt (h1 q hq)]
        simp

/-! ### all rows of a list put in, from none on -/
def newL (l : Fl) : Fl := l.foldl (fun out p => put p.1 (p.2.flatMap lines) out) []
def newT (l : Fl) : Tab := l.foldl (fun T p => T.set (nm p) (p.2.flatMap lines)) tab0

theorem newL_snoc (l : Fl) (p) : newL (l ++ [p]) = put p.1 (p.2.flatMap lines) (newL l) := by simp [newL, List.foldl_append]
theorem newT_snoc (l : Fl) (p) : newT (l ++ [p]) = (newT l).set (nm p) (p.2.flatMap lines) := by simp [newT, List.foldl_append]

theorem refOk_new_from : ∀ (l : Fl) (out : Fl) (T : Tab), RefOk out T → RefOk (l.foldl (fun out p => put p.1 (p.2.flatMap lines) out) out) (l.foldl (fun T p => T.set (nm p) (p.2.flatMap lines)) T)
  | [], _, _, h => h
  | p :: r, _, _, h => refOk_new_from r _ _ (h.put p.1 _)

theorem refOk_new (l : Fl) : RefOk (newL l) (newT l) := refOk_new_from l [] tab0 RefOk.nil
end Go.Proofs.YtkbekdfgeiannaaDoor
