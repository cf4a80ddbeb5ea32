/-
  What the walks of this seat share: what must hold of the world, and how a slice of strings reads.
-/
import Derived.Test.YtkbekdfgeiannaaDoorProg
import Derived.Test.YtkbekdfgeiannaaDoorCutLaw
import Derived.WalkKit
import Derived.WalkSpells
import Derived.WalkLawsBesides
import Derived.Lib.Hide
namespace Go.Proofs.YtkbekdfgeiannaaDoor
open Go.RowKit

/-- The library's variable that strings.Index asks for holds a number. -/
def Rdy (w : World) : Prop := ∃ m : Int, w.cell? ⟨0, 0, none⟩ = some (.int .i64 m)

theorem cell_lt {w : World} {p : Addr} {v : Value} (h : w.cell? p = some v) : p.block < w.heap.size := World.block_lt_of_cell? w p h

theorem Rdy.below {w w' : World} (h : Rdy w) (hb : Below w.heap.size w w') : Rdy w' := by
  obtain ⟨m, hm⟩ := h
  exact ⟨m, (hb.cell (cell_lt hm)).trans hm⟩

/-- Below a number that lies behind every global. -/
theorem Rdy.belowAt {B : Nat} {w w' : World} (h : Rdy w) (hb : Below B w w') (hB : 0 < B) : Rdy w' := by
  obtain ⟨m, hm⟩ := h
  exact ⟨m, (hb.cell hB).trans hm⟩

/-- A slice value of n elements, of so many cells each, that reads as these cells. -/
def SlAt (size : Nat) (w : World) (v : Value) (n : Nat) (us : List Value) : Prop :=
  us.length = n * size ∧ ((v = .slice none 0 0 ∧ n = 0) ∨ ∃ a cap, v = .slice (some a) n cap ∧ n ≤ cap ∧ cap ≤ maxLen ∧ ∀ j u, us[j]? = some u → w.cell? (a.add j) = some u)

theorem SlAt.nil (size : Nat) (w : World) : SlAt size w (.slice none 0 0) 0 [] := ⟨by simp, .inl ⟨rfl, rfl⟩⟩

theorem SlAt.below {size : Nat} {w w' : World} {v : Value} {n : Nat} {us : List Value} (h : SlAt size w v n us) (hb : Below w.heap.size w w') : SlAt size w' v n us := by
  obtain ⟨h0, h | ⟨a, cap, h1, h2, h3, h5⟩⟩ := h
  · exact ⟨h0, .inl h⟩
  · exact ⟨h0, .inr ⟨a, cap, h1, h2, h3, fun j u hj => (hb.cell (cell_lt (h5 j u hj))).trans (h5 j u hj)⟩⟩

/-- What the call owns reads as it says. -/
theorem SlAt.of_owns {w : World} {base : Nat} {e : TypeId} {size : Nat} {v : Value} {n : Nat} {us : List Value} (h : w.ownsRow base e size v n us) : SlAt size w v n us := by
  refine ⟨h.1, ?_⟩
  rcases h.2 with ⟨h1, h2⟩ | ⟨g, cap, cur, h1, h2, h3, h4, h5, h6, h7⟩
  · exact .inl ⟨h1, h2⟩
  · exact .inr ⟨⟨g, 0, none⟩, cap, h1, h4, h5, fun j u hj => h.cells (g := g) (by rw [h1]; rfl) j u hj⟩

theorem addr_add (b off j : Nat) : (⟨b, off, none⟩ : Addr).add j = ⟨b, off + j, none⟩ := by unfold Addr.add; split <;> simp_all

/-- A cell's address is a plain one. -/
theorem addr_plain {w : World} {a : Addr} {v : Value} (h : w.cell? a = some v) : ∃ b off, a = ⟨b, off, none⟩ := by
  obtain ⟨b, off, spot⟩ := a
  cases spot with
  | none => exact ⟨b, off, rfl⟩
  | some x =>
    unfold World.cell? at h
    split at h
    · simp at h
    · cases h

/-- So is a row's, if it has a cell. -/
theorem row_plain {w : World} {a : Addr} {us : List Value} (h : ∀ j u, us[j]? = some u → w.cell? (a.add j) = some u) {j : Nat} {u : Value} (hj : us[j]? = some u) :
    ∃ b off, a = ⟨b, off, none⟩ ∧ ∀ j u, us[j]? = some u → w.cell? ⟨b, off + j, none⟩ = some u := by
  have hlt := (List.getElem?_eq_some_iff.1 hj).1
  have h0 := h 0 _ (List.getElem?_eq_getElem (show 0 < us.length by omega))
  rw [show a.add 0 = a from rfl] at h0
  obtain ⟨b, off, rfl⟩ := addr_plain h0
  exact ⟨b, off, rfl, fun j u hj => by have := h j u hj; rwa [addr_add] at this⟩

/-- Its address may be anything: what an append that must grow asks. -/
theorem SlAt.form {size : Nat} {w : World} {v : Value} {n : Nat} {us : List Value} (h : SlAt size w v n us) :
    ∃ ao cap, v = .slice ao n cap ∧ n ≤ cap ∧ cap ≤ maxLen ∧ (ao = none → n = 0 ∧ cap = 0) ∧ ∀ b, ao = some b → ∀ j u, us[j]? = some u → w.cell? (b.add j) = some u := by
  obtain ⟨h0, ⟨h1, h2⟩ | ⟨b, cap, h1, h2, h3, h5⟩⟩ := h
  · exact ⟨none, 0, by rw [h1, h2], by omega, Nat.zero_le _, (fun _ => ⟨h2, rfl⟩), (fun b e => by cases e)⟩
  · exact ⟨some b, cap, h1, h2, h3, (fun e => by cases e), (fun a e j u hj => by cases e; exact h5 j u hj)⟩

/-- A slice value that reads as these strings. -/
def StrsAt (w : World) (v : Value) (l : List ByteArray) : Prop := SlAt 1 w v l.length (l.map Value.string)

theorem StrsAt.below {w w' : World} {v : Value} {l : List ByteArray} (h : StrsAt w v l) (hb : Below w.heap.size w w') : StrsAt w' v l := SlAt.below h hb

theorem StrsAt.of_owns {w : World} {base : Nat} {e : TypeId} {v : Value} {l : List ByteArray} (h : w.ownsRow base e 1 v l.length (l.map Value.string)) : StrsAt w v l := SlAt.of_owns h

/-- How the walk says that two strings are the same. -/
theorem str_yes {a b : ByteArray} (h : (a.toList == b.toList) = true) : a.data.toList = b.data.toList := by
  rw [ByteArray.toList_eq, ByteArray.toList_eq] at h
  exact beq_iff_eq.1 h
theorem str_no {a b : ByteArray} (h : (a.toList == b.toList) = false) : a.data.toList ≠ b.data.toList := by
  rw [ByteArray.toList_eq, ByteArray.toList_eq] at h
  exact beq_eq_false_iff_ne.1 h
theorem str_is {a b : ByteArray} (h : a.data.toList = b.data.toList) : (a.toList == b.toList) = true := by
  rw [ByteArray.toList_eq, ByteArray.toList_eq]
  exact beq_iff_eq.2 h
theorem str_isnt {a b : ByteArray} (h : a.data.toList ≠ b.data.toList) : (a.toList == b.toList) = false := by
  rw [ByteArray.toList_eq, ByteArray.toList_eq]
  exact beq_eq_false_iff_ne.2 h

theorem ret_bool {a b : Bool} (h : a = b) : Ending.returned (.bool a) = .returned (.bool b) := by rw [h]

theorem grownBy_trans {w w1 w2 : World} {row : Option Nat} (h1 : w.grownBy w1 row) (h2 : w1.grownBy w2 row) : w.grownBy w2 row :=
  ⟨h2.os.trans h1.os, h2.tape.trans h1.tape, h2.output.trans h1.output, Nat.le_trans h1.size h2.size, fun k hk hne => (h2.block k (Nat.lt_of_lt_of_le hk h1.size) hne).trans (h1.block k hk hne)⟩

/-- What the call owns, more being appended, lies where nothing lay before. -/
theorem below_owns {W w' : World} {base : Nat} {e : TypeId} {size n : Nat} {v : Value} {xs : List Value} (hown : W.ownsRow base e size v n xs) (hg : W.grownBy w' v.ownBlock) (hB : base ≤ W.heap.size) : Below base W w' :=
  (Below.refl base W).grown hg hB (fun k hk => (hown.lt k hk).1)

/-- 'append(v, u)' of one cell: the new element lies in a block of its own, that was laid just ahead. -/
theorem wpList_append_one {P : Program} (W' : World) (W : World) {ops : Array Oper} {rest : List Oper} {o : Oper} {a : Act} {Q : Exit → Act → World → Prop} (hgd : o.guard = none) (s x : Operand) (t : TypeId)
    (ho : o.op = .call { callee := .builtin .append, args := #[s, x], argTypes := #[t, t] })
    (base : Nat) (e : TypeId) (i : TypeInfo) (z : Value) (bytes : Nat) (ht : P.underlying t = some (.slice e)) (hi : P.info? e = some i) (hz : i.zero = some z)
    (hsize : i.size = 1) (hby : i.bytes = bytes) (hzs : z.cells.size = 1)
    (v : Value) (n : Nat) (xs : List Value) (hs : a.eval s = v) (hown : W.ownsRow base e 1 v n xs)
    (u : Value) (hW : W' = W.alloc (.cells #[u] e)) (hx : a.eval x = .slice (some ⟨W.heap.size, 0, none⟩) 1 1) (h1 : u.oneCell' = true)
    (h63 : n + 1 ≤ maxLen) (hbytes : (n + 1) * bytes ≤ 140737488355328) (hbase : base ≤ W.heap.size)
    (h : ∀ v' w', w'.ownsRow base e 1 v' (n + 1) (xs ++ [u]) → W.grownBy w' v.ownBlock → v' ≠ .slice none 0 0 → wpList P ops Q rest (a.put o.dst v') w') :
    wpList P ops Q (o :: rest) a W' := by
  subst hW
  refine wpList_append_own (W.alloc (.cells #[u] e)) hgd s x t ho base e i z 1 bytes ht hi hz hsize hby hzs (by decide) v n xs hs (hown.alloc _) ⟨W.heap.size, 0, none⟩ 1 1 [u] hx rfl ?_ ?_ h63 hbytes (by simp; omega) ?_
  · exact cell_one_new _ _ _
  · intro y hy
    rw [List.mem_singleton.1 hy]
    exact h1
  · intro v' w' h2 h3 h4
    exact h v' w' h2 (grownBy_trans (World.grownBy_alloc W _ _) h3) (fun e => by simpa using (h4.1 e).2)
end Go.Proofs.YtkbekdfgeiannaaDoor
