/-
  The walks of files.List and files.Copy.
-/
import Derived.Test.YtkbekdfgeiannaaDoorRef17
import Derived.Test.YtkbekdfgeiannaaDoorLays
namespace Go.Proofs.YtkbekdfgeiannaaDoor
open Go.RowKit Go.Maps Go.Sort Go.Shelf

/-! ### the library's sorted keys, at this program -/
theorem sortsAt (m : Nat) : AnyZ.SortsIn Tryd.prog Tryd.slicesSorted_ren Fence.wide m :=
  ⟨fun blk off cap ss W hH hblk hsz => callsIn_wide.2 (AnyM.slices_Sort_string Tryd.slicesSort blk off cap ss W hH hblk hsz),
   fun p cap W => callsIn_wide.2 (AnyM.slices_Sort_string_none Tryd.slicesSort p cap W)⟩

theorem keys_any (mb : Option Nat) (W : World) : Calls Tryd.prog 28 #[.map mb] W fun e w' =>
    e = .returned (.func (.func 33) #[] #[.pointer (some ⟨W.heap.size, 0, none⟩)]) ∧ w' = W.alloc (.cells #[.map mb] 53) :=
  callsIn_wide.1 (AnyZ.keys_in Tryd.mapsKeys Fence.wide 5 trivial rfl mb W)

set_option maxHeartbeats 1000000 in
theorem sorted_any {H : Type} (b nn : Nat) (D0 : DataW H) (R : Value → Option (DataW H × List MemPlace)) (w : World) (hown : w.ownsMap Tryd.prog 9 R b nn D0) (hmax : Maps.size D0 ≤ maxLen) (hbytes : Maps.size D0 * 16 ≤ 140737488355328) :
    Calls Tryd.prog 27 #[.func (.func 33) #[] #[.pointer (some ⟨w.heap.size, 0, none⟩)]] (w.alloc (.cells #[.map (some b)] 53)) fun e w' =>
      ∃ (v : Value) (ss : List (List UInt8)), e = .returned v ∧ ss.Perm (strKeys D0) ∧
      w'.ownsRow (w.alloc (.cells #[.map (some b)] 53)).heap.size 9 1 v ss.length ((ss.mergeSort (fun x y => decide (x ≤ y))).map encStr) ∧ Below (w.alloc (.cells #[.map (some b)] 53)).heap.size (w.alloc (.cells #[.map (some b)] 53)) w' := by
  have hbl := hown.lt
  have hseq : SeqGives Fence.wide 2 Tryd.prog 33 #[.pointer (some ⟨w.heap.size, 0, none⟩)] encStr (fun ss => ss.Perm (strKeys D0)) (Maps.size D0) (w.alloc (.cells #[.map (some b)] 53)) :=
    AnyZ.keys_gives (ρ := Tryd.mapsKeys_ren) { Tryd.mapsKeys with } Fence.wide _ trivial rfl (by omega) w.heap.size b nn D0 _ (by simp) (by simp) (by
      obtain ⟨es, clock, hb, Ft, hs, hD⟩ := hown
      exact ⟨es, clock, (Below.heap_alloc _ _ b hbl).trans hb, Ft, hs, hD⟩)
  have h := callsIn_wide.1 (AnyZ.sorted_in Tryd.slicesSorted Fence.wide 5 trivial trivial trivial trivial rfl (by omega) (sortsAt _) (enters_of Tryd.func32 (by kernel_rfl) rfl) 33 #[.pointer (some ⟨w.heap.size, 0, none⟩)] trivial (enters_of Tryd.func33 (by kernel_rfl) rfl) _ _ hmax hbytes _ hseq)
  refine h.mono ?_
  rintro e w' ⟨v, ss, h1, h2, h3, _, h5⟩
  exact ⟨v, ss, h1, h2, h3, h5⟩

theorem clone_map (b n : Nat) (D : DataW Value) (w : World) (hown : w.ownsMap Tryd.prog 9 tokR b n D) :
    Calls Tryd.prog 29 #[.map (some b)] w fun e w' => e = .returned (.map (some w.heap.size)) ∧ w'.ownsMap Tryd.prog 9 tokR w.heap.size n D ∧ Below w.heap.size w w' :=
  (AnyW.maps_Clone_owns Tryd.mapsClone 9 tokR b n D w hown).mono fun _ _ ⟨h1, h2, _, h4⟩ => ⟨h1, h2, h4⟩

/-! ### what is listed -/
/-- The rows of these names. -/
def rowsOf (T : Tab) (N : List (List UInt8)) : Fl := N.map fun k => ((⟨k.toArray⟩ : ByteArray), (T k).getD [])

theorem nm_row (T : Tab) (k : List UInt8) : nm ((⟨k.toArray⟩ : ByteArray), (T k).getD []) = k := by simp [nm]

theorem rowsOf_look (T : Tab) (k : List UInt8) : ∀ N : List (List UInt8), look (rowsOf T N) k = if k ∈ N then some ((T k).getD []) else none
  | [] => by simp [rowsOf, look]
  | x :: r => by
    have ih := rowsOf_look T k r
    simp only [rowsOf, List.map_cons, look, nm_row] at ih ⊢
    rw [ih]
    by_cases h : x = k
    · subst h
      simp
    · have h' : ¬ k = x := fun e => h e.symm
      simp [h, h']

theorem rowsOf_ok {T : Tab} {N : List (List UInt8)} (hs : N.Pairwise (· < ·)) (hm : ∀ k, k ∈ N ↔ (T k).isSome = true) : RefOk (rowsOf T N) T := by
  refine ⟨?_, fun k => ?_⟩
  · unfold Rising rowsOf
    rw [List.pairwise_map]
    exact hs.imp fun {a b} h => by rw [nm_row, nm_row]; exact h
  · rw [rowsOf_look]
    by_cases h : k ∈ N
    · rw [if_pos h]
      have := (hm k).1 h
      cases hT : T k with
      | none => rw [hT] at this; cases this
      | some l => rfl
    · rw [if_neg h]
      cases hT : T k with
      | none => rfl
      | some l => exact (h ((hm k).2 (by rw [hT]; rfl))).elim

/-- A map's keys, in order. -/
theorem keys_sorted {w : World} {M n : Nat} {D : DataW Value} {ss : List (List UInt8)} (hown : w.ownsMap Tryd.prog 9 tokR M n D) (hp : ss.Perm (strKeys D)) :
    (ss.mergeSort leB).Pairwise (· < ·) ∧ ∀ k, k ∈ ss.mergeSort leB ↔ Maps.has D (kl k) = true := by
  obtain ⟨es, rfl, hd⟩ := hown.tidy keyLaw
  obtain ⟨es', e, hko⟩ := hown.keysOf
  cases e
  have hstr : ∀ p ∈ es, ∃ x : List UInt8, p.1 = .string x := fun p hp => by
    obtain ⟨v, hv⟩ := hko p hp
    obtain ⟨x, _, h2, _⟩ := Maps.keyOf_str Tryd.underlying9 hv
    exact ⟨x, h2⟩
  have hnd : (strKeys (DataW.map es)).Nodup := by
    unfold strKeys
    rw [List.Nodup, List.pairwise_map]
    refine hd.imp_of_mem fun {a b} ha hb hne e => ?_
    obtain ⟨x, hx⟩ := hstr a ha
    obtain ⟨y, hy⟩ := hstr b hb
    rw [hx, hy] at hne e
    exact hne (by rw [show x = y from e])
  have hperm : (ss.mergeSort leB).Perm (strKeys (DataW.map es)) := (List.mergeSort_perm ss leB).trans hp
  have tr : ∀ a b c : List UInt8, leB a b = true → leB b c = true → leB a c = true := fun a b c h1 h2 => by simp only [leB, decide_eq_true_eq] at *; exact List.le_trans h1 h2
  have tot : ∀ a b : List UInt8, (leB a b || leB b a) = true := fun a b => by simp only [leB, Bool.or_eq_true, decide_eq_true_eq]; exact List.le_total a b
  have hsorted := List.pairwise_mergeSort tr tot ss
  have hnd2 : (ss.mergeSort leB).Nodup := hperm.nodup_iff.2 hnd
  refine ⟨?_, fun k => ?_⟩
  · refine (hsorted.and hnd2).imp fun {a b} h => ?_
    obtain ⟨h1, h2⟩ := h
    simp only [leB, decide_eq_true_eq] at h1
    by_cases h3 : a < b
    · exact h3
    · exact (h2 (List.le_antisymm h1 (List.not_lt.1 h3))).elim
  · rw [hperm.mem_iff, has_eq]
    simp only [strKeys, List.mem_map, List.any_eq_true]
    constructor
    · rintro ⟨p, hp, rfl⟩
      obtain ⟨x, hx⟩ := hstr p hp
      exact ⟨p, hp, by rw [hx]; simp [strOf, kl, Lit.sameKey]⟩
    · rintro ⟨p, hp, h⟩
      obtain ⟨x, hx⟩ := hstr p hp
      refine ⟨p, hp, ?_⟩
      rw [hx] at h ⊢
      simpa [kl, Lit.sameKey, strOf] using h
end Go.Proofs.YtkbekdfgeiannaaDoor
