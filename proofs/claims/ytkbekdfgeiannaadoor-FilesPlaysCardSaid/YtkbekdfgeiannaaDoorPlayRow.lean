/-
  FilesPlays: whatever is done with any files, they are as the document says; what was copied stays; what is answered may be turned. No condition of ours.
-/
import Derived.Test.YtkbekdfgeiannaaDoorRow17
import Derived.Test.YtkbekdfgeiannaaDoorOpen17
import Derived.Test.YtkbekdfgeiannaaDoorPlayLaw
import Derived.Test.YtkbekdfgeiannaaDoorLawRow
import Derived.Deep.Strs
namespace Go.Proofs.YtkbekdfgeiannaaDoor
open Go.ChangeShapes Go.WideShapes Go.ChangeAt Go.RowKit Go.Deep

theorem cells_act : Tryd.prog.cellsOf 27 = 3 := by kernel_rfl
theorem cells_u8 : Tryd.prog.cellsOf 5 = 1 := by kernel_rfl

theorem u8_of_wf {x : Int} (h : (Lit.int .u8 x).wf = true) : 0 ≤ x ∧ x < 256 := by
  have h1 : IntKind.u8.min = 0 := rfl
  have h2 : IntKind.u8.max = 255 := rfl
  simp only [Lit.wf, Bool.and_eq_true, decide_eq_true_eq] at h
  omega

theorem open_act_cells {H : Type} {enc : TypeId × Value → H} {w : World} {spare : Nat → Bool} {held : Bool} {fuel : Nat} {c0 c1 c2 : Value} {x : DataW H × List MemPlace} (h : DataW.trod enc Tryd.prog w 0 spare held fuel 27 [c0, c1, c2] = some x) :
    ∃ (k : Int) (s t : ByteArray), c0 = .int .u8 k ∧ c1 = .string s ∧ c2 = .string t ∧ 0 ≤ k ∧ k < 256 := by
  obtain ⟨y0, y1, y2, n, _, _, h0, h1, h2⟩ := trod_struct3 Tryd.underlying27 h
  simp only [cells_str, cells_u8, List.drop_zero, List.take_succ_cons, List.take_zero, List.drop_succ_cons] at h0 h1 h2
  obtain ⟨k, e0, _, hk⟩ := DataW.trod_int Tryd.underlying5 h0
  obtain ⟨s, e1, _, _⟩ := DataW.trod_string Tryd.underlying9 h1
  obtain ⟨t, e2, _, _⟩ := DataW.trod_string Tryd.underlying9 h2
  cases e0
  cases e1
  cases e2
  have := u8_of_wf hk
  exact ⟨k, s, t, rfl, rfl, rfl, this.1, this.2⟩

theorem add_add (a : Addr) (i j : Nat) : (a.add i).add j = a.add (i + j) := by
  by_cases h : i = 0
  · subst h; simp [Addr.add]
  · by_cases h' : j = 0
    · subst h'; simp [Addr.add]
    · simp [Addr.add, h, h', Nat.add_assoc]

theorem open_acts {H : Type} {enc : TypeId × Value → H} {w : World} {spare : Nat → Bool} {held : Bool} {fuel : Nat} {v : Value} {x : DataW H × List MemPlace} (h : DataW.trod enc Tryd.prog w 0 spare held fuel 38 [v] = some x) : ∃ al, ActsAt w v al := by
  rcases open_slice Tryd.underlying38 h with ⟨h1, _⟩ | ⟨a, len, cap, m, n, D, Pl, h1, h2, h3, h4, h5, h6, h7⟩
  · cases h1
    exact ⟨[], none, 0, rfl, Nat.le_refl _, by omega, fun i p h => by simp at h⟩
  · cases h1
    have hm : len ≤ m := by rw [h5]; split <;> omega
    rw [cells_act] at h7
    have each : ∀ i, i < len → ∃ r : Int × ByteArray × ByteArray, w.cell? (a.add (i * 3)) = some (.int .u8 r.1) ∧ w.cell? (a.add (i * 3 + 1)) = some (.string r.2.1) ∧ w.cell? (a.add (i * 3 + 2)) = some (.string r.2.2) ∧ 0 ≤ r.1 ∧ r.1 < 256 := by
      intro i hi
      obtain ⟨cs', h8, h9⟩ := h7 i (by omega)
      obtain ⟨_, hl, hc⟩ := World.cells?_some h8
      match cs', hl with
      | [c0, c1, c2], _ =>
        obtain ⟨k, s, t, rfl, rfl, rfl, hk⟩ := open_act_cells h9
        have e0 := hc 0 (by omega)
        have e1 := hc 1 (by omega)
        have e2 := hc 2 (by omega)
        refine ⟨⟨k, s, t⟩, e0, ?_, ?_, hk⟩
        · rw [← add_add a (i * 3) 1]
          exact e1
        · rw [← add_add a (i * 3) 2]
          exact e2
    obtain ⟨f, hf⟩ := choose_lt (α := Int × ByteArray × ByteArray) (p := fun i r => w.cell? (a.add (i * 3)) = some (.int .u8 r.1) ∧ w.cell? (a.add (i * 3 + 1)) = some (.string r.2.1) ∧ w.cell? (a.add (i * 3 + 2)) = some (.string r.2.2) ∧ 0 ≤ r.1 ∧ r.1 < 256) each
    refine ⟨(List.range len).map f, some a, cap, by simp, by simpa using h3, by unfold maxLen at h4; omega, fun i p hp => ?_⟩
    obtain ⟨hi, hp2⟩ := List.getElem?_eq_some_iff.1 hp
    simp at hi hp2
    subst hp2
    obtain ⟨g1, g2, g3, g4⟩ := hf i hi
    have h0 := (hf 0 (by omega)).1
    rw [show a.add (0 * 3) = a by simp [Addr.add]] at h0
    obtain ⟨b, off, rfl⟩ := addr_plain h0
    rw [addr_add] at g1 g2 g3
    exact ⟨b, off, rfl, g1, g2, g3, g4⟩

namespace filesPlays
open Go.ChangeShapes Go.WideShapes Go.ChangeAt Go.RowKit

theorem contract (H : Type) (enc : TypeId × Value → H) (W : World) (base : Nat) (args : Array Value) (ds gs : List (DataW H)) (before : List MemPlace)
    (hval : ∀ (j : Nat) t v, Tryd.f5.params[j]? = some t → args[j]? = some v → Value.okWide Tryd.prog W .any base t v)
    (hW : DataW.Whole enc Tryd.prog Tryd.f5.params.toList Rows.filesPlaysSpec.vars false W args.toList ds gs before) (hsh : W.ShapedOpen Tryd.prog) :
    Calls Tryd.prog 5 args W fun e W' => ∃ v, e = .returned v ∧ Rows.filesPlaysSpec.post enc Tryd.prog Tryd.f5 false true false false W args v W' := by
  have hW' := hW
  obtain ⟨p, q, hA0, hV, rfl, hfz, hnd⟩ := hW
  have hA : DataW.TrodAll enc Tryd.prog W 0 (fun _ => true) true Tryd.f5.params.toList args.toList ds p := hA0
  rw [Tryd.params5] at hA hval
  obtain ⟨v0, vs0, d0, ds0, p0, q0, hargs, rfl, rfl, h0, r0⟩ := trodAll_cons hA
  obtain ⟨v1, vs1, d1, ds1, p1, q1, rfl, rfl, rfl, h1, r1⟩ := trodAll_cons r0
  obtain ⟨rfl, rfl, rfl⟩ := trodAll_nil r1
  obtain rfl : args = #[v0, v1] := by cases args; simp_all
  obtain ⟨rfl, rfl⟩ := trodVars_none hV
  obtain ⟨a0, len0, cap0, rfl⟩ := okWide_slice Tryd.underlying28 (hval 0 28 v0 rfl rfl)
  obtain ⟨a1, len1, cap1, rfl⟩ := okWide_slice Tryd.underlying38 (hval 1 38 v1 rfl rfl)
  obtain ⟨fuel, h0⟩ := h0
  obtain ⟨fuel1, h1⟩ := h1
  obtain ⟨fl, hfl⟩ := open_rows h0
  obtain ⟨al, hal⟩ := open_acts h1
  clear hA0
  refine (plays_any _ _ al fl W (rdy_of_shape hsh) hfl hal).mono fun e W' ⟨he, hb⟩ => ?_
  subst he
  exact ⟨_, rfl, post_true laidOut (by kernel_rfl) rfl Tryd.underlying4 rfl (fun x hx => by match x, hx with | [a, b], _ => rfl) hW' hb⟩

theorem laid_met (os : Os) : laidMet Tryd.prog Rows.filesPlaysRow.laid ((laidWorld os).forCall (fun _ _ => 0) ⟨#[], #[.slice none 0 0, .slice none 0 0], []⟩).memory :=
  laidMet_of_run' 8 (by kernel_rfl) (by kernel_rfl)
theorem reads (os : Os) {H : Type} (enc : TypeId × Value → H) : ∃ places, DataW.whole enc Tryd.prog ((laidWorld os).forCall (fun _ _ => 0) ⟨#[], #[.slice none 0 0, .slice none 0 0], []⟩).memory Tryd.f5.params.toList Rows.filesPlaysSpec.vars false #[.slice none 0 0, .slice none 0 0].toList 8 = some ([.nil, .nil], [], places) :=
  ⟨[], by kernel_rfl⟩

set_option maxRecDepth 100000 in
theorem lifted (os : Os) (started : os.Started) (H : Type) (enc : TypeId × Value → H) (F : Stop.Interp) :
    ReturnsInHanded {} Tryd.checked os 5 .any ((OpenSpec.ofChange Rows.filesPlaysSpec).preRow enc Tryd.prog Tryd.f5 Rows.filesPlaysRow.domain false Rows.filesPlaysRow.laid) (((OpenSpec.ofChange Rows.filesPlaysSpec).at F).post enc Tryd.prog Tryd.f5 false true false false) := by
  obtain ⟨places, hx⟩ := reads os enc
  refine returnsInHanded_of_row (C := Tryd.checked) (s := OpenSpec.ofChange Rows.filesPlaysSpec) own started (by kernel_rfl) Tryd.func5
    (witness_row_at (enc := enc) (C := Tryd.checked) false (laidWorld os) #[.slice none 0 0, .slice none 0 0] rfl (by kernel_rfl) (by kernel_rfl) (by kernel_rfl)
      (OpenSpec.preRow_of_cond 8 hx (by kernel_rfl) (fun k hk => by cases hk) (by kernel_rfl) (laid_met os))) ?_
  intro W base args ds gs before hval hW _ _ _ _ hsh _
  exact contract H enc W base args ds gs before hval hW hsh

theorem said : Rows.FilesPlaysSaid :=
  OpenClaim.holds_of_cond 5 Tryd.f5 rfl rfl rfl rfl rfl rfl rfl ⟨rfl, rfl, rfl, rfl, rfl⟩ rfl rfl rfl rfl rfl (by kernel_rfl) Tryd.func5 (by kernel_rfl)
    (of_decide_eq_true (by kernel_rfl)) (by unfold Func.isWrapper; first | (rw [if_pos (by decide +kernel)]; kernel_rfl) | (rw [if_neg (by decide +kernel)]; exact ⟨rfl, rfl⟩))
    (fun os started H enc _ F => by rw [OpenClaim.pre_eq_preRow]; exact lifted os started H enc F)

theorem plain (f : FuncId) (fn : Func) (hf : Tryd.pinned.checked.prog.funcNamed "placket/placketlaw17.FilesPlays" = some f) (hfn : Tryd.pinned.checked.prog.funcs[f]? = some fn) :
    true = Tryd.pinned.checked.prog.looks [] ∧ ∀ (j : Nat) t, fn.params[j]? = some t → Tryd.pinned.checked.prog.wantsStandIn t = false := by
  obtain rfl : f = 5 := Option.some.inj ((show Tryd.prog.funcNamed "placket/placketlaw17.FilesPlays" = some 5 by kernel_rfl).symm.trans hf) |>.symm
  obtain rfl : fn = Tryd.f5 := (Option.some.inj (Tryd.func5.symm.trans hfn)).symm
  refine ⟨by kernel_rfl, fun j t ht => ?_⟩
  rw [Tryd.params5] at ht
  have hm := Array.mem_of_getElem? ht
  simp only [List.mem_toArray, List.mem_cons, List.mem_nil_iff, or_false] at hm
  rcases hm with rfl | rfl
  · exact (show Tryd.prog.wantsStandIn 28 = false by kernel_rfl)
  · exact (show Tryd.prog.wantsStandIn 38 = false by kernel_rfl)

theorem card : Rows.FilesPlaysCardSaid :=
  Claim7.holds_tied_plain_at .later [] _ _ _ _ said (fun _ h => by cases h) (by kernel_rfl) (fun _ h => by cases h) filesPlays_row_tie rfl ⟨rfl, rfl⟩ (by kernel_rfl) rfl plain (by kernel_rfl)
#print axioms card
end filesPlays
end Go.Proofs.YtkbekdfgeiannaaDoor
