/-
  FilesApart: what is done with one file changes no other one; in which order two are told changes nothing. No condition of ours.
-/
import Derived.Test.YtkbekdfgeiannaaDoorRow17
import Derived.Test.YtkbekdfgeiannaaDoorOpen17
import Derived.Test.YtkbekdfgeiannaaDoorApartLaw
import Derived.Test.YtkbekdfgeiannaaDoorLawRow
import Derived.SizedLaws
namespace Go.Proofs.YtkbekdfgeiannaaDoor

theorem open_act {H : Type} {enc : TypeId × Value → H} {w : World} {base : Nat} {spare : Nat → Bool} {held : Bool} {r : Reach} {b0 : Nat} {v : Value} {d : DataW H} {p : List MemPlace} (hv : Value.okWide Tryd.prog w r b0 27 v)
    (h : DataW.Trod enc Tryd.prog w base spare held 27 v d p) :
    ∃ (k : Int) (n t : ByteArray), v = .agg #[.int .u8 k, .string n, .string t] ∧ d = .agg [.lit (.int .u8 k), .lit (.string n.data.toList), .lit (.string t.data.toList)] ∧ (Lit.int .u8 k).wf = true := by
  obtain ⟨v0, v1, v2, y0, y1, y2, m, rfl, rfl, _, h0, h1, h2⟩ := Joins.open_agg3 Tryd.underlying27 (by kernel_rfl) (by kernel_rfl) hv h
  obtain ⟨k, e0, rfl, hk⟩ := DataW.trod_int Tryd.underlying5 h0
  obtain ⟨n, e1, rfl, _⟩ := DataW.trod_string Tryd.underlying9 h1
  obtain ⟨t, e2, rfl, _⟩ := DataW.trod_string Tryd.underlying9 h2
  simp only [List.cons.injEq, and_true] at e0 e1 e2
  subst e0 e1 e2
  exact ⟨k, n, t, rfl, rfl, hk⟩

namespace filesApart
open Go.ChangeShapes Go.WideShapes Go.ChangeAt Go.RowKit

theorem act_sized {H : Type} {ts : List TypeId} {ds : List (DataW H)} (h : (DataW.weightsEach Tryd.prog ts ds).all (· ≤ reachBytes) = true) {j : Nat} {k : Int} {n t : ByteArray} (ht : ts[j]? = some 27)
    (hd : ds[j]? = some (.agg [.lit (.int .u8 k), .lit (.string n.data.toList), .lit (.string t.data.toList)])) : n.size ≤ 1000000000000000 ∧ t.size ≤ 1000000000000000 := by
  have h1 := List.all_eq_true.1 h _ (DataW.weights_mem_each ht hd n.data.toList.length (by simp [DataW.weights, Tryd.underlying27, DataW.weightsEach]))
  have h2 := List.all_eq_true.1 h _ (DataW.weights_mem_each ht hd t.data.toList.length (by simp [DataW.weights, Tryd.underlying27, DataW.weightsEach]))
  have h3 : n.data.toList.length ≤ reachBytes := by simpa using h1
  have h4 : t.data.toList.length ≤ reachBytes := by simpa using h2
  have h5 : reachBytes ≤ 1000000000000000 := by decide
  rw [Array.length_toList] at h3 h4
  exact ⟨Nat.le_trans h3 h5, Nat.le_trans h4 h5⟩

theorem contract (H : Type) (enc : TypeId × Value → H) (W : World) (base : Nat) (args : Array Value) (ds gs : List (DataW H)) (before : List MemPlace)
    (hval : ∀ (j : Nat) t v, Tryd.f4.params[j]? = some t → args[j]? = some v → Value.okWide Tryd.prog W .any base t v)
    (hW : DataW.Whole enc Tryd.prog Tryd.f4.params.toList Rows.filesApartSpec.vars false W args.toList ds gs before)
    (hsz : (DataW.weightsEach Tryd.prog (Tryd.f4.params.toList ++ Rows.filesApartSpec.plain.varTypes Tryd.prog) (ds ++ gs)).all (· ≤ reachBytes) = true) (hsh : W.ShapedOpen Tryd.prog) :
    Calls Tryd.prog 4 args W fun e W' => ∃ v, e = .returned v ∧ Rows.filesApartSpec.post enc Tryd.prog Tryd.f4 false true false false W args v W' := by
  have hW' := hW
  obtain ⟨p, q, hA0, hV, rfl, hfz, hnd⟩ := hW
  have hA : DataW.TrodAll enc Tryd.prog W 0 (fun _ => true) true Tryd.f4.params.toList args.toList ds p := hA0
  rw [Tryd.params4] at hA hval hsz
  obtain ⟨v0, vs0, d0, ds0, p0, q0, hargs, rfl, rfl, h0, r0⟩ := trodAll_cons hA
  obtain ⟨v1, vs1, d1, ds1, p1, q1, rfl, rfl, rfl, h1, r1⟩ := trodAll_cons r0
  obtain ⟨v2, vs2, d2, ds2, p2, q2, rfl, rfl, rfl, h2, r2⟩ := trodAll_cons r1
  obtain ⟨rfl, rfl, rfl⟩ := trodAll_nil r2
  obtain rfl : args = #[v0, v1, v2] := by cases args; simp_all
  obtain ⟨rfl, rfl⟩ := trodVars_none hV
  obtain ⟨k1, n1, t1, rfl, rfl, wk1⟩ := open_act (hval 0 27 v0 rfl rfl) h0
  obtain ⟨k2, n2, t2, rfl, rfl, wk2⟩ := open_act (hval 1 27 v1 rfl rfl) h1
  obtain ⟨a2, len2, cap2, rfl⟩ := okWide_slice Tryd.underlying28 (hval 2 28 v2 rfl rfl)
  obtain ⟨fuel, h2⟩ := h2
  obtain ⟨fl, hfl⟩ := open_rows h2
  obtain ⟨s1, s2⟩ := act_sized hsz (j := 0) rfl rfl
  obtain ⟨s3, s4⟩ := act_sized hsz (j := 1) rfl rfl
  clear hA0
  refine (apart_any k1 k2 n1 t1 n2 t2 _ fl W (rdy_of_shape hsh) hfl s1 s3 s2 s4).mono fun e W' ⟨he, hb⟩ => ?_
  subst he
  exact ⟨_, rfl, post_true laidOut (by kernel_rfl) rfl Tryd.underlying4 rfl (fun x hx => by match x, hx with | [a, b, c], _ => rfl) hW' hb⟩

def wAct : Value := .agg #[.int .u8 0, .string ByteArray.empty, .string ByteArray.empty]
theorem laid_met (os : Os) : laidMet Tryd.prog Rows.filesApartRow.laid ((laidWorld os).forCall (fun _ _ => 0) ⟨#[], #[wAct, wAct, .slice none 0 0], []⟩).memory :=
  laidMet_of_run' 8 (by kernel_rfl) (by kernel_rfl)
theorem reads (os : Os) {H : Type} (enc : TypeId × Value → H) : ∃ places, DataW.whole enc Tryd.prog ((laidWorld os).forCall (fun _ _ => 0) ⟨#[], #[wAct, wAct, .slice none 0 0], []⟩).memory Tryd.f4.params.toList Rows.filesApartSpec.vars false #[wAct, wAct, .slice none 0 0].toList 8 = some ([.agg [.lit (.int .u8 0), .lit (.string []), .lit (.string [])], .agg [.lit (.int .u8 0), .lit (.string []), .lit (.string [])], .nil], [], places) :=
  ⟨[], by kernel_rfl⟩

set_option maxRecDepth 100000 in
theorem lifted (os : Os) (started : os.Started) (H : Type) (enc : TypeId × Value → H) (F : Stop.Interp) :
    ReturnsInHanded {} Tryd.checked os 4 .any ((OpenSpec.ofChange Rows.filesApartSpec).preRow enc Tryd.prog Tryd.f4 Rows.filesApartRow.domain false Rows.filesApartRow.laid) (((OpenSpec.ofChange Rows.filesApartSpec).at F).post enc Tryd.prog Tryd.f4 false true false false) := by
  obtain ⟨places, hx⟩ := reads os enc
  refine returnsInHanded_of_row (C := Tryd.checked) (s := OpenSpec.ofChange Rows.filesApartSpec) own started (by kernel_rfl) Tryd.func4
    (witness_row_at (enc := enc) (C := Tryd.checked) false (laidWorld os) #[wAct, wAct, .slice none 0 0] rfl (by kernel_rfl) (by kernel_rfl) (by kernel_rfl)
      (OpenSpec.preRow_of_cond 8 hx (by kernel_rfl) (fun k hk => by cases hk) (by kernel_rfl) (laid_met os))) ?_
  intro W base args ds gs before hval hW _ _ hsz _ hsh _
  exact contract H enc W base args ds gs before hval hW hsz hsh

theorem said : Rows.FilesApartSaid :=
  OpenClaim.holds_of_cond 4 Tryd.f4 rfl rfl rfl rfl rfl rfl rfl ⟨rfl, rfl, rfl, rfl, rfl⟩ rfl rfl rfl rfl rfl (by kernel_rfl) Tryd.func4 (by kernel_rfl)
    (of_decide_eq_true (by kernel_rfl)) (by unfold Func.isWrapper; first | (rw [if_pos (by decide +kernel)]; kernel_rfl) | (rw [if_neg (by decide +kernel)]; exact ⟨rfl, rfl⟩))
    (fun os started H enc _ F => by rw [OpenClaim.pre_eq_preRow]; exact lifted os started H enc F)

theorem plain (f : FuncId) (fn : Func) (hf : Tryd.pinned.checked.prog.funcNamed "placket/placketlaw17.FilesApart" = some f) (hfn : Tryd.pinned.checked.prog.funcs[f]? = some fn) :
    true = Tryd.pinned.checked.prog.looks [] ∧ ∀ (j : Nat) t, fn.params[j]? = some t → Tryd.pinned.checked.prog.wantsStandIn t = false := by
  obtain rfl : f = 4 := Option.some.inj ((show Tryd.prog.funcNamed "placket/placketlaw17.FilesApart" = some 4 by kernel_rfl).symm.trans hf) |>.symm
  obtain rfl : fn = Tryd.f4 := (Option.some.inj (Tryd.func4.symm.trans hfn)).symm
  refine ⟨by kernel_rfl, fun j t ht => ?_⟩
  rw [Tryd.params4] at ht
  have hm := Array.mem_of_getElem? ht
  simp only [List.mem_toArray, List.mem_cons, List.mem_nil_iff, or_false, or_self_left] at hm
  rcases hm with rfl | rfl
  · exact (show Tryd.prog.wantsStandIn 27 = false by kernel_rfl)
  · exact (show Tryd.prog.wantsStandIn 28 = false by kernel_rfl)

theorem card : Rows.FilesApartCardSaid :=
  Claim7.holds_tied_plain_at .later [] _ _ _ _ said (fun _ h => by cases h) (by kernel_rfl) (fun _ h => by cases h) filesApart_row_tie rfl ⟨rfl, rfl⟩ (by kernel_rfl) rfl plain (by kernel_rfl)
#print axioms card
end filesApart
end Go.Proofs.YtkbekdfgeiannaaDoor
