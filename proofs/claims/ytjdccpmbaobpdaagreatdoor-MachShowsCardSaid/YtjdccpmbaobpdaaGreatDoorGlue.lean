/-
  What the machine needs to know of this seat's program: of the functions of which no body is walked.
-/
import Derived.Test.YtjdccpmbaobpdaaGreatDoorNames
import Derived.Test.YtjdccpmbaobpdaaGreatDoorMD
import Derived.Test.YtjdccpmbaobpdaaGreatDoorShelf
import Derived.Test.YtjdccpmbaobpdaaGreatDoorLays
import Derived.Test.YtjdccpmbaobpdaaGreatDoorTz
import Derived.Lib.Builder
namespace Go.Proofs.YtjdccpmbaobpdaaGreatDoor
open Go.RowKit

theorem follows_mixed : Tryz.prog.follows .mixedOrders = true := by kernel_rfl
theorem cfgOk : CfgOk Tryz.prog := ⟨fun f hf v w => by
  have hm : f ∈ sameL := List.contains_iff_mem.1 hf
  simp only [sameL, List.mem_singleton] at hm
  subst hm
  have h1 : (Tryz.f65.name == "runtime.NumGoroutine") = false := by kernel_rfl
  have h2 : Tryz.f65.body.isNone = true := by kernel_rfl
  have h3 : Extern.findNext Tryz.f65 = none := by kernel_rfl
  have h4 : Extern.find Tryz.f65 = some Extern.AbiNoEscape.same := by kernel_rfl
  have h5 := Go.Lib.run_noEscape (P := Tryz.prog) w v
  have h6 : ¬ Tryz.f65.name = "runtime.NumGoroutine" := by simpa using h1
  simp [callFunc, Tryz.func65, h6, Option.isNone_iff_eq_none.1 h2, h3, h4, h5]⟩

def entered (P : Program) (f : FuncId) : Bool := match P.funcs[f]? with
  | some fn => fn.body.isSome && !(fn.name == "runtime.NumGoroutine")
  | none => false
theorem entered_ok {P : Program} {f : FuncId} (h : entered P f = true) (args : List Value) (w : World) : (callFunc f args.toArray).run P w = .ok (.enter f args.toArray) w := by
  unfold entered at h
  cases hf : P.funcs[f]? with
  | none => rw [hf] at h; cases h
  | some fn =>
    rw [hf] at h
    simp only [Bool.and_eq_true, Bool.not_eq_true'] at h
    obtain ⟨c, hc⟩ := Option.isSome_iff_exists.1 h.1
    exact run_callFunc_enter hf hc h.2 _ w
theorem entered_ok' {P : Program} {f : FuncId} (h : entered P f = true) (args : Array Value) (w : World) : (callFunc f args).run P w = .ok (.enter f args) w := by
  have := entered_ok h args.toList w
  simpa using this
theorem givenOk : GivenOk Tryz.prog where
  sound f h hf := by
    by_cases h1 : stringL.contains f = true
    · have hm : f ∈ stringL := List.contains_iff_mem.1 h1
      simp only [stringL, List.mem_singleton] at hm
      subst hm
      cases hf
      exact fun args S x r hx => ⟨fun args' w => entered_ok' (by kernel_rfl) args' w, fun G w B args' hW ha => givenString_ok Tryz.lays169 Tryz.Builder_Extra_169 hx hW ha⟩
    · by_cases h2 : cloneL.contains f = true
      · have hm : f ∈ cloneL := List.contains_iff_mem.1 h2
        simp only [cloneL, List.mem_singleton] at hm
        subst hm
        cases hf
        exact fun args S x r hx => ⟨fun args' w => entered_ok' (by kernel_rfl) args' w, fun G w B args' hW ha => givenClone_ok Tryz.mapsClone hx hW ha⟩
      · by_cases h3 : tzL.contains f = true
        · have hm : f ∈ tzL := List.contains_iff_mem.1 h3
          simp only [tzL, List.mem_singleton] at hm
          subst hm
          cases hf
          exact fun args S x r hx => ⟨fun args' w => entered_ok' (by kernel_rfl) args' w, fun G w B args' hW ha => givenTz_ok hx hW ha⟩
        · have : Cfg.given f = none := by
            show (if stringL.contains f then _ else if cloneL.contains f then _ else if tzL.contains f then _ else _) = _
            rw [if_neg h1, if_neg h2, if_neg h3]
          rw [this] at hf
          cases hf
  here f h hf args S x t l hx p hp := by
    by_cases h1 : stringL.contains f = true
    · have hm : f ∈ stringL := List.contains_iff_mem.1 h1
      simp only [stringL, List.mem_singleton] at hm
      subst hm
      cases hf
      exfalso
      unfold givenString at hx
      split at hx
      · split at hx
        · split at hx
          · split at hx
            · obtain ⟨_, _, h3⟩ := Option.map_eq_some_iff.1 hx
              cases h3
            · cases hx
          · cases hx
        · cases hx
        · cases hx
      · cases hx
    · by_cases h2 : cloneL.contains f = true
      · have hm : f ∈ cloneL := List.contains_iff_mem.1 h2
        simp only [cloneL, List.mem_singleton] at hm
        subst hm
        cases hf
        unfold givenClone at hx
        split at hx
        · split at hx
          · split at hx
            · cases hx
              rename_i pp g g' es ck hget hcond
              have := AS.get_set_ne S (.map 0 es ck) (p := ⟨S.lvl, 0, nextName S.lvl S.tab⟩) (q := p) (by simpa using hp)
              exact this
            · cases hx
          · cases hx
        · cases hx
      · by_cases h3 : tzL.contains f = true
        · have hm : f ∈ tzL := List.contains_iff_mem.1 h3
          simp only [tzL, List.mem_singleton] at hm
          subst hm
          cases hf
          exfalso
          unfold givenTz at hx
          split at hx
          · split at hx
            · cases hx
            · cases hx
          · cases hx
        · have : Cfg.given f = none := by
            show (if stringL.contains f then _ else if cloneL.contains f then _ else if tzL.contains f then _ else _) = _
            rw [if_neg h1, if_neg h2, if_neg h3]
          rw [this] at hf
          cases hf
end Go.Proofs.YtjdccpmbaobpdaaGreatDoor
