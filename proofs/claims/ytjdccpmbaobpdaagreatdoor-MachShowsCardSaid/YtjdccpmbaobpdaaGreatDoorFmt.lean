/-
  strconv.FormatInt, of the numbers 512 to 767 in base 8: each run by the machine.
-/
import Derived.Test.YtjdccpmbaobpdaaGreatDoorFmtP
import Derived.Test.YtjdccpmbaobpdaaGreatDoorFmtQ
import Derived.Test.YtjdccpmbaobpdaaGreatDoorFmtR
import Derived.Test.YtjdccpmbaobpdaaGreatDoorFmtT
import Derived.KernelRfl
namespace Go.Proofs.YtjdccpmbaobpdaaGreatDoor
open Go.RowKit

theorem fmt_all (n : Nat) (h : n < 256) : fmtOk n = true := by
  have go : ∀ k, ((List.range 16).all fun i => fmtOk (16 * k + i)) = true → n / 16 = k → fmtOk n = true := fun k hk e => by
    have := List.all_eq_true.1 hk (n % 16) (List.mem_range.2 (by omega))
    rwa [show 16 * k + n % 16 = n by omega] at this
  rcases (by omega : n / 16 = 0 ∨ n / 16 = 1 ∨ n / 16 = 2 ∨ n / 16 = 3 ∨ n / 16 = 4 ∨ n / 16 = 5 ∨ n / 16 = 6 ∨ n / 16 = 7 ∨ n / 16 = 8 ∨ n / 16 = 9 ∨ n / 16 = 10 ∨ n / 16 = 11 ∨ n / 16 = 12 ∨ n / 16 = 13 ∨ n / 16 = 14 ∨ n / 16 = 15) with e | e | e | e | e | e | e | e | e | e | e | e | e | e | e | e
  · exact go 0 fmt0 e
  · exact go 1 fmt1 e
  · exact go 2 fmt2 e
  · exact go 3 fmt3 e
  · exact go 4 fmt4 e
  · exact go 5 fmt5 e
  · exact go 6 fmt6 e
  · exact go 7 fmt7 e
  · exact go 8 fmt8 e
  · exact go 9 fmt9 e
  · exact go 10 fmt10 e
  · exact go 11 fmt11 e
  · exact go 12 fmt12 e
  · exact go 13 fmt13 e
  · exact go 14 fmt14 e
  · exact go 15 fmt15 e
theorem fmt_run (a0 a1 : Int) (r : List UInt8) (h : G.fmt8 a0 a1 = some r) : ∃ v, callT Tryz.prog F.strconv_FormatInt [.lit (.int .i64 a0), .lit (.int .i64 a1)] .bare = some (.ret v, none) ∧ ResC [.str r] v := by
  unfold G.fmt8 at h
  split at h
  case isFalse => cases h
  rename_i hc
  obtain ⟨rfl, h1, h2⟩ := hc
  cases h
  obtain ⟨n, rfl⟩ : ∃ n : Nat, a0 = ((512 + n : Nat) : Int) := ⟨(a0 - 512).toNat, by omega⟩
  have hn := fmt_all n (by omega)
  unfold fmtOk at hn
  split at hn
  · rename_i s hs
    have e := eq_of_beq hn
    refine ⟨_, callT_some.2 ⟨30, hs⟩, ?_⟩
    show _ = AV.lit (.string (bs _))
    rw [← e]
    exact congrArg (fun x => AV.lit (.string x)) (bs_toL s).symm
  · cases hn
end Go.Proofs.YtjdccpmbaobpdaaGreatDoor
