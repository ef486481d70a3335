/- What this law reaches beyond the common contracts, part 1. -/
import Init.Omega
import Derived.Test.YtbnadlpkbbdgjaaGreatDoorM3
set_option linter.unusedSimpArgs false
set_option linter.unusedVariables false


namespace Go.Proofs.YtbnadlpkbbdgjaaGreatDoor

theorem wd_make (x y : Int) (hx0 : 0 ≤ x) (hx : x < 18446744073709551616) (hy0 : 0 ≤ y) (hy : y < 18446744073709551616) :
  ∃ n : Nat,n < 2 ^ 128 ∧ (n : Int) = x * 18446744073709551616 + y ∧ x = wd n 1 ∧ y = wd n 0:=by
 refine ⟨(x * 18446744073709551616 + y).toNat,by omega,by omega, ?_, ?_⟩
 ·rw [wd1];omega
 ·rw [wd0];omega
end Go.Proofs.YtbnadlpkbbdgjaaGreatDoor



namespace Go.Proofs.YtbnadlpkbbdgjaaGreatDoor
open Go.RowKit

noncomputable def sameB (a b : VD) : Bool:=@decide (a = b) (Classical.propDecidable _)
theorem sameB_iff {a b : VD} : sameB a b = true ↔ a = b:=by unfold sameB;exact @decide_eq_true_iff _ (Classical.propDecidable _)
end Go.Proofs.YtbnadlpkbbdgjaaGreatDoor

