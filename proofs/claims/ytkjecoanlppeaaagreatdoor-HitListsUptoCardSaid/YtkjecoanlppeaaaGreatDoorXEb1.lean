/- What this law reaches beyond the common contracts, part 1. -/
import Init.Omega
import Derived.Laws.AppendOwn
import Derived.Test.YtkjecoanlppeaaaGreatDoorM1
set_option linter.unusedSimpArgs false
set_option linter.unusedVariables false


namespace Go.Proofs.YtkjecoanlppeaaaGreatDoor

theorem wd_make (x y : Int) (hx0 : 0 ≤ x) (hx : x < 18446744073709551616) (hy0 : 0 ≤ y) (hy : y < 18446744073709551616) :
  ∃ n : Nat,n < 2 ^ 128 ∧ (n : Int) = x * 18446744073709551616 + y ∧ x = wd n 1 ∧ y = wd n 0:=by
 refine ⟨(x * 18446744073709551616 + y).toNat,by omega,by omega, ?_, ?_⟩
 ·rw [wd1];omega
 ·rw [wd0];omega
end Go.Proofs.YtkjecoanlppeaaaGreatDoor



namespace Go.Proofs.YtkjecoanlppeaaaGreatDoor
open Go.RowKit

theorem Stk.len {w0 : World} {vs : List Value} {td : List (List VD)} (h : Stk w0 vs td) : vs.length = td.length:=by
 induction h with
 | nil => rfl
 | snoc _ _ _ ih => simp [ih]
end Go.Proofs.YtkjecoanlppeaaaGreatDoor



namespace Go.Proofs.YtkjecoanlppeaaaGreatDoor

/-- a bound that is far out -/
def Small (n : Nat) : Prop:=True → n < 10 ^ 1000
end Go.Proofs.YtkjecoanlppeaaaGreatDoor

