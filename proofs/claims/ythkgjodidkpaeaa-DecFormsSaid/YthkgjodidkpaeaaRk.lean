/- The reference's rounding of a number; the fixed fact. -/
import Derived.Test.YthkgjodidkpaeaaRj
set_option linter.unusedSimpArgs false
set_option linter.unusedVariables false
namespace Go.Proofs.Ythkgjodidkpaeaa
open Go.RowKit

theorem ten_le (a b : Nat) (h : a ≤ b) : (10 : Nat) ^ a ≤ 10 ^ b := Nat.pow_le_pow_right (by decide) h
theorem lt_256_tiny {N : Nat} (h : N < 2 ^ 256) : Tiny N := fun _ => by
  have h1 : (2 : Nat) ^ 256 ≤ 10 ^ 78 := by decide
  exact Nat.lt_of_lt_of_le h (Nat.le_trans h1 (ten_le 78 999 (by decide)))
theorem ten_tiny {k : Nat} (h : k < 999) : Tiny (10 ^ k) := fun _ => ten_lt k 999 h
theorem small_one : Small 1 := fun _ => one_lt_ten 1000 (by decide)
theorem near_small {N : Nat} (h : Tiny N) (M : Nat) : Small (near N M) := (small_add h (fun _ => one_lt_ten 999 (by decide))).of_le (near_le N M)
end Go.Proofs.Ythkgjodidkpaeaa
