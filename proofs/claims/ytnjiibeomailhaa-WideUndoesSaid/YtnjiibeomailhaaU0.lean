/- Sums undone: plain. -/
import Derived.Test.YtnjiibeomailhaaWc
set_option linter.unusedSimpArgs false
set_option linter.unusedVariables false
namespace Go.Proofs.Ytnjiibeomailhaa
open Go.RowKit
theorem und_256 {n m : Nat} (hn : n < 2 ^ 128) (hm : m < 2 ^ 128) : n * m < 2 ^ 256 := by
  have h := Nat.mul_lt_mul'' hn hm
  rwa [← Nat.pow_add] at h
theorem und_sub {n m : Nat} (h : n + m < 2 ^ 128) : subW (n + m) m = n ∧ under (n + m) m = 0 ∧ ¬ cmpN (n + m) n < 0 := by
  refine ⟨?_, ?_, ?_⟩
  · unfold subW; rw [if_neg (by omega)]; omega
  · unfold under; rw [if_neg (by omega)]
  · unfold cmpN; split <;> (try split) <;> omega
end Go.Proofs.Ytnjiibeomailhaa
