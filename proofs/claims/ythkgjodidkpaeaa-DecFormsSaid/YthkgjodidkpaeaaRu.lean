/- The document's answers of the layer: quotients, and the number in two words. -/
import Derived.Test.YthkgjodidkpaeaaRs
import Derived.RegionTactic
set_option linter.unusedSimpArgs false
set_option linter.unusedVariables false
namespace Go.Proofs.Ythkgjodidkpaeaa
open Go.RowKit

/-- the digits' slice: empty at nought alone -/
theorem dg_len {w : World} {v : Value} {n : Nat} (h : Dg w v n) : ∃ (A : Option Addr) (k c : Nat), v = .slice A k c ∧ (k = 0 ↔ n = 0) ∧ k ≤ c := by
  obtain ⟨xs, ⟨A, c, rfl, hc, hs⟩, hd⟩ := h
  exact ⟨A, xs.length, c, rfl, hd.zero_iff, hc⟩
end Go.Proofs.Ythkgjodidkpaeaa
