/- A number of four words among a law's arguments, opened. -/
import Derived.Test.YthkgjodidkpaeaaBase
import Derived.ProofKit
import Derived.OpenShut
import Derived.Lib.SmallJoins
import Derived.Laws.IdiomArrays
set_option linter.unusedSimpArgs false
set_option linter.unusedVariables false
namespace Go.Proofs.Ythkgjodidkpaeaa
open Go.RowKit
set_option maxRecDepth 100000 in
theorem open_long {H : Type} {enc : TypeId × Value → H} {W : World} {base b0 : Nat} {v : Value} {d : DataW H} {p : List MemPlace} {sp : Nat → Bool} {held : Bool}
    (hv : Value.okWide Try.prog W .any base 45 v) (h : DataW.Trod enc Try.prog W b0 sp held 45 v d p) :
    ∃ a0 a1 a2 a3 : Int, v = .agg #[.int .u64 a0, .int .u64 a1, .int .u64 a2, .int .u64 a3] ∧ (Lit.int .u64 a0).wf = true ∧ (Lit.int .u64 a1).wf = true ∧ (Lit.int .u64 a2).wf = true ∧ (Lit.int .u64 a3).wf = true := by
  obtain ⟨cs, rfl, hsz, _⟩ : ∃ cs, v = .agg cs ∧ cs.size = Try.prog.cellsOf 45 ∧ Row.okWide Try.prog W .any base 45 cs := by
    simpa [Value.okWide, Try.underlying45] using hv
  have hc : Try.prog.cellsOf 45 = 4 := by kernel_rfl
  have hce : Try.prog.cellsOf 22 = 1 := by kernel_rfl
  obtain ⟨c0, c1, c2, c3, rfl⟩ := Joins.array4 (hsz.trans hc)
  obtain ⟨fuel, hf⟩ := h
  obtain ⟨y0, y1, y2, y3, m, _, hy0, hy1, hy2, hy3⟩ := Go.ChangeShapes.trod_array4 Try.underlying45 hce hf
  obtain ⟨x0, e0, _, w0⟩ := DataW.trod_int Try.underlying22 hy0
  obtain ⟨x1, e1, _, w1⟩ := DataW.trod_int Try.underlying22 hy1
  obtain ⟨x2, e2, _, w2⟩ := DataW.trod_int Try.underlying22 hy2
  obtain ⟨x3, e3, _, w3⟩ := DataW.trod_int Try.underlying22 hy3
  simp at e0 e1 e2 e3
  subst e0 e1 e2 e3
  exact ⟨x0, x1, x2, x3, rfl, w0, w1, w2, w3⟩
/-- a word's bounds -/
theorem wf_word {a : Int} (h : (Lit.int .u64 a).wf = true) : 0 ≤ a ∧ a < 18446744073709551616 := by
  have := bounds_u64 h; omega
end Go.Proofs.Ythkgjodidkpaeaa
