/- Two numbers of two words, of four words, held against each other: one truth value. -/
import Derived.Test.YthkgjodidkpaeaaBase
import Derived.Test.YthkgjodidkpaeaaWd
import Derived.ChangeKeysEq
set_option linter.unusedSimpArgs false
set_option linter.unusedVariables false
namespace Go.Proofs.Ythkgjodidkpaeaa
open Go.RowKit
theorem eq_wide (a b c d : Int) (W : World) : (binOp .eql 24 (.agg #[.int .u64 a, .int .u64 b]) (.agg #[.int .u64 c, .int .u64 d])).run Try.prog W = .ok (.bool ((a == c) && (b == d))) W := by
  go_simp
  by_cases h0 : a = c <;> by_cases h1 : b = d <;> simp [h0, h1]
set_option maxRecDepth 100000 in
theorem eq_long (a b c d e f g h : Int) (W : World) : (binOp .eql 45 (.agg #[.int .u64 a, .int .u64 b, .int .u64 c, .int .u64 d]) (.agg #[.int .u64 e, .int .u64 f, .int .u64 g, .int .u64 h])).run Try.prog W = .ok (.bool ((a == e) && ((b == f) && ((c == g) && (d == h))))) W := by
  obtain ⟨i0, hi⟩ : ∃ i, Try.prog.info? 22 = some i := ⟨_, rfl⟩
  have hc : Try.prog.cellsOf 22 = 1 := by kernel_rfl
  have hr : List.range 4 = [0, 1, 2, 3] := rfl
  go_simp
  rw [Go.run_equalIn_array W 9999 _ _ Try.underlying45 hi, hc, hr]
  simp [Op.eqItems, go_sem]
  by_cases h0 : a = e <;> by_cases h1 : b = f <;> by_cases h2 : c = g <;> by_cases h3 : d = h <;> simp [h0, h1, h2, h3]
theorem neq_wide (a b c d : Int) (W : World) : (binOp .neq 24 (.agg #[.int .u64 a, .int .u64 b]) (.agg #[.int .u64 c, .int .u64 d])).run Try.prog W = .ok (.bool (!((a == c) && (b == d)))) W := by
  go_simp
  by_cases h0 : a = c <;> by_cases h1 : b = d <;> simp [h0, h1]
set_option maxRecDepth 100000 in
theorem neq_long (a b c d e f g h : Int) (W : World) : (binOp .neq 45 (.agg #[.int .u64 a, .int .u64 b, .int .u64 c, .int .u64 d]) (.agg #[.int .u64 e, .int .u64 f, .int .u64 g, .int .u64 h])).run Try.prog W = .ok (.bool (!((a == e) && ((b == f) && ((c == g) && (d == h)))))) W := by
  obtain ⟨i0, hi⟩ : ∃ i, Try.prog.info? 22 = some i := ⟨_, rfl⟩
  have hc : Try.prog.cellsOf 22 = 1 := by kernel_rfl
  have hr : List.range 4 = [0, 1, 2, 3] := rfl
  go_simp
  rw [Go.run_equalIn_array W 9999 _ _ Try.underlying45 hi, hc, hr]
  simp [Op.eqItems, go_sem]
  by_cases h0 : a = e <;> by_cases h1 : b = f <;> by_cases h2 : c = g <;> by_cases h3 : d = h <;> simp [h0, h1, h2, h3]
theorem wd_eq0 {n : Nat} (hn : n < 2 ^ 256) : ((wd n 0 == 0) && ((wd n 1 == 0) && ((wd n 2 == 0) && (wd n 3 == 0)))) = decide (n = 0) := by
  have h := wd_four hn
  rw [Bool.eq_iff_iff]
  simp only [Bool.and_eq_true, beq_iff_eq, decide_eq_true_eq]
  constructor
  · rintro ⟨h0, h1, h2, h3⟩
    rw [h0, h1, h2, h3] at h
    omega
  · rintro rfl
    exact ⟨wd_zero 0, wd_zero 1, wd_zero 2, wd_zero 3⟩
end Go.Proofs.Ythkgjodidkpaeaa
