/- Four words in memory: what a store into one of them makes of the number. -/
import Derived.Test.YthkgjodidkpaeaaBase
import Derived.Test.YthkgjodidkpaeaaWd
set_option linter.unusedSimpArgs false
set_option linter.unusedVariables false
namespace Go.Proofs.Ythkgjodidkpaeaa
open Go.RowKit

def lcells (m : Nat) : List Value := (List.range 4).map fun j => .int .u64 (wd m j)
theorem lcells_eq (m : Nat) : lcells m = [.int .u64 (wd m 0), .int .u64 (wd m 1), .int .u64 (wd m 2), .int .u64 (wd m 3)] := rfl
theorem lcells_at (m j : Nat) (hj : j < 4) : (lcells m)[j]? = some (.int .u64 (wd m j)) := by
  unfold lcells
  rw [List.getElem?_map, List.getElem?_range hj]; rfl
theorem lcells_set (V j : Nat) (hj : j < 4) (hV : V < 2 ^ 256) (v : Int) (h0 : 0 ≤ v) (h1 : v < 18446744073709551616) :
    ∃ V' : Nat, V' < 2 ^ 256 ∧ (V' : Int) = V + (v - wd V j) * ((2 ^ (64 * j) : Nat) : Int) ∧ (lcells V).set j (.int .u64 v) = lcells V' ∧ (∀ i, i < 4 → i ≠ j → wd V' i = wd V i) ∧ wd V' j = v := by
  have hf := wd_four hV
  have a0 := wd_nn V 0
  have a1 := wd_lt V 0
  have b0 := wd_nn V 1
  have b1 := wd_lt V 1
  have c0 := wd_nn V 2
  have c1 := wd_lt V 2
  have d0 := wd_nn V 3
  have d1 := wd_lt V 3
  have key : ∀ (x0 x1 x2 x3 : Int), 0 ≤ x0 → x0 < 18446744073709551616 → 0 ≤ x1 → x1 < 18446744073709551616 → 0 ≤ x2 → x2 < 18446744073709551616 → 0 ≤ x3 → x3 < 18446744073709551616 →
      ∃ V' : Nat, V' < 2 ^ 256 ∧ (V' : Int) = x3 * 6277101735386680763835789423207666416102355444464034512896 + x2 * 340282366920938463463374607431768211456 + x1 * 18446744073709551616 + x0 ∧ x0 = wd V' 0 ∧ x1 = wd V' 1 ∧ x2 = wd V' 2 ∧ x3 = wd V' 3 := by
    intro x0 x1 x2 x3 e0 e1 e2 e3 e4 e5 e6 e7
    refine ⟨(x3 * 6277101735386680763835789423207666416102355444464034512896 + x2 * 340282366920938463463374607431768211456 + x1 * 18446744073709551616 + x0).toNat, by omega, by omega, ?_⟩
    exact wd_of4 _ x0 x1 x2 x3 e0 e1 e2 e3 e4 e5 e6 e7 (by omega)
  have hc : j = 0 ∨ j = 1 ∨ j = 2 ∨ j = 3 := by omega
  rcases hc with rfl | rfl | rfl | rfl
  · obtain ⟨V', g1, g2, e0, e1, e2, e3⟩ := key v (wd V 1) (wd V 2) (wd V 3) h0 h1 b0 b1 c0 c1 d0 d1
    refine ⟨V', g1, ?_, ?_, ?_, e0.symm⟩
    · rw [g2]; omega
    · rw [lcells_eq, lcells_eq, ← e0, ← e1, ← e2, ← e3]; rfl
    · intro i hi hne
      have hc : i = 1 ∨ i = 2 ∨ i = 3 := by omega
      rcases hc with rfl | rfl | rfl
      · exact e1.symm
      · exact e2.symm
      · exact e3.symm
  · obtain ⟨V', g1, g2, e0, e1, e2, e3⟩ := key (wd V 0) v (wd V 2) (wd V 3) a0 a1 h0 h1 c0 c1 d0 d1
    refine ⟨V', g1, ?_, ?_, ?_, e1.symm⟩
    · rw [g2]; omega
    · rw [lcells_eq, lcells_eq, ← e0, ← e1, ← e2, ← e3]; rfl
    · intro i hi hne
      have hc : i = 0 ∨ i = 2 ∨ i = 3 := by omega
      rcases hc with rfl | rfl | rfl
      · exact e0.symm
      · exact e2.symm
      · exact e3.symm
  · obtain ⟨V', g1, g2, e0, e1, e2, e3⟩ := key (wd V 0) (wd V 1) v (wd V 3) a0 a1 b0 b1 h0 h1 d0 d1
    refine ⟨V', g1, ?_, ?_, ?_, e2.symm⟩
    · rw [g2]; omega
    · rw [lcells_eq, lcells_eq, ← e0, ← e1, ← e2, ← e3]; rfl
    · intro i hi hne
      have hc : i = 0 ∨ i = 1 ∨ i = 3 := by omega
      rcases hc with rfl | rfl | rfl
      · exact e0.symm
      · exact e1.symm
      · exact e3.symm
  · obtain ⟨V', g1, g2, e0, e1, e2, e3⟩ := key (wd V 0) (wd V 1) (wd V 2) v a0 a1 b0 b1 c0 c1 h0 h1
    refine ⟨V', g1, ?_, ?_, ?_, e3.symm⟩
    · rw [g2]; omega
    · rw [lcells_eq, lcells_eq, ← e0, ← e1, ← e2, ← e3]; rfl
    · intro i hi hne
      have hc : i = 0 ∨ i = 1 ∨ i = 2 := by omega
      rcases hc with rfl | rfl | rfl
      · exact e0.symm
      · exact e1.symm
      · exact e2.symm
theorem wd_past {V k j : Nat} (h : V < 2 ^ (64 * k)) (hj : k ≤ j) : wd V j = 0 := by
  unfold wd
  rw [Nat.div_eq_of_lt (Nat.lt_of_lt_of_le h (Nat.pow_le_pow_right (by decide) (by omega)))]; rfl
/-- one word more of a number from below -/
theorem wd_mod_succ (n t : Nat) : ((n % 2 ^ (64 * (t + 1)) : Nat) : Int) = ((n % 2 ^ (64 * t) : Nat) : Int) + wd n t * ((2 ^ (64 * t) : Nat) : Int) := by
  unfold wd
  rw [show 64 * (t + 1) = 64 * t + 64 by omega, Nat.pow_add, Nat.mod_mul, Int.natCast_add, Int.natCast_mul, Int.mul_comm]
end Go.Proofs.Ythkgjodidkpaeaa
