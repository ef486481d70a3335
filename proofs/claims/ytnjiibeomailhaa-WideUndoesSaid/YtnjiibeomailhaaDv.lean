/- The plain arithmetic of a division bit by bit, in words. -/
import Derived.Test.YtnjiibeomailhaaWb
import Derived.Test.YtnjiibeomailhaaLc
set_option linter.unusedSimpArgs false
set_option linter.unusedVariables false
namespace Go.Proofs.Ytnjiibeomailhaa
open Go.RowKit

theorem or_two (x b : Int) (hx0 : 0 ≤ x) (hx : x < 18446744073709551616) (hb0 : 0 ≤ b) (hb : b ≤ 1) : bits .or .u64 (IntKind.u64.wrap (x * 2)) b = (2 * x + b) % 18446744073709551616 := by
  obtain ⟨x, rfl⟩ := Int.eq_ofNat_of_zero_le hx0
  obtain ⟨b, rfl⟩ := Int.eq_ofNat_of_zero_le hb0
  have e : IntKind.u64.wrap ((x : Int) * 2) = ((x % 9223372036854775808 * 2 : Nat) : Int) := by rw [IntKind.wrap_u64]; omega
  have h := or_gen 1 (x % 9223372036854775808) b (by omega)
  rw [Nat.pow_one] at h
  rw [e, or_sum _ _ (by omega) (by omega) h]
  omega
theorem dv_hi (R b : Nat) (hR : R < 2 ^ 128) (hb : b < 2) : bits .or .u64 (IntKind.u64.wrap (wd R 1 * 2)) (wd R 0 / 9223372036854775808) = wd ((2 * R + b) % 2 ^ 128) 1 := by
  have h := wd_two hR
  have a0 := wd_nn R 0
  have a1 := wd_lt R 0
  have b0 := wd_nn R 1
  have b1 := wd_lt R 1
  rw [or_two _ _ b0 b1 (by omega) (by omega), wd1 ((2 * R + b) % 2 ^ 128)]
  generalize wd R 0 = x0 at *
  generalize wd R 1 = x1 at *
  omega
theorem dv_lo (R b : Nat) (hR : R < 2 ^ 128) (hb : b < 2) : bits .or .u64 (IntKind.u64.wrap (wd R 0 * 2)) (b : Int) = wd ((2 * R + b) % 2 ^ 128) 0 := by
  have h := wd_two hR
  have a0 := wd_nn R 0
  have a1 := wd_lt R 0
  have b0 := wd_nn R 1
  have b1 := wd_lt R 1
  rw [or_two _ _ a0 a1 (by omega) (by omega), wd0 ((2 * R + b) % 2 ^ 128)]
  generalize wd R 0 = x0 at *
  generalize wd R 1 = x1 at *
  omega
theorem dv_over (R b : Nat) (hR : R < 2 ^ 128) (hb : b < 2) : (wd R 1 / 9223372036854775808 == 1) = decide (2 ^ 128 ≤ 2 * R + b) := by
  have h := wd_two hR
  have a0 := wd_nn R 0
  have a1 := wd_lt R 0
  have b0 := wd_nn R 1
  have b1 := wd_lt R 1
  rw [Bool.eq_iff_iff]
  simp only [beq_iff_eq, decide_eq_true_eq]
  generalize wd R 0 = x0 at *
  generalize wd R 1 = x1 at *
  omega
theorem dv_bit (n j : Nat) : bits .and .u64 (wd n (j / 64) / 2 ^ (j % 64)) 1 = ((n / 2 ^ j % 2 : Nat) : Int) := by
  unfold wd
  have hx : n / 2 ^ (64 * (j / 64)) % 2 ^ 64 < 18446744073709551616 := Nat.mod_lt _ (by decide)
  have hm : j % 64 < 64 := Nat.mod_lt _ (by decide)
  have e2 : n / 2 ^ (64 * (j / 64)) % 2 ^ 64 / 2 ^ (j % 64) % 2 = n / 2 ^ j % 2 := by
    have e1 : 2 ^ 64 = 2 ^ (j % 64) * 2 ^ (64 - j % 64) := by rw [← Nat.pow_add]; congr 1; omega
    have e3 : 2 ^ j = 2 ^ (64 * (j / 64)) * 2 ^ (j % 64) := by rw [← Nat.pow_add]; congr 1; omega
    rw [e1, Nat.mod_mul_right_div_self, Nat.div_div_eq_div_mul, ← e3]
    have hd : 2 ^ 1 ∣ 2 ^ (64 - j % 64) := Nat.pow_dvd_pow 2 (by omega)
    exact Nat.mod_mod_of_dvd _ hd
  rw [← e2]
  generalize n / 2 ^ (64 * (j / 64)) % 2 ^ 64 = x at *
  have e : ((x : Nat) : Int) / 2 ^ (j % 64) = ((x / 2 ^ (j % 64) : Nat) : Int) := by
    rw [Int.natCast_ediv, Int.natCast_pow]; rfl
  have hy : x / 2 ^ (j % 64) ≤ x := Nat.div_le_self _ _
  rw [e]
  generalize x / 2 ^ (j % 64) = y at *
  have h := bits_and_u64_nat y 1 (by omega) (by decide)
  rw [Nat.and_one_is_mod] at h
  have e1 : ((1 : Nat) : Int) = 1 := rfl
  rw [e1] at h
  rw [h]
theorem dv_next (N j : Nat) : N / 2 ^ j = 2 * (N / 2 ^ (j + 1)) + N / 2 ^ j % 2 := by
  rw [Nat.pow_succ, ← Nat.div_div_eq_div_mul]; omega
theorem dv_in (P D b : Nat) (hD : 0 < D) (h : D ≤ 2 * (P % D) + b) (hb : b < 2) : (2 * P + b) / D = 2 * (P / D) + 1 ∧ (2 * P + b) % D = 2 * (P % D) + b - D := by
  have hl := Nat.mod_lt P hD
  have e : 2 * P + b = (2 * (P % D) + b - D) + D * (2 * (P / D) + 1) := by
    have h1 := Nat.div_add_mod P D
    rw [Nat.mul_add, Nat.mul_left_comm]
    omega
  have hr : 2 * (P % D) + b - D < D := by omega
  rw [e, Nat.add_mul_div_left _ _ hD, Nat.div_eq_of_lt hr, Nat.zero_add, Nat.add_mul_mod_self_left, Nat.mod_eq_of_lt hr]
  exact ⟨rfl, rfl⟩
theorem dv_out (P D b : Nat) (hD : 0 < D) (h : 2 * (P % D) + b < D) : (2 * P + b) / D = 2 * (P / D) ∧ (2 * P + b) % D = 2 * (P % D) + b := by
  have e : 2 * P + b = (2 * (P % D) + b) + D * (2 * (P / D)) := by
    have h1 := Nat.div_add_mod P D
    rw [Nat.mul_left_comm]
    omega
  rw [e, Nat.add_mul_div_left _ _ hD, Nat.div_eq_of_lt h, Nat.zero_add, Nat.add_mul_mod_self_left, Nat.mod_eq_of_lt h]
  exact ⟨rfl, rfl⟩
/-- a bit that is not there is set: the word -/
theorem dv_set (Y j : Nat) : bits .or .u64 (wd (Y * 2 ^ (j + 1)) (j / 64)) (IntKind.u64.wrap (2 ^ (j % 64))) = wd (Y * 2 ^ (j + 1)) (j / 64) + 2 ^ (j % 64) ∧ wd (Y * 2 ^ (j + 1)) (j / 64) + 2 ^ (j % 64) < 18446744073709551616 := by
  have hm : j % 64 < 64 := Nat.mod_lt _ (by decide)
  have e0 : 2 ^ (j + 1) = 2 ^ (64 * (j / 64)) * 2 ^ (j % 64 + 1) := by rw [← Nat.pow_add]; congr 1; omega
  have e1 : Y * 2 ^ (j + 1) / 2 ^ (64 * (j / 64)) = Y * 2 ^ (j % 64 + 1) := by
    rw [e0, Nat.mul_left_comm, Nat.mul_div_cancel_left _ (Nat.two_pow_pos _)]
  have e2 : Y * 2 ^ (j % 64 + 1) % 2 ^ 64 = Y % 2 ^ (63 - j % 64) * 2 ^ (j % 64 + 1) := by
    have e3 : (2 : Nat) ^ 64 = 2 ^ (63 - j % 64) * 2 ^ (j % 64 + 1) := by rw [← Nat.pow_add]; congr 1; omega
    rw [e3, Nat.mul_mod_mul_right]
  unfold wd
  rw [e1, e2]
  have hlt : Y % 2 ^ (63 - j % 64) < 2 ^ (63 - j % 64) := Nat.mod_lt _ (Nat.two_pow_pos _)
  have e4 : (2 : Nat) ^ 64 = 2 ^ (63 - j % 64) * 2 ^ (j % 64 + 1) := by rw [← Nat.pow_add]; congr 1; omega
  generalize Y % 2 ^ (63 - j % 64) = a at *
  have h1 : (a + 1) * 2 ^ (j % 64 + 1) ≤ 2 ^ 64 := by rw [e4]; exact Nat.mul_le_mul_right _ hlt
  rw [Nat.add_mul, Nat.one_mul] at h1
  have h2 : (2 : Nat) ^ (j % 64 + 1) = 2 * 2 ^ (j % 64) := by rw [Nat.pow_succ]; omega
  have h3 : (0 : Nat) < 2 ^ (j % 64) := Nat.two_pow_pos _
  have e5 : (2 : Int) ^ (j % 64) = ((2 ^ (j % 64) : Nat) : Int) := by rw [Int.natCast_pow]; rfl
  have hor := or_gen (j % 64 + 1) a (2 ^ (j % 64)) (by omega)
  rw [e5]
  generalize a * 2 ^ (j % 64 + 1) = A at *
  generalize 2 ^ (j % 64) = B at *
  have e6 : IntKind.u64.wrap (B : Int) = (B : Int) := by rw [IntKind.wrap_u64]; omega
  rw [e6, or_sum A B (by omega) (by omega) hor]
  exact ⟨rfl, by omega⟩
theorem dv_cells (Y j : Nat) (hj : j < 256) (h : Y * 2 ^ (j + 1) < 2 ^ 256) :
    (lcells (Y * 2 ^ (j + 1))).set (j / 64) (.int .u64 (bits .or .u64 (wd (Y * 2 ^ (j + 1)) (j / 64)) (IntKind.u64.wrap (2 ^ (j % 64))))) = lcells ((2 * Y + 1) * 2 ^ j) := by
  obtain ⟨e, hlt⟩ := dv_set Y j
  rw [e]
  have h0 := wd_nn (Y * 2 ^ (j + 1)) (j / 64)
  have hp : (0 : Int) < 2 ^ (j % 64) := Int.pow_pos (by decide)
  obtain ⟨V', v1, v2, v3, v4, v5⟩ := lcells_set (Y * 2 ^ (j + 1)) (j / 64) (by omega) h (wd (Y * 2 ^ (j + 1)) (j / 64) + 2 ^ (j % 64)) (by omega) hlt
  rw [v3]
  congr 1
  have e1 : wd (Y * 2 ^ (j + 1)) (j / 64) + 2 ^ (j % 64) - wd (Y * 2 ^ (j + 1)) (j / 64) = ((2 ^ (j % 64) : Nat) : Int) := by
    rw [Int.natCast_pow]; show _ = (2 : Int) ^ (j % 64); omega
  rw [e1, ← Int.natCast_mul, ← Int.natCast_add, ← Nat.pow_add] at v2
  rw [show j % 64 + 64 * (j / 64) = j by omega] at v2
  have e2 : V' = Y * 2 ^ (j + 1) + 2 ^ j := by exact_mod_cast v2
  rw [e2, Nat.pow_succ, Nat.add_mul, Nat.one_mul, Nat.mul_comm (2 ^ j) 2, ← Nat.mul_assoc, Nat.mul_comm Y 2]
theorem dv_zero (Y j : Nat) : Y * 2 ^ (j + 1) = (2 * Y) * 2 ^ j := by
  rw [Nat.pow_succ, Nat.mul_comm (2 ^ j) 2, ← Nat.mul_assoc, Nat.mul_comm Y 2]
theorem dv_q256 {N : Nat} (hN : N < 2 ^ 256) (D j : Nat) : N / 2 ^ (j + 1) / D * 2 ^ (j + 1) < 2 ^ 256 := by
  have h1 : N / 2 ^ (j + 1) / D ≤ N / 2 ^ (j + 1) := Nat.div_le_self _ _
  have h2 : N / 2 ^ (j + 1) / D * 2 ^ (j + 1) ≤ N / 2 ^ (j + 1) * 2 ^ (j + 1) := Nat.mul_le_mul_right _ h1
  exact Nat.lt_of_le_of_lt (Nat.le_trans h2 (Nat.div_mul_le_self _ _)) hN
theorem dv_yes {N D j R b T : Nat} (hD : 0 < D) (eR : R = N / 2 ^ (j + 1) % D) (eb : b = N / 2 ^ j % 2) (eT : T = 2 * R + b) (hb : b < 2) (h : D ≤ T) :
    N / 2 ^ j / D = 2 * (N / 2 ^ (j + 1) / D) + 1 ∧ N / 2 ^ j % D = T - D := by
  have e := dv_next N j
  rw [← eb] at e
  have h2 := dv_in (N / 2 ^ (j + 1)) D b hD (by rw [← eR, ← eT]; exact h) hb
  rw [← eR, ← eT, ← e] at h2
  exact h2
theorem dv_no {N D j R b T : Nat} (hD : 0 < D) (eR : R = N / 2 ^ (j + 1) % D) (eb : b = N / 2 ^ j % 2) (eT : T = 2 * R + b) (h : T < D) :
    N / 2 ^ j / D = 2 * (N / 2 ^ (j + 1) / D) ∧ N / 2 ^ j % D = T := by
  have e := dv_next N j
  rw [← eb] at e
  have h2 := dv_out (N / 2 ^ (j + 1)) D b hD (by rw [← eR, ← eT]; exact h)
  rw [← eR, ← eT, ← e] at h2
  exact h2
end Go.Proofs.Ytnjiibeomailhaa
