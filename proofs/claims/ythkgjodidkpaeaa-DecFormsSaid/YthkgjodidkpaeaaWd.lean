/- Natural numbers as words of 64 bits: plain arithmetic; no program is in sight. -/
import Init.Omega
set_option linter.unusedSimpArgs false
set_option linter.unusedVariables false
namespace Go.Proofs.Ythkgjodidkpaeaa

/-- the i-th word of n -/
def wd (n : Nat) (i : Nat) : Int := ((n / 2 ^ (64 * i) % 2 ^ 64 : Nat) : Int)
theorem wd_nn (n i : Nat) : 0 ≤ wd n i := by unfold wd; omega
theorem wd_lt (n i : Nat) : wd n i < 18446744073709551616 := by
  unfold wd
  have := Nat.mod_lt (n / 2 ^ (64 * i)) (show 0 < 2 ^ 64 by decide)
  omega
theorem wd0 (n : Nat) : wd n 0 = ((n % 18446744073709551616 : Nat) : Int) := by unfold wd; simp
theorem wd1 (n : Nat) : wd n 1 = ((n / 18446744073709551616 % 18446744073709551616 : Nat) : Int) := by unfold wd; rfl
theorem wd2 (n : Nat) : wd n 2 = ((n / 340282366920938463463374607431768211456 % 18446744073709551616 : Nat) : Int) := by unfold wd; rfl
theorem wd3 (n : Nat) : wd n 3 = ((n / 6277101735386680763835789423207666416102355444464034512896 % 18446744073709551616 : Nat) : Int) := by unfold wd; rfl
/-- two words are a number below 2^128, and the other way round -/
theorem wd_two {n : Nat} (h : n < 2 ^ 128) : wd n 1 * 18446744073709551616 + wd n 0 = (n : Int) := by
  rw [wd0, wd1]; omega
theorem wd_make (x y : Int) (hx0 : 0 ≤ x) (hx : x < 18446744073709551616) (hy0 : 0 ≤ y) (hy : y < 18446744073709551616) :
    ∃ n : Nat, n < 2 ^ 128 ∧ (n : Int) = x * 18446744073709551616 + y ∧ x = wd n 1 ∧ y = wd n 0 := by
  refine ⟨(x * 18446744073709551616 + y).toNat, by omega, by omega, ?_, ?_⟩
  · rw [wd1]; omega
  · rw [wd0]; omega
theorem wd_of (n : Nat) (x y : Int) (hx0 : 0 ≤ x) (hx : x < 18446744073709551616) (hy0 : 0 ≤ y) (hy : y < 18446744073709551616) (h : (n : Int) = x * 18446744073709551616 + y) : x = wd n 1 ∧ y = wd n 0 := by
  refine ⟨?_, ?_⟩
  · rw [wd1]; omega
  · rw [wd0]; omega
theorem wd_four {n : Nat} (h : n < 2 ^ 256) : wd n 3 * 6277101735386680763835789423207666416102355444464034512896 + wd n 2 * 340282366920938463463374607431768211456 + wd n 1 * 18446744073709551616 + wd n 0 = (n : Int) := by
  rw [wd0, wd1, wd2, wd3]; omega
theorem wd_of4 (n : Nat) (a b c d : Int) (ha0 : 0 ≤ a) (ha : a < 18446744073709551616) (hb0 : 0 ≤ b) (hb : b < 18446744073709551616) (hc0 : 0 ≤ c) (hc : c < 18446744073709551616) (hd0 : 0 ≤ d) (hd : d < 18446744073709551616)
    (h : (n : Int) = d * 6277101735386680763835789423207666416102355444464034512896 + c * 340282366920938463463374607431768211456 + b * 18446744073709551616 + a) : a = wd n 0 ∧ b = wd n 1 ∧ c = wd n 2 ∧ d = wd n 3 := by
  refine ⟨?_, ?_, ?_, ?_⟩
  · rw [wd0]; omega
  · rw [wd1]; omega
  · rw [wd2]; omega
  · rw [wd3]; omega
theorem wd_make4 (a b c d : Int) (ha0 : 0 ≤ a) (ha : a < 18446744073709551616) (hb0 : 0 ≤ b) (hb : b < 18446744073709551616) (hc0 : 0 ≤ c) (hc : c < 18446744073709551616) (hd0 : 0 ≤ d) (hd : d < 18446744073709551616) :
    ∃ n : Nat, n < 2 ^ 256 ∧ a = wd n 0 ∧ b = wd n 1 ∧ c = wd n 2 ∧ d = wd n 3 :=
  ⟨(d * 6277101735386680763835789423207666416102355444464034512896 + c * 340282366920938463463374607431768211456 + b * 18446744073709551616 + a).toNat, by omega,
    wd_of4 _ a b c d ha0 ha hb0 hb hc0 hc hd0 hd (by omega)⟩
theorem wd_zero (i : Nat) : wd 0 i = 0 := by unfold wd; simp
/-- equal words, equal numbers -/
theorem wd_inj {n m : Nat} (hn : n < 2 ^ 128) (hm : m < 2 ^ 128) (h1 : wd n 1 = wd m 1) (h0 : wd n 0 = wd m 0) : n = m := by
  have := wd_two hn
  have := wd_two hm
  omega
theorem wd_eq_iff {n m : Nat} (hn : n < 2 ^ 128) (hm : m < 2 ^ 128) : ((wd n 1 == wd m 1) && (wd n 0 == wd m 0)) = decide (n = m) := by
  rw [Bool.eq_iff_iff]
  simp only [Bool.and_eq_true, beq_iff_eq, decide_eq_true_eq]
  constructor
  · rintro ⟨h1, h0⟩; exact wd_inj hn hm h1 h0
  · rintro rfl; exact ⟨rfl, rfl⟩
theorem wd_low4 {n : Nat} (hn : n < 2 ^ 256) : (wd n 2 = 0 ∧ wd n 3 = 0) ↔ n < 2 ^ 128 := by
  have h := wd_four hn
  have a0 := wd_nn n 0
  have a1 := wd_lt n 0
  have b0 := wd_nn n 1
  have b1 := wd_lt n 1
  have c0 := wd_nn n 2
  have d0 := wd_nn n 3
  constructor
  · rintro ⟨h2, h3⟩; rw [h2, h3] at h; omega
  · intro hlt; constructor <;> omega
end Go.Proofs.Ythkgjodidkpaeaa
