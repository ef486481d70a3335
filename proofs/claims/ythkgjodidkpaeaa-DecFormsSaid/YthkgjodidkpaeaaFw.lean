/- Plain: sums, differences, tenfolds of numbers of four words, a word at a time. -/
import Derived.Test.YthkgjodidkpaeaaLc
set_option linter.unusedSimpArgs false
set_option linter.unusedVariables false
namespace Go.Proofs.Ythkgjodidkpaeaa
open Go.RowKit

theorem pow_step (t : Nat) : ((2 ^ (64 * (t + 1)) : Nat) : Int) = ((2 ^ (64 * t) : Nat) : Int) * 18446744073709551616 := by
  rw [show 64 * (t + 1) = 64 * t + 64 by omega, Nat.pow_add, Int.natCast_mul]; rfl
theorem plus_word {V V' n m t : Nat} {c s k x y : Int} (i1 : (V : Int) + c * ((2 ^ (64 * t) : Nat) : Int) = n + ((m % 2 ^ (64 * t) : Nat) : Int)) (hx : x = wd V t) (hy : y = wd m t)
    (i2 : (V' : Int) = V + (s - wd V t) * ((2 ^ (64 * t) : Nat) : Int)) (i3 : s + 18446744073709551616 * k = x + y + c) :
    (V' : Int) + k * ((2 ^ (64 * (t + 1)) : Nat) : Int) = n + ((m % 2 ^ (64 * (t + 1)) : Nat) : Int) := by
  rw [pow_step, wd_mod_succ, i2, ← hy, ← hx]
  generalize ((2 ^ (64 * t) : Nat) : Int) = P at *
  generalize ((m % 2 ^ (64 * t) : Nat) : Int) = M at *
  grind
theorem minus_word {V V' n m t : Nat} {c s k x y : Int} (i1 : (V : Int) - c * ((2 ^ (64 * t) : Nat) : Int) = n - ((m % 2 ^ (64 * t) : Nat) : Int)) (hx : x = wd V t) (hy : y = wd m t)
    (i2 : (V' : Int) = V + (s - wd V t) * ((2 ^ (64 * t) : Nat) : Int)) (i3 : s - 18446744073709551616 * k = x - y - c) :
    (V' : Int) - k * ((2 ^ (64 * (t + 1)) : Nat) : Int) = n - ((m % 2 ^ (64 * (t + 1)) : Nat) : Int) := by
  rw [pow_step, wd_mod_succ, i2, ← hy, ← hx]
  generalize ((2 ^ (64 * t) : Nat) : Int) = P at *
  generalize ((m % 2 ^ (64 * t) : Nat) : Int) = M at *
  grind
theorem ten_word {V V' n t : Nat} {c s k h x : Int} (i1 : (V : Int) + c * ((2 ^ (64 * t) : Nat) : Int) = n + 9 * ((n % 2 ^ (64 * t) : Nat) : Int)) (hx : x = wd V t) (hn : wd V t = wd n t)
    (i2 : (V' : Int) = V + (s - wd V t) * ((2 ^ (64 * t) : Nat) : Int)) (i3 : s + 18446744073709551616 * (h + k) = x * 10 + c) :
    (V' : Int) + (h + k) * ((2 ^ (64 * (t + 1)) : Nat) : Int) = n + 9 * ((n % 2 ^ (64 * (t + 1)) : Nat) : Int) := by
  rw [pow_step, wd_mod_succ, i2, ← hn, ← hx]
  generalize ((2 ^ (64 * t) : Nat) : Int) = P at *
  generalize ((n % 2 ^ (64 * t) : Nat) : Int) = M at *
  grind
theorem p256 : ((2 ^ (64 * 4) : Nat) : Int) = 115792089237316195423570985008687907853269984665640564039457584007913129639936 := by rfl
theorem plus_end {V n m : Nat} {c : Int} (hV : V < 2 ^ 256) (hs : n + m < 2 ^ 256) (h0 : 0 ≤ c) (i1 : (V : Int) + c * ((2 ^ (64 * 4) : Nat) : Int) = n + ((m % 2 ^ (64 * 4) : Nat) : Int)) : V = n + m := by
  rw [Nat.mod_eq_of_lt (show m < 2 ^ (64 * 4) by omega), p256] at i1
  omega
theorem minus_end {V n m : Nat} {c : Int} (hV : V < 2 ^ 256) (hn : n < 2 ^ 256) (hs : m ≤ n) (h0 : 0 ≤ c) (i1 : (V : Int) - c * ((2 ^ (64 * 4) : Nat) : Int) = n - ((m % 2 ^ (64 * 4) : Nat) : Int)) : V = n - m := by
  rw [Nat.mod_eq_of_lt (show m < 2 ^ (64 * 4) by omega), p256] at i1
  omega
theorem ten_end {V n : Nat} {c : Int} (hV : V < 2 ^ 256) (hs : n * 10 < 2 ^ 256) (h0 : 0 ≤ c) (i1 : (V : Int) + c * ((2 ^ (64 * 4) : Nat) : Int) = n + 9 * ((n % 2 ^ (64 * 4) : Nat) : Int)) : V = n * 10 := by
  rw [Nat.mod_eq_of_lt (show n < 2 ^ (64 * 4) by omega), p256] at i1
  omega
/-- the order, from the top word on -/
theorem top_word (n k : Nat) : n / 2 ^ (64 * k) = n / 2 ^ (64 * (k + 1)) * 18446744073709551616 + (wd n k).toNat := by
  unfold wd
  rw [show 64 * (k + 1) = 64 * k + 64 by omega, Nat.pow_add, ← Nat.div_div_eq_div_mul, Int.toNat_natCast]
  omega
theorem top_lt {n m k : Nat} (h : n / 2 ^ (64 * (k + 1)) = m / 2 ^ (64 * (k + 1))) (hl : wd n k < wd m k) : n < m := by
  have e1 := top_word n k
  have e2 := top_word m k
  have a0 := wd_nn n k
  have : n / 2 ^ (64 * k) < m / 2 ^ (64 * k) := by rw [e1, e2, h]; omega
  exact Nat.lt_of_not_le fun hle => absurd (Nat.div_le_div_right (c := 2 ^ (64 * k)) hle) (by omega)
theorem top_eq {n m k : Nat} (h : n / 2 ^ (64 * (k + 1)) = m / 2 ^ (64 * (k + 1))) (hl : wd n k = wd m k) : n / 2 ^ (64 * k) = m / 2 ^ (64 * k) := by
  rw [top_word n k, top_word m k, h, hl]
theorem top_none {n m : Nat} (hn : n < 2 ^ 256) (hm : m < 2 ^ 256) : n / 2 ^ (64 * 4) = m / 2 ^ (64 * 4) := by
  rw [Nat.div_eq_of_lt (show n < 2 ^ (64 * 4) from hn), Nat.div_eq_of_lt (show m < 2 ^ (64 * 4) from hm)]
end Go.Proofs.Ythkgjodidkpaeaa
