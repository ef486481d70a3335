/- Floats: small whole numbers as float64: they are read, compared, added and cut as whole numbers. -/
import Derived.Laws.ComplexArith
import Derived.Laws.Cover3
set_option linter.unusedSimpArgs false
set_option linter.unusedVariables false
namespace Go.Proofs.Ytlpoopmjgobnnaa
open Ieee

theorem log2_mul_pow (n e : Nat) (h : n ≠ 0) : (n * 2 ^ e).log2 = n.log2 + e := by
  induction e with
  | zero => simp
  | succ e ih =>
    have : n * 2 ^ (e + 1) = 2 * (n * 2 ^ e) := by rw [Nat.pow_succ]; ac_rfl
    rw [this, Nat.log2_two_mul (Nat.mul_ne_zero h (by have := Nat.two_pow_pos e; omega)), ih]; omega
def rung (n : Nat) : Nat := (n.log2 + 1022) * 2 ^ 52 + n * 2 ^ (52 - n.log2)
theorem dl : Ieee.double.leastPlace = -1074 := by decide
theorem db : Ieee.double.binade = 2 ^ 52 := rfl
theorem cut_exact (m d : Nat) (w : Toward) : w.cut false (m * 2 ^ d) d = m := by
  unfold Toward.cut
  by_cases hm : m = 0
  · subst hm
    cases w <;> simp
  · have hg : min d ((m * 2 ^ d).log2 + 2) = d := by rw [log2_mul_pow _ _ hm]; omega
    rw [hg]
    have hp := Nat.two_pow_pos d
    have e1 : (1 : Nat) <<< d = 2 ^ d := by rw [Nat.shiftLeft_eq, Nat.one_mul]
    have e2 : m * 2 ^ d / 2 ^ d = m := Nat.mul_div_cancel _ hp
    have e3 : m * 2 ^ d % 2 ^ d = 0 := Nat.mul_mod_left _ _
    dsimp only
    rw [e1, e2, e3]
    cases w <;> simp <;> omega
theorem cut_zero (m : Nat) (w : Toward) : w.cut false m 0 = m := by
  have := cut_exact m 0 w
  rwa [Nat.pow_zero, Nat.mul_one] at this
theorem mul_pow_lt (n : Nat) (hl : n.log2 ≤ 52) : n * 2 ^ (52 - n.log2) < 2 ^ 53 := by
  have h1 := Nat.lt_log2_self (n := n)
  have : n * 2 ^ (52 - n.log2) < 2 ^ (n.log2 + 1) * 2 ^ (52 - n.log2) := Nat.mul_lt_mul_of_pos_right h1 (Nat.two_pow_pos _)
  rw [← Nat.pow_add] at this
  have e : n.log2 + 1 + (52 - n.log2) = 53 := by omega
  rwa [e] at this
theorem mul_pow_ge (n : Nat) (hn : n ≠ 0) (hl : n.log2 ≤ 52) : 2 ^ 52 ≤ n * 2 ^ (52 - n.log2) := by
  have h1 := Nat.log2_self_le hn
  have : 2 ^ n.log2 * 2 ^ (52 - n.log2) ≤ n * 2 ^ (52 - n.log2) := Nat.mul_le_mul_right _ h1
  rw [← Nat.pow_add] at this
  have e : n.log2 + (52 - n.log2) = 52 := by omega
  rwa [e] at this
theorem nearest_exact (n e : Nat) (hn : n ≠ 0) (hl : n.log2 ≤ 52) : Ieee.double.nearest false (n * 2 ^ e) (-(e : Int)) = rung n := by
  unfold Format.nearest
  have h0 : n * 2 ^ e ≠ 0 := Nat.mul_ne_zero hn (by have := Nat.two_pow_pos e; omega)
  rw [if_neg h0, log2_mul_pow _ _ hn, dl, db]
  have hf : (Ieee.double.fractionBits : Nat) = 52 := rfl
  have hlast : max (-(e : Int) + ((n.log2 + e : Nat) : Int) - (Ieee.double.fractionBits : Nat)) (-1074) = (n.log2 : Int) - 52 := by rw [hf]; omega
  dsimp only
  rw [hlast]
  have hk : Toward.even.cut false ((n * 2 ^ e) <<< (-(e : Int) - ((n.log2 : Int) - 52)).toNat) ((n.log2 : Int) - 52 - -(e : Int)).toNat = n * 2 ^ (52 - n.log2) := by
    by_cases he : e ≤ 52 - n.log2
    · have a1 : (-(e : Int) - ((n.log2 : Int) - 52)).toNat = 52 - n.log2 - e := by omega
      have a2 : ((n.log2 : Int) - 52 - -(e : Int)).toNat = 0 := by omega
      rw [a1, a2, cut_zero, Nat.shiftLeft_eq, Nat.mul_assoc, ← Nat.pow_add]
      congr 2
      omega
    · have a1 : (-(e : Int) - ((n.log2 : Int) - 52)).toNat = 0 := by omega
      have a2 : ((n.log2 : Int) - 52 - -(e : Int)).toNat = e - (52 - n.log2) := by omega
      rw [a1, a2, Nat.shiftLeft_zero]
      have e1 : n * 2 ^ e = (n * 2 ^ (52 - n.log2)) * 2 ^ (e - (52 - n.log2)) := by rw [Nat.mul_assoc, ← Nat.pow_add]; congr 2; omega
      rw [e1, cut_exact]
  rw [hk]
  have hr : ((n.log2 : Int) - 52 - -1074).toNat = n.log2 + 1022 := by omega
  rw [hr]
  unfold Format.word
  simp only [Bool.false_eq_true, if_false]
  unfold rung
  refine Nat.min_eq_left ?_
  have hi : Ieee.double.infRung = 2047 * 2 ^ 52 := rfl
  rw [hi]
  have hlt := mul_pow_lt n hl
  omega
/-- the float of a small number -/
def fl (n : Nat) : Nat := if n = 0 then 0 else rung n
theorem fl_zero : fl 0 = 0 := rfl
theorem log_small {n : Nat} (h : n < 2 ^ 53) : n.log2 ≤ 52 := by
  by_cases h0 : n = 0
  · subst h0; decide
  · have := (Nat.log2_lt h0).2 h; omega
theorem fl_of_int (n : Nat) (h : n < 2 ^ 53) : floatOfInt .f64 (n : Int) = fl n := by
  show Ieee.double.nearest (decide ((n : Int) < 0)) ((n : Int).natAbs) 0 = fl n
  rw [decide_eq_false (by omega), Int.natAbs_natCast]
  unfold fl
  by_cases h0 : n = 0
  · subst h0
    rfl
  · rw [if_neg h0]
    have := nearest_exact n 0 h0 (log_small h)
    rwa [Nat.pow_zero, Nat.mul_one] at this
theorem fl_read (n : Nat) (h0 : n ≠ 0) (h : n < 2 ^ 53) : Ieee.double.read (fl n) = .number false (n * 2 ^ (52 - n.log2)) ((n.log2 : Int) - 52) := by
  have hl := log_small h
  have h1 := mul_pow_lt n hl
  have h2 := mul_pow_ge n h0 hl
  unfold fl
  rw [if_neg h0]
  unfold Format.read
  have hs : Ieee.double.signWeight = 2 ^ 63 := rfl
  have hi : Ieee.double.infRung = 2047 * 2 ^ 52 := rfl
  rw [hs, hi, db, dl]
  obtain ⟨r, hr⟩ : ∃ r, r = rung n := ⟨_, rfl⟩
  obtain ⟨m, hm⟩ : ∃ m, m = n * 2 ^ (52 - n.log2) := ⟨_, rfl⟩
  have hr2 : r = (n.log2 + 1022) * 2 ^ 52 + m := by rw [hr, hm]; rfl
  rw [← hm] at h1 h2 ⊢
  rw [← hr]
  clear hr hm
  have e1 : r < 2 ^ 63 := by omega
  have e2 : r / 2 ^ 63 = 0 := Nat.div_eq_of_lt e1
  have e3 : r % 2 ^ 63 = r := Nat.mod_eq_of_lt e1
  dsimp only
  rw [e2, e3]
  have e4 : ¬ r < 2 ^ 52 := by omega
  have e5 : r < 2047 * 2 ^ 52 := by omega
  rw [if_neg e4, if_pos e5]
  have e6 : r / 2 ^ 52 = n.log2 + 1023 := by omega
  have e7 : 2 ^ 52 + r % 2 ^ 52 = m := by omega
  rw [e6, e7]
  have e8 : (-1074 : Int) + ((n.log2 + 1023 - 1 : Nat) : Int) = (n.log2 : Int) - 52 := by omega
  rw [e8]
  rfl
theorem fl_read0 : Ieee.double.read (fl 0) = .number false 0 (-1074) := rfl
/-- as a number at a common place -/
theorem fl_read' (n : Nat) (h : n < 2 ^ 53) : ∃ (m : Nat) (p : Int), Ieee.double.read (fl n) = .number false m p ∧ p ≤ 0 ∧ -1074 ≤ p ∧ ∀ b : Int, b ≤ p → m * 2 ^ (p - b).toNat = n * 2 ^ (-b).toNat := by
  by_cases h0 : n = 0
  · subst h0
    exact ⟨0, -1074, fl_read0, by omega, by omega, fun b _ => by rw [Nat.zero_mul, Nat.zero_mul]⟩
  · have hl := log_small h
    refine ⟨_, _, fl_read n h0 h, by omega, by omega, fun b hb => ?_⟩
    rw [Nat.mul_assoc, ← Nat.pow_add]
    congr 2
    omega
theorem fl_order (a b : Nat) (ha : a < 2 ^ 53) (hb : b < 2 ^ 53) : Ieee.double.order (fl a) (fl b) = some (compare (a : Int) (b : Int)) := by
  obtain ⟨m, p, h1, h2, h3, h4⟩ := fl_read' a ha
  obtain ⟨m', p', k1, k2, k3, k4⟩ := fl_read' b hb
  unfold Format.order
  rw [h1, k1]
  unfold Datum.order
  dsimp only
  unfold signed
  simp only [Bool.false_eq_true, if_false]
  rw [Nat.shiftLeft_eq, Nat.shiftLeft_eq, h4 _ (by omega), k4 _ (by omega)]
  have hp := Nat.two_pow_pos (-(min p p')).toNat
  generalize 2 ^ (-(min p p')).toNat = q at hp
  congr 1
  rw [Int.natCast_mul, Int.natCast_mul]
  have hq : (0 : Int) < (q : Int) := by omega
  rcases Nat.lt_trichotomy a b with h | h | h
  · have e1 : compare (a : Int) (b : Int) = .lt := Int.compare_eq_lt.2 (by omega)
    have e2 : compare ((a : Int) * q) ((b : Int) * q) = .lt := Int.compare_eq_lt.2 (Int.mul_lt_mul_of_pos_right (by omega) hq)
    rw [e1, e2]
  · subst h
    rw [Int.compare_eq_eq.2 rfl, Int.compare_eq_eq.2 rfl]
  · have e1 : compare (a : Int) (b : Int) = .gt := Int.compare_eq_gt.2 (by omega)
    have e2 : compare ((a : Int) * q) ((b : Int) * q) = .gt := Int.compare_eq_gt.2 (Int.mul_lt_mul_of_pos_right (by omega) hq)
    rw [e1, e2]
theorem fl_int (n : Nat) (h : n < 2 ^ 53) : floatToIntVal .f64 (fl n) .i64 = some (n : Int) := by
  have e : (FloatKind.f64.decode (fl n)).toInt .zero = some (n : Int) := by
    show (Ieee.double.read (fl n)).toInt .zero = _
    by_cases h0 : n = 0
    · subst h0; decide
    · have hl := log_small h
      rw [fl_read n h0 h]
      unfold Datum.toInt Datum.integral
      dsimp only
      have a1 : ((n.log2 : Int) - 52).toNat = 0 := by omega
      have a2 : (-((n.log2 : Int) - 52)).toNat = 52 - n.log2 := by omega
      rw [a1, a2, Nat.shiftLeft_zero, cut_exact]
      unfold signed
      simp
  unfold floatToIntVal
  rw [e]
  dsimp only
  have e1 : IntKind.i64.min = -9223372036854775808 := by decide
  have e2 : IntKind.i64.max = 9223372036854775807 := by decide
  rw [e1, e2, if_pos (by omega)]
theorem fl_add (a b : Nat) (ha : a < 2 ^ 53) (hb : b < 2 ^ 53) (hab : a + b < 2 ^ 53) : floatBits .add .f64 (fl a) (fl b) = some (fl (a + b)) := by
  obtain ⟨m, p, h1, h2, h3, h4⟩ := fl_read' a ha
  obtain ⟨m', p', k1, k2, k3, k4⟩ := fl_read' b hb
  show ((Ieee.double.read (fl a)).sum (Ieee.double.read (fl b))).map Ieee.double.write = _
  rw [h1, k1]
  unfold Datum.sum
  dsimp only
  unfold signed
  simp only [Bool.false_eq_true, if_false]
  rw [Nat.shiftLeft_eq, Nat.shiftLeft_eq, h4 _ (by omega), k4 _ (by omega)]
  have e : ((a * 2 ^ (-(min p p')).toNat : Nat) : Int) + ((b * 2 ^ (-(min p p')).toNat : Nat) : Int) = (((a + b) * 2 ^ (-(min p p')).toNat : Nat) : Int) := by rw [Nat.add_mul, Int.natCast_add]
  rw [e]
  have hp := Nat.two_pow_pos (-(min p p')).toNat
  show some (Ieee.double.write _) = _
  congr 1
  unfold Format.write
  dsimp only
  rw [Int.natAbs_natCast]
  unfold fl
  by_cases h0 : a + b = 0
  · rw [if_pos h0, h0, Nat.zero_mul]
    rfl
  · rw [if_neg h0, if_neg (by
      have : (a + b) * 2 ^ (-(min p p')).toNat ≠ 0 := Nat.mul_ne_zero h0 (by omega)
      omega), decide_eq_false (by omega)]
    have hh : min p p' = -(((-(min p p')).toNat : Nat) : Int) := by omega
    have := nearest_exact (a + b) (-(min p p')).toNat h0 (log_small hab)
    rw [← hh] at this
    exact this
theorem fl_sub (a b : Nat) (ha : a < 2 ^ 53) (hab : b ≤ a) : floatBits .sub .f64 (fl a) (fl b) = some (fl (a - b)) := by
  obtain ⟨m, p, h1, h2, h3, h4⟩ := fl_read' a ha
  obtain ⟨m', p', k1, k2, k3, k4⟩ := fl_read' b (by omega)
  show ((Ieee.double.read (fl a)).sum (Ieee.double.read (fl b)).opposite).map Ieee.double.write = _
  rw [h1, k1]
  unfold Datum.opposite Datum.sum
  dsimp only
  unfold signed
  simp only [Bool.false_eq_true, if_false, Bool.not_false, if_true]
  rw [Nat.shiftLeft_eq, Nat.shiftLeft_eq, h4 _ (by omega), k4 _ (by omega)]
  have hp := Nat.two_pow_pos (-(min p p')).toNat
  have hle : b * 2 ^ (-(min p p')).toNat ≤ a * 2 ^ (-(min p p')).toNat := Nat.mul_le_mul_right _ hab
  have e : ((a * 2 ^ (-(min p p')).toNat : Nat) : Int) + -((b * 2 ^ (-(min p p')).toNat : Nat) : Int) = (((a - b) * 2 ^ (-(min p p')).toNat : Nat) : Int) := by rw [Nat.sub_mul]; omega
  rw [e]
  show some (Ieee.double.write _) = _
  congr 1
  unfold Format.write
  dsimp only
  rw [Int.natAbs_natCast]
  unfold fl
  by_cases h0 : a - b = 0
  · rw [if_pos h0, h0, Nat.zero_mul]
    rfl
  · rw [if_neg h0, if_neg (by
      have : (a - b) * 2 ^ (-(min p p')).toNat ≠ 0 := Nat.mul_ne_zero h0 (by omega)
      omega), decide_eq_false (by omega)]
    have hh : min p p' = -(((-(min p p')).toNat : Nat) : Int) := by omega
    have := nearest_exact (a - b) (-(min p p')).toNat h0 (log_small (by omega))
    rw [← hh] at this
    exact this
theorem fl_trunc (n : Nat) (h : n < 2 ^ 53) : FloatKind.f64.encode ((FloatKind.f64.decode (fl n)).integral .zero) = fl n := by
  show Ieee.double.write ((Ieee.double.read (fl n)).integral .zero) = fl n
  by_cases h0 : n = 0
  · subst h0; rfl
  · have hl := log_small h
    rw [fl_read n h0 h]
    unfold Datum.integral
    dsimp only
    have a1 : ((n.log2 : Int) - 52).toNat = 0 := by omega
    have a2 : (-((n.log2 : Int) - 52)).toNat = 52 - n.log2 := by omega
    rw [a1, a2, Nat.shiftLeft_zero, cut_exact]
    unfold Format.write
    dsimp only
    have := nearest_exact n 0 h0 hl
    rw [Nat.pow_zero, Nat.mul_one] at this
    unfold fl
    rw [if_neg h0]
    exact this
end Go.Proofs.Ytlpoopmjgobnnaa
