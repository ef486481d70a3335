/- Plain: sums of decimals in units, the order. -/
import Derived.Test.YthkgjodidkpaeaaFa
set_option linter.unusedSimpArgs false
set_option linter.unusedVariables false
namespace Go.Proofs.Ythkgjodidkpaeaa
open Go.RowKit

/-- the size in units of 10^-18 -/
def unit (c s : Nat) : Nat := c * 10 ^ (18 - s)
def sgn (an : Bool) (x : Nat) (bn : Bool) (y : Nat) : Bool := if an = bn then an else if y ≤ x then an else bn
def sab (an : Bool) (x : Nat) (bn : Bool) (y : Nat) : Nat := if an = bn then x + y else if y ≤ x then x - y else y - x
theorem sgn_scale (an bn : Bool) (x y k : Nat) (hk : 0 < k) : sgn an (x * k) bn (y * k) = sgn an x bn y := by
  unfold sgn
  have e : y * k ≤ x * k ↔ y ≤ x := Nat.mul_le_mul_right_iff hk
  simp only [e]
theorem sab_scale (an bn : Bool) (x y k : Nat) (hk : 0 < k) : sab an (x * k) bn (y * k) = sab an x bn y * k := by
  unfold sab
  have e : y * k ≤ x * k ↔ y ≤ x := Nat.mul_le_mul_right_iff hk
  simp only [e]
  split
  · rw [Nat.add_mul]
  · split <;> rw [Nat.sub_mul]
theorem unit_split (c s m : Nat) (h : s ≤ m) (h18 : m ≤ 18) : unit c s = c * 10 ^ (m - s) * 10 ^ (18 - m) := by
  unfold unit
  rw [Nat.mul_assoc, ← Nat.pow_add]; congr 2; omega
theorem unit_lt {c s : Nat} (h : c < B34) : unit c s < 10 ^ 52 := by
  unfold unit
  have h1 : c * 10 ^ (18 - s) ≤ c * 10 ^ 18 := Nat.mul_le_mul_left _ (Nat.pow_le_pow_right (by decide) (by omega))
  have h2 : c * 10 ^ 18 < B34 * 10 ^ 18 := Nat.mul_lt_mul_of_pos_right h (by decide)
  have h3 : B34 * 10 ^ 18 = 10 ^ 52 := by unfold B34; decide
  omega
theorem scaled_lt {c s m : Nat} (h : c < B34) (hm : m ≤ 18) : c * 10 ^ (m - s) < 10 ^ 52 := by
  have h1 : c * 10 ^ (m - s) ≤ c * 10 ^ 18 := Nat.mul_le_mul_left _ (Nat.pow_le_pow_right (by decide) (by omega))
  have h2 : c * 10 ^ 18 < B34 * 10 ^ 18 := Nat.mul_lt_mul_of_pos_right h (by decide)
  have h3 : B34 * 10 ^ 18 = 10 ^ 52 := by unfold B34; decide
  omega
theorem sab_le (an bn : Bool) (x y : Nat) : sab an x bn y ≤ x + y := by unfold sab; split; omega; split <;> omega
/-- a fraction of a power of ten, in other units -/
theorem fit_units (u m : Nat) (h : m ≤ 18) : FitC (u * 10 ^ (18 - m)) (10 ^ 18) = FitC u (10 ^ m) ∧ FitS (u * 10 ^ (18 - m)) (10 ^ 18) = FitS u (10 ^ m) ∧ FitE (u * 10 ^ (18 - m)) (10 ^ 18) = FitE u (10 ^ m) := by
  have e : 10 ^ 18 = 10 ^ m * 10 ^ (18 - m) := by rw [← Nat.pow_add]; congr 1; omega
  rw [e]
  exact fit_scale u (10 ^ m) (10 ^ (18 - m)) (Nat.pow_pos (by decide))
theorem sum_units (an bn : Bool) (ca cb sa sb m : Nat) (ha : sa ≤ m) (hb : sb ≤ m) (h : m ≤ 18) :
    sgn an (unit ca sa) bn (unit cb sb) = sgn an (ca * 10 ^ (m - sa)) bn (cb * 10 ^ (m - sb)) ∧ sab an (unit ca sa) bn (unit cb sb) = sab an (ca * 10 ^ (m - sa)) bn (cb * 10 ^ (m - sb)) * 10 ^ (18 - m) := by
  rw [unit_split ca sa m ha h, unit_split cb sb m hb h]
  have hp : 0 < 10 ^ (18 - m) := Nat.pow_pos (by decide)
  exact ⟨sgn_scale _ _ _ _ _ hp, sab_scale _ _ _ _ _ hp⟩
/-- the order -/
def ordD (an : Bool) (x : Nat) (bn : Bool) (y : Nat) : Int := if an = bn then (if an = true then cmpN y x else cmpN x y) else if an = true then -1 else 1
theorem cmpN_scale (x y k : Nat) (hk : 0 < k) : cmpN (x * k) (y * k) = cmpN x y := by
  unfold cmpN
  have e1 : x * k = y * k ↔ x = y := Nat.mul_left_inj (Nat.ne_of_gt hk)
  have e2 : x * k < y * k ↔ x < y := Nat.mul_lt_mul_right hk
  simp only [e1, e2]
theorem ordD_scale (an bn : Bool) (x y k : Nat) (hk : 0 < k) : ordD an (x * k) bn (y * k) = ordD an x bn y := by
  unfold ordD; rw [cmpN_scale _ _ _ hk, cmpN_scale _ _ _ hk]
theorem ord_units (an bn : Bool) (ca cb sa sb m : Nat) (ha : sa ≤ m) (hb : sb ≤ m) (h : m ≤ 18) :
    ordD an (unit ca sa) bn (unit cb sb) = ordD an (ca * 10 ^ (m - sa)) bn (cb * 10 ^ (m - sb)) := by
  rw [unit_split ca sa m ha h, unit_split cb sb m hb h]
  exact ordD_scale _ _ _ _ _ (Nat.pow_pos (by decide))
/-- the difference's sign is the order -/
theorem ord_sum (an bn : Bool) (x y : Nat) (ha : x = 0 → an = false) (hb : y = 0 → bn = false) :
    ordD an x bn y = if sab an x (!bn) y = 0 then 0 else if sgn an x (!bn) y = true then -1 else 1 := by
  cases an <;> cases bn <;> simp [ordD, sab, sgn, cmpN] at * <;> (repeat' split) <;> omega
end Go.Proofs.Ythkgjodidkpaeaa
