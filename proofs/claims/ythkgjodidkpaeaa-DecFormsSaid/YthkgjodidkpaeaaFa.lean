/- Plain: a decimal's coefficient and scale; a fraction fitted into a decimal. No program is in sight. -/
import Derived.Test.YthkgjodidkpaeaaWr
set_option linter.unusedSimpArgs false
set_option linter.unusedVariables false
namespace Go.Proofs.Ythkgjodidkpaeaa
open Go.RowKit

def B34 : Nat := 10 ^ 34
theorem B34_lt : B34 < 2 ^ 128 := by unfold B34; decide
theorem B34_pos : 0 < B34 := by unfold B34; decide
/-- c / 10^s without the noughts behind the point: the coefficient, the scale -/
def stripC : Nat → Nat → Nat
  | c, 0 => c
  | c, s + 1 => if c % 10 = 0 then stripC (c / 10) s else c
def stripS : Nat → Nat → Nat
  | _, 0 => 0
  | c, s + 1 => if c % 10 = 0 then stripS (c / 10) s else s + 1
theorem strip_ten (c s : Nat) : stripC (c * 10) (s + 1) = stripC c s ∧ stripS (c * 10) (s + 1) = stripS c s := by
  unfold stripC stripS
  rw [if_pos (Nat.mul_mod_left _ _), if_pos (Nat.mul_mod_left _ _), Nat.mul_div_cancel _ (by decide)]
  exact ⟨by cases s <;> rfl, by cases s <;> rfl⟩
theorem strip_pow (c s j : Nat) : stripC (c * 10 ^ j) (s + j) = stripC c s ∧ stripS (c * 10 ^ j) (s + j) = stripS c s := by
  induction j with
  | zero => rw [Nat.pow_zero, Nat.mul_one]; exact ⟨rfl, rfl⟩
  | succ j ih =>
    have h := strip_ten (c * 10 ^ j) (s + j)
    rw [Nat.pow_succ, ← Nat.mul_assoc]
    exact ⟨h.1.trans ih.1, h.2.trans ih.2⟩
theorem strip_nil (s : Nat) : stripC 0 s = 0 ∧ stripS 0 s = 0 := by
  induction s with
  | zero => exact ⟨rfl, rfl⟩
  | succ s ih => have h := strip_ten 0 s; exact ⟨h.1.trans ih.1, h.2.trans ih.2⟩
theorem strip_yes {c : Nat} (h : c % 10 = 0) (s : Nat) : stripC c (s + 1) = stripC (c / 10) s ∧ stripS c (s + 1) = stripS (c / 10) s := by
  have e : c = c / 10 * 10 := by omega
  have := strip_ten (c / 10) s
  rwa [← e] at this
theorem strip_no {c : Nat} (h : c % 10 ≠ 0) (s : Nat) : stripC c s = c ∧ stripS c s = s := by
  cases s with
  | zero => exact ⟨rfl, rfl⟩
  | succ s => unfold stripC stripS; rw [if_neg h, if_neg h]; exact ⟨rfl, rfl⟩
theorem strip_val (c s : Nat) : stripC c s * 10 ^ (s - stripS c s) = c ∧ stripS c s ≤ s := by
  induction s generalizing c with
  | zero => exact ⟨Nat.mul_one _, Nat.le_refl _⟩
  | succ s ih =>
    by_cases h : c % 10 = 0
    · rw [(strip_yes h s).1, (strip_yes h s).2]
      obtain ⟨h1, h2⟩ := ih (c / 10)
      refine ⟨?_, by omega⟩
      rw [show s + 1 - stripS (c / 10) s = s - stripS (c / 10) s + 1 by omega, Nat.pow_succ, ← Nat.mul_assoc, h1]
      omega
    · rw [(strip_no h _).1, (strip_no h _).2, Nat.sub_self]
      exact ⟨Nat.mul_one _, Nat.le_refl _⟩
theorem stripC_le (c s : Nat) : stripC c s ≤ c := by
  have h := (strip_val c s).1
  have hp : 0 < 10 ^ (s - stripS c s) := Nat.pow_pos (by decide)
  calc stripC c s ≤ stripC c s * 10 ^ (s - stripS c s) := Nat.le_mul_of_pos_right _ hp
    _ = c := h
theorem stripC_zero {c s : Nat} : stripC c s = 0 ↔ c = 0 := by
  constructor
  · intro h; have := (strip_val c s).1; rw [h, Nat.zero_mul] at this; exact this.symm
  · rintro rfl; exact (strip_nil s).1
theorem strip_end (c s : Nat) : stripS c s = 0 ∨ stripC c s % 10 ≠ 0 := by
  induction s generalizing c with
  | zero => exact .inl rfl
  | succ s ih =>
    by_cases h : c % 10 = 0
    · rw [(strip_yes h s).1, (strip_yes h s).2]; exact ih _
    · rw [(strip_no h _).1, (strip_no h _).2]; exact .inr h
/-- what Trim cuts off tells it -/
theorem strip_trim (T k s : Nat) (hT : T % 10 ≠ 0) : (k ≤ s → stripC (T * 10 ^ k) s = T ∧ stripS (T * 10 ^ k) s = s - k) ∧ (s ≤ k → stripC (T * 10 ^ k) s = T * 10 ^ (k - s) ∧ stripS (T * 10 ^ k) s = 0) := by
  constructor
  · intro h
    have e := strip_pow T (s - k) k
    rw [show s - k + k = s by omega] at e
    rw [e.1, e.2]
    exact strip_no hT _
  · intro h
    have e := strip_pow (T * 10 ^ (k - s)) 0 s
    rw [Nat.mul_assoc, ← Nat.pow_add, show k - s + s = k by omega, Nat.zero_add] at e
    exact e
theorem strip_fix {c s : Nat} (h : s = 0 ∨ c % 10 ≠ 0) : stripC c s = c ∧ stripS c s = s := by
  rcases h with rfl | h
  · exact ⟨rfl, rfl⟩
  · exact strip_no h s

/-- the sign of what may be nought -/
def sg (neg : Bool) (c : Nat) : Bool := neg && decide (c ≠ 0)
theorem sg_zero (neg : Bool) : sg neg 0 = false := by unfold sg; simp
theorem sg_pos {neg : Bool} {c : Nat} (h : c ≠ 0) : sg neg c = neg := by unfold sg; simp [h]
/-- is it in form? -/
def dform (neg : Bool) (c : Nat) (s : Int) : Bool := decide (c < B34) && (decide (0 ≤ s) && (decide (s ≤ 18) && (if c = 0 then !neg && decide (s = 0) else decide (s = 0) || decide (c % 10 ≠ 0))))
def DForm (neg : Bool) (c s : Nat) : Prop := c < B34 ∧ s ≤ 18 ∧ (c = 0 → neg = false ∧ s = 0) ∧ (s = 0 ∨ c % 10 ≠ 0)
theorem dform_iff (neg : Bool) (c : Nat) (s : Int) : dform neg c s = true ↔ ∃ t : Nat, s = (t : Int) ∧ DForm neg c t := by
  unfold dform DForm
  by_cases h0 : c = 0
  · subst h0
    simp only [Bool.and_eq_true, decide_eq_true_eq, if_pos]
    constructor
    · rintro ⟨h1, h2, h3, h4, h5⟩
      refine ⟨0, by omega, h1, by omega, fun _ => ⟨by simpa using h4, rfl⟩, .inl rfl⟩
    · rintro ⟨t, rfl, h1, h2, h3, h4⟩
      obtain ⟨h5, h6⟩ := h3 trivial
      subst h6
      simp [h5, h1]
  · simp only [Bool.and_eq_true, decide_eq_true_eq, if_neg h0, Bool.or_eq_true]
    constructor
    · rintro ⟨h1, h2, h3, h4⟩
      refine ⟨s.toNat, by omega, h1, by omega, fun h => absurd h h0, ?_⟩
      rcases h4 with h4 | h4
      · left; omega
      · right; exact h4
    · rintro ⟨t, rfl, h1, h2, h3, h4⟩
      refine ⟨h1, by omega, by omega, ?_⟩
      rcases h4 with h4 | h4
      · left; omega
      · right; exact h4

/-- the nearest -/
theorem near_scale (a b k : Nat) (hk : 0 < k) : near (a * k) (b * k) = near a b := by
  unfold near
  rw [Nat.mul_div_mul_right _ _ hk, Nat.mul_mod_mul_right]
  have e1 : 2 * (a % b * k) > b * k ↔ 2 * (a % b) > b := by
    rw [← Nat.mul_assoc]; exact Nat.mul_lt_mul_right hk
  have e2 : 2 * (a % b * k) = b * k ↔ 2 * (a % b) = b := by
    rw [← Nat.mul_assoc]; exact Nat.mul_left_inj (Nat.ne_of_gt hk)
  simp only [e1, e2]
theorem near_exact (q d : Nat) (hd : 0 < d) : near (q * d) d = q := by
  unfold near
  rw [Nat.mul_div_cancel _ hd, Nat.mul_mod_left]
  simp; omega
theorem near_pow (n s t : Nat) (h : s ≤ t) : near (n * 10 ^ s) (10 ^ t) = near n (10 ^ (t - s)) := by
  rw [show 10 ^ t = 10 ^ (t - s) * 10 ^ s by rw [← Nat.pow_add]; congr 1; omega]
  exact near_scale _ _ _ (Nat.pow_pos (by decide))
theorem near_high (n t j : Nat) : near (n * 10 ^ (t + j)) (10 ^ t) = n * 10 ^ j := by
  rw [Nat.pow_add, Nat.mul_comm (10 ^ t), ← Nat.mul_assoc]
  exact near_exact _ _ (Nat.pow_pos (by decide))

/-- n / d fitted, trying the scales below k -/
def fitK (n d : Nat) : Nat → Nat × Nat × Int
  | 0 => (0, 0, 3)
  | s + 1 => if near (n * 10 ^ s) d < B34 then (near (n * 10 ^ s) d, s, 0) else fitK n d s
def fin (r : Nat × Nat × Int) : Nat × Nat × Int := (stripC r.1 r.2.1, stripS r.1 r.2.1, r.2.2)
/-- nineteen, and nothing that the kernel counts out -/
def K19 (n : Nat) : Nat := 19 + 0 * n
theorem K19_eq (n : Nat) : K19 n = 19 := by unfold K19; omega
def FitC (n d : Nat) : Nat := (fin (fitK n d (K19 n))).1
def FitS (n d : Nat) : Nat := (fin (fitK n d (K19 n))).2.1
def FitE (n d : Nat) : Int := (fin (fitK n d (K19 n))).2.2
theorem fitK_yes {n d s : Nat} (h : near (n * 10 ^ s) d < B34) : fitK n d (s + 1) = (near (n * 10 ^ s) d, s, 0) := by rw [fitK, if_pos h]
theorem fitK_no {n d s : Nat} (h : ¬ near (n * 10 ^ s) d < B34) : fitK n d (s + 1) = fitK n d s := by rw [fitK, if_neg h]
theorem fitK_up (n t j : Nat) : fin (fitK n (10 ^ t) (t + j + 1)) = fin (fitK n (10 ^ t) (t + 1)) := by
  induction j with
  | zero => rfl
  | succ j ih =>
    have e := near_high n t (j + 1)
    have e0 := near_high n t 0
    rw [Nat.pow_zero, Nat.mul_one, Nat.add_zero] at e0
    by_cases h : near (n * 10 ^ (t + (j + 1))) (10 ^ t) < B34
    · have h0 : near (n * 10 ^ t) (10 ^ t) < B34 := by
        rw [e0]; rw [e] at h
        exact Nat.lt_of_le_of_lt (Nat.le_mul_of_pos_right _ (Nat.pow_pos (by decide))) h
      rw [fitK_yes h, fitK_yes h0, e, e0]
      have hs := strip_pow n t (j + 1)
      unfold fin
      simp only [hs.1, hs.2]
    · rw [fitK_no h]; exact ih
theorem fit_top (n t : Nat) (h : t ≤ 18) : fin (fitK n (10 ^ t) (K19 n)) = fin (fitK n (10 ^ t) (t + 1)) := by
  have e := fitK_up n t (18 - t)
  rwa [show t + (18 - t) + 1 = K19 n by rw [K19_eq]; omega] at e
theorem fitK_scale (n d k : Nat) (hk : 0 < k) (s : Nat) : fitK (n * k) (d * k) s = fitK n d s := by
  induction s with
  | zero => rfl
  | succ s ih =>
    have e : near (n * k * 10 ^ s) (d * k) = near (n * 10 ^ s) d := by
      rw [Nat.mul_right_comm]; exact near_scale _ _ _ hk
    rw [fitK, fitK, e, ih]
theorem fit_scale (n d k : Nat) (hk : 0 < k) : FitC (n * k) (d * k) = FitC n d ∧ FitS (n * k) (d * k) = FitS n d ∧ FitE (n * k) (d * k) = FitE n d := by
  unfold FitC FitS FitE
  rw [fitK_scale n d k hk, show K19 (n * k) = K19 n by rw [K19_eq, K19_eq]]
  exact ⟨rfl, rfl, rfl⟩
theorem fitK_lt (n d k : Nat) : (fitK n d k).1 < B34 ∧ ((fitK n d k).2.1 < k ∨ (fitK n d k).2.1 = 0) ∧ ((fitK n d k).2.2 = 0 ∨ ((fitK n d k).2.2 = 3 ∧ (fitK n d k).1 = 0)) := by
  induction k with
  | zero => exact ⟨B34_pos, .inr rfl, .inr ⟨rfl, rfl⟩⟩
  | succ s ih =>
    by_cases h : near (n * 10 ^ s) d < B34
    · rw [fitK_yes h]; exact ⟨h, .inl (Nat.lt_succ_self _), .inl rfl⟩
    · rw [fitK_no h]; exact ⟨ih.1, by omega, ih.2.2⟩
theorem fit_form (neg : Bool) (n d : Nat) : DForm (sg neg (FitC n d)) (FitC n d) (FitS n d) := by
  obtain ⟨h1, h2, _⟩ := fitK_lt n d (K19 n)
  have h19 := K19_eq n
  refine ⟨Nat.lt_of_le_of_lt (stripC_le _ _) h1, Nat.le_trans (strip_val _ _).2 (by omega), ?_, strip_end _ _⟩
  intro h0
  refine ⟨by rw [h0]; exact sg_zero neg, ?_⟩
  have hz : (fitK n d (K19 n)).1 = 0 := stripC_zero.1 h0
  show stripS (fitK n d (K19 n)).1 _ = 0
  rw [hz]; exact (strip_nil _).2
theorem fit_err (n d : Nat) : FitE n d = 0 ∨ (FitE n d = 3 ∧ FitC n d = 0 ∧ FitS n d = 0) := by
  obtain ⟨h1, h2, h3⟩ := fitK_lt n d (K19 n)
  rcases h3 with h3 | ⟨h3, h4⟩
  · exact .inl h3
  · refine .inr ⟨h3, ?_, ?_⟩
    · show stripC (fitK n d (K19 n)).1 _ = 0; rw [h4]; exact (strip_nil _).1
    · show stripS (fitK n d (K19 n)).1 _ = 0; rw [h4]; exact (strip_nil _).2
end Go.Proofs.Ythkgjodidkpaeaa
