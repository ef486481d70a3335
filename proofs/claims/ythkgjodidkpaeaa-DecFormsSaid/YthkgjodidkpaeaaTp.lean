/- The decimal text of a number: plain. -/
import Derived.Test.YthkgjodidkpaeaaDg
set_option linter.unusedSimpArgs false
set_option linter.unusedVariables false
namespace Go.Proofs.Ythkgjodidkpaeaa

def tch (N k : Nat) : Nat := 48 + N / 10 ^ k % 10
def txl (N L : Nat) : List UInt8 := (List.range L).map fun i => UInt8.ofNat (tch N (L - 1 - i))
def txt (N L : Nat) : ByteArray := ⟨(txl N L).toArray⟩
/-- L is how many digits N has, one at least -/
def IsNd (N L : Nat) : Prop := 1 ≤ L ∧ N < 10 ^ L ∧ (L = 1 ∨ 10 ^ (L - 1) ≤ N)
theorem tch_lt (N k : Nat) : tch N k < 58 := by unfold tch; omega
theorem tch_ge (N k : Nat) : 48 ≤ tch N k := by unfold tch; omega
theorem txl_length (N L : Nat) : (txl N L).length = L := by simp [txl]
theorem txl_get (N L j : Nat) (h : j < (txl N L).length) : (txl N L)[j].toNat = tch N (L - 1 - j) := by
  have := tch_lt N (L - 1 - j)
  simp only [txl, List.getElem_map, List.getElem_range]
  rw [UInt8.toNat_ofNat']
  omega
theorem pow_mono10 {a b : Nat} (h : a ≤ b) : (10 : Nat) ^ a ≤ 10 ^ b := Nat.pow_le_pow_right (by decide) h
theorem pow_lt10 {a b : Nat} (h : (10 : Nat) ^ a < 10 ^ b) : a < b := (Nat.pow_lt_pow_iff_right (by decide)).1 h
theorem IsNd.le {N L M : Nat} (h : IsNd N L) (hM : 1 ≤ M) (hN : N < 10 ^ M) : L ≤ M := by
  obtain ⟨h1, h2, h3⟩ := h
  rcases h3 with h3 | h3
  · omega
  · have := pow_lt10 (Nat.lt_of_le_of_lt h3 hN)
    omega
theorem IsNd.uniq {N L M : Nat} (h : IsNd N L) (h' : IsNd N M) : L = M :=
  Nat.le_antisymm (h.le h'.1 h'.2.1) (h'.le h.1 h.2.1)
theorem nd_upto (N k : Nat) (h : N < 10 ^ k) : ∃ L, IsNd N L := by
  induction k with
  | zero => exact ⟨1, by omega, by simp at h; omega, .inl rfl⟩
  | succ k ih =>
    by_cases hk : N < 10 ^ k
    · exact ih hk
    · exact ⟨k + 1, by omega, h, .inr (by rw [Nat.add_sub_cancel]; omega)⟩
theorem nd_128 {N : Nat} (h : N < 2 ^ 128) : ∃ L, IsNd N L ∧ L ≤ 39 := by
  have h1 : N < 10 ^ 39 := Nat.lt_trans h (by decide)
  obtain ⟨L, hL⟩ := nd_upto N 39 h1
  exact ⟨L, hL, hL.le (by decide) h1⟩
theorem nd_of_dg {l : List Int} {N : Nat} (h : IsDg l N) : IsNd N (max l.length 1) := by
  have h1 := h.lt_of_len (Nat.le_refl _)
  by_cases h0 : l = []
  · subst h0
    have := h.zero_iff.1 rfl
    subst this
    exact ⟨by decide, by decide, .inl rfl⟩
  · have h2 := h.le_of_ne h0
    have h3 : 0 < l.length := List.length_pos_iff.2 h0
    rw [Nat.max_eq_left (by omega)]
    exact ⟨by omega, h1, .inr h2⟩
/-- when the quotient comes to nought -/
theorem nd_stop {N L t : Nat} (h : IsNd N L) (ht : t < L) : N / 10 ^ (t + 1) = 0 ↔ t + 1 = L := by
  obtain ⟨h1, h2, h3⟩ := h
  constructor
  · intro h0
    by_cases hlt : t + 1 < L
    · rcases h3 with h3 | h3
      · omega
      · exfalso
        have h4 : 10 ^ (t + 1) ≤ N := Nat.le_trans (pow_mono10 (by omega)) h3
        have h5 := Nat.div_pos h4 (Nat.pow_pos (by decide))
        omega
    · omega
  · rintro rfl
    exact Nat.div_eq_of_lt h2
/-- the number that bytes tell -/
def dvb : List UInt8 → Nat → Nat
  | [], a => a
  | c :: r, a => dvb r (a * 10 + (c.toNat - 48))
theorem dvb_append (l : List UInt8) (c : UInt8) (a : Nat) : dvb (l ++ [c]) a = dvb l a * 10 + (c.toNat - 48) := by
  induction l generalizing a with
  | nil => rfl
  | cons d r ih => exact ih _
theorem dvb_ge (l : List UInt8) (a b : Nat) (h : a ≤ b) : dvb l a ≤ dvb l b := by
  induction l generalizing a b with
  | nil => exact h
  | cons d r ih => exact ih _ _ (by omega)
theorem dvb_from (l : List UInt8) (a : Nat) : a ≤ dvb l a := by
  induction l generalizing a with
  | nil => exact Nat.le_refl _
  | cons d r ih => exact Nat.le_trans (by omega) (ih (a * 10 + (d.toNat - 48)))
theorem dvb_split (l m : List UInt8) (a : Nat) : dvb (l ++ m) a = dvb m (dvb l a) := by
  induction l generalizing a with
  | nil => rfl
  | cons d r ih => exact ih _
theorem dvb_low (l : List UInt8) (a k : Nat) (ha : 10 ^ k ≤ a) : 10 ^ (k + l.length) ≤ dvb l a := by
  induction l generalizing a k with
  | nil => simpa [dvb] using ha
  | cons d r ih =>
    have := ih (a * 10 + (d.toNat - 48)) (k + 1) (by rw [Nat.pow_succ]; omega)
    rw [List.length_cons, show k + (r.length + 1) = k + 1 + r.length by omega]
    exact this
theorem dvb_txl (N L : Nat) (h : N < 10 ^ L) : dvb (txl N L) 0 = N := by
  have key : ∀ k, k ≤ L → dvb ((txl N L).take k) 0 = N / 10 ^ (L - k) := by
    intro k
    induction k with
    | zero => intro _; rw [List.take_zero, Nat.sub_zero, Nat.div_eq_of_lt h]; rfl
    | succ k ih =>
      intro hk
      have hl : k < (txl N L).length := by rw [txl_length]; omega
      rw [List.take_succ_eq_append_getElem hl, dvb_append, ih (by omega), txl_get]
      unfold tch
      have e1 : L - k = L - 1 - k + 1 := by omega
      have e2 : L - (k + 1) = L - 1 - k := by omega
      rw [e1, e2, Nat.pow_succ, ← Nat.div_div_eq_div_mul]
      omega
  have := key L (Nat.le_refl _)
  rw [Nat.sub_self, Nat.pow_zero, Nat.div_one] at this
  rwa [List.take_of_length_le (by rw [txl_length]; exact Nat.le_refl _)] at this
def isD (c : UInt8) : Bool := decide (48 ≤ c.toNat ∧ c.toNat ≤ 57)
/-- a text of a number: digits alone, one at least, no nought ahead of others -/
def okB (l : List UInt8) : Bool := decide (l ≠ []) && (decide (l.length ≤ 1) || decide ((l.headD 0).toNat ≠ 48)) && l.all isD
theorem txl_digits (N L : Nat) : (txl N L).all isD = true := by
  rw [List.all_eq_true]
  intro c hc
  obtain ⟨j, hj, rfl⟩ := List.getElem_of_mem hc
  have := txl_get N L j hj
  have h1 := tch_lt N (L - 1 - j)
  have h2 := tch_ge N (L - 1 - j)
  unfold isD
  simp; omega
theorem txl_ok {N L : Nat} (h : IsNd N L) : okB (txl N L) = true := by
  have hl := txl_length N L
  obtain ⟨h1, h2, h3⟩ := h
  have hne : txl N L ≠ [] := by intro e; rw [e] at hl; simp at hl; omega
  unfold okB
  rw [txl_digits, Bool.and_true, Bool.and_eq_true]
  refine ⟨by simpa using hne, ?_⟩
  rw [Bool.or_eq_true, hl]
  rcases h3 with h3 | h3
  · left; simp; omega
  · by_cases hL : L ≤ 1
    · left; simpa using hL
    · right
      have e : (txl N L).headD 0 = (txl N L)[0]'(by rw [hl]; omega) := by
        have key : ∀ (l : List UInt8) (hl : 0 < l.length), l.headD 0 = l[0] := by
          intro l hl
          cases l with
          | nil => cases hl
          | cons a r => rfl
        exact key _ _
      rw [e, txl_get, Nat.sub_zero]
      have h4 : 1 ≤ N / 10 ^ (L - 1) := Nat.div_pos h3 (Nat.pow_pos (by decide))
      have h5 : N / 10 ^ (L - 1) < 10 := by
        refine Nat.div_lt_of_lt_mul ?_
        rw [← Nat.pow_succ, show (L - 1).succ = L by omega]; exact h2
      unfold tch
      simp; omega
end Go.Proofs.Ythkgjodidkpaeaa
