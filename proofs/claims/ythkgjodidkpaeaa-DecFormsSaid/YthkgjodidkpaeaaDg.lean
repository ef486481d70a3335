/- Plain arithmetic of lists of decimal digits, the least first; no program is in sight. -/
import Init.Omega
set_option linter.unusedSimpArgs false
set_option linter.unusedVariables false
namespace Go.Proofs.Ythkgjodidkpaeaa

/-- a bound that is far out -/
def Small (n : Nat) : Prop := True → n < 10 ^ 1000
theorem Small.of_le {n m : Nat} (h : Small n) (hm : m ≤ n) : Small m := fun t => Nat.lt_of_le_of_lt hm (h t)
def dval : List Int → Int
  | [] => 0
  | d :: r => d + 10 * dval r
def Digs (l : List Int) : Prop := ∀ d ∈ l, 0 ≤ d ∧ d ≤ 9
def Top (l : List Int) : Prop := l.getLast? ≠ some 0
/-- l is the list of the digits of n, the least first, without noughts at the top. -/
def IsDg (l : List Int) (n : Nat) : Prop := Digs l ∧ Top l ∧ dval l = (n : Int)

theorem getD_lt (l : List Int) (k : Nat) (h : k < l.length) : l.getD k 0 = l[k] := by
  rw [List.getD_eq_getElem?_getD, List.getElem?_eq_getElem h]; rfl
theorem ten_mono {a b : Nat} (h : a ≤ b) : (10 : Int) ^ a ≤ 10 ^ b := by
  have := Nat.pow_le_pow_right (n := 10) (by decide) h
  exact_mod_cast this
theorem dval_append (a b : List Int) : dval (a ++ b) = dval a + 10 ^ a.length * dval b := by
  induction a with
  | nil => simp [dval]
  | cons d r ih =>
    simp only [List.cons_append, dval, ih, List.length_cons, Int.pow_succ]
    rw [Int.mul_add, Int.mul_comm (10 ^ r.length) 10, Int.mul_assoc]; omega
theorem dval_snoc (a : List Int) (x : Int) : dval (a ++ [x]) = dval a + 10 ^ a.length * x := by
  rw [dval_append]; simp [dval]
theorem ten_pos (k : Nat) : (0 : Int) < 10 ^ k := Int.pow_pos (by decide)
theorem Digs.nil : Digs [] := by intro d h; cases h
theorem Digs.snoc {a : List Int} {x : Int} (h : Digs a) (h0 : 0 ≤ x) (h1 : x ≤ 9) : Digs (a ++ [x]) := by
  intro d hd
  rcases List.mem_append.1 hd with hd | hd
  · exact h d hd
  · rw [List.mem_singleton.1 hd]; exact ⟨h0, h1⟩
theorem Digs.take {a : List Int} (h : Digs a) (k : Nat) : Digs (a.take k) := fun d hd => h d (List.mem_of_mem_take hd)
theorem Digs.drop {a : List Int} (h : Digs a) (k : Nat) : Digs (a.drop k) := fun d hd => h d (List.mem_of_mem_drop hd)
theorem Digs.append {a b : List Int} (h : Digs a) (h' : Digs b) : Digs (a ++ b) := by
  intro d hd
  rcases List.mem_append.1 hd with hd | hd
  · exact h d hd
  · exact h' d hd
theorem Digs.get {a : List Int} (h : Digs a) (k : Nat) : 0 ≤ a.getD k 0 ∧ a.getD k 0 ≤ 9 := by
  rw [List.getD_eq_getElem?_getD]
  rcases hk : a[k]? with _ | x
  · simp
  · exact h x (List.mem_of_getElem? hk)
theorem dval_bd {a : List Int} (h : Digs a) : 0 ≤ dval a ∧ dval a < 10 ^ a.length := by
  induction a with
  | nil => simp [dval]
  | cons d r ih =>
    have h1 := ih fun x hx => h x (List.mem_cons_of_mem _ hx)
    have h2 := h d List.mem_cons_self
    simp only [dval, List.length_cons, Int.pow_succ]
    omega
theorem take_snoc_int (l : List Int) (k : Nat) (h : k < l.length) : l.take (k + 1) = l.take k ++ [l.getD k 0] := by
  rw [List.take_succ_eq_append_getElem h, getD_lt _ _ h]
theorem dval_take_succ (l : List Int) (k : Nat) (h : k < l.length) : dval (l.take (k + 1)) = dval (l.take k) + 10 ^ k * l.getD k 0 := by
  rw [take_snoc_int l k h, dval_snoc, List.length_take, Nat.min_eq_left (by omega)]
theorem dval_drop (l : List Int) (k : Nat) (h : k < l.length) : dval (l.drop k) = l.getD k 0 + 10 * dval (l.drop (k + 1)) := by
  rw [List.drop_eq_getElem_cons h, getD_lt _ _ h]; rfl
theorem dval_replicate (k : Nat) : dval (List.replicate k 0) = 0 := by
  induction k with
  | zero => rfl
  | succ k ih => simp [List.replicate_succ, dval, ih]
theorem dval_zeros {l : List Int} (h : ∀ d ∈ l, d = 0) : dval l = 0 := by
  induction l with
  | nil => rfl
  | cons d r ih => simp only [dval, ih fun x hx => h x (List.mem_cons_of_mem _ hx), h d List.mem_cons_self]; rfl

/-- What is cut off at the top are noughts: the value stays. -/
theorem dval_take_zeros (l : List Int) (n : Nat) (h : ∀ i, n ≤ i → i < l.length → l.getD i 0 = 0) : dval (l.take n) = dval l := by
  have e := dval_append (l.take n) (l.drop n)
  rw [List.take_append_drop] at e
  rw [e, dval_zeros (l := l.drop n), Int.mul_zero, Int.add_zero]
  intro d hd
  obtain ⟨i, hi, rfl⟩ := List.getElem_of_mem hd
  rw [List.length_drop] at hi
  have := h (n + i) (by omega) (by omega)
  rw [getD_lt _ _ (by omega)] at this
  rw [List.getElem_drop]; exact this
theorem top_take (l : List Int) (n : Nat) (hn : n ≤ l.length) (h : n = 0 ∨ l.getD (n - 1) 0 ≠ 0) : Top (l.take n) := by
  rcases h with rfl | h
  · simp [Top]
  · by_cases h0 : n = 0
    · subst h0; simp [Top]
    · unfold Top
      rw [List.getLast?_eq_getElem?, List.length_take, Nat.min_eq_left hn, List.getElem?_take_of_lt (by omega), List.getElem?_eq_getElem (by omega)]
      rw [getD_lt _ _ (by omega)] at h
      intro e; exact h (by injection e)

theorem IsDg.len_le {l : List Int} {n k : Nat} (h : IsDg l n) (hn : n < 10 ^ k) : l.length ≤ k := by
  obtain ⟨hd, ht, hv⟩ := h
  rcases Nat.lt_or_ge k l.length with hk | hk
  · exfalso
    have hne : l ≠ [] := by intro e; subst e; simp at hk
    obtain ⟨i, x, rfl⟩ : ∃ i x, l = i ++ [x] := ⟨l.dropLast, l.getLast hne, (List.dropLast_concat_getLast hne).symm⟩
    have hx := hd x (by simp)
    have hx0 : x ≠ 0 := by intro e; subst e; exact ht (by simp)
    have hb := dval_bd (a := i) fun d hd' => hd d (by simp [hd'])
    rw [dval_snoc] at hv
    simp only [List.length_append, List.length_cons, List.length_nil] at hk
    have hp : (10 : Int) ^ k ≤ 10 ^ i.length := ten_mono (by omega)
    have hm : (10 : Int) ^ i.length * 1 ≤ 10 ^ i.length * x := Int.mul_le_mul_of_nonneg_left (by omega) (Int.le_of_lt (ten_pos _))
    have hn' : (n : Int) < 10 ^ k := by exact_mod_cast hn
    omega
  · exact hk
theorem IsDg.lt_of_len {l : List Int} {n k : Nat} (h : IsDg l n) (hk : l.length ≤ k) : n < 10 ^ k := by
  obtain ⟨hd, _, hv⟩ := h
  have hb := dval_bd hd
  have hp : (10 : Int) ^ l.length ≤ 10 ^ k := ten_mono hk
  have : (n : Int) < 10 ^ k := by omega
  exact_mod_cast this
theorem IsDg.nil : IsDg [] 0 := ⟨Digs.nil, by simp [Top], rfl⟩
theorem IsDg.zero_iff {l : List Int} {n : Nat} (h : IsDg l n) : l.length = 0 ↔ n = 0 := by
  constructor
  · intro h0
    have := h.lt_of_len (k := 0) (by omega)
    simpa using this
  · intro h0; subst h0
    have := h.len_le (k := 0) (by simp)
    omega
theorem IsDg.get {l : List Int} {n : Nat} (h : IsDg l n) (k : Nat) : 0 ≤ l.getD k 0 ∧ l.getD k 0 ≤ 9 := h.1.get k
/-- The digit at a place, as a number. -/
theorem dval_digit {l : List Int} (h : Digs l) (k : Nat) (hk : k < l.length) : l.getD k 0 = dval l / 10 ^ k % 10 := by
  have e := dval_append (l.take k) (l.drop k)
  rw [List.take_append_drop, List.length_take, Nat.min_eq_left (by omega), dval_drop l k hk] at e
  have hb := dval_bd (h.take k)
  rw [List.length_take, Nat.min_eq_left (by omega)] at hb
  have hp := ten_pos k
  have hg := h.get k
  have : dval l / 10 ^ k = l.getD k 0 + 10 * dval (l.drop (k + 1)) := by
    rw [e, Int.add_mul_ediv_left _ _ (by omega), Int.ediv_eq_zero_of_lt hb.1 hb.2, Int.zero_add]
  rw [this]; omega
theorem IsDg.le_of_ne {l : List Int} {n : Nat} (h : IsDg l n) (hne : l ≠ []) : 10 ^ (l.length - 1) ≤ n := by
  rcases Nat.lt_or_ge n (10 ^ (l.length - 1)) with hlt | hge
  · have := h.len_le hlt
    have : l.length ≠ 0 := fun e => hne (List.length_eq_zero_iff.1 e)
    omega
  · exact hge
theorem top_of_val {l : List Int} (hd : Digs l) (h : l = [] ∨ (10 : Int) ^ (l.length - 1) ≤ dval l) : Top l := by
  rcases h with rfl | h
  · simp [Top]
  · by_cases hne : l = []
    · subst hne; simp [Top]
    · obtain ⟨i, x, rfl⟩ : ∃ i x, l = i ++ [x] := ⟨l.dropLast, l.getLast hne, (List.dropLast_concat_getLast hne).symm⟩
      have hb := dval_bd (a := i) fun d hd' => hd d (by simp [hd'])
      rw [dval_snoc] at h
      simp only [List.length_append, List.length_cons, List.length_nil, Nat.add_sub_cancel] at h
      unfold Top
      intro e
      have hx : x = 0 := by simpa using e
      subst hx
      omega
theorem Digs.set_ {l : List Int} (h : Digs l) (k : Nat) {x : Int} (h0 : 0 ≤ x) (h1 : x ≤ 9) : Digs (l.set k x) := by
  intro d hd
  rcases List.mem_or_eq_of_mem_set hd with hd | rfl
  · exact h d hd
  · exact ⟨h0, h1⟩
theorem Digs.zeros (n : Nat) : Digs (List.replicate n 0) := by
  intro d hd
  rw [List.eq_of_mem_replicate hd]
  decide
theorem drop_set (l : List Int) (k : Nat) (x : Int) (h : k < l.length) : (l.set k x).drop k = x :: l.drop (k + 1) := by
  rw [List.drop_eq_getElem_cons (by simpa using h), List.drop_set_of_lt (by omega)]
  simp
theorem carry_step (P s : Int) : P * (s % 10) + P * 10 * (s / 10) = P * s := by
  rw [Int.mul_assoc, ← Int.mul_add, Int.emod_add_mul_ediv]
/-- Digits of one number are one list. -/
theorem IsDg.uniq {a b : List Int} {n : Nat} (ha : IsDg a n) (hb : IsDg b n) : a = b := by
  induction a generalizing b n with
  | nil =>
    have : n = 0 := ha.zero_iff.1 rfl
    subst this
    exact (List.length_eq_zero_iff.1 (hb.zero_iff.2 rfl)).symm
  | cons d r ih =>
    cases b with
    | nil =>
      have : n = 0 := hb.zero_iff.1 rfl
      subst this
      exact List.length_eq_zero_iff.1 (ha.zero_iff.2 rfl)
    | cons e s =>
      have hd := ha.1 d List.mem_cons_self
      have he := hb.1 e List.mem_cons_self
      have h1 := ha.2.2
      have h2 := hb.2.2
      simp only [dval] at h1 h2
      have hr := dval_bd (a := r) fun x hx => ha.1 x (List.mem_cons_of_mem _ hx)
      have hs := dval_bd (a := s) fun x hx => hb.1 x (List.mem_cons_of_mem _ hx)
      have hde : d = e := by omega
      have hrs : dval r = dval s := by omega
      subst hde
      have key : ∀ q : List Int, Top (d :: q) → Top q := by
        intro q hq
        cases q with
        | nil => simp [Top]
        | cons x y => simpa [Top] using hq
      rw [ih (n := (dval r).toNat) ⟨fun x hx => ha.1 x (List.mem_cons_of_mem _ hx), key r ha.2.1, by omega⟩ ⟨fun x hx => hb.1 x (List.mem_cons_of_mem _ hx), key s hb.2.1, by omega⟩]
end Go.Proofs.Ythkgjodidkpaeaa
