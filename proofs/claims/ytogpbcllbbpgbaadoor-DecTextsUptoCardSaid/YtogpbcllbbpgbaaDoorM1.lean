/- The contracts of the functions that the law reaches, part 1: what each returns and what becomes of memory. -/
import Init.Omega
import Derived.Test.YtogpbcllbbpgbaaDoorRows
import Derived.WalkKit
import Derived.WalkSpells
import Derived.WalkLawsBesides
import Derived.Handy
import Derived.Lib.Hide
import Derived.BigQuiet
import Derived.Deep.QuietTactic
import Derived.Deep.LoopGhost
import Derived.Deep.RegionHeld3
import Derived.Deep.OwnRows
import Derived.RegionTactic
import Derived.ChangeAlike
import Derived.ChangeKeysEq
import Derived.ProofKit
import Derived.OpenShut
import Derived.Lib.SmallJoins
import Derived.Laws.IdiomArrays
set_option linter.unusedSimpArgs false
set_option linter.unusedVariables false
namespace Go.Proofs.YtogpbcllbbpgbaaDoor

/-- a bound that is far out -/
def Small (n : Nat) : Prop := True → n < 10 ^ 1000
theorem Small.of_le {n m : Nat} (h : Small n) (hm : m ≤ n) : Small m := fun t => Nat.lt_of_le_of_lt hm (h t)
def dval : List Int → Int
  | [] => 0
  | d :: r => d + 10 * dval r
def Digs (l : List Int) : Prop := ∀ d ∈ l, 0 ≤ d ∧ d ≤ 9
def Top (l : List Int) : Prop := l.getLast? ≠ some 0
/-- l is the list of the digits of n, the least first, without noughts at the top. -/
def IsDg (l : List Int) (n : Nat) : Prop := Digs l ∧ Top l ∧ dval l = (n : Int)

theorem getD_lt (l : List Int) (k : Nat) (h : k < l.length) : l.getD k 0 = l[k] := by
  rw [List.getD_eq_getElem?_getD, List.getElem?_eq_getElem h]; rfl
theorem ten_mono {a b : Nat} (h : a ≤ b) : (10 : Int) ^ a ≤ 10 ^ b := by
  have := Nat.pow_le_pow_right (n := 10) (by decide) h
  exact_mod_cast this
theorem dval_append (a b : List Int) : dval (a ++ b) = dval a + 10 ^ a.length * dval b := by
  induction a with
  | nil => simp [dval]
  | cons d r ih =>
    simp only [List.cons_append, dval, ih, List.length_cons, Int.pow_succ]
    rw [Int.mul_add, Int.mul_comm (10 ^ r.length) 10, Int.mul_assoc]; omega
theorem dval_snoc (a : List Int) (x : Int) : dval (a ++ [x]) = dval a + 10 ^ a.length * x := by
  rw [dval_append]; simp [dval]
theorem ten_pos (k : Nat) : (0 : Int) < 10 ^ k := Int.pow_pos (by decide)
theorem Digs.nil : Digs [] := by intro d h; cases h
theorem Digs.snoc {a : List Int} {x : Int} (h : Digs a) (h0 : 0 ≤ x) (h1 : x ≤ 9) : Digs (a ++ [x]) := by
  intro d hd
  rcases List.mem_append.1 hd with hd | hd
  · exact h d hd
  · rw [List.mem_singleton.1 hd]; exact ⟨h0, h1⟩
theorem Digs.take {a : List Int} (h : Digs a) (k : Nat) : Digs (a.take k) := fun d hd => h d (List.mem_of_mem_take hd)
theorem Digs.drop {a : List Int} (h : Digs a) (k : Nat) : Digs (a.drop k) := fun d hd => h d (List.mem_of_mem_drop hd)
theorem Digs.append {a b : List Int} (h : Digs a) (h' : Digs b) : Digs (a ++ b) := by
  intro d hd
  rcases List.mem_append.1 hd with hd | hd
  · exact h d hd
  · exact h' d hd
theorem Digs.get {a : List Int} (h : Digs a) (k : Nat) : 0 ≤ a.getD k 0 ∧ a.getD k 0 ≤ 9 := by
  rw [List.getD_eq_getElem?_getD]
  rcases hk : a[k]? with _ | x
  · simp
  · exact h x (List.mem_of_getElem? hk)
theorem dval_bd {a : List Int} (h : Digs a) : 0 ≤ dval a ∧ dval a < 10 ^ a.length := by
  induction a with
  | nil => simp [dval]
  | cons d r ih =>
    have h1 := ih fun x hx => h x (List.mem_cons_of_mem _ hx)
    have h2 := h d List.mem_cons_self
    simp only [dval, List.length_cons, Int.pow_succ]
    omega
theorem take_snoc_int (l : List Int) (k : Nat) (h : k < l.length) : l.take (k + 1) = l.take k ++ [l.getD k 0] := by
  rw [List.take_succ_eq_append_getElem h, getD_lt _ _ h]
theorem dval_take_succ (l : List Int) (k : Nat) (h : k < l.length) : dval (l.take (k + 1)) = dval (l.take k) + 10 ^ k * l.getD k 0 := by
  rw [take_snoc_int l k h, dval_snoc, List.length_take, Nat.min_eq_left (by omega)]
theorem dval_drop (l : List Int) (k : Nat) (h : k < l.length) : dval (l.drop k) = l.getD k 0 + 10 * dval (l.drop (k + 1)) := by
  rw [List.drop_eq_getElem_cons h, getD_lt _ _ h]; rfl
theorem dval_replicate (k : Nat) : dval (List.replicate k 0) = 0 := by
  induction k with
  | zero => rfl
  | succ k ih => simp [List.replicate_succ, dval, ih]
theorem dval_zeros {l : List Int} (h : ∀ d ∈ l, d = 0) : dval l = 0 := by
  induction l with
  | nil => rfl
  | cons d r ih => simp only [dval, ih fun x hx => h x (List.mem_cons_of_mem _ hx), h d List.mem_cons_self]; rfl

/-- What is cut off at the top are noughts: the value stays. -/
theorem dval_take_zeros (l : List Int) (n : Nat) (h : ∀ i, n ≤ i → i < l.length → l.getD i 0 = 0) : dval (l.take n) = dval l := by
  have e := dval_append (l.take n) (l.drop n)
  rw [List.take_append_drop] at e
  rw [e, dval_zeros (l := l.drop n), Int.mul_zero, Int.add_zero]
  intro d hd
  obtain ⟨i, hi, rfl⟩ := List.getElem_of_mem hd
  rw [List.length_drop] at hi
  have := h (n + i) (by omega) (by omega)
  rw [getD_lt _ _ (by omega)] at this
  rw [List.getElem_drop]; exact this
theorem top_take (l : List Int) (n : Nat) (hn : n ≤ l.length) (h : n = 0 ∨ l.getD (n - 1) 0 ≠ 0) : Top (l.take n) := by
  rcases h with rfl | h
  · simp [Top]
  · by_cases h0 : n = 0
    · subst h0; simp [Top]
    · unfold Top
      rw [List.getLast?_eq_getElem?, List.length_take, Nat.min_eq_left hn, List.getElem?_take_of_lt (by omega), List.getElem?_eq_getElem (by omega)]
      rw [getD_lt _ _ (by omega)] at h
      intro e; exact h (by injection e)

theorem IsDg.len_le {l : List Int} {n k : Nat} (h : IsDg l n) (hn : n < 10 ^ k) : l.length ≤ k := by
  obtain ⟨hd, ht, hv⟩ := h
  rcases Nat.lt_or_ge k l.length with hk | hk
  · exfalso
    have hne : l ≠ [] := by intro e; subst e; simp at hk
    obtain ⟨i, x, rfl⟩ : ∃ i x, l = i ++ [x] := ⟨l.dropLast, l.getLast hne, (List.dropLast_concat_getLast hne).symm⟩
    have hx := hd x (by simp)
    have hx0 : x ≠ 0 := by intro e; subst e; exact ht (by simp)
    have hb := dval_bd (a := i) fun d hd' => hd d (by simp [hd'])
    rw [dval_snoc] at hv
    simp only [List.length_append, List.length_cons, List.length_nil] at hk
    have hp : (10 : Int) ^ k ≤ 10 ^ i.length := ten_mono (by omega)
    have hm : (10 : Int) ^ i.length * 1 ≤ 10 ^ i.length * x := Int.mul_le_mul_of_nonneg_left (by omega) (Int.le_of_lt (ten_pos _))
    have hn' : (n : Int) < 10 ^ k := by exact_mod_cast hn
    omega
  · exact hk
theorem IsDg.lt_of_len {l : List Int} {n k : Nat} (h : IsDg l n) (hk : l.length ≤ k) : n < 10 ^ k := by
  obtain ⟨hd, _, hv⟩ := h
  have hb := dval_bd hd
  have hp : (10 : Int) ^ l.length ≤ 10 ^ k := ten_mono hk
  have : (n : Int) < 10 ^ k := by omega
  exact_mod_cast this
theorem IsDg.nil : IsDg [] 0 := ⟨Digs.nil, by simp [Top], rfl⟩
theorem IsDg.zero_iff {l : List Int} {n : Nat} (h : IsDg l n) : l.length = 0 ↔ n = 0 := by
  constructor
  · intro h0
    have := h.lt_of_len (k := 0) (by omega)
    simpa using this
  · intro h0; subst h0
    have := h.len_le (k := 0) (by simp)
    omega
theorem IsDg.get {l : List Int} {n : Nat} (h : IsDg l n) (k : Nat) : 0 ≤ l.getD k 0 ∧ l.getD k 0 ≤ 9 := h.1.get k
/-- The digit at a place, as a number. -/
theorem dval_digit {l : List Int} (h : Digs l) (k : Nat) (hk : k < l.length) : l.getD k 0 = dval l / 10 ^ k % 10 := by
  have e := dval_append (l.take k) (l.drop k)
  rw [List.take_append_drop, List.length_take, Nat.min_eq_left (by omega), dval_drop l k hk] at e
  have hb := dval_bd (h.take k)
  rw [List.length_take, Nat.min_eq_left (by omega)] at hb
  have hp := ten_pos k
  have hg := h.get k
  have : dval l / 10 ^ k = l.getD k 0 + 10 * dval (l.drop (k + 1)) := by
    rw [e, Int.add_mul_ediv_left _ _ (by omega), Int.ediv_eq_zero_of_lt hb.1 hb.2, Int.zero_add]
  rw [this]; omega
theorem IsDg.le_of_ne {l : List Int} {n : Nat} (h : IsDg l n) (hne : l ≠ []) : 10 ^ (l.length - 1) ≤ n := by
  rcases Nat.lt_or_ge n (10 ^ (l.length - 1)) with hlt | hge
  · have := h.len_le hlt
    have : l.length ≠ 0 := fun e => hne (List.length_eq_zero_iff.1 e)
    omega
  · exact hge
theorem top_of_val {l : List Int} (hd : Digs l) (h : l = [] ∨ (10 : Int) ^ (l.length - 1) ≤ dval l) : Top l := by
  rcases h with rfl | h
  · simp [Top]
  · by_cases hne : l = []
    · subst hne; simp [Top]
    · obtain ⟨i, x, rfl⟩ : ∃ i x, l = i ++ [x] := ⟨l.dropLast, l.getLast hne, (List.dropLast_concat_getLast hne).symm⟩
      have hb := dval_bd (a := i) fun d hd' => hd d (by simp [hd'])
      rw [dval_snoc] at h
      simp only [List.length_append, List.length_cons, List.length_nil, Nat.add_sub_cancel] at h
      unfold Top
      intro e
      have hx : x = 0 := by simpa using e
      subst hx
      omega
theorem Digs.set_ {l : List Int} (h : Digs l) (k : Nat) {x : Int} (h0 : 0 ≤ x) (h1 : x ≤ 9) : Digs (l.set k x) := by
  intro d hd
  rcases List.mem_or_eq_of_mem_set hd with hd | rfl
  · exact h d hd
  · exact ⟨h0, h1⟩
theorem Digs.zeros (n : Nat) : Digs (List.replicate n 0) := by
  intro d hd
  rw [List.eq_of_mem_replicate hd]
  decide
theorem drop_set (l : List Int) (k : Nat) (x : Int) (h : k < l.length) : (l.set k x).drop k = x :: l.drop (k + 1) := by
  rw [List.drop_eq_getElem_cons (by simpa using h), List.drop_set_of_lt (by omega)]
  simp
theorem carry_step (P s : Int) : P * (s % 10) + P * 10 * (s / 10) = P * s := by
  rw [Int.mul_assoc, ← Int.mul_add, Int.emod_add_mul_ediv]
/-- Digits of one number are one list. -/
theorem IsDg.uniq {a b : List Int} {n : Nat} (ha : IsDg a n) (hb : IsDg b n) : a = b := by
  induction a generalizing b n with
  | nil =>
    have : n = 0 := ha.zero_iff.1 rfl
    subst this
    exact (List.length_eq_zero_iff.1 (hb.zero_iff.2 rfl)).symm
  | cons d r ih =>
    cases b with
    | nil =>
      have : n = 0 := hb.zero_iff.1 rfl
      subst this
      exact List.length_eq_zero_iff.1 (ha.zero_iff.2 rfl)
    | cons e s =>
      have hd := ha.1 d List.mem_cons_self
      have he := hb.1 e List.mem_cons_self
      have h1 := ha.2.2
      have h2 := hb.2.2
      simp only [dval] at h1 h2
      have hr := dval_bd (a := r) fun x hx => ha.1 x (List.mem_cons_of_mem _ hx)
      have hs := dval_bd (a := s) fun x hx => hb.1 x (List.mem_cons_of_mem _ hx)
      have hde : d = e := by omega
      have hrs : dval r = dval s := by omega
      subst hde
      have key : ∀ q : List Int, Top (d :: q) → Top q := by
        intro q hq
        cases q with
        | nil => simp [Top]
        | cons x y => simpa [Top] using hq
      rw [ih (n := (dval r).toNat) ⟨fun x hx => ha.1 x (List.mem_cons_of_mem _ hx), key r ha.2.1, by omega⟩ ⟨fun x hx => hb.1 x (List.mem_cons_of_mem _ hx), key s hb.2.1, by omega⟩]
end Go.Proofs.YtogpbcllbbpgbaaDoor

set_option linter.unusedSimpArgs false
set_option linter.unusedVariables false
namespace Go.Proofs.YtogpbcllbbpgbaaDoor

def tch (N k : Nat) : Nat := 48 + N / 10 ^ k % 10
def txl (N L : Nat) : List UInt8 := (List.range L).map fun i => UInt8.ofNat (tch N (L - 1 - i))
def txt (N L : Nat) : ByteArray := ⟨(txl N L).toArray⟩
/-- L is how many digits N has, one at least -/
def IsNd (N L : Nat) : Prop := 1 ≤ L ∧ N < 10 ^ L ∧ (L = 1 ∨ 10 ^ (L - 1) ≤ N)
theorem tch_lt (N k : Nat) : tch N k < 58 := by unfold tch; omega
theorem tch_ge (N k : Nat) : 48 ≤ tch N k := by unfold tch; omega
theorem txl_length (N L : Nat) : (txl N L).length = L := by simp [txl]
theorem txl_get (N L j : Nat) (h : j < (txl N L).length) : (txl N L)[j].toNat = tch N (L - 1 - j) := by
  have := tch_lt N (L - 1 - j)
  simp only [txl, List.getElem_map, List.getElem_range]
  rw [UInt8.toNat_ofNat']
  omega
theorem pow_mono10 {a b : Nat} (h : a ≤ b) : (10 : Nat) ^ a ≤ 10 ^ b := Nat.pow_le_pow_right (by decide) h
theorem pow_lt10 {a b : Nat} (h : (10 : Nat) ^ a < 10 ^ b) : a < b := (Nat.pow_lt_pow_iff_right (by decide)).1 h
theorem IsNd.le {N L M : Nat} (h : IsNd N L) (hM : 1 ≤ M) (hN : N < 10 ^ M) : L ≤ M := by
  obtain ⟨h1, h2, h3⟩ := h
  rcases h3 with h3 | h3
  · omega
  · have := pow_lt10 (Nat.lt_of_le_of_lt h3 hN)
    omega
theorem IsNd.uniq {N L M : Nat} (h : IsNd N L) (h' : IsNd N M) : L = M :=
  Nat.le_antisymm (h.le h'.1 h'.2.1) (h'.le h.1 h.2.1)
theorem nd_upto (N k : Nat) (h : N < 10 ^ k) : ∃ L, IsNd N L := by
  induction k with
  | zero => exact ⟨1, by omega, by simp at h; omega, .inl rfl⟩
  | succ k ih =>
    by_cases hk : N < 10 ^ k
    · exact ih hk
    · exact ⟨k + 1, by omega, h, .inr (by rw [Nat.add_sub_cancel]; omega)⟩
theorem nd_128 {N : Nat} (h : N < 2 ^ 128) : ∃ L, IsNd N L ∧ L ≤ 39 := by
  have h1 : N < 10 ^ 39 := Nat.lt_trans h (by decide)
  obtain ⟨L, hL⟩ := nd_upto N 39 h1
  exact ⟨L, hL, hL.le (by decide) h1⟩
theorem nd_of_dg {l : List Int} {N : Nat} (h : IsDg l N) : IsNd N (max l.length 1) := by
  have h1 := h.lt_of_len (Nat.le_refl _)
  by_cases h0 : l = []
  · subst h0
    have := h.zero_iff.1 rfl
    subst this
    exact ⟨by decide, by decide, .inl rfl⟩
  · have h2 := h.le_of_ne h0
    have h3 : 0 < l.length := List.length_pos_iff.2 h0
    rw [Nat.max_eq_left (by omega)]
    exact ⟨by omega, h1, .inr h2⟩
/-- when the quotient comes to nought -/
theorem nd_stop {N L t : Nat} (h : IsNd N L) (ht : t < L) : N / 10 ^ (t + 1) = 0 ↔ t + 1 = L := by
  obtain ⟨h1, h2, h3⟩ := h
  constructor
  · intro h0
    by_cases hlt : t + 1 < L
    · rcases h3 with h3 | h3
      · omega
      · exfalso
        have h4 : 10 ^ (t + 1) ≤ N := Nat.le_trans (pow_mono10 (by omega)) h3
        have h5 := Nat.div_pos h4 (Nat.pow_pos (by decide))
        omega
    · omega
  · rintro rfl
    exact Nat.div_eq_of_lt h2
/-- the number that bytes tell -/
def dvb : List UInt8 → Nat → Nat
  | [], a => a
  | c :: r, a => dvb r (a * 10 + (c.toNat - 48))
theorem dvb_append (l : List UInt8) (c : UInt8) (a : Nat) : dvb (l ++ [c]) a = dvb l a * 10 + (c.toNat - 48) := by
  induction l generalizing a with
  | nil => rfl
  | cons d r ih => exact ih _
theorem dvb_ge (l : List UInt8) (a b : Nat) (h : a ≤ b) : dvb l a ≤ dvb l b := by
  induction l generalizing a b with
  | nil => exact h
  | cons d r ih => exact ih _ _ (by omega)
theorem dvb_from (l : List UInt8) (a : Nat) : a ≤ dvb l a := by
  induction l generalizing a with
  | nil => exact Nat.le_refl _
  | cons d r ih => exact Nat.le_trans (by omega) (ih (a * 10 + (d.toNat - 48)))
theorem dvb_split (l m : List UInt8) (a : Nat) : dvb (l ++ m) a = dvb m (dvb l a) := by
  induction l generalizing a with
  | nil => rfl
  | cons d r ih => exact ih _
theorem dvb_low (l : List UInt8) (a k : Nat) (ha : 10 ^ k ≤ a) : 10 ^ (k + l.length) ≤ dvb l a := by
  induction l generalizing a k with
  | nil => simpa [dvb] using ha
  | cons d r ih =>
    have := ih (a * 10 + (d.toNat - 48)) (k + 1) (by rw [Nat.pow_succ]; omega)
    rw [List.length_cons, show k + (r.length + 1) = k + 1 + r.length by omega]
    exact this
theorem dvb_txl (N L : Nat) (h : N < 10 ^ L) : dvb (txl N L) 0 = N := by
  have key : ∀ k, k ≤ L → dvb ((txl N L).take k) 0 = N / 10 ^ (L - k) := by
    intro k
    induction k with
    | zero => intro _; rw [List.take_zero, Nat.sub_zero, Nat.div_eq_of_lt h]; rfl
    | succ k ih =>
      intro hk
      have hl : k < (txl N L).length := by rw [txl_length]; omega
      rw [List.take_succ_eq_append_getElem hl, dvb_append, ih (by omega), txl_get]
      unfold tch
      have e1 : L - k = L - 1 - k + 1 := by omega
      have e2 : L - (k + 1) = L - 1 - k := by omega
      rw [e1, e2, Nat.pow_succ, ← Nat.div_div_eq_div_mul]
      omega
  have := key L (Nat.le_refl _)
  rw [Nat.sub_self, Nat.pow_zero, Nat.div_one] at this
  rwa [List.take_of_length_le (by rw [txl_length]; exact Nat.le_refl _)] at this
def isD (c : UInt8) : Bool := decide (48 ≤ c.toNat ∧ c.toNat ≤ 57)
/-- a text of a number: digits alone, one at least, no nought ahead of others -/
def okB (l : List UInt8) : Bool := decide (l ≠ []) && (decide (l.length ≤ 1) || decide ((l.headD 0).toNat ≠ 48)) && l.all isD
theorem txl_digits (N L : Nat) : (txl N L).all isD = true := by
  rw [List.all_eq_true]
  intro c hc
  obtain ⟨j, hj, rfl⟩ := List.getElem_of_mem hc
  have := txl_get N L j hj
  have h1 := tch_lt N (L - 1 - j)
  have h2 := tch_ge N (L - 1 - j)
  unfold isD
  simp; omega
theorem txl_ok {N L : Nat} (h : IsNd N L) : okB (txl N L) = true := by
  have hl := txl_length N L
  obtain ⟨h1, h2, h3⟩ := h
  have hne : txl N L ≠ [] := by intro e; rw [e] at hl; simp at hl; omega
  unfold okB
  rw [txl_digits, Bool.and_true, Bool.and_eq_true]
  refine ⟨by simpa using hne, ?_⟩
  rw [Bool.or_eq_true, hl]
  rcases h3 with h3 | h3
  · left; simp; omega
  · by_cases hL : L ≤ 1
    · left; simpa using hL
    · right
      have e : (txl N L).headD 0 = (txl N L)[0]'(by rw [hl]; omega) := by
        have key : ∀ (l : List UInt8) (hl : 0 < l.length), l.headD 0 = l[0] := by
          intro l hl
          cases l with
          | nil => cases hl
          | cons a r => rfl
        exact key _ _
      rw [e, txl_get, Nat.sub_zero]
      have h4 : 1 ≤ N / 10 ^ (L - 1) := Nat.div_pos h3 (Nat.pow_pos (by decide))
      have h5 : N / 10 ^ (L - 1) < 10 := by
        refine Nat.div_lt_of_lt_mul ?_
        rw [← Nat.pow_succ, show (L - 1).succ = L by omega]; exact h2
      unfold tch
      simp; omega
end Go.Proofs.YtogpbcllbbpgbaaDoor

set_option linter.unusedSimpArgs false
set_option linter.unusedVariables false
namespace Go.Proofs.YtogpbcllbbpgbaaDoor
open Go.RowKit

theorem bcell {W w1 : World} (hb : Below W.heap.size W w1) : (∀ b o, b < W.heap.size → w1.cell? ⟨b, o, none⟩ = W.cell? ⟨b, o, none⟩) ∧ (∀ b o, b < W.heap.size → w1.frozen? ⟨b, o, none⟩ = W.frozen? ⟨b, o, none⟩) :=
  ⟨fun b o h => hb.cell (p := ⟨b, o, none⟩) h, fun b o h => hb.frozen (p := ⟨b, o, none⟩) h⟩
theorem ret_int {k : IntKind} {a b : Int} (h : a = b) : Ending.returned (.int k a) = .returned (.int k b) := by rw [h]
theorem ret_bool {a b : Bool} (h : a = b) : Ending.returned (.bool a) = .returned (.bool b) := by rw [h]
theorem below_drewN {B : Nat} {a w : World} (h : Below B a w) (n : Nat) : Below B a (w.drewN n) := ⟨h.os, h.tape, h.output, h.size, h.block⟩

theorem quiet_add {P : Program} {f : FuncId} {args : Array Value} {w : World} {a n : Nat} {v : Value}
    (h : Calls P f args (w.drewN (a + n)) fun e w' => e = .returned v ∧ ∃ m, w' = (w.drewN (a + n)).drewN m) :
    Calls P f args (w.drewN (a + n)) fun e w' => e = .returned v ∧ ∃ m, w' = w.drewN (a + m) :=
  h.mono fun _ _ ⟨he, m, hm⟩ => ⟨he, n + m, by rw [hm, World.drewN_drewN, Nat.add_assoc]⟩

/-- a fact that no tactic looks into: the walk's own 'contradiction' unfolds what 'Hid' hides (powers!), but not this -/
def Far (p : Prop) : Prop := True → p
theorem Far.mk {p : Prop} (h : p) : Far p := fun _ => h
theorem Far.out {p : Prop} (h : Far p) : p := h trivial

/-- Block g holds just the cells cs of type t, none of them frozen. -/
def Bk (w : World) (g : Nat) (t : TypeId) (cs : List Value) : Prop := w.heap[g]? = some (.cells cs.toArray t (0, 0))
section
variable {w w' : World} {g : Nat} {t : TypeId} {cs : List Value}
theorem Bk.lt (h : Bk w g t cs) : g < w.heap.size := by
  rcases Nat.lt_or_ge g w.heap.size with hlt | hge
  · exact hlt
  · unfold Bk at h; rw [Array.getElem?_eq_none hge] at h; cases h
theorem Bk.cell (h : Bk w g t cs) (i : Nat) {v : Value} (hv : cs[i]? = some v) : w.cell? ⟨g, i, none⟩ = some v := by
  rw [cell_of_row w g i cs.toArray t (0, 0) h, ← hv]; simp
theorem Bk.frozen (h : Bk w g t cs) (i : Nat) : w.frozen? ⟨g, i, none⟩ = false := by
  unfold Bk at h
  simp [World.frozen?, h]
theorem Bk.new (w : World) (t : TypeId) (cs : List Value) : Bk (w.alloc (.cells cs.toArray t)) w.heap.size t cs := heap_alloc_new w _
theorem Bk.new_ {w : World} {t : TypeId} {cs : List Value} {g : Nat} (hg : g = w.heap.size) : Bk (w.alloc (.cells cs.toArray t)) g t cs := by subst hg; exact Bk.new w t cs
theorem Bk.drew (h : Bk w g t cs) : Bk w.drew g t cs := h
theorem Bk.drewN (h : Bk w g t cs) (n : Nat) : Bk (w.drewN n) g t cs := h
theorem Bk.alloc (h : Bk w g t cs) (o : Obj) : Bk (w.alloc o) g t cs := (Below.heap_alloc w o g h.lt).trans h
theorem Bk.set_ (h : Bk w g t cs) (i : Nat) (u : Value) : Bk (w.setCell ⟨g, i, none⟩ u) g t (cs.set i u) := by
  unfold Bk at h ⊢
  simp [World.setCell, Array.getElem?_modify, h]
theorem Bk.far (h : Bk w g t cs) {p : Addr} (hp : g ≠ p.block) (u : Value) : Bk (w.setCell p u) g t cs := (Below.heap_setCell w p u g hp).trans h
theorem Bk.below {B : Nat} (h : Bk w g t cs) (hb : Below B w w') (hg : g < B) : Bk w' g t cs := (hb.block g hg).trans h
end
end Go.Proofs.YtogpbcllbbpgbaaDoor

set_option linter.unusedSimpArgs false
set_option linter.unusedVariables false
namespace Go.Proofs.YtogpbcllbbpgbaaDoor

/-- the i-th word of n -/
def wd (n : Nat) (i : Nat) : Int := ((n / 2 ^ (64 * i) % 2 ^ 64 : Nat) : Int)
theorem wd_nn (n i : Nat) : 0 ≤ wd n i := by unfold wd; omega
theorem wd_lt (n i : Nat) : wd n i < 18446744073709551616 := by
  unfold wd
  have := Nat.mod_lt (n / 2 ^ (64 * i)) (show 0 < 2 ^ 64 by decide)
  omega
theorem wd0 (n : Nat) : wd n 0 = ((n % 18446744073709551616 : Nat) : Int) := by unfold wd; simp
theorem wd1 (n : Nat) : wd n 1 = ((n / 18446744073709551616 % 18446744073709551616 : Nat) : Int) := by unfold wd; rfl
theorem wd2 (n : Nat) : wd n 2 = ((n / 340282366920938463463374607431768211456 % 18446744073709551616 : Nat) : Int) := by unfold wd; rfl
theorem wd3 (n : Nat) : wd n 3 = ((n / 6277101735386680763835789423207666416102355444464034512896 % 18446744073709551616 : Nat) : Int) := by unfold wd; rfl
/-- two words are a number below 2^128, and the other way round -/
theorem wd_two {n : Nat} (h : n < 2 ^ 128) : wd n 1 * 18446744073709551616 + wd n 0 = (n : Int) := by
  rw [wd0, wd1]; omega
theorem wd_make (x y : Int) (hx0 : 0 ≤ x) (hx : x < 18446744073709551616) (hy0 : 0 ≤ y) (hy : y < 18446744073709551616) :
    ∃ n : Nat, n < 2 ^ 128 ∧ (n : Int) = x * 18446744073709551616 + y ∧ x = wd n 1 ∧ y = wd n 0 := by
  refine ⟨(x * 18446744073709551616 + y).toNat, by omega, by omega, ?_, ?_⟩
  · rw [wd1]; omega
  · rw [wd0]; omega
theorem wd_of (n : Nat) (x y : Int) (hx0 : 0 ≤ x) (hx : x < 18446744073709551616) (hy0 : 0 ≤ y) (hy : y < 18446744073709551616) (h : (n : Int) = x * 18446744073709551616 + y) : x = wd n 1 ∧ y = wd n 0 := by
  refine ⟨?_, ?_⟩
  · rw [wd1]; omega
  · rw [wd0]; omega
theorem wd_four {n : Nat} (h : n < 2 ^ 256) : wd n 3 * 6277101735386680763835789423207666416102355444464034512896 + wd n 2 * 340282366920938463463374607431768211456 + wd n 1 * 18446744073709551616 + wd n 0 = (n : Int) := by
  rw [wd0, wd1, wd2, wd3]; omega
theorem wd_of4 (n : Nat) (a b c d : Int) (ha0 : 0 ≤ a) (ha : a < 18446744073709551616) (hb0 : 0 ≤ b) (hb : b < 18446744073709551616) (hc0 : 0 ≤ c) (hc : c < 18446744073709551616) (hd0 : 0 ≤ d) (hd : d < 18446744073709551616)
    (h : (n : Int) = d * 6277101735386680763835789423207666416102355444464034512896 + c * 340282366920938463463374607431768211456 + b * 18446744073709551616 + a) : a = wd n 0 ∧ b = wd n 1 ∧ c = wd n 2 ∧ d = wd n 3 := by
  refine ⟨?_, ?_, ?_, ?_⟩
  · rw [wd0]; omega
  · rw [wd1]; omega
  · rw [wd2]; omega
  · rw [wd3]; omega
theorem wd_make4 (a b c d : Int) (ha0 : 0 ≤ a) (ha : a < 18446744073709551616) (hb0 : 0 ≤ b) (hb : b < 18446744073709551616) (hc0 : 0 ≤ c) (hc : c < 18446744073709551616) (hd0 : 0 ≤ d) (hd : d < 18446744073709551616) :
    ∃ n : Nat, n < 2 ^ 256 ∧ a = wd n 0 ∧ b = wd n 1 ∧ c = wd n 2 ∧ d = wd n 3 :=
  ⟨(d * 6277101735386680763835789423207666416102355444464034512896 + c * 340282366920938463463374607431768211456 + b * 18446744073709551616 + a).toNat, by omega,
    wd_of4 _ a b c d ha0 ha hb0 hb hc0 hc hd0 hd (by omega)⟩
theorem wd_zero (i : Nat) : wd 0 i = 0 := by unfold wd; simp
/-- equal words, equal numbers -/
theorem wd_inj {n m : Nat} (hn : n < 2 ^ 128) (hm : m < 2 ^ 128) (h1 : wd n 1 = wd m 1) (h0 : wd n 0 = wd m 0) : n = m := by
  have := wd_two hn
  have := wd_two hm
  omega
theorem wd_eq_iff {n m : Nat} (hn : n < 2 ^ 128) (hm : m < 2 ^ 128) : ((wd n 1 == wd m 1) && (wd n 0 == wd m 0)) = decide (n = m) := by
  rw [Bool.eq_iff_iff]
  simp only [Bool.and_eq_true, beq_iff_eq, decide_eq_true_eq]
  constructor
  · rintro ⟨h1, h0⟩; exact wd_inj hn hm h1 h0
  · rintro rfl; exact ⟨rfl, rfl⟩
theorem wd_low4 {n : Nat} (hn : n < 2 ^ 256) : (wd n 2 = 0 ∧ wd n 3 = 0) ↔ n < 2 ^ 128 := by
  have h := wd_four hn
  have a0 := wd_nn n 0
  have a1 := wd_lt n 0
  have b0 := wd_nn n 1
  have b1 := wd_lt n 1
  have c0 := wd_nn n 2
  have d0 := wd_nn n 3
  constructor
  · rintro ⟨h2, h3⟩; rw [h2, h3] at h; omega
  · intro hlt; constructor <;> omega
end Go.Proofs.YtogpbcllbbpgbaaDoor

set_option linter.unusedSimpArgs false
set_option linter.unusedVariables false
namespace Go.Proofs.YtogpbcllbbpgbaaDoor
open Go.RowKit

/-- from address A on lie, in a block of ints, the numbers xs (nothing is said where there are none) -/
def Sl (w : World) (A : Option Addr) (xs : List Int) : Prop :=
  xs ≠ [] → ∃ g o cs, A = some ⟨g, o, none⟩ ∧ Bk w g 3 cs ∧ ∀ j, j < xs.length → cs[o + j]? = some (.int .i64 (xs.getD j 0))
def IsSl (w : World) (v : Value) (xs : List Int) : Prop := ∃ A c, v = .slice A xs.length c ∧ xs.length ≤ c ∧ Sl w A xs
/-- v holds the digits of n, the least first -/
def Dg (w : World) (v : Value) (n : Nat) : Prop := ∃ xs, IsSl w v xs ∧ IsDg xs n
def RetDg (n : Nat) (w : World) (e : Ending) (w' : World) : Prop := ∃ v, e = .returned v ∧ Dg w' v n ∧ Below w.heap.size w w'

section
variable {w w' : World} {A : Option Addr} {xs : List Int} {v : Value} {n B : Nat}
theorem Sl.below (h : Sl w A xs) (hb : Below w.heap.size w w') : Sl w' A xs := fun hne => by
  obtain ⟨g, o, cs, e, hg, hc⟩ := h hne
  exact ⟨g, o, cs, e, hg.below hb hg.lt, hc⟩
theorem Sl.far (h : Sl w A xs) {b : Nat} {T : TypeId} {ds : List Value} (hb : Bk w b T ds) (hT : 3 ≠ T) (i : Nat) (u : Value) : Sl (w.setCell ⟨b, i, none⟩ u) A xs := fun hne => by
  obtain ⟨g, o, cs, e, hg, hc⟩ := h hne
  refine ⟨g, o, cs, e, hg.far ?_ u, hc⟩
  rintro rfl
  unfold Bk at hg hb
  rw [hg] at hb
  injection hb with hb
  injection hb with _ ht
  exact hT ht
theorem IsSl.below (h : IsSl w v xs) (hb : Below w.heap.size w w') : IsSl w' v xs := by
  obtain ⟨A, c, e, hc, hs⟩ := h
  exact ⟨A, c, e, hc, hs.below hb⟩
theorem Dg.below (h : Dg w v n) (hb : Below w.heap.size w w') : Dg w' v n := by
  obtain ⟨xs, hs, hd⟩ := h
  exact ⟨xs, hs.below hb, hd⟩
theorem Dg.far (h : Dg w v n) {b : Nat} {T : TypeId} {ds : List Value} (hb : Bk w b T ds) (hT : 3 ≠ T) (i : Nat) (u : Value) : Dg (w.setCell ⟨b, i, none⟩ u) v n := by
  obtain ⟨xs, ⟨A, c, e, hc, hs⟩, hd⟩ := h
  exact ⟨xs, ⟨A, c, e, hc, hs.far hb hT i u⟩, hd⟩
theorem Dg.drew (h : Dg w v n) : Dg w.drew v n := h
theorem Dg.drewN (h : Dg w v n) (k : Nat) : Dg (w.drewN k) v n := h
theorem Sl.take (h : Sl w A xs) (k : Nat) : Sl w A (xs.take k) := fun hne => by
  have hx : xs ≠ [] := fun e => hne (by rw [e]; simp)
  obtain ⟨g, o, cs, e, hg, hc⟩ := h hx
  refine ⟨g, o, cs, e, hg, fun j hj => ?_⟩
  rw [List.length_take] at hj
  rw [hc j (by omega), List.getD_eq_getElem?_getD, List.getD_eq_getElem?_getD, List.getElem?_take_of_lt (by omega)]
/-- the cell at a place -/
theorem Sl.at_ (h : Sl w A xs) {k : Nat} (hk : k < xs.length) : ∃ g o, A = some ⟨g, o, none⟩ ∧ g < w.heap.size ∧ w.cell? ⟨g, o + k, none⟩ = some (.int .i64 (xs.getD k 0)) := by
  obtain ⟨g, o, cs, e, hg, hc⟩ := h (by intro e; subst e; simp at hk)
  exact ⟨g, o, e, hg.lt, hg.cell _ (hc k hk)⟩
/-- a row of the call's own, read as a list of ints -/
theorem IsSl.of_own {base : Nat} (h : w.ownsRow base 3 1 v xs.length (xs.map (Value.int .i64))) : IsSl w v xs := by
  rcases h.2 with ⟨rfl, hn⟩ | ⟨g, cap, cur, rfl, hg, hh, r1, r2, r3, r4⟩
  · have : xs = [] := List.length_eq_zero_iff.1 hn
    subst this
    exact ⟨none, 0, rfl, Nat.le_refl _, fun hne => absurd rfl hne⟩
  · refine ⟨some ⟨g, 0, none⟩, cap, rfl, r1, fun hne => ⟨g, 0, cur.toList, rfl, by unfold Bk; simpa using hh, fun j hj => ?_⟩⟩
    have hu : (xs.map (Value.int .i64))[j]? = some (.int .i64 (xs.getD j 0)) := by
      rw [List.getElem?_map, List.getElem?_eq_getElem hj, getD_lt _ _ hj]; rfl
    rw [← r4, List.getElem?_take_of_lt (by omega)] at hu
    rw [Nat.zero_add]; exact hu
end

/-- where it has an address, it lies from block B on -/
def New (B : Nat) (v : Value) : Prop := ∀ g o p n c, v = .slice (some ⟨g, o, p⟩) n c → B ≤ g
theorem New.mono {B C : Nat} {v : Value} (h : New C v) (hb : B ≤ C) : New B v := fun g o p n c e => Nat.le_trans hb (h g o p n c e)
theorem New.nil (B n c : Nat) : New B (.slice none n c) := by intro g o p n c e; cases e
theorem New.same {B : Nat} {A : Option Addr} {n c : Nat} (h : New B (.slice A n c)) (k d : Nat) : New B (.slice A k d) := by
  intro g o p n' c' e; injection e with e1 e2 e3; subst e1; exact h g o p n c rfl
theorem New.at_ {B g : Nat} (h : B ≤ g) (o : Nat) (p : Option Nat) (n c : Nat) : New B (.slice (some ⟨g, o, p⟩) n c) := by
  intro g' o' p' n' c' e; injection e with e1 e2 e3; injection e1 with e1; injection e1 with e1; subst e1; exact h
theorem New.own {w : World} {B : Nat} {E : TypeId} {v : Value} {n : Nat} {xs : List Value} (h : w.ownsRow B E 1 v n xs) : New B v := by
  rcases h.2 with ⟨rfl, _⟩ | ⟨g, cap, cur, rfl, hg, _⟩
  · exact New.nil _ _ _
  · exact New.at_ hg _ _ _ _
theorem Dg.away {w : World} {v : Value} {n B b : Nat} (h : Dg w v n) (hn : New B v) (hb : b < B) (i : Nat) (u : Value) : Dg (w.setCell ⟨b, i, none⟩ u) v n := by
  obtain ⟨xs, ⟨A, c, e, hc, hs⟩, hd⟩ := h
  refine ⟨xs, ⟨A, c, e, hc, fun hne => ?_⟩, hd⟩
  obtain ⟨g, o, cs, e2, hg, hc2⟩ := hs hne
  have := hn g o none xs.length c (by rw [e, e2])
  exact ⟨g, o, cs, e2, hg.far (by show g ≠ b; omega) u, hc2⟩
/-- a block of ints, read as a list -/
theorem IsSl.of_bk {w : World} {g : Nat} {ds : List Int} {n c : Nat} (h : Bk w g 3 (ds.map (Value.int .i64))) (hn : ds.length = n) (hc : n ≤ c) : IsSl w (.slice (some ⟨g, 0, none⟩) n c) ds := by
  subst hn
  refine ⟨_, c, rfl, hc, fun hne => ⟨g, 0, _, rfl, h, fun j hj => ?_⟩⟩
  rw [Nat.zero_add, List.getElem?_map, List.getElem?_eq_getElem hj, getD_lt _ _ hj]; rfl
/-- a new row of noughts -/
def zrow (n : Nat) : List Value := (List.replicate n (0 : Int)).map (Value.int .i64)
theorem zrow_made (n : Nat) : madeCells #[.int .i64 0] n = (zrow n).toArray := by
  apply Array.ext
  · simp [madeCells, zrow]
  · intro i h1 h2
    simp [madeCells, zrow, Nat.mod_one]
theorem info_int : (Tryd.prog.info? 3).map (fun i => (i.zero, i.size, i.bytes)) = some (some (.int .i64 0), 1, 8) := by kernel_rfl
/-- one int is appended to a row of the call's own -/
theorem wpList_push {w : World} {ops : Array Oper} {rest : List Oper} {o : Oper} {a : Act} {Q : Exit → Act → World → Prop} (hgd : o.guard = none) (s x : Operand)
    (ho : o.op = .call { callee := .builtin .append, args := #[s, x], argTypes := #[36, 36] })
    (base : Nat) (v : Value) (ds : List Int) (hs : a.eval s = v) (hown : w.ownsRow base 3 1 v ds.length (ds.map (Value.int .i64)))
    (b : Nat) (d : Int) (hx : a.eval x = .slice (some ⟨b, 0, none⟩) 1 1) (hd : w.cell? ⟨b, 0, none⟩ = some (.int .i64 d)) (hlen : ds.length ≤ 1000000) (hbase : base ≤ w.heap.size)
    (h : ∀ v' w', w'.ownsRow base 3 1 v' (ds ++ [d]).length ((ds ++ [d]).map (Value.int .i64)) → w.grownBy w' v.ownBlock → wpList Tryd.prog ops Q rest (a.put o.dst v') w') : wpList Tryd.prog ops Q (o :: rest) a w := by
  obtain ⟨i0, hi0, hz0, hz1, hz2⟩ := info_parts info_int
  refine wpList_append_own w hgd s x 36 ho base 3 i0 (.int .i64 0) 1 8 Tryd.underlying36 hi0 hz0 hz1 hz2 rfl (by decide) v ds.length _ hs hown ⟨b, 0, none⟩ 1 1 [.int .i64 d] hx rfl ?_ ?_ (by unfold maxLen; omega) (by omega) hbase ?_
  · intro j u hj
    match j with
    | 0 => simp at hj; subst hj; exact hd
    | j + 1 => simp at hj
  · intro u hu
    rw [List.mem_singleton.1 hu]; rfl
  · intro v' w' h1 h2 _
    refine h v' w' ?_ h2
    rw [List.length_append, List.map_append]
    exact h1
theorem run_append_nil (w : World) (base : Nat) (i : TypeInfo) (hi : Tryd.prog.info? 3 = some i) (ty : TypeId)
    (v : Value) (n : Nat) (xs : List Value) (hown : w.ownsRow base 3 1 v n xs) (c : Nat) : (Builtin.append_ #[36, 36] ty #[v, .slice none 0 c]).run Tryd.prog w = .ok v w := by
  rcases hown.2 with ⟨rfl, rfl⟩ | ⟨g, cap, cur, rfl, _, _, hnc, _⟩
  · simp [Builtin.append_, run_underlying Tryd.underlying36, sizeOf, typeInfo, hi, Builtin.lenOf, Builtin.firstCells]
  · simp [Builtin.append_, run_underlying Tryd.underlying36, sizeOf, typeInfo, hi, Builtin.lenOf, Builtin.firstCells, hnc, storeCells]
set_option maxRecDepth 100000 in
/-- a list of ints is appended to a row of the call's own -/
theorem wpList_join {w : World} {ops : Array Oper} {rest : List Oper} {o : Oper} {a : Act} {Q : Exit → Act → World → Prop} (hgd : o.guard = none) (s x : Operand)
    (ho : o.op = .call { callee := .builtin .append, args := #[s, x], argTypes := #[36, 36] })
    (base : Nat) (v : Value) (ds : List Int) (hs : a.eval s = v) (hown : w.ownsRow base 3 1 v ds.length (ds.map (Value.int .i64)))
    (A : Option Addr) (c : Nat) (ys : List Int) (hx : a.eval x = .slice A ys.length c) (hd : Sl w A ys) (hlen : ds.length + ys.length ≤ 1000000) (hbase : base ≤ w.heap.size)
    (h : ∀ v' w', w'.ownsRow base 3 1 v' (ds ++ ys).length ((ds ++ ys).map (Value.int .i64)) → w.grownBy w' v.ownBlock → wpList Tryd.prog ops Q rest (a.put o.dst v') w') : wpList Tryd.prog ops Q (o :: rest) a w := by
  obtain ⟨i0, hi0, hz0, hz1, hz2⟩ := info_parts info_int
  rcases A with _ | ad
  · have hy : ys = [] := by
      by_cases hne : ys = []
      · exact hne
      · obtain ⟨g, o, cs, e, _⟩ := hd hne
        cases e
    subst hy
    refine wpList_plain hgd fun K hK => ?_
    have hrun := run_append_nil w base i0 hi0 o.type v ds.length _ hown c
    unfold Oper.wp execOp
    simp only [ho, resolve, invoke, builtin, Sem.run_bind, Sem.run_pure, Result.andThen_ok, List.map_toArray, List.map_cons, List.map_nil, hs, hx, List.length_nil, hrun]
    exact hK _ _ (h v w (by rw [List.append_nil]; exact hown) (World.grownBy.refl w _))
  · refine wpList_append_own w hgd s x 36 ho base 3 i0 (.int .i64 0) 1 8 Tryd.underlying36 hi0 hz0 hz1 hz2 rfl (by decide) v ds.length _ hs hown ad ys.length c (ys.map (Value.int .i64)) hx (by simp) ?_ ?_ (by unfold maxLen; omega) (by omega) hbase ?_
    · intro j u hj
      rw [List.getElem?_map] at hj
      by_cases hjl : j < ys.length
      · obtain ⟨g, o', e, _, hc⟩ := hd.at_ hjl
        injection e with e
        subst e
        rw [List.getElem?_eq_getElem hjl, ← getD_lt _ _ hjl] at hj
        simp only [Option.map_some, Option.some.injEq] at hj
        subst hj
        rw [← hc]
        congr 1
        unfold Addr.add
        split
        · subst_vars; rfl
        · rfl
      · rw [List.getElem?_eq_none (by omega)] at hj
        cases hj
    · intro u hu
      obtain ⟨x, _, rfl⟩ := List.mem_map.1 hu
      rfl
    · intro v' w' h1 h2 _
      refine h v' w' ?_ h2
      rw [List.length_append, List.map_append]
      exact h1
theorem make_ints (n : Nat) (hn : n ≤ 1000000) (W : World) : (Instr.makeSlice 36 (.int .i64 (n : Int)) (.int .i64 (n : Int))).run Tryd.prog W = .ok (.slice (some ⟨W.heap.size, 0, none⟩) n n) (W.alloc (.cells (zrow n).toArray 3)) := by
  rw [← zrow_made]
  exact run_make_row' 36 3 (.int .i64 0) 8 Tryd.underlying36 info_int rfl .i64 .i64 n (by omega) (by omega) W
theorem below_push {a w w' : World} {B : Nat} {E : TypeId} {v : Value} {n : Nat} {xs : List Value} (h : Below B a w) (hown : w.ownsRow B E 1 v n xs) (hg : w.grownBy w' v.ownBlock) (hB : B ≤ w.heap.size) : Below B a w' :=
  h.grown hg hB fun k hk => (hown.lt k hk).1
end Go.Proofs.YtogpbcllbbpgbaaDoor

set_option linter.unusedSimpArgs false
set_option linter.unusedVariables false
namespace Go.Proofs.YtogpbcllbbpgbaaDoor
open Go.RowKit

/-- the answer lies where the argument lay -/
def RetCut (A : Option Addr) (n : Nat) (w : World) (e : Ending) (w' : World) : Prop := ∃ k c, e = .returned (.slice A k c) ∧ Dg w' (.slice A k c) n ∧ Below w.heap.size w w'
set_option maxHeartbeats 1000000 in
theorem cut_at (xs : List Int) (A : Option Addr) (c : Nat) (w : World) (hc : xs.length ≤ c) (hs : Sl w A xs) (hd : Digs xs) (hl : xs.length ≤ 100000) :
    Calls Tryd.prog 29 #[.slice A xs.length c] w (RetCut A (dval xs).toNat w) := by
  have HD := Lib.hid hd
  have HS := Lib.hid hs
  clear hd hs
  go_enter Tryd.func29, Tryd.ntmps29
  go_wp2_with fail
  go_loopg [3] xs.length (fun k i wr => k ≤ xs.length ∧ i = .int .i64 k ∧ (∀ j, k ≤ j → j < xs.length → xs.getD j 0 = 0) ∧ ∃ nn, wr = w.drewN nn)
  case atStart => exact ⟨Nat.le_refl _, rfl, fun j h1 h2 => absurd h2 (by omega), 0, rfl⟩
  case round =>
    obtain ⟨hn, rfl, hz, nn, rfl⟩ := hrel
    have HZ := Lib.hid hz
    clear hz
    by_cases h0 : gk = 0
    · subst h0
      go_wp2_with fail
      go_ret
      refine ⟨0, c, rfl, ⟨xs.take 0, ⟨A, c, by simp, by simp, fun h => absurd rfl h⟩, ?_⟩, by (repeat' (first | (with_reducible exact Below.refl _ _) | (with_reducible assumption) | (with_reducible refine Below.drew ?_) | (with_reducible refine below_drewN ?_ _) | ((with_reducible refine Below.alloc ?_ ?_ _); rotate_left; focus (go_size; done)) | ((with_reducible refine Below.setCell ?_ ?_ _); rotate_left; focus (go_size; done)) | ((with_reducible refine Below.trans ?_ (Below.mono (by with_reducible assumption) ?_)); rotate_left; focus (go_size; done))))⟩
      have e := dval_take_zeros xs 0 HZ.out
      rw [← e]
      exact IsDg.nil
    · obtain ⟨m, rfl⟩ : ∃ m, gk = m + 1 := ⟨gk - 1, by omega⟩
      obtain ⟨g, o, rfl, hg, hcell⟩ := HS.out.at_ (k := m) (by omega)
      obtain ⟨d, hd⟩ : ∃ d, d = xs.getD m 0 := ⟨_, rfl⟩
      rw [← hd] at hcell
      have HE := Lib.hid hd
      have hp : (0 : Int) < ((m + 1 : Nat) : Int) := by omega
      have hx : ((m + 1 : Nat) : Int) - 1 = (m : Int) := by omega
      clear h0 hd
      go_wp2_with fail
      · go_roundg m
        case measure => omega
        case rel =>
          refine ⟨by omega, rfl, ?_, nn, rfl⟩
          intro j h1 h2
          by_cases hj : j = m
          · subst hj
            rw [← HE.out]
            simpa using (by assumption : (d == 0) = true)
          · exact HZ.out j (by omega) h2
      · have hne : d ≠ 0 := by simpa using (by assumption : (d == 0) = false)
        go_ret
        have hlen : (xs.take (m + 1)).length = m + 1 := by rw [List.length_take, Nat.min_eq_left hn]
        refine ⟨m + 1, c, rfl, ⟨xs.take (m + 1), ⟨some ⟨g, o, none⟩, c, by (first | (rw [hlen]; done) | (rw [hlen]; rfl)), by rw [hlen]; omega, (HS.out.take (m + 1)).below (by (repeat' (first | (with_reducible exact Below.refl _ _) | (with_reducible assumption) | (with_reducible refine Below.drew ?_) | (with_reducible refine below_drewN ?_ _) | ((with_reducible refine Below.alloc ?_ ?_ _); rotate_left; focus (go_size; done)) | ((with_reducible refine Below.setCell ?_ ?_ _); rotate_left; focus (go_size; done)) | ((with_reducible refine Below.trans ?_ (Below.mono (by with_reducible assumption) ?_)); rotate_left; focus (go_size; done)))))⟩, HD.out.take _, ?_, ?_⟩, by (repeat' (first | (with_reducible exact Below.refl _ _) | (with_reducible assumption) | (with_reducible refine Below.drew ?_) | (with_reducible refine below_drewN ?_ _) | ((with_reducible refine Below.alloc ?_ ?_ _); rotate_left; focus (go_size; done)) | ((with_reducible refine Below.setCell ?_ ?_ _); rotate_left; focus (go_size; done)) | ((with_reducible refine Below.trans ?_ (Below.mono (by with_reducible assumption) ?_)); rotate_left; focus (go_size; done))))⟩
        · exact top_take xs (m + 1) hn (.inr (by rw [Nat.add_sub_cancel, ← HE.out]; exact hne))
        · rw [dval_take_zeros xs (m + 1) HZ.out]
          have := (dval_bd HD.out).1
          omega
theorem cut_any (xs : List Int) (v : Value) (w : World) (hv : IsSl w v xs) (hd : Digs xs) (hl : xs.length ≤ 100000) :
    Calls Tryd.prog 29 #[v] w (RetDg (dval xs).toNat w) := by
  obtain ⟨A, c, rfl, hc, hs⟩ := hv
  exact (cut_at xs A c w hc hs hd hl).mono fun e w' ⟨k, c', he, hdg, hb⟩ => ⟨_, he, hdg, hb⟩

theorem cut_is (xs : List Int) (A : Option Addr) (n c : Nat) (w : World) (hv : IsSl w (.slice A n c) xs) (hd : Digs xs) (hl : xs.length ≤ 100000) :
    Calls Tryd.prog 29 #[.slice A n c] w (RetCut A (dval xs).toNat w) := by
  obtain ⟨A', c', e, hc, hs⟩ := hv
  injection e with e1 e2 e3
  subst e1 e2 e3
  exact cut_at xs A c w hc hs hd hl
theorem pow_big {n : Nat} (h : Small n) {l : List Int} (hl : IsDg l n) : l.length ≤ 1000 := hl.len_le (h trivial)
set_option maxHeartbeats 1000000 in
theorem twice_any (N : Nat) (b0 : Int) (hb0 : 0 ≤ b0) (hb1 : b0 ≤ 1) (v : Value) (w : World) (hv : Dg w v N) (hN : Small N) :
    Calls Tryd.prog 86 #[v, .int .i64 b0] w (RetDg (2 * N + b0.toNat) w) := by
  obtain ⟨xs, ⟨A, c, rfl, hc, hs⟩, hd⟩ := hv
  have hlen := pow_big hN hd
  have HD := Lib.hid hd
  have HS := Lib.hid hs
  clear hd hs hN
  go_enter Tryd.func86, Tryd.ntmps86
  go_wp2_with fail
  go_loopg [1, 5, 6] xs.length (fun k b out i wr => ∃ (n : Nat) (bb : Int) (ds : List Int), k + n = xs.length ∧ i = .int .i64 n ∧ b = .int .i64 bb ∧ 0 ≤ bb ∧ bb ≤ 1 ∧
    wr.ownsRow w.heap.size 3 1 out ds.length (ds.map (Value.int .i64)) ∧ ds.length = n ∧ Digs ds ∧ dval ds + 10 ^ n * bb = 2 * dval (xs.take n) + b0 ∧ Below w.heap.size w wr)
  case atStart =>
    exact ⟨0, b0, [], by omega, rfl, rfl, hb0, hb1, World.ownsRow_nil _ _ _ _, rfl, Digs.nil, by simp [dval], Below.refl _ _⟩
  case round =>
    obtain ⟨n, bb, ds, hk, rfl, rfl, hbb0, hbb1, hown, hdl, hdd, hval, hbel⟩ := hrel
    have HK := Lib.hid hk
    have HL := Lib.hid hdl
    have HDD := Lib.hid hdd
    have HV := Lib.hid hval
    have hn : n ≤ xs.length := by omega
    have hwr := hbel.size
    clear hk hdl hdd hval
    by_cases hlt : n < xs.length
    · obtain ⟨g, o, rfl, hg, hcell⟩ := HS.out.at_ hlt
      have hx := HD.out.get n
      have hcell2 := (hbel.cell (p := ⟨g, o + n, none⟩) hg).trans hcell
      obtain ⟨d, hd⟩ : ∃ d, d = xs.getD n 0 := ⟨_, rfl⟩
      rw [← hd] at hcell2 hx
      obtain ⟨hx0, hx9⟩ := hx
      have HE := Lib.hid hd
      clear hd hcell
      go_wp2_with (at_builtin; refine wpList_push rfl (.tmp 21) (.tmp 24) rfl w.heap.size u5 ds rfl (hown.alloc _) wr.heap.size ((2 * d + bb) % 10) rfl ?hc ?hl ?hb ?_; rotate_left 3; intro v1 w1 hown1 hg1)
      case hc => simp [go_sem]
      case hl => have := HL.out; omega
      case hb => go_size
      go_roundg (gk - 1)
      case measure => have := HK.out; omega
      case rel =>
        refine ⟨n + 1, (2 * d + bb) / 10, ds ++ [(2 * d + bb) % 10], by have := HK.out; omega, by go_num, rfl, by omega, by omega, hown1, by rw [List.length_append, HL.out]; rfl, HDD.out.snoc (by omega) (by omega), ?_, below_push (hbel.alloc (by go_size) _) (hown.alloc _) hg1 (by go_size)⟩
        rw [dval_snoc, HL.out, dval_take_succ xs n hlt, ← HE.out, Int.pow_succ]
        have e1 := carry_step (10 ^ n) (2 * d + bb)
        have e2 : (10 : Int) ^ n * (2 * d + bb) = 2 * (10 ^ n * d) + 10 ^ n * bb := by rw [Int.mul_add, Int.mul_left_comm]
        have e3 := HV.out
        omega
    · obtain rfl : n = xs.length := by omega
      have hbz : bb = 0 ∨ bb = 1 := by omega
      have hv : dval ds + 10 ^ ds.length * bb = 2 * N + b0.toNat := by
        have := HV.out
        rw [List.take_length, HD.out.2.2, ← HL.out] at this
        omega
      have HW := Lib.hid hv
      clear hv
      rcases hbz with rfl | rfl
      · go_wp2_with fail
        go_ret
        refine ⟨u5, rfl, ⟨ds, IsSl.of_own hown, HDD.out, ?_, ?_⟩, hbel⟩
        · refine top_of_val HDD.out ?_
          by_cases hne : xs = []
          · left
            have := HL.out
            subst hne
            exact List.length_eq_zero_iff.1 this
          · right
            have h1 := HD.out.le_of_ne hne
            have h2 := HW.out
            rw [Int.mul_zero, Int.add_zero] at h2
            rw [HL.out, h2]
            have h3 : ((10 ^ (xs.length - 1) : Nat) : Int) ≤ (N : Int) := by exact_mod_cast h1
            rw [Int.natCast_pow] at h3
            have h4 : ((10 : Nat) : Int) = 10 := rfl
            rw [h4] at h3
            omega
        · have h2 := HW.out
          rw [Int.mul_zero, Int.add_zero] at h2
          rw [h2]; omega
      · go_wp2_with (at_builtin; refine wpList_push rfl (.tmp 30) (.tmp 32) rfl w.heap.size u5 ds rfl (hown.alloc _) wr.heap.size 1 rfl ?hc ?hl ?hb ?_; rotate_left 3; intro v1 w1 hown1 hg1)
        case hc => simp [go_sem]
        case hl => have := HL.out; omega
        case hb => go_size
        go_ret
        have h2 := HW.out
        have h0 := (dval_bd HDD.out).1
        refine ⟨v1, rfl, ⟨ds ++ [1], IsSl.of_own hown1, HDD.out.snoc (by decide) (by decide), ?_, ?_⟩, below_push (hbel.alloc (by go_size) _) (hown.alloc _) hg1 (by go_size)⟩
        · simp [Top]
        · rw [dval_snoc, h2]; omega
end Go.Proofs.YtogpbcllbbpgbaaDoor

set_option linter.unusedSimpArgs false
set_option linter.unusedVariables false
namespace Go.Proofs.YtogpbcllbbpgbaaDoor
open Go.RowKit

def RetHalf (n : Nat) (w : World) (e : Ending) (w' : World) : Prop := ∃ v, e = .returned (.tuple #[v, .int .i64 ((n % 2 : Nat) : Int)]) ∧ Dg w' v (n / 2) ∧ Below w.heap.size w w'
set_option maxHeartbeats 1000000 in
theorem half_any (N : Nat) (v : Value) (w : World) (hv : Dg w v N) (hN : Small N) :
    Calls Tryd.prog 78 #[v] w (RetHalf N w) := by
  obtain ⟨xs, ⟨A, c, rfl, hc, hs⟩, hd⟩ := hv
  have hlen := pow_big hN hd
  have HD := Lib.hid hd
  have HS := Lib.hid hs
  have hmk := fun W => make_ints xs.length (by omega) W
  clear hd hs hN
  go_enter Tryd.func78, Tryd.ntmps78
  go_wp2_with fail
  clear hmk
  go_loopg [5, 6] xs.length (fun k l i wr => ∃ (ll : Int) (ds : List Int), k ≤ xs.length ∧ i = .int .i64 ((k : Int) - 1) ∧ l = .int .i64 ll ∧ 0 ≤ ll ∧ ll ≤ 1 ∧
    Bk wr w.heap.size 3 (ds.map (Value.int .i64)) ∧ ds.length = xs.length ∧ Digs ds ∧ 2 * dval (ds.drop k) + ll = dval (xs.drop k) ∧ w.heap.size < wr.heap.size ∧ Below w.heap.size w wr)
  case atStart =>
    refine ⟨0, List.replicate xs.length 0, Nat.le_refl _, rfl, rfl, by decide, by decide, Bk.new_ rfl, by simp, Digs.zeros _, ?_, by go_size, by (repeat' (first | (with_reducible exact Below.refl _ _) | (with_reducible assumption) | (with_reducible refine Below.drew ?_) | (with_reducible refine below_drewN ?_ _) | ((with_reducible refine Below.alloc ?_ ?_ _); rotate_left; focus (go_size; done)) | ((with_reducible refine Below.setCell ?_ ?_ _); rotate_left; focus (go_size; done)) | ((with_reducible refine Below.trans ?_ (Below.mono (by with_reducible assumption) ?_)); rotate_left; focus (go_size; done))))⟩
    rw [List.drop_of_length_le (by simp), List.drop_of_length_le (Nat.le_refl _)]
    rfl
  case round =>
    obtain ⟨ll, ds, hk, rfl, rfl, hl0, hl1, hbk, hdl, hdd, hval, hsz, hbel⟩ := hrel
    have HB := Lib.hid hbk
    have HL := Lib.hid hdl
    have HDD := Lib.hid hdd
    have HV := Lib.hid hval
    clear hbk hdl hdd hval
    by_cases h0 : gk = 0
    · subst h0
      have hm : ¬ (0 : Int) ≤ ((0 : Nat) : Int) - 1 := by omega
      go_wp2_with fail
      refine (cut_any ds _ _ (IsSl.of_bk HB.out HL.out (Nat.le_refl _)) HDD.out (by rw [HL.out]; omega)).mono ?_
      rintro _ w2 ⟨v2, rfl, hdg, hb2⟩
      go_wp2_with fail
      go_ret2
      have hv := HV.out
      rw [List.drop_zero, List.drop_zero, HD.out.2.2] at hv
      have h1 := (dval_bd HDD.out).1
      have e1 : (dval ds).toNat = N / 2 := by omega
      have e2 : ll = ((N % 2 : Nat) : Int) := by omega
      rw [e1] at hdg
      refine ⟨v2, ?_, hdg, by (repeat' (first | (with_reducible exact Below.refl _ _) | (with_reducible assumption) | (with_reducible refine Below.drew ?_) | (with_reducible refine below_drewN ?_ _) | ((with_reducible refine Below.alloc ?_ ?_ _); rotate_left; focus (go_size; done)) | ((with_reducible refine Below.setCell ?_ ?_ _); rotate_left; focus (go_size; done)) | ((with_reducible refine Below.trans ?_ (Below.mono (by with_reducible assumption) ?_)); rotate_left; focus (go_size; done))))⟩
      rw [← e2]
      rfl
    · obtain ⟨m, rfl⟩ : ∃ m, gk = m + 1 := ⟨gk - 1, by omega⟩
      obtain ⟨g, o, rfl, hg, hcell⟩ := HS.out.at_ (k := m) (by omega)
      have hcell2 := (hbel.cell (p := ⟨g, o + m, none⟩) hg).trans hcell
      have hx := HD.out.get m
      obtain ⟨d, hd⟩ : ∃ d, d = xs.getD m 0 := ⟨_, rfl⟩
      rw [← hd] at hcell2 hx
      obtain ⟨hx0, hx9⟩ := hx
      have HE := Lib.hid hd
      have hp : (0 : Int) < ((m + 1 : Nat) : Int) := by omega
      have hx : ((m + 1 : Nat) : Int) - 1 = (m : Int) := by omega
      have hmd : m < ds.length := by have := HL.out; omega
      have hst : wr.cell? ⟨w.heap.size, m, none⟩ = some (.int .i64 (ds.getD m 0)) := HB.out.cell _ (by rw [List.getElem?_map, List.getElem?_eq_getElem hmd, getD_lt _ _ hmd]; rfl)
      have hfz := HB.out.frozen m
      clear h0 hd hcell
      go_wp2_with fail
      go_roundg m
      case measure => omega
      case rel =>
        refine ⟨(10 * ll + d) % 2, ds.set m ((10 * ll + d) / 2), by omega, rfl, rfl, by omega, by omega, ?_, by rw [List.length_set]; exact HL.out, HDD.out.set_ m (by omega) (by omega), ?_, by go_size, by (repeat' (first | (with_reducible exact Below.refl _ _) | (with_reducible assumption) | (with_reducible refine Below.drew ?_) | (with_reducible refine below_drewN ?_ _) | ((with_reducible refine Below.alloc ?_ ?_ _); rotate_left; focus (go_size; done)) | ((with_reducible refine Below.setCell ?_ ?_ _); rotate_left; focus (go_size; done)) | ((with_reducible refine Below.trans ?_ (Below.mono (by with_reducible assumption) ?_)); rotate_left; focus (go_size; done))))⟩
        · have := HB.out.set_ m (.int .i64 ((10 * ll + d) / 2))
          rwa [← List.map_set] at this
        · rw [drop_set _ _ _ hmd, dval_drop xs m (by omega), ← HE.out]
          have hv := HV.out
          show 2 * ((10 * ll + d) / 2 + 10 * dval (ds.drop (m + 1))) + (10 * ll + d) % 2 = _
          omega
end Go.Proofs.YtogpbcllbbpgbaaDoor

set_option linter.unusedSimpArgs false
set_option linter.unusedVariables false
namespace Go.Proofs.YtogpbcllbbpgbaaDoor
open Go.RowKit

theorem bit_step (n m j : Nat) (hj : j < 64) : 2 * (n / 2 ^ (64 * m + (j + 1))) + (n / 2 ^ (64 * m) % 2 ^ 64 / 2 ^ j % 2) = n / 2 ^ (64 * m + j) := by
  have e1 : 2 ^ 64 = 2 ^ j * 2 ^ (64 - j) := by rw [← Nat.pow_add]; congr 1; omega
  have e2 : n / 2 ^ (64 * m) % 2 ^ 64 / 2 ^ j % 2 = n / 2 ^ (64 * m + j) % 2 := by
    rw [e1, Nat.mod_mul_right_div_self, Nat.div_div_eq_div_mul, ← Nat.pow_add]
    have hd : 2 ^ 1 ∣ 2 ^ (64 - j) := Nat.pow_dvd_pow 2 (by omega)
    exact Nat.mod_mod_of_dvd _ hd
  rw [e2, ← Nat.add_assoc, Nat.pow_succ, ← Nat.div_div_eq_div_mul]
  omega
theorem pow_le_gen (a b : Nat) (h : a ≤ b) : 2 ^ a ≤ 10 ^ b := Nat.le_trans (Nat.pow_le_pow_left (by decide) a) (Nat.pow_le_pow_right (by decide) h)
theorem lt_ten_1000 {n : Nat} (h : n < 2 ^ 256) : Small n := fun _ => Nat.lt_of_lt_of_le h (pow_le_gen 256 1000 (by decide))
theorem div_lt_1000 {n : Nat} (h : n < 2 ^ 256) (d : Nat) : Small (n / d) := lt_ten_1000 (Nat.lt_of_le_of_lt (Nat.div_le_self _ _) h)

theorem bit_val (n m j : Nat) : wrap64 (bits .and .u64 (wd n m / 2 ^ j) 1) = ((n / 2 ^ (64 * m) % 2 ^ 64 / 2 ^ j % 2 : Nat) : Int) := by
  unfold wd
  have hx : n / 2 ^ (64 * m) % 2 ^ 64 < 18446744073709551616 := Nat.mod_lt _ (by decide)
  generalize n / 2 ^ (64 * m) % 2 ^ 64 = x at *
  have e : ((x : Nat) : Int) / 2 ^ j = ((x / 2 ^ j : Nat) : Int) := by
    rw [Int.natCast_ediv, Int.natCast_pow]; rfl
  have hy : x / 2 ^ j ≤ x := Nat.div_le_self _ _
  rw [e]
  generalize x / 2 ^ j = y at *
  have h := bits_and_u64_nat y 1 (by omega) (by decide)
  rw [Nat.and_one_is_mod] at h
  have e1 : ((1 : Nat) : Int) = 1 := rfl
  rw [e1] at h
  rw [h]
  exact IntWalk.wrap64_in _ (by omega)

set_option maxHeartbeats 1000000 in
theorem words_any (n b L c : Nat) (w : World) (hn : n < 2 ^ 256) (hL : n < 2 ^ (64 * L)) (hL4 : L ≤ 4) (hb : b < w.heap.size) (hc : L ≤ c) (hw : ∀ i, i < L → w.cell? ⟨b, i, none⟩ = some (.int .u64 (wd n i))) :
    Calls Tryd.prog 69 #[.slice (some ⟨b, 0, none⟩) L c] w (RetDg n w) := by
  have HW := Lib.hid hw
  have HN := Lib.hid hn
  have HL := Lib.hid hL
  clear hw hn hL
  go_enter Tryd.func69, Tryd.ntmps69
  go_wp2_with fail
  go_loopg [3, 4] L (fun k v i wr => k ≤ L ∧ i = .int .i64 ((k : Int) - 1) ∧ Dg wr v (n / 2 ^ (64 * k)) ∧ Below w.heap.size w wr)
  case atStart =>
    refine ⟨Nat.le_refl _, rfl, ⟨[], ⟨none, 0, rfl, Nat.le_refl _, fun h => absurd rfl h⟩, ?_⟩, by (repeat' (first | (with_reducible exact Below.refl _ _) | (with_reducible assumption) | (with_reducible refine Below.drew ?_) | (with_reducible refine below_drewN ?_ _) | ((with_reducible refine Below.alloc ?_ ?_ _); rotate_left; focus (go_size; done)) | ((with_reducible refine Below.setCell ?_ ?_ _); rotate_left; focus (go_size; done)) | ((with_reducible refine Below.trans ?_ (Below.mono (by with_reducible assumption) ?_)); rotate_left; focus (go_size; done))))⟩
    rw [Nat.div_eq_of_lt HL.out]
    exact IsDg.nil
  case round =>
    obtain ⟨hk, rfl, hdg, hbel⟩ := hrel
    have HD := Lib.hid hdg
    clear hdg
    by_cases h0 : gk = 0
    · subst h0
      have hm : ¬ (0 : Int) ≤ ((0 : Nat) : Int) - 1 := by omega
      go_wp2_with fail
      go_ret
      refine ⟨u3, rfl, ?_, hbel⟩
      have := HD.out
      rwa [Nat.mul_zero, Nat.pow_zero, Nat.div_one] at this
    · obtain ⟨m, rfl⟩ : ∃ m, gk = m + 1 := ⟨gk - 1, by omega⟩
      have hp : (0 : Int) < ((m + 1 : Nat) : Int) := by omega
      have hx : ((m + 1 : Nat) : Int) - 1 = (m : Int) := by omega
      have hcw := HW.out m (by omega)
      clear h0
      go_wp2_with fail
      simp only [hx]
      clear hx hp
      obtain ⟨wo, rfl⟩ : ∃ wo : World, wo = wr := ⟨_, rfl⟩
      go_loopg [3, 5] 64 (fun k v i wr => k ≤ 64 ∧ i = .int .i64 ((k : Int) - 1) ∧ Dg wr v (n / 2 ^ (64 * m + k)) ∧ Below w.heap.size w wr)
      case atStart =>
        refine ⟨by decide, rfl, ?_, hbel⟩
        have := HD.out
        rwa [Nat.mul_add] at this
      case round =>
        obtain ⟨hk2, rfl, hdg2, hbel2⟩ := hrel
        have HD2 := Lib.hid hdg2
        clear hdg2
        by_cases h0 : gk = 0
        · subst h0
          have hm : ¬ (0 : Int) ≤ ((0 : Nat) : Int) - 1 := by omega
          go_wp2_with fail
          go_roundg m
          case measure => omega
          case rel =>
            refine ⟨by omega, rfl, ?_, hbel2⟩
            have := HD2.out
            rwa [Nat.add_zero] at this
        · obtain ⟨j, rfl⟩ : ∃ j, gk = j + 1 := ⟨gk - 1, by omega⟩
          have hp2 : (0 : Int) < ((j + 1 : Nat) : Int) := by omega
          have hx2 : ((j + 1 : Nat) : Int) - 1 = (j : Int) := by omega
          have hcw2 := (hbel2.cell (p := ⟨b, m, none⟩) hb).trans hcw
          go_wp2_with fail
          have hbv := bit_val n m j
          have hb2 : n / 2 ^ (64 * m) % 2 ^ 64 / 2 ^ j % 2 < 2 := Nat.mod_lt _ (by decide)
          have hst := bit_step n m j (by omega)
          obtain ⟨t, ht⟩ : ∃ t, t = n / 2 ^ (64 * m) % 2 ^ 64 / 2 ^ j % 2 := ⟨_, rfl⟩
          rw [← ht] at hbv hb2 hst
          rw [hbv]
          have HS := Lib.hid hst
          clear hbv hst ht
          refine (twice_any (n / 2 ^ (64 * m + (j + 1))) (t : Int) (by omega) (by omega) u3 _ HD2.out (div_lt_1000 HN.out _)).mono ?_
          rintro _ w2 ⟨v2, rfl, hdg3, hb3⟩
          have hb3s := hb3.size
          have hb2s := hbel2.size
          rw [Int.toNat_natCast, HS.out] at hdg3
          have HD3 := Lib.hid hdg3
          clear hdg3
          go_wp2_with fail
          go_roundg j
          case measure => omega
          case rel => exact ⟨by omega, rfl, HD3.out, by (repeat' (first | (with_reducible exact Below.refl _ _) | (with_reducible assumption) | (with_reducible refine Below.drew ?_) | (with_reducible refine below_drewN ?_ _) | ((with_reducible refine Below.alloc ?_ ?_ _); rotate_left; focus (go_size; done)) | ((with_reducible refine Below.setCell ?_ ?_ _); rotate_left; focus (go_size; done)) | ((with_reducible refine Below.trans ?_ (Below.mono (by with_reducible assumption) ?_)); rotate_left; focus (go_size; done))))⟩
end Go.Proofs.YtogpbcllbbpgbaaDoor

set_option linter.unusedSimpArgs false
set_option linter.unusedVariables false
namespace Go.Proofs.YtogpbcllbbpgbaaDoor
open Go.RowKit

def lcells (m : Nat) : List Value := (List.range 4).map fun j => .int .u64 (wd m j)
theorem lcells_eq (m : Nat) : lcells m = [.int .u64 (wd m 0), .int .u64 (wd m 1), .int .u64 (wd m 2), .int .u64 (wd m 3)] := rfl
theorem lcells_at (m j : Nat) (hj : j < 4) : (lcells m)[j]? = some (.int .u64 (wd m j)) := by
  unfold lcells
  rw [List.getElem?_map, List.getElem?_range hj]; rfl
theorem lcells_set (V j : Nat) (hj : j < 4) (hV : V < 2 ^ 256) (v : Int) (h0 : 0 ≤ v) (h1 : v < 18446744073709551616) :
    ∃ V' : Nat, V' < 2 ^ 256 ∧ (V' : Int) = V + (v - wd V j) * ((2 ^ (64 * j) : Nat) : Int) ∧ (lcells V).set j (.int .u64 v) = lcells V' ∧ (∀ i, i < 4 → i ≠ j → wd V' i = wd V i) ∧ wd V' j = v := by
  have hf := wd_four hV
  have a0 := wd_nn V 0
  have a1 := wd_lt V 0
  have b0 := wd_nn V 1
  have b1 := wd_lt V 1
  have c0 := wd_nn V 2
  have c1 := wd_lt V 2
  have d0 := wd_nn V 3
  have d1 := wd_lt V 3
  have key : ∀ (x0 x1 x2 x3 : Int), 0 ≤ x0 → x0 < 18446744073709551616 → 0 ≤ x1 → x1 < 18446744073709551616 → 0 ≤ x2 → x2 < 18446744073709551616 → 0 ≤ x3 → x3 < 18446744073709551616 →
      ∃ V' : Nat, V' < 2 ^ 256 ∧ (V' : Int) = x3 * 6277101735386680763835789423207666416102355444464034512896 + x2 * 340282366920938463463374607431768211456 + x1 * 18446744073709551616 + x0 ∧ x0 = wd V' 0 ∧ x1 = wd V' 1 ∧ x2 = wd V' 2 ∧ x3 = wd V' 3 := by
    intro x0 x1 x2 x3 e0 e1 e2 e3 e4 e5 e6 e7
    refine ⟨(x3 * 6277101735386680763835789423207666416102355444464034512896 + x2 * 340282366920938463463374607431768211456 + x1 * 18446744073709551616 + x0).toNat, by omega, by omega, ?_⟩
    exact wd_of4 _ x0 x1 x2 x3 e0 e1 e2 e3 e4 e5 e6 e7 (by omega)
  have hc : j = 0 ∨ j = 1 ∨ j = 2 ∨ j = 3 := by omega
  rcases hc with rfl | rfl | rfl | rfl
  · obtain ⟨V', g1, g2, e0, e1, e2, e3⟩ := key v (wd V 1) (wd V 2) (wd V 3) h0 h1 b0 b1 c0 c1 d0 d1
    refine ⟨V', g1, ?_, ?_, ?_, e0.symm⟩
    · rw [g2]; omega
    · rw [lcells_eq, lcells_eq, ← e0, ← e1, ← e2, ← e3]; rfl
    · intro i hi hne
      have hc : i = 1 ∨ i = 2 ∨ i = 3 := by omega
      rcases hc with rfl | rfl | rfl
      · exact e1.symm
      · exact e2.symm
      · exact e3.symm
  · obtain ⟨V', g1, g2, e0, e1, e2, e3⟩ := key (wd V 0) v (wd V 2) (wd V 3) a0 a1 h0 h1 c0 c1 d0 d1
    refine ⟨V', g1, ?_, ?_, ?_, e1.symm⟩
    · rw [g2]; omega
    · rw [lcells_eq, lcells_eq, ← e0, ← e1, ← e2, ← e3]; rfl
    · intro i hi hne
      have hc : i = 0 ∨ i = 2 ∨ i = 3 := by omega
      rcases hc with rfl | rfl | rfl
      · exact e0.symm
      · exact e2.symm
      · exact e3.symm
  · obtain ⟨V', g1, g2, e0, e1, e2, e3⟩ := key (wd V 0) (wd V 1) v (wd V 3) a0 a1 b0 b1 h0 h1 d0 d1
    refine ⟨V', g1, ?_, ?_, ?_, e2.symm⟩
    · rw [g2]; omega
    · rw [lcells_eq, lcells_eq, ← e0, ← e1, ← e2, ← e3]; rfl
    · intro i hi hne
      have hc : i = 0 ∨ i = 1 ∨ i = 3 := by omega
      rcases hc with rfl | rfl | rfl
      · exact e0.symm
      · exact e1.symm
      · exact e3.symm
  · obtain ⟨V', g1, g2, e0, e1, e2, e3⟩ := key (wd V 0) (wd V 1) (wd V 2) v a0 a1 b0 b1 c0 c1 h0 h1
    refine ⟨V', g1, ?_, ?_, ?_, e3.symm⟩
    · rw [g2]; omega
    · rw [lcells_eq, lcells_eq, ← e0, ← e1, ← e2, ← e3]; rfl
    · intro i hi hne
      have hc : i = 0 ∨ i = 1 ∨ i = 2 := by omega
      rcases hc with rfl | rfl | rfl
      · exact e0.symm
      · exact e1.symm
      · exact e2.symm
theorem wd_past {V k j : Nat} (h : V < 2 ^ (64 * k)) (hj : k ≤ j) : wd V j = 0 := by
  unfold wd
  rw [Nat.div_eq_of_lt (Nat.lt_of_lt_of_le h (Nat.pow_le_pow_right (by decide) (by omega)))]; rfl
/-- one word more of a number from below -/
theorem wd_mod_succ (n t : Nat) : ((n % 2 ^ (64 * (t + 1)) : Nat) : Int) = ((n % 2 ^ (64 * t) : Nat) : Int) + wd n t * ((2 ^ (64 * t) : Nat) : Int) := by
  unfold wd
  rw [show 64 * (t + 1) = 64 * t + 64 by omega, Nat.pow_add, Nat.mod_mul, Int.natCast_add, Int.natCast_mul, Int.mul_comm]
end Go.Proofs.YtogpbcllbbpgbaaDoor

set_option linter.unusedSimpArgs false
set_option linter.unusedVariables false
namespace Go.Proofs.YtogpbcllbbpgbaaDoor
open Go.RowKit

set_option maxHeartbeats 1000000 in
theorem of_any (n : Nat) (hn : n < 2 ^ 128) (w : World) : Calls Tryd.prog 44 #[.agg #[.int .u64 (wd n 1), .int .u64 (wd n 0)]] w (RetDg n w) := by
  have HN := Lib.hid hn
  clear hn
  have H := Lib.hid (fun (W : World) (b : Nat) (hb : b < W.heap.size) (hw : ∀ i, i < 2 → W.cell? ⟨b, i, none⟩ = some (.int .u64 (wd n i))) =>
    words_any n b 2 2 W (Nat.lt_of_lt_of_le HN.out (Nat.pow_le_pow_right (by decide) (by decide))) HN.out (by decide) hb (Nat.le_refl _) hw)
  go_enter Tryd.func44, Tryd.ntmps44
  go_wp2_with fail
  refine (H.out _ _ (by go_size) ?_).mono ?_
  · intro i hi
    match i, hi with
    | 0, _ => simp [go_sem]
    | 1, _ => simp [go_sem]
  rintro _ w1 ⟨v, rfl, hdg, hb⟩
  have HD := Lib.hid hdg
  clear hdg
  go_wp2_with fail
  go_ret
  exact ⟨v, rfl, HD.out, by (repeat' (first | (with_reducible exact Below.refl _ _) | (with_reducible assumption) | (with_reducible refine Below.drew ?_) | (with_reducible refine below_drewN ?_ _) | ((with_reducible refine Below.alloc ?_ ?_ _); rotate_left; focus (go_size; done)) | ((with_reducible refine Below.setCell ?_ ?_ _); rotate_left; focus (go_size; done)) | ((with_reducible refine Below.trans ?_ (Below.mono (by with_reducible assumption) ?_)); rotate_left; focus (go_size; done))))⟩
theorem bit_top (N n : Nat) : N % 2 ^ (n + 1) = N % 2 ^ n + 2 ^ n * (N / 2 ^ n % 2) := by
  rw [Nat.pow_succ, Nat.mod_mul]
theorem or_gen2 (i a b : Nat) (hb : b < 2 ^ i) : b ||| a * 2 ^ i = b + a * 2 ^ i := by
  rw [Nat.or_comm, Nat.mul_comm, Nat.add_comm b]; exact (Nat.two_pow_add_eq_or_of_lt hb a).symm
theorem word_here (N n t : Nat) (ht : t = N / 2 ^ n % 2) : bits .or .u64 (wd (N % 2 ^ n) (n / 64)) (IntKind.u64.wrap ((t : Int) * 2 ^ (n % 64))) = wd (N % 2 ^ (n + 1)) (n / 64) := by
  have ht2 : t < 2 := by omega
  have hr : n % 64 < 64 := Nat.mod_lt _ (by decide)
  have en : 2 ^ n = 2 ^ (64 * (n / 64)) * 2 ^ (n % 64) := by rw [← Nat.pow_add]; congr 1; omega
  have hM : N % 2 ^ n < 2 ^ n := Nat.mod_lt _ (Nat.two_pow_pos n)
  have e1 : (N % 2 ^ (n + 1)) / 2 ^ (64 * (n / 64)) = N % 2 ^ n / 2 ^ (64 * (n / 64)) + t * 2 ^ (n % 64) := by
    rw [bit_top N n, ← ht]
    generalize N % 2 ^ n = M
    rw [en, Nat.mul_assoc, Nat.add_mul_div_left _ _ (Nat.two_pow_pos _), Nat.mul_comm t]
  have hA : N % 2 ^ n / 2 ^ (64 * (n / 64)) < 2 ^ (n % 64) := Nat.div_lt_of_lt_mul (by rw [← en]; exact hM)
  unfold wd
  rw [e1]
  generalize N % 2 ^ n / 2 ^ (64 * (n / 64)) = A at *
  have h2 : 2 ^ (n % 64) ≤ 2 ^ 63 := Nat.pow_le_pow_right (by decide) (by omega)
  have hor := or_gen2 (n % 64) t A hA
  have e2 : (t : Int) * 2 ^ (n % 64) = ((t * 2 ^ (n % 64) : Nat) : Int) := by rw [Int.natCast_mul, Int.natCast_pow]; rfl
  rw [e2]
  have hle : t * 2 ^ (n % 64) ≤ 2 ^ (n % 64) := by
    have : t = 0 ∨ t = 1 := by omega
    rcases this with rfl | rfl <;> simp
  generalize t * 2 ^ (n % 64) = T at *
  generalize 2 ^ (n % 64) = P at *
  have e3 : IntKind.u64.wrap (T : Int) = (T : Int) := by rw [IntKind.wrap_u64]; omega
  rw [e3, Nat.mod_eq_of_lt (show A < 2 ^ 64 by omega), bits_or_u64_nat A T (by omega) (by omega), hor, Nat.mod_eq_of_lt (show A + T < 2 ^ 64 by omega)]
theorem word_else (N n j : Nat) (hj : j ≠ n / 64) : wd (N % 2 ^ (n + 1)) j = wd (N % 2 ^ n) j := by
  unfold wd
  congr 1
  rw [bit_top N n]
  have hM : N % 2 ^ n < 2 ^ n := Nat.mod_lt _ (Nat.two_pow_pos n)
  have ht : N / 2 ^ n % 2 < 2 := Nat.mod_lt _ (by decide)
  generalize N % 2 ^ n = M at *
  generalize N / 2 ^ n % 2 = t at *
  rcases Nat.lt_or_ge j (n / 64) with h | h
  · have en : 2 ^ n = 2 ^ (64 * j) * (2 ^ 64 * 2 ^ (n - 64 * j - 64)) := by rw [← Nat.pow_add, ← Nat.pow_add]; congr 1; omega
    rw [en, Nat.mul_assoc, Nat.add_mul_div_left _ _ (Nat.two_pow_pos _), Nat.mul_assoc, Nat.add_mul_mod_self_left]
  · have hp : 2 ^ (n + 1) ≤ 2 ^ (64 * j) := Nat.pow_le_pow_right (by decide) (by omega)
    rw [Nat.pow_succ] at hp
    have h1 : 2 ^ n * t ≤ 2 ^ n := by
      have : t = 0 ∨ t = 1 := by omega
      rcases this with rfl | rfl <;> simp
    rw [Nat.div_eq_of_lt (by omega), Nat.div_eq_of_lt (by omega)]
theorem lcells_step (N n : Nat) (x : Int) (hx : x = wd (N % 2 ^ (n + 1)) (n / 64)) : (lcells (N % 2 ^ n)).set (n / 64) (.int .u64 x) = lcells (N % 2 ^ (n + 1)) := by
  apply List.ext_getElem
  · simp [lcells]
  · intro j h1 h2
    simp only [lcells, List.getElem_set, List.getElem_map, List.getElem_range]
    by_cases hj : n / 64 = j
    · rw [if_pos hj, hx, hj]
    · rw [if_neg hj, word_else N n j (fun e => hj e.symm)]
def fitsL (N : Nat) : Bool := decide (N < 2 ^ 256)
def RetLong (N : Nat) (w : World) (e : Ending) (w' : World) : Prop := e = .returned (.tuple #[.agg #[.int .u64 (wd (N % 2 ^ 256) 0), .int .u64 (wd (N % 2 ^ 256) 1), .int .u64 (wd (N % 2 ^ 256) 2), .int .u64 (wd (N % 2 ^ 256) 3)], .bool (fitsL N)]) ∧ Below w.heap.size w w'
set_option maxHeartbeats 2000000 in
set_option maxRecDepth 100000 in
theorem tolong_any (N : Nat) (v : Value) (w : World) (hv : Dg w v N) (hN : Small N) :
    Calls Tryd.prog 61 #[v] w (RetLong N w) := by
  have HV := Lib.hid hv
  have HN := Lib.hid hN
  clear hv hN
  go_enter Tryd.func61, Tryd.ntmps61
  go_wp2_with fail
  go_loopg [0, 5] 256 (fun k v i wr => ∃ n : Nat, k + n = 256 ∧ i = .int .i64 n ∧ Dg wr v (N / 2 ^ n) ∧ Bk wr (w.heap.size + 1) 52 (lcells (N % 2 ^ n)) ∧
    Bk wr w.heap.size 52 [.int .u64 0, .int .u64 0, .int .u64 0, .int .u64 0] ∧ w.heap.size + 2 ≤ wr.heap.size ∧ Below w.heap.size w wr)
  case atStart =>
    refine ⟨0, rfl, rfl, ?_, ?_, by (repeat (first | (with_reducible assumption) | ((with_reducible refine Bk.new_ ?_); (first | rfl | (simp only [World.size_alloc, World.size_setCell, World.size_drew, World.heap_drewN]; done))) | (with_reducible refine Bk.alloc ?_ _) | (with_reducible refine Bk.drew ?_) | (with_reducible refine Bk.drewN ?_ _) | ((with_reducible refine Bk.far ?_ ?_ _); rotate_left; focus (simp only []; omega)) | ((with_reducible refine Bk.below ?_ (by with_reducible assumption) ?_); rotate_left; focus (go_size; done)))), by go_size, by (repeat' (first | (with_reducible exact Below.refl _ _) | (with_reducible assumption) | (with_reducible refine Below.drew ?_) | (with_reducible refine below_drewN ?_ _) | ((with_reducible refine Below.alloc ?_ ?_ _); rotate_left; focus (go_size; done)) | ((with_reducible refine Below.setCell ?_ ?_ _); rotate_left; focus (go_size; done)) | ((with_reducible refine Below.trans ?_ (Below.mono (by with_reducible assumption) ?_)); rotate_left; focus (go_size; done))))⟩
    · rw [Nat.pow_zero, Nat.div_one]
      exact HV.out.below (by (repeat' (first | (with_reducible exact Below.refl _ _) | (with_reducible assumption) | (with_reducible refine Below.drew ?_) | (with_reducible refine below_drewN ?_ _) | ((with_reducible refine Below.alloc ?_ ?_ _); rotate_left; focus (go_size; done)) | ((with_reducible refine Below.setCell ?_ ?_ _); rotate_left; focus (go_size; done)) | ((with_reducible refine Below.trans ?_ (Below.mono (by with_reducible assumption) ?_)); rotate_left; focus (go_size; done)))))
    · rw [Nat.pow_zero, Nat.mod_one]
      show Bk _ _ _ [.int .u64 0, .int .u64 0, .int .u64 0, .int .u64 0]
      (repeat (first | (with_reducible assumption) | ((with_reducible refine Bk.new_ ?_); (first | rfl | (simp only [World.size_alloc, World.size_setCell, World.size_drew, World.heap_drewN]; done))) | (with_reducible refine Bk.alloc ?_ _) | (with_reducible refine Bk.drew ?_) | (with_reducible refine Bk.drewN ?_ _) | ((with_reducible refine Bk.far ?_ ?_ _); rotate_left; focus (simp only []; omega)) | ((with_reducible refine Bk.below ?_ (by with_reducible assumption) ?_); rotate_left; focus (go_size; done))))
  case round =>
    obtain ⟨n, hk, rfl, hdg, b1, b0, hsz, hbel⟩ := hrel
    have HK := Lib.hid hk
    have HD := Lib.hid hdg
    have H1 := Lib.hid b1
    have hn : n ≤ 256 := by omega
    have hlt0 : Small (N / 2 ^ n) := HN.out.of_le (Nat.div_le_self _ _)
    have HT := Lib.hid hlt0
    clear hk hdg b1 hlt0
    (try have : w.heap.size < wr.heap.size := by omega); (try have : w.heap.size + 1 < wr.heap.size := by omega); (try have : w.heap.size + 1 + 1 < wr.heap.size := by omega); (try have : w.heap.size + 1 + 1 + 1 < wr.heap.size := by omega)
    by_cases hlt : n < 256
    · go_wp2_with fail
      refine (half_any _ _ _ HD.out HT.out).mono ?_
      rintro _ w1 ⟨v1, rfl, hdg1, hb1⟩
      have hb1s := hb1.size
      have HD1 := Lib.hid hdg1
      obtain ⟨t, ht⟩ : ∃ t, t = N / 2 ^ n % 2 := ⟨_, rfl⟩
      rw [← ht]
      have ht2 : t < 2 := by omega
      have GT := Lib.hid ht
      have hq : n / 64 < 4 := by omega
      have hc1 : w1.cell? ⟨w.heap.size + 1, n / 64, none⟩ = some (.int .u64 (wd (N % 2 ^ n) (n / 64))) := by
        refine (hb1.cell (p := ⟨w.heap.size + 1, n / 64, none⟩) (by show w.heap.size + 1 < _; omega)).trans (H1.out.cell _ ?_)
        unfold lcells
        rw [List.getElem?_map, List.getElem?_range hq]; rfl
      have hf1 : w1.frozen? ⟨w.heap.size + 1, n / 64, none⟩ = false := (hb1.frozen (p := ⟨w.heap.size + 1, n / 64, none⟩) (by show w.heap.size + 1 < _; omega)).trans (H1.out.frozen _)
      clear hdg1 ht
      go_wp2_with fail
      go_region
      go_wp2_with fail
      go_roundg (gk - 1)
      case measure => have := HK.out; omega
      case rel =>
        refine ⟨n + 1, by have := HK.out; omega, by go_num, ?_, ?_, by (repeat (first | (with_reducible assumption) | ((with_reducible refine Bk.new_ ?_); (first | rfl | (simp only [World.size_alloc, World.size_setCell, World.size_drew, World.heap_drewN]; done))) | (with_reducible refine Bk.alloc ?_ _) | (with_reducible refine Bk.drew ?_) | (with_reducible refine Bk.drewN ?_ _) | ((with_reducible refine Bk.far ?_ ?_ _); rotate_left; focus (simp only []; omega)) | ((with_reducible refine Bk.below ?_ (by with_reducible assumption) ?_); rotate_left; focus (go_size; done)))), by go_size, by (repeat' (first | (with_reducible exact Below.refl _ _) | (with_reducible assumption) | (with_reducible refine Below.drew ?_) | (with_reducible refine below_drewN ?_ _) | ((with_reducible refine Below.alloc ?_ ?_ _); rotate_left; focus (go_size; done)) | ((with_reducible refine Below.setCell ?_ ?_ _); rotate_left; focus (go_size; done)) | ((with_reducible refine Below.trans ?_ (Below.mono (by with_reducible assumption) ?_)); rotate_left; focus (go_size; done))))⟩
        · have := HD1.out
          rw [Nat.div_div_eq_div_mul, ← Nat.pow_succ] at this
          exact (this.far (H1.out.below hb1 (by go_size)) (by decide) _ _).drew
        · rw [← lcells_step N n _ (word_here N n t GT.out)]
          refine (Bk.set_ ?_ _ _).drew
          exact H1.out.below hb1 (by go_size)
    · obtain rfl : n = 256 := by omega
      have c0 : wr.cell? ⟨w.heap.size + 1, 0, none⟩ = some (.int .u64 (wd (N % 2 ^ 256) 0)) := H1.out.cell 0 rfl
      have c1 : wr.cell? ⟨w.heap.size + 1, 1, none⟩ = some (.int .u64 (wd (N % 2 ^ 256) 1)) := H1.out.cell 1 rfl
      have c2 : wr.cell? ⟨w.heap.size + 1, 2, none⟩ = some (.int .u64 (wd (N % 2 ^ 256) 2)) := H1.out.cell 2 rfl
      have c3 : wr.cell? ⟨w.heap.size + 1, 3, none⟩ = some (.int .u64 (wd (N % 2 ^ 256) 3)) := H1.out.cell 3 rfl
      have d0 := b0.cell 0 rfl
      have d1 := b0.cell 1 rfl
      have d2 := b0.cell 2 rfl
      have d3 := b0.cell 3 rfl
      have e0 := b0.frozen 0
      have e1 := b0.frozen 1
      have e2 := b0.frozen 2
      have e3 := b0.frozen 3
      obtain ⟨ys, ⟨A2, c2', rfl, hc2, hs2⟩, hd2⟩ := HD.out
      have hz := hd2.zero_iff
      have hb : ((ys.length : Int) == 0) = decide (N < 2 ^ 256) := by
        rw [Bool.eq_iff_iff]
        simp only [beq_iff_eq, decide_eq_true_eq]
        constructor
        · intro h
          have h0 := hz.1 (by omega)
          exact Nat.lt_of_div_eq_zero (Nat.two_pow_pos _) h0
        · intro h
          have := hz.2 (Nat.div_eq_of_lt h)
          omega
      have HB : Hid (((ys.length : Int) == 0) = fitsL N) := Lib.hid hb
      clear hb hz hd2 hs2
      obtain ⟨M, hM⟩ : ∃ M, M = N % 2 ^ 256 := ⟨_, rfl⟩
      rw [← hM] at c0 c1 c2 c3
      have HM := Lib.hid hM
      clear hM H1
      go_wp2_with fail
      refine bodyPost_ret (by simp [results, Tryd.results61, go_sem, *]; try rfl) rfl ?_
      unfold RetLong
      rw [HB.out, HM.out]
      exact ⟨rfl, by (repeat' (first | (with_reducible exact Below.refl _ _) | (with_reducible assumption) | (with_reducible refine Below.drew ?_) | (with_reducible refine below_drewN ?_ _) | ((with_reducible refine Below.alloc ?_ ?_ _); rotate_left; focus (go_size; done)) | ((with_reducible refine Below.setCell ?_ ?_ _); rotate_left; focus (go_size; done)) | ((with_reducible refine Below.trans ?_ (Below.mono (by with_reducible assumption) ?_)); rotate_left; focus (go_size; done))))⟩

def RetWide (N : Nat) (w : World) (e : Ending) (w' : World) : Prop := e = .returned (.tuple #[.agg #[.int .u64 (wd (N % 2 ^ 256) 1), .int .u64 (wd (N % 2 ^ 256) 0)], .bool (decide (N < 2 ^ 128))]) ∧ Below w.heap.size w w'
theorem wide_flag (N : Nat) : (fitsL N && ((wd (N % 2 ^ 256) 2 == 0) && (wd (N % 2 ^ 256) 3 == 0))) = decide (N < 2 ^ 128) := by
  unfold fitsL
  rw [Bool.eq_iff_iff]
  simp only [Bool.and_eq_true, beq_iff_eq, decide_eq_true_eq]
  have h := wd_low4 (n := N % 2 ^ 256) (Nat.mod_lt _ (by decide))
  constructor
  · rintro ⟨h1, h2⟩
    have := h.1 h2
    rwa [Nat.mod_eq_of_lt h1] at this
  · intro h1
    have h2 : N < 2 ^ 256 := Nat.lt_trans h1 (by decide)
    refine ⟨h2, h.2 ?_⟩
    rwa [Nat.mod_eq_of_lt h2]
set_option maxHeartbeats 2000000 in
set_option maxRecDepth 100000 in
theorem to_any (N : Nat) (v : Value) (w : World) (hv : Dg w v N) (hN : Small N) :
    Calls Tryd.prog 30 #[v] w (RetWide N w) := by
  have HV := Lib.hid hv
  have HN := Lib.hid hN
  have HF := Lib.hid (wide_flag N)
  clear hv hN
  go_enter Tryd.func30, Tryd.ntmps30
  go_wp2_with fail
  refine (tolong_any N v _ (HV.out.below (by (repeat' (first | (with_reducible exact Below.refl _ _) | (with_reducible assumption) | (with_reducible refine Below.drew ?_) | (with_reducible refine below_drewN ?_ _) | ((with_reducible refine Below.alloc ?_ ?_ _); rotate_left; focus (go_size; done)) | ((with_reducible refine Below.setCell ?_ ?_ _); rotate_left; focus (go_size; done)) | ((with_reducible refine Below.trans ?_ (Below.mono (by with_reducible assumption) ?_)); rotate_left; focus (go_size; done)))))) HN.out).mono ?_
  rintro _ w1 ⟨rfl, hb⟩
  have hbs := hb.size
  simp only [World.size_alloc] at hbs
  obtain ⟨hbc, hbf⟩ := bcell hb
  obtain ⟨M, hM⟩ : ∃ M, M = N % 2 ^ 256 := ⟨_, rfl⟩
  rw [← hM] at HF ⊢
  have HM := Lib.hid hM
  clear hM
  (try have : w.heap.size < w1.heap.size := by omega); (try have : w.heap.size + 1 < w1.heap.size := by omega); (try have : w.heap.size + 1 + 1 < w1.heap.size := by omega); (try have : w.heap.size + 1 + 1 + 1 < w1.heap.size := by omega)
  generalize fitsL N = fl at *
  cases fl
  · go_wp2_with fail
    go_region
    all_goals
      go_wp2_with fail
      refine bodyPost_ret (by simp [results, Tryd.results30, go_sem, *]; try rfl) rfl ?_
      exact ⟨by rw [← HF.out, HM.out]; rfl, by (repeat' (first | (with_reducible exact Below.refl _ _) | (with_reducible assumption) | (with_reducible refine Below.drew ?_) | (with_reducible refine below_drewN ?_ _) | ((with_reducible refine Below.alloc ?_ ?_ _); rotate_left; focus (go_size; done)) | ((with_reducible refine Below.setCell ?_ ?_ _); rotate_left; focus (go_size; done)) | ((with_reducible refine Below.trans ?_ (Below.mono (by with_reducible assumption) ?_)); rotate_left; focus (go_size; done))))⟩
  · cases h2 : (wd M 2 == 0)
    · rw [h2] at HF
      go_wp2_with fail
      go_region
      all_goals
        go_wp2_with fail
        refine bodyPost_ret (by simp [results, Tryd.results30, go_sem, *]; try rfl) rfl ?_
        exact ⟨by rw [← HF.out, HM.out]; rfl, by (repeat' (first | (with_reducible exact Below.refl _ _) | (with_reducible assumption) | (with_reducible refine Below.drew ?_) | (with_reducible refine below_drewN ?_ _) | ((with_reducible refine Below.alloc ?_ ?_ _); rotate_left; focus (go_size; done)) | ((with_reducible refine Below.setCell ?_ ?_ _); rotate_left; focus (go_size; done)) | ((with_reducible refine Below.trans ?_ (Below.mono (by with_reducible assumption) ?_)); rotate_left; focus (go_size; done))))⟩
    · cases h3 : (wd M 3 == 0)
      all_goals
        rw [h2, h3] at HF
        go_wp2_with fail
        go_region
        all_goals
          go_wp2_with fail
          refine bodyPost_ret (by simp [results, Tryd.results30, go_sem, *]; try rfl) rfl ?_
          exact ⟨by rw [← HF.out, HM.out]; rfl, by (repeat' (first | (with_reducible exact Below.refl _ _) | (with_reducible assumption) | (with_reducible refine Below.drew ?_) | (with_reducible refine below_drewN ?_ _) | ((with_reducible refine Below.alloc ?_ ?_ _); rotate_left; focus (go_size; done)) | ((with_reducible refine Below.setCell ?_ ?_ _); rotate_left; focus (go_size; done)) | ((with_reducible refine Below.trans ?_ (Below.mono (by with_reducible assumption) ?_)); rotate_left; focus (go_size; done))))⟩
end Go.Proofs.YtogpbcllbbpgbaaDoor

set_option linter.unusedSimpArgs false
set_option linter.unusedVariables false
namespace Go.Proofs.YtogpbcllbbpgbaaDoor
open Go.RowKit
theorem eq_wide (a b c d : Int) (W : World) : (binOp .eql 24 (.agg #[.int .u64 a, .int .u64 b]) (.agg #[.int .u64 c, .int .u64 d])).run Tryd.prog W = .ok (.bool ((a == c) && (b == d))) W := by
  go_simp
  by_cases h0 : a = c <;> by_cases h1 : b = d <;> simp [h0, h1]
set_option maxRecDepth 100000 in
theorem eq_long (a b c d e f g h : Int) (W : World) : (binOp .eql 52 (.agg #[.int .u64 a, .int .u64 b, .int .u64 c, .int .u64 d]) (.agg #[.int .u64 e, .int .u64 f, .int .u64 g, .int .u64 h])).run Tryd.prog W = .ok (.bool ((a == e) && ((b == f) && ((c == g) && (d == h))))) W := by
  obtain ⟨i0, hi⟩ : ∃ i, Tryd.prog.info? 22 = some i := ⟨_, rfl⟩
  have hc : Tryd.prog.cellsOf 22 = 1 := by kernel_rfl
  have hr : List.range 4 = [0, 1, 2, 3] := rfl
  go_simp
  rw [Go.run_equalIn_array W 9999 _ _ Tryd.underlying52 hi, hc, hr]
  simp [Op.eqItems, go_sem]
  by_cases h0 : a = e <;> by_cases h1 : b = f <;> by_cases h2 : c = g <;> by_cases h3 : d = h <;> simp [h0, h1, h2, h3]
theorem neq_wide (a b c d : Int) (W : World) : (binOp .neq 24 (.agg #[.int .u64 a, .int .u64 b]) (.agg #[.int .u64 c, .int .u64 d])).run Tryd.prog W = .ok (.bool (!((a == c) && (b == d)))) W := by
  go_simp
  by_cases h0 : a = c <;> by_cases h1 : b = d <;> simp [h0, h1]
set_option maxRecDepth 100000 in
theorem neq_long (a b c d e f g h : Int) (W : World) : (binOp .neq 52 (.agg #[.int .u64 a, .int .u64 b, .int .u64 c, .int .u64 d]) (.agg #[.int .u64 e, .int .u64 f, .int .u64 g, .int .u64 h])).run Tryd.prog W = .ok (.bool (!((a == e) && ((b == f) && ((c == g) && (d == h)))))) W := by
  obtain ⟨i0, hi⟩ : ∃ i, Tryd.prog.info? 22 = some i := ⟨_, rfl⟩
  have hc : Tryd.prog.cellsOf 22 = 1 := by kernel_rfl
  have hr : List.range 4 = [0, 1, 2, 3] := rfl
  go_simp
  rw [Go.run_equalIn_array W 9999 _ _ Tryd.underlying52 hi, hc, hr]
  simp [Op.eqItems, go_sem]
  by_cases h0 : a = e <;> by_cases h1 : b = f <;> by_cases h2 : c = g <;> by_cases h3 : d = h <;> simp [h0, h1, h2, h3]
theorem wd_eq0 {n : Nat} (hn : n < 2 ^ 256) : ((wd n 0 == 0) && ((wd n 1 == 0) && ((wd n 2 == 0) && (wd n 3 == 0)))) = decide (n = 0) := by
  have h := wd_four hn
  rw [Bool.eq_iff_iff]
  simp only [Bool.and_eq_true, beq_iff_eq, decide_eq_true_eq]
  constructor
  · rintro ⟨h0, h1, h2, h3⟩
    rw [h0, h1, h2, h3] at h
    omega
  · rintro rfl
    exact ⟨wd_zero 0, wd_zero 1, wd_zero 2, wd_zero 3⟩
end Go.Proofs.YtogpbcllbbpgbaaDoor

set_option linter.unusedSimpArgs false
set_option linter.unusedVariables false
namespace Go.Proofs.YtogpbcllbbpgbaaDoor
open Go.RowKit
theorem wp_named {F : World → Prop} {w : World} (R : World → Prop) (hR : R w) (h : ∀ W, R W → F W) : F w := h w hR
theorem calls_named {P : Program} {f : FuncId} {args : Array Value} {K : Ending → World → Prop} {w : World} (R : World → Prop) (hR : R w) (h : ∀ W, R W → Calls P f args W K) : Calls P f args w K := h w hR
end Go.Proofs.YtogpbcllbbpgbaaDoor

set_option linter.unusedSimpArgs false
set_option linter.unusedVariables false
namespace Go.Proofs.YtogpbcllbbpgbaaDoor
open Go.RowKit

theorem pow_step (t : Nat) : ((2 ^ (64 * (t + 1)) : Nat) : Int) = ((2 ^ (64 * t) : Nat) : Int) * 18446744073709551616 := by
  rw [show 64 * (t + 1) = 64 * t + 64 by omega, Nat.pow_add, Int.natCast_mul]; rfl
theorem plus_word {V V' n m t : Nat} {c s k x y : Int} (i1 : (V : Int) + c * ((2 ^ (64 * t) : Nat) : Int) = n + ((m % 2 ^ (64 * t) : Nat) : Int)) (hx : x = wd V t) (hy : y = wd m t)
    (i2 : (V' : Int) = V + (s - wd V t) * ((2 ^ (64 * t) : Nat) : Int)) (i3 : s + 18446744073709551616 * k = x + y + c) :
    (V' : Int) + k * ((2 ^ (64 * (t + 1)) : Nat) : Int) = n + ((m % 2 ^ (64 * (t + 1)) : Nat) : Int) := by
  rw [pow_step, wd_mod_succ, i2, ← hy, ← hx]
  generalize ((2 ^ (64 * t) : Nat) : Int) = P at *
  generalize ((m % 2 ^ (64 * t) : Nat) : Int) = M at *
  grind
theorem minus_word {V V' n m t : Nat} {c s k x y : Int} (i1 : (V : Int) - c * ((2 ^ (64 * t) : Nat) : Int) = n - ((m % 2 ^ (64 * t) : Nat) : Int)) (hx : x = wd V t) (hy : y = wd m t)
    (i2 : (V' : Int) = V + (s - wd V t) * ((2 ^ (64 * t) : Nat) : Int)) (i3 : s - 18446744073709551616 * k = x - y - c) :
    (V' : Int) - k * ((2 ^ (64 * (t + 1)) : Nat) : Int) = n - ((m % 2 ^ (64 * (t + 1)) : Nat) : Int) := by
  rw [pow_step, wd_mod_succ, i2, ← hy, ← hx]
  generalize ((2 ^ (64 * t) : Nat) : Int) = P at *
  generalize ((m % 2 ^ (64 * t) : Nat) : Int) = M at *
  grind
theorem ten_word {V V' n t : Nat} {c s k h x : Int} (i1 : (V : Int) + c * ((2 ^ (64 * t) : Nat) : Int) = n + 9 * ((n % 2 ^ (64 * t) : Nat) : Int)) (hx : x = wd V t) (hn : wd V t = wd n t)
    (i2 : (V' : Int) = V + (s - wd V t) * ((2 ^ (64 * t) : Nat) : Int)) (i3 : s + 18446744073709551616 * (h + k) = x * 10 + c) :
    (V' : Int) + (h + k) * ((2 ^ (64 * (t + 1)) : Nat) : Int) = n + 9 * ((n % 2 ^ (64 * (t + 1)) : Nat) : Int) := by
  rw [pow_step, wd_mod_succ, i2, ← hn, ← hx]
  generalize ((2 ^ (64 * t) : Nat) : Int) = P at *
  generalize ((n % 2 ^ (64 * t) : Nat) : Int) = M at *
  grind
theorem p256 : ((2 ^ (64 * 4) : Nat) : Int) = 115792089237316195423570985008687907853269984665640564039457584007913129639936 := by rfl
theorem plus_end {V n m : Nat} {c : Int} (hV : V < 2 ^ 256) (hs : n + m < 2 ^ 256) (h0 : 0 ≤ c) (i1 : (V : Int) + c * ((2 ^ (64 * 4) : Nat) : Int) = n + ((m % 2 ^ (64 * 4) : Nat) : Int)) : V = n + m := by
  rw [Nat.mod_eq_of_lt (show m < 2 ^ (64 * 4) by omega), p256] at i1
  omega
theorem minus_end {V n m : Nat} {c : Int} (hV : V < 2 ^ 256) (hn : n < 2 ^ 256) (hs : m ≤ n) (h0 : 0 ≤ c) (i1 : (V : Int) - c * ((2 ^ (64 * 4) : Nat) : Int) = n - ((m % 2 ^ (64 * 4) : Nat) : Int)) : V = n - m := by
  rw [Nat.mod_eq_of_lt (show m < 2 ^ (64 * 4) by omega), p256] at i1
  omega
theorem ten_end {V n : Nat} {c : Int} (hV : V < 2 ^ 256) (hs : n * 10 < 2 ^ 256) (h0 : 0 ≤ c) (i1 : (V : Int) + c * ((2 ^ (64 * 4) : Nat) : Int) = n + 9 * ((n % 2 ^ (64 * 4) : Nat) : Int)) : V = n * 10 := by
  rw [Nat.mod_eq_of_lt (show n < 2 ^ (64 * 4) by omega), p256] at i1
  omega
/-- the order, from the top word on -/
theorem top_word (n k : Nat) : n / 2 ^ (64 * k) = n / 2 ^ (64 * (k + 1)) * 18446744073709551616 + (wd n k).toNat := by
  unfold wd
  rw [show 64 * (k + 1) = 64 * k + 64 by omega, Nat.pow_add, ← Nat.div_div_eq_div_mul, Int.toNat_natCast]
  omega
theorem top_lt {n m k : Nat} (h : n / 2 ^ (64 * (k + 1)) = m / 2 ^ (64 * (k + 1))) (hl : wd n k < wd m k) : n < m := by
  have e1 := top_word n k
  have e2 := top_word m k
  have a0 := wd_nn n k
  have : n / 2 ^ (64 * k) < m / 2 ^ (64 * k) := by rw [e1, e2, h]; omega
  exact Nat.lt_of_not_le fun hle => absurd (Nat.div_le_div_right (c := 2 ^ (64 * k)) hle) (by omega)
theorem top_eq {n m k : Nat} (h : n / 2 ^ (64 * (k + 1)) = m / 2 ^ (64 * (k + 1))) (hl : wd n k = wd m k) : n / 2 ^ (64 * k) = m / 2 ^ (64 * k) := by
  rw [top_word n k, top_word m k, h, hl]
theorem top_none {n m : Nat} (hn : n < 2 ^ 256) (hm : m < 2 ^ 256) : n / 2 ^ (64 * 4) = m / 2 ^ (64 * 4) := by
  rw [Nat.div_eq_of_lt (show n < 2 ^ (64 * 4) from hn), Nat.div_eq_of_lt (show m < 2 ^ (64 * 4) from hm)]
end Go.Proofs.YtogpbcllbbpgbaaDoor

set_option linter.unusedSimpArgs false
set_option linter.unusedVariables false
namespace Go.Proofs.YtogpbcllbbpgbaaDoor
open Go.RowKit
set_option maxRecDepth 100000 in
theorem open_long {H : Type} {enc : TypeId × Value → H} {W : World} {base b0 : Nat} {v : Value} {d : DataW H} {p : List MemPlace} {sp : Nat → Bool} {held : Bool}
    (hv : Value.okWide Tryd.prog W .any base 52 v) (h : DataW.Trod enc Tryd.prog W b0 sp held 52 v d p) :
    ∃ a0 a1 a2 a3 : Int, v = .agg #[.int .u64 a0, .int .u64 a1, .int .u64 a2, .int .u64 a3] ∧ (Lit.int .u64 a0).wf = true ∧ (Lit.int .u64 a1).wf = true ∧ (Lit.int .u64 a2).wf = true ∧ (Lit.int .u64 a3).wf = true := by
  obtain ⟨cs, rfl, hsz, _⟩ : ∃ cs, v = .agg cs ∧ cs.size = Tryd.prog.cellsOf 52 ∧ Row.okWide Tryd.prog W .any base 52 cs := by
    simpa [Value.okWide, Tryd.underlying52] using hv
  have hc : Tryd.prog.cellsOf 52 = 4 := by kernel_rfl
  have hce : Tryd.prog.cellsOf 22 = 1 := by kernel_rfl
  obtain ⟨c0, c1, c2, c3, rfl⟩ := Joins.array4 (hsz.trans hc)
  obtain ⟨fuel, hf⟩ := h
  obtain ⟨y0, y1, y2, y3, m, _, hy0, hy1, hy2, hy3⟩ := Go.ChangeShapes.trod_array4 Tryd.underlying52 hce hf
  obtain ⟨x0, e0, _, w0⟩ := DataW.trod_int Tryd.underlying22 hy0
  obtain ⟨x1, e1, _, w1⟩ := DataW.trod_int Tryd.underlying22 hy1
  obtain ⟨x2, e2, _, w2⟩ := DataW.trod_int Tryd.underlying22 hy2
  obtain ⟨x3, e3, _, w3⟩ := DataW.trod_int Tryd.underlying22 hy3
  simp at e0 e1 e2 e3
  subst e0 e1 e2 e3
  exact ⟨x0, x1, x2, x3, rfl, w0, w1, w2, w3⟩
/-- a word's bounds -/
theorem wf_word {a : Int} (h : (Lit.int .u64 a).wf = true) : 0 ≤ a ∧ a < 18446744073709551616 := by
  have := bounds_u64 h; omega
end Go.Proofs.YtogpbcllbbpgbaaDoor
