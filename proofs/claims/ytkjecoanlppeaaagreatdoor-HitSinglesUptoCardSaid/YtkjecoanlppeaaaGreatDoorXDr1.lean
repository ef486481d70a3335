/- What this law reaches beyond the common contracts, part 1. -/
import Init.Omega
import Derived.Laws.AppendOwn
import Derived.Test.YtkjecoanlppeaaaGreatDoorM1
set_option linter.unusedSimpArgs false
set_option linter.unusedVariables false


namespace Go.Proofs.YtkjecoanlppeaaaGreatDoor

theorem wd_make (x y : Int) (hx0 : 0 ≤ x) (hx : x < 18446744073709551616) (hy0 : 0 ≤ y) (hy : y < 18446744073709551616) :
  ∃ n : Nat,n < 2 ^ 128 ∧ (n : Int) = x * 18446744073709551616 + y ∧ x = wd n 1 ∧ y = wd n 0:=by
 refine ⟨(x * 18446744073709551616 + y).toNat,by omega,by omega, ?_, ?_⟩
 ·rw [wd1];omega
 ·rw [wd0];omega
end Go.Proofs.YtkjecoanlppeaaaGreatDoor



namespace Go.Proofs.YtkjecoanlppeaaaGreatDoor
open Go.RowKit

theorem Stk.len {w0 : World} {vs : List Value} {td : List (List VD)} (h : Stk w0 vs td) : vs.length = td.length:=by
 induction h with
 | nil => rfl
 | snoc _ _ _ ih => simp [ih]
end Go.Proofs.YtkjecoanlppeaaaGreatDoor



namespace Go.Proofs.YtkjecoanlppeaaaGreatDoor

/-- a bound that is far out -/
def Small (n : Nat) : Prop:=True → n < 10 ^ 1000
theorem ten_mono {a b : Nat} (h : a ≤ b) : (10 : Int) ^ a ≤ 10 ^ b:=by
 have:=Nat.pow_le_pow_right (n:=10) (by decide) h
 exact_mod_cast this
theorem dval_append (a b : List Int) : dval (a ++ b) = dval a + 10 ^ a.length * dval b:=by
 induction a with
 | nil => simp [dval]
 | cons d r ih =>
  simp only [List.cons_append,dval,ih,List.length_cons,Int.pow_succ]
  rw [Int.mul_add,Int.mul_comm (10 ^ r.length) 10,Int.mul_assoc];omega
theorem dval_snoc (a : List Int) (x : Int) : dval (a ++ [x]) = dval a + 10 ^ a.length * x:=by
 rw [dval_append];simp [dval]
theorem ten_pos (k : Nat) : (0 : Int) < 10 ^ k:=Int.pow_pos (by decide)
theorem dval_bd {a : List Int} (h : Digs a) : 0 ≤ dval a ∧ dval a < 10 ^ a.length:=by
 induction a with
 | nil => simp [dval]
 | cons d r ih =>
  have h1:=ih fun x hx => h x (List.mem_cons_of_mem _ hx)
  have h2:=h d List.mem_cons_self
  simp only [dval,List.length_cons,Int.pow_succ]
  omega
theorem IsDg.len_le {l : List Int} {n k : Nat} (h : IsDg l n) (hn : n < 10 ^ k) : l.length ≤ k:=by
 obtain ⟨hd,ht,hv⟩:=h
 rcases Nat.lt_or_ge k l.length with hk | hk
 ·exfalso
  have hne : l ≠ []:=by intro e;subst e;simp at hk
  obtain ⟨i,x,rfl⟩ : ∃ i x,l = i ++ [x]:=⟨l.dropLast,l.getLast hne,(List.dropLast_concat_getLast hne).symm⟩
  have hx:=hd x (by simp)
  have hx0 : x ≠ 0:=by intro e;subst e;exact ht (by simp)
  have hb:=dval_bd (a:=i) fun d hd' => hd d (by simp [hd'])
  rw [dval_snoc] at hv
  simp only [List.length_append,List.length_cons,List.length_nil] at hk
  have hp : (10 : Int) ^ k ≤ 10 ^ i.length:=ten_mono (by omega)
  have hm : (10 : Int) ^ i.length * 1 ≤ 10 ^ i.length * x:=Int.mul_le_mul_of_nonneg_left (by omega) (Int.le_of_lt (ten_pos _))
  have hn' : (n : Int) < 10 ^ k:=by exact_mod_cast hn
  omega
 ·exact hk
theorem IsDg.lt_of_len {l : List Int} {n k : Nat} (h : IsDg l n) (hk : l.length ≤ k) : n < 10 ^ k:=by
 obtain ⟨hd,_,hv⟩:=h
 have hb:=dval_bd hd
 have hp : (10 : Int) ^ l.length ≤ 10 ^ k:=ten_mono hk
 have : (n : Int) < 10 ^ k:=by omega
 exact_mod_cast this
theorem IsDg.zero_iff {l : List Int} {n : Nat} (h : IsDg l n) : l.length = 0 ↔ n = 0:=by
 constructor
 ·intro h0
  have:=h.lt_of_len (k:=0) (by omega)
  simpa using this
 ·intro h0;subst h0
  have:=h.len_le (k:=0) (by simp)
  omega
/-- Digits of one number are one list. -/
theorem IsDg.uniq {a b : List Int} {n : Nat} (ha : IsDg a n) (hb : IsDg b n) : a = b:=by
 induction a generalizing b n with
 | nil =>
  have : n = 0:=ha.zero_iff.1 rfl
  subst this
  exact (List.length_eq_zero_iff.1 (hb.zero_iff.2 rfl)).symm
 | cons d r ih =>
  cases b with
  | nil =>
   have : n = 0:=hb.zero_iff.1 rfl
   subst this
   exact List.length_eq_zero_iff.1 (ha.zero_iff.2 rfl)
  | cons e s =>
   have hd:=ha.1 d List.mem_cons_self
   have he:=hb.1 e List.mem_cons_self
   have h1:=ha.2.2
   have h2:=hb.2.2
   simp only [dval] at h1 h2
   have hr:=dval_bd (a:=r) fun x hx => ha.1 x (List.mem_cons_of_mem _ hx)
   have hs:=dval_bd (a:=s) fun x hx => hb.1 x (List.mem_cons_of_mem _ hx)
   have hde : d = e:=by omega
   have hrs : dval r = dval s:=by omega
   subst hde
   have key : ∀ q : List Int,Top (d :: q) → Top q:=by
    intro q hq
    cases q with
    | nil => simp [Top]
    | cons x y => simpa [Top] using hq
   rw [ih (n:=(dval r).toNat) ⟨fun x hx => ha.1 x (List.mem_cons_of_mem _ hx),key r ha.2.1,by omega⟩ ⟨fun x hx => hb.1 x (List.mem_cons_of_mem _ hx),key s hb.2.1,by omega⟩]
end Go.Proofs.YtkjecoanlppeaaaGreatDoor



namespace Go.Proofs.YtkjecoanlppeaaaGreatDoor

/-- L is how many digits N has, one at least -/
def IsNd (N L : Nat) : Prop:=1 ≤ L ∧ N < 10 ^ L ∧ (L = 1 ∨ 10 ^ (L - 1) ≤ N)
theorem IsNd.le {N L M : Nat} (h : IsNd N L) (hM : 1 ≤ M) (hN : N < 10 ^ M) : L ≤ M:=by
 obtain ⟨h1,h2,h3⟩:=h
 rcases h3 with h3 | h3
 ·omega
 ·have:=pow_lt10 (Nat.lt_of_le_of_lt h3 hN)
  omega
theorem IsNd.uniq {N L M : Nat} (h : IsNd N L) (h' : IsNd N M) : L = M :=
 Nat.le_antisymm (h.le h'.1 h'.2.1) (h'.le h.1 h.2.1)
end Go.Proofs.YtkjecoanlppeaaaGreatDoor

