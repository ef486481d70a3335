/- A number without the noughts at its end, by the document. -/
import Derived.Test.YthkgjodidkpaeaaRu
import Derived.Test.YthkgjodidkpaeaaTm
import Derived.RegionTactic
set_option linter.unusedSimpArgs false
set_option linter.unusedVariables false
namespace Go.Proofs.Ythkgjodidkpaeaa
open Go.RowKit

theorem IsDg.drop_zeros {l : List Int} {N : Nat} (h : IsDg l N) (k : Nat) (hk : k ≤ l.length) (hz : ∀ j, j < k → l.getD j 0 = 0) : IsDg (l.drop k) (N / 10 ^ k) ∧ N = N / 10 ^ k * 10 ^ k := by
  have e := dval_append (l.take k) (l.drop k)
  rw [List.take_append_drop, List.length_take, Nat.min_eq_left hk] at e
  have hz0 : dval (l.take k) = 0 := dval_zeros (fun d hd => by
    obtain ⟨i, hi, rfl⟩ := List.getElem_of_mem hd
    rw [List.length_take] at hi
    rw [List.getElem_take, ← getD_lt _ _ (by omega)]
    exact hz i (by omega))
  rw [hz0, Int.zero_add, h.2.2] at e
  have hb := dval_bd (h.1.drop k)
  obtain ⟨V, hV⟩ : ∃ V : Nat, dval (l.drop k) = (V : Int) := ⟨(dval (l.drop k)).toNat, by omega⟩
  rw [hV] at e
  have e2 : N = 10 ^ k * V := by exact_mod_cast e
  have e3 : N / 10 ^ k = V := by rw [e2, Nat.mul_div_cancel_left _ (Nat.pow_pos (by decide))]
  refine ⟨⟨h.1.drop k, ?_, by rw [hV, e3]⟩, by rw [e3, Nat.mul_comm]; exact e2⟩
  have ht := h.2.1
  unfold Top at *
  by_cases hlt : k < l.length
  · rw [List.getLast?_drop, if_neg (by omega)]; exact ht
  · rw [List.drop_of_length_le (by omega)]; simp
theorem tz_dig {l : List Int} {N T k : Nat} (h : IsDg l N) (hz : IsTz N T k) : k < l.length ∧ (∀ j, j < k → l.getD j 0 = 0) ∧ l.getD k 0 ≠ 0 := by
  have hk : k < l.length := by
    rcases Nat.lt_or_ge k l.length with hk | hk
    · exact hk
    · exfalso
      have h1 := h.lt_of_len hk
      have h2 : 1 ≤ T := by
        rcases Nat.eq_zero_or_pos T with h0 | h0
        · subst h0; exact absurd rfl hz.2
        · exact h0
      have h3 : 10 ^ k ≤ N := by rw [hz.1]; exact Nat.le_mul_of_pos_left _ h2
      omega
  have hd : ∀ j, j < l.length → l.getD j 0 = ((N / 10 ^ j % 10 : Nat) : Int) := fun j hj => by
    rw [dval_digit h.1 j hj, h.2.2, Int.natCast_emod, Int.natCast_ediv, Int.natCast_pow]; rfl
  refine ⟨hk, fun j hj => by rw [hd j (by omega), hz.mod_lt hj]; rfl, ?_⟩
  rw [hd k hk, hz.mod_eq]
  have := hz.2
  omega
theorem sl_drop {w : World} {g o t c : Nat} {xs : List Int} (h : Sl w (some ⟨g, o, none⟩) xs) (ht : t < xs.length) (hc : xs.length ≤ c) : IsSl w (.slice (some ⟨g, o + t, none⟩) (xs.length - t) (c - t)) (xs.drop t) := by
  refine ⟨_, _, by rw [List.length_drop], by rw [List.length_drop]; omega, fun _ => ?_⟩
  obtain ⟨g', o', cs, e, hb, hcs⟩ := h (by intro e; subst e; simp at ht)
  injection e with e
  injection e with e1 e2
  subst e1 e2
  refine ⟨g, o + t, cs, rfl, hb, fun j hj => ?_⟩
  rw [List.length_drop] at hj
  rw [Nat.add_assoc, hcs (t + j) (by omega), getD_lt _ _ (by omega), getD_lt _ _ (by rw [List.length_drop]; omega), List.getElem_drop]
end Go.Proofs.Ythkgjodidkpaeaa
