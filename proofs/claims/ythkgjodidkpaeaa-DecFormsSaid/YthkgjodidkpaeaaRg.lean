/- The reference: the difference. -/
import Derived.Test.YthkgjodidkpaeaaRf
set_option linter.unusedSimpArgs false
set_option linter.unusedVariables false
namespace Go.Proofs.Ythkgjodidkpaeaa
open Go.RowKit

theorem own_bk {w : World} {base : Nat} {v : Value} {xs : List Int} (h : w.ownsRow base 3 1 v xs.length (xs.map (Value.int .i64))) (hne : xs ≠ []) :
    ∃ g cap rest, v = .slice (some ⟨g, 0, none⟩) xs.length cap ∧ base ≤ g ∧ Bk w g 3 (xs.map (Value.int .i64) ++ rest) ∧ xs.length ≤ cap := by
  rcases h.2 with ⟨_, hn⟩ | ⟨g, cap, cur, rfl, hg, hh, r1, r2, r3, r4⟩
  · exact absurd (List.length_eq_zero_iff.1 hn) hne
  · refine ⟨g, cap, cur.toList.drop xs.length, rfl, hg, ?_, r1⟩
    unfold Bk
    rw [Nat.mul_one] at r4
    rw [← r4, List.take_append_drop]
    simpa using hh
theorem bk_at {w : World} {g : Nat} {zs : List Int} {rest : List Value} (h : Bk w g 3 (zs.map (Value.int .i64) ++ rest)) {k : Nat} (hk : k < zs.length) : w.cell? ⟨g, k, none⟩ = some (.int .i64 (zs.getD k 0)) := by
  refine h.cell _ ?_
  rw [List.getElem?_append_left (by simpa using hk), List.getElem?_map, List.getElem?_eq_getElem hk, getD_lt _ _ hk]; rfl
theorem bk_set {w : World} {g : Nat} {zs : List Int} {rest : List Value} (h : Bk w g 3 (zs.map (Value.int .i64) ++ rest)) {k : Nat} (hk : k < zs.length) (x : Int) : Bk (w.setCell ⟨g, k, none⟩ (.int .i64 x)) g 3 ((zs.set k x).map (Value.int .i64) ++ rest) := by
  have := h.set_ k (.int .i64 x)
  rwa [List.set_append_left _ _ (by simpa using hk), ← List.map_set] at this
theorem IsSl.of_bk2 {w : World} {g : Nat} {ds : List Int} {rest : List Value} {n c : Nat} (h : Bk w g 3 (ds.map (Value.int .i64) ++ rest)) (hn : ds.length = n) (hc : n ≤ c) : IsSl w (.slice (some ⟨g, 0, none⟩) n c) ds := by
  subst hn
  refine ⟨_, c, rfl, hc, fun hne => ⟨g, 0, _, rfl, h, fun j hj => ?_⟩⟩
  rw [Nat.zero_add, List.getElem?_append_left (by simpa using hj), List.getElem?_map, List.getElem?_eq_getElem hj, getD_lt _ _ hj]; rfl
theorem getD_set (l : List Int) (k j : Nat) (x : Int) (hk : k < l.length) : (l.set k x).getD j 0 = if j = k then x else l.getD j 0 := by
  rw [List.getD_eq_getElem?_getD, List.getElem?_set]
  by_cases h : j = k
  · subst h; rw [if_pos rfl, if_pos rfl, if_pos hk]; rfl
  · rw [if_neg (fun e => h e.symm), if_neg h, List.getD_eq_getElem?_getD]
theorem dval_set (l : List Int) (k : Nat) (x : Int) (hk : k < l.length) : dval (l.set k x) = dval l + 10 ^ k * (x - l.getD k 0) := by
  have a := dval_append (l.take k) (l.drop k)
  rw [List.take_append_drop, List.length_take, Nat.min_eq_left (by omega), dval_drop l k hk] at a
  have b := dval_append ((l.set k x).take k) ((l.set k x).drop k)
  rw [List.take_append_drop, List.length_take, List.length_set, Nat.min_eq_left (by omega), drop_set _ _ _ hk, List.take_set_of_le (by omega)] at b
  rw [a, b]
  show _ + 10 ^ k * (x + 10 * dval (l.drop (k + 1))) = _
  rw [Int.mul_add, Int.mul_add, Int.mul_sub]
  omega
theorem len_mono {xs ys : List Int} {n m : Nat} (hx : IsDg xs n) (hy : IsDg ys m) (h : m ≤ n) : ys.length ≤ xs.length := by
  rcases Nat.lt_or_ge xs.length ys.length with hlt | hge
  · have := cmp_long hx hy hlt; omega
  · exact hge
/-- behind the second loop all are digits: the value is not below nought -/
theorem digs_end (zs : List Int) (L : Nat) (hL : zs.length = L + 1) (h0 : ∀ j, j < L → 0 ≤ zs.getD j 0) (h9 : ∀ j, zs.getD j 0 ≤ 9) (hv : 0 ≤ dval zs) : Digs zs := by
  have hd : Digs (zs.take L) := by
    intro d hd
    obtain ⟨i, hi, rfl⟩ := List.getElem_of_mem hd
    rw [List.length_take] at hi
    rw [List.getElem_take, ← getD_lt _ _ (by omega)]
    exact ⟨h0 i (by omega), h9 i⟩
  have e := dval_take_succ zs L (by omega)
  rw [List.take_of_length_le (by omega)] at e
  have hb := dval_bd hd
  rw [List.length_take, Nat.min_eq_left (by omega)] at hb
  have htop : 0 ≤ zs.getD L 0 := by
    rcases Int.lt_or_le (zs.getD L 0) 0 with hlt | hge
    · have hm : (10 : Int) ^ L * zs.getD L 0 ≤ 10 ^ L * (-1) := Int.mul_le_mul_of_nonneg_left (by omega) (Int.le_of_lt (ten_pos L))
      omega
    · exact hge
  intro d hd'
  obtain ⟨i, hi, rfl⟩ := List.getElem_of_mem hd'
  rw [← getD_lt _ _ hi]
  by_cases hi2 : i < L
  · exact ⟨h0 i hi2, h9 i⟩
  · have : i = L := by omega
    subst this
    exact ⟨htop, h9 i⟩
end Go.Proofs.Ythkgjodidkpaeaa
