/- Sweep, the program's: a box once more. -/
import Derived.Test.YtlpoopmjgobnnaaAs
set_option linter.unusedSimpArgs false
set_option linter.unusedVariables false
namespace Go.Proofs.Ytlpoopmjgobnnaa
open Go.RowKit

theorem cxs_len (lo hi : List Nat) (t : Nat) : (cxs lo hi t).length = t := by unfold cxs; rw [List.length_map, List.length_range]
theorem cxs_cells (lo hi : List Nat) (t : Nat) : ∀ u ∈ cxs lo hi t, u.oneCell' = true := fun u hu => by
  obtain ⟨k, _, rfl⟩ := List.mem_map.1 hu
  rfl
theorem cxs_get {lo hi : List Nat} {t k : Nat} (h : k < t) : (cxs lo hi t)[k]? = some (cx (lo.getD k 0) (hi.getD k 0)) := by
  unfold cxs
  rw [List.getElem?_map, List.getElem?_range h]
  rfl
theorem cxs_set {lo hi : List Nat} {t k x y : Nat} (hl : lo.length = t) (hh : hi.length = t) : (cxs lo hi t).set k (cx x y) = cxs (lo.set k x) (hi.set k y) t := by
  apply List.ext_getElem?
  intro j
  rw [List.getElem?_set]
  by_cases hj : j < t
  · rw [cxs_get hj, cxs_get hj, getD_set, getD_set, cxs_len]
    by_cases e : k = j
    · subst e
      rw [if_pos rfl, if_pos hj, if_pos ⟨rfl, by omega⟩, if_pos ⟨rfl, by omega⟩]
    · rw [if_neg e, if_neg (fun h => e h.1.symm), if_neg (fun h => e h.1.symm)]
  · rw [List.getElem?_eq_none (by rw [cxs_len]; omega), List.getElem?_eq_none (by rw [cxs_len]; omega)]
    split
    · split
      · have := cxs_len lo hi t; omega
      · rfl
    · rfl
def ClonePost (lo hi : List Nat) (w : World) (e : Ending) (w' : World) : Prop := ∃ r, e = .returned r ∧ Below w.heap.size w w' ∧ Ro w' (ob w.heap.size) 1 37 1 r lo.length (cxs lo hi lo.length)
set_option maxHeartbeats 1000000 in
theorem clone_any (lo hi : List Nat) (v : Value) (w : World) (hn : lo.length ≤ 1000) (hp : 0 < lo.length) (h : Cxs w v lo hi) : Calls Try.prog 35 #[v] w (ClonePost lo hi w) := by
  have HC := Lib.hid h
  obtain ⟨A, C, rfl, hm, ha⟩ := h
  obtain ⟨b, o, rfl, -⟩ := ha 0 hp
  unfold ClonePost
  clear ha
  have hnew : ∀ W, Below w.heap.size w W → ∀ j u, (cxs lo hi lo.length)[j]? = some u → W.cell? ((⟨b, o, none⟩ : Addr).add j) = some u := fun W hW j u hj => by
    have hj' : j < lo.length := by
      have := (List.getElem?_eq_some_iff.1 hj).1
      rwa [cxs_len] at this
    obtain ⟨b', o', e, a⟩ := (HC.out.below hW).at hj'
    cases e
    rw [cxs_get hj'] at hj
    injection hj with hj
    rw [← hj, ← a]
    congr 1
    unfold Addr.add
    split <;> simp_all
  have HNEW := Lib.hid hnew
  clear hnew
  have q33 : ∀ W, (binOp .eql 33 (.slice (some ⟨b, o, none⟩) lo.length C) (.slice none 0 0)).run Try.prog W = .ok (.bool false) W := fun W => Lib.run_eql_slice_nil W _ _ _ _ _ _ _ Try.underlying33
  go_enter Try.func35, Try.ntmps35
  go_wp2_with (first | simp only [q33] | (at_builtin; refine wpList_pushM rfl _ _ 33 37 1 16 (.complex .f64 0 0) rfl Try.underlying33 info_cx rfl (by decide) (ob w.heap.size) 1 _ 0 [] rfl (ob_nil w _ 1 w.heap.size (Nat.le_refl _)) (some ⟨b, o, none⟩) lo.length C (cxs lo hi lo.length) rfl (by rw [cxs_len, Nat.mul_one]) (fun _ => ⟨_, rfl, HNEW.out _ ((Below.refl _ _).alloc (Nat.le_refl _) _)⟩) (cxs_cells _ _ _) (by omega) (by unfold maxLen; omega) ?_; intro A6 C6 w6 hr6 ht6))
  rw [ob_re (by rw [World.size_alloc]; exact Nat.le_succ _)] at hr6 ht6
  rw [Nat.zero_add, List.nil_append] at hr6
  have hb6 := ob_below (w0 := w) ht6 (Below.alloc (Below.refl _ _) (Nat.le_refl _) _)
  refine bodyPost_ret (by simp [results, Try.results35, go_sem, *]; try rfl) rfl ?_
  exact ⟨_, rfl, hb6, hr6⟩
end Go.Proofs.Ytlpoopmjgobnnaa
