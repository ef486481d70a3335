/- The calls of the layer of types that only reckon with a type: what each computes. -/
import Derived.Test.YtmfkhmlpikdmeaaBase
namespace Go.Proofs.Ytmfkhmlpikdmeaa
open Go.RowKit

def formB (k o : Int) : Bool := if k = 5 then decide (0 ≤ o ∧ o < 5) else decide (0 ≤ k ∧ k < 5 ∧ o = 0)
def numB (k o : Int) : Int := if 0 ≤ k ∧ k ≤ 4 ∧ o = 0 then k else if k = 5 ∧ 0 ≤ o ∧ o ≤ 4 then 5 + o else -1
def underB (a b c d : Int) : Bool := decide (a = c ∧ b = d) || decide (c = 0) || decide (a = 5 ∧ c = 5 ∧ d = 0)


theorem form_num (k o : Int) : decide (0 ≤ numB k o) = formB k o := by
  unfold numB formB
  rw [Bool.eq_iff_iff]
  split
  · split <;> simp <;> omega
  · split <;> split <;> simp <;> omega

set_option maxHeartbeats 400000 in
theorem form_any (k o : Int) (w : World) : Calls Try.prog 6 #[.agg #[.int .i64 k, .int .i64 o]] w fun e w' => e = .returned (.bool (formB k o)) ∧ Below w.heap.size w w' := by
  go_enter Try.func6, Try.ntmps6
  go_wp2
  all_goals go_ret
  all_goals refine ⟨?_, by (repeat' (first | (with_reducible exact Below.refl _ _) | (with_reducible assumption) | (with_reducible refine Below.drew ?_) | (with_reducible refine below_drewN ?_ _) | ((with_reducible refine Below.alloc ?_ ?_ _); rotate_left; focus (go_size; done)) | ((with_reducible refine Below.setCell ?_ ?_ _); rotate_left; focus (go_size; done)) | ((with_reducible refine Below.trans ?_ (Below.mono (by with_reducible assumption) ?_)); rotate_left; focus (go_size; done))))⟩
  all_goals simp [formB]
  all_goals (first | done | omega | (simp_all; done) | (simp_all; omega) | (rw [Bool.eq_iff_iff]; simp_all; done) | (rw [Bool.eq_iff_iff]; simp_all; omega))

set_option maxHeartbeats 400000 in
theorem number_any (k o : Int) (w : World) : Calls Try.prog 16 #[.agg #[.int .i64 k, .int .i64 o]] w fun e w' => e = .returned (.int .i64 (numB k o)) ∧ Below w.heap.size w w' := by
  go_enter Try.func16, Try.ntmps16
  go_wp2
  all_goals go_ret
  all_goals refine ⟨?_, by (repeat' (first | (with_reducible exact Below.refl _ _) | (with_reducible assumption) | (with_reducible refine Below.drew ?_) | (with_reducible refine below_drewN ?_ _) | ((with_reducible refine Below.alloc ?_ ?_ _); rotate_left; focus (go_size; done)) | ((with_reducible refine Below.setCell ?_ ?_ _); rotate_left; focus (go_size; done)) | ((with_reducible refine Below.trans ?_ (Below.mono (by with_reducible assumption) ?_)); rotate_left; focus (go_size; done))))⟩
  all_goals simp [numB]
  all_goals (first | done | omega | (simp_all; done) | (simp_all; omega))

set_option maxHeartbeats 400000 in
theorem under_any (a b c d : Int) (w : World) : Calls Try.prog 24 #[.agg #[.int .i64 a, .int .i64 b], .agg #[.int .i64 c, .int .i64 d]] w fun e w' => e = .returned (.bool (underB a b c d)) ∧ Below w.heap.size w w' := by
  go_enter Try.func24, Try.ntmps24
  go_wp2
  all_goals go_ret
  all_goals refine ⟨?_, by (repeat' (first | (with_reducible exact Below.refl _ _) | (with_reducible assumption) | (with_reducible refine Below.drew ?_) | (with_reducible refine below_drewN ?_ _) | ((with_reducible refine Below.alloc ?_ ?_ _); rotate_left; focus (go_size; done)) | ((with_reducible refine Below.setCell ?_ ?_ _); rotate_left; focus (go_size; done)) | ((with_reducible refine Below.trans ?_ (Below.mono (by with_reducible assumption) ?_)); rotate_left; focus (go_size; done))))⟩
  all_goals simp [underB]
  all_goals (first | done | omega | (simp_all; done) | (simp_all; omega) | (rw [Bool.eq_iff_iff]; simp_all; done) | (rw [Bool.eq_iff_iff]; simp_all; omega))

set_option maxHeartbeats 400000 in
theorem rform_any (k o : Int) (w : World) : Calls Try.prog 7 #[.agg #[.int .i64 k, .int .i64 o]] w fun e w' => e = .returned (.bool (formB k o)) ∧ Below w.heap.size w w' := by
  go_enter Try.func7, Try.ntmps7
  go_wp2_with ((go_at_call 16; with_reducible refine (number_any k o _).mono ?_); rintro _ w1 ⟨rfl, hb⟩; have hbs := hb.size; (try simp only [World.size_alloc, World.size_setCell, World.size_drew] at hbs); obtain ⟨hbc, hbf⟩ := bcell hb; (try have : w.heap.size < w1.heap.size := by omega); (try have : w.heap.size + 1 < w1.heap.size := by omega); (try have : w.heap.size + 1 + 1 < w1.heap.size := by omega); (try have : w.heap.size + 1 + 1 + 1 < w1.heap.size := by omega))
  go_ret
  exact ⟨ret_bool (form_num k o), by (repeat' (first | (with_reducible exact Below.refl _ _) | (with_reducible assumption) | (with_reducible refine Below.drew ?_) | (with_reducible refine below_drewN ?_ _) | ((with_reducible refine Below.alloc ?_ ?_ _); rotate_left; focus (go_size; done)) | ((with_reducible refine Below.setCell ?_ ?_ _); rotate_left; focus (go_size; done)) | ((with_reducible refine Below.trans ?_ (Below.mono (by with_reducible assumption) ?_)); rotate_left; focus (go_size; done))))⟩
end Go.Proofs.Ytmfkhmlpikdmeaa
