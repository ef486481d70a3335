/- The fixed fact that each law of this layer asks first. -/
import Derived.Test.YtnjiibeomailhaaWr
set_option linter.unusedSimpArgs false
set_option linter.unusedVariables false
namespace Go.Proofs.Ytnjiibeomailhaa
open Go.RowKit
theorem kn_add (W : World) : Calls Try.prog 16 #[.agg #[.int .u64 0, .int .u64 18446744073709551615], .agg #[.int .u64 0, .int .u64 1]] W fun e w' => e = .returned (.tuple #[.agg #[.int .u64 1, .int .u64 0], .int .i64 0]) ∧ Below W.heap.size W w' := by
  have h := add_any 18446744073709551615 1 (by decide) (by decide) W
  have a0 : wd 18446744073709551615 0 = 18446744073709551615 := by rw [wd0]; rfl
  have a1 : wd 18446744073709551615 1 = 0 := by rw [wd1]; rfl
  have b0 : wd 1 0 = 1 := by rw [wd0]; rfl
  have b1 : wd 1 1 = 0 := by rw [wd1]; rfl
  have c : fitW (18446744073709551615 + 1) = 18446744073709551616 := by decide
  have d : over (18446744073709551615 + 1) = 0 := by decide
  have c0 : wd 18446744073709551616 0 = 0 := by rw [wd0]; rfl
  have c1 : wd 18446744073709551616 1 = 1 := by rw [wd1]; rfl
  rw [a0, a1, b0, b1, c, d, c0, c1] at h
  exact h
theorem kn_round (W : World) : Calls Try.prog 12 #[.agg #[.int .u64 35, .int .u64 0, .int .u64 0, .int .u64 0], .int .i64 1] W fun e w' => e = .returned (.tuple #[.agg #[.int .u64 0, .int .u64 4], .int .i64 0]) ∧ Below W.heap.size W w' := by
  have h := round_any 35 (by decide) 1 (by decide) W
  have a0 : wd 35 0 = 35 := by rw [wd0]; rfl
  have a1 : wd 35 1 = 0 := by rw [wd1]; rfl
  have a2 : wd 35 2 = 0 := by rw [wd2]; rfl
  have a3 : wd 35 3 = 0 := by rw [wd3]; rfl
  have c : fitW (near 35 (10 ^ 1)) = 4 := by decide
  have d : over (near 35 (10 ^ 1)) = 0 := by decide
  have c0 : wd 4 0 = 4 := by rw [wd0]; rfl
  have c1 : wd 4 1 = 0 := by rw [wd1]; rfl
  rw [a0, a1, a2, a3, c, d, c0, c1] at h
  exact h
set_option maxHeartbeats 1000000 in
theorem known_any (w : World) : Calls Try.prog 10 #[] w fun e w' => e = .returned (.bool true) ∧ Below w.heap.size w w' := by
  go_enter Try.func10, Try.ntmps10
  go_wp2_with (first
    | ((go_at_call 16; with_reducible refine (kn_add _).mono ?_); rintro _ w1 ⟨rfl, hb1⟩; have hb1s := hb1.size; (try simp only [World.size_alloc, World.size_setCell, World.size_drew, World.heap_drewN] at hb1s); obtain ⟨hb1c, hb1f⟩ := bcell hb1; (try have : w.heap.size < w1.heap.size := by omega); (try have : w.heap.size + 1 < w1.heap.size := by omega); (try have : w.heap.size + 1 + 1 < w1.heap.size := by omega); (try have : w.heap.size + 1 + 1 + 1 < w1.heap.size := by omega))
    | ((go_at_call 12; with_reducible refine (kn_round _).mono ?_); rintro _ w2 ⟨rfl, hb2⟩; have hb2s := hb2.size; (try simp only [World.size_alloc, World.size_setCell, World.size_drew, World.heap_drewN] at hb2s); obtain ⟨hb2c, hb2f⟩ := bcell hb2; (try have : w.heap.size < w2.heap.size := by omega); (try have : w.heap.size + 1 < w2.heap.size := by omega); (try have : w.heap.size + 1 + 1 < w2.heap.size := by omega); (try have : w.heap.size + 1 + 1 + 1 < w2.heap.size := by omega); (try have : w1.heap.size < w2.heap.size := by omega); (try have : w1.heap.size + 1 < w2.heap.size := by omega); (try have : w1.heap.size + 1 + 1 < w2.heap.size := by omega); (try have : w1.heap.size + 1 + 1 + 1 < w2.heap.size := by omega)))
  go_ret
  exact ⟨rfl, by (repeat' (first | (with_reducible exact Below.refl _ _) | (with_reducible assumption) | (with_reducible refine Below.drew ?_) | (with_reducible refine below_drewN ?_ _) | ((with_reducible refine Below.alloc ?_ ?_ _); rotate_left; focus (go_size; done)) | ((with_reducible refine Below.setCell ?_ ?_ _); rotate_left; focus (go_size; done)) | ((with_reducible refine Below.trans ?_ (Below.mono (by with_reducible assumption) ?_)); rotate_left; focus (go_size; done))))⟩
end Go.Proofs.Ytnjiibeomailhaa
