/- The program's decimals: a power of ten, the bound, nought; the form. -/
import Derived.Test.YthkgjodidkpaeaaFa
import Derived.Test.YthkgjodidkpaeaaTen
import Derived.Test.YthkgjodidkpaeaaTm
import Derived.Test.YthkgjodidkpaeaaEq
set_option linter.unusedSimpArgs false
set_option linter.unusedVariables false
namespace Go.Proofs.Ythkgjodidkpaeaa
open Go.RowKit

set_option maxHeartbeats 1000000 in
theorem power_any (k : Nat) (hk : k ≤ 38) (w : World) : Calls Try.prog 88 #[.int .i64 k] w fun e w' => e = .returned (.agg #[.int .u64 (wd (10 ^ k) 1), .int .u64 (wd (10 ^ k) 0)]) ∧ Below w.heap.size w w' := by
  have HT := Lib.hid (fun W => ten_any k hk W)
  generalize wd (10 ^ k) 0 = x0 at *
  generalize wd (10 ^ k) 1 = x1 at *
  go_enter Try.func88, Try.ntmps88
  go_wp2_with ((go_at_call 99; with_reducible refine (HT.out _).mono ?_); rintro _ w1 ⟨rfl, hb1⟩; have hb1s := hb1.size; (try simp only [World.size_alloc, World.size_setCell, World.size_drew, World.heap_drewN] at hb1s); obtain ⟨hb1c, hb1f⟩ := bcell hb1; (try have : w.heap.size < w1.heap.size := by omega); (try have : w.heap.size + 1 < w1.heap.size := by omega); (try have : w.heap.size + 1 + 1 < w1.heap.size := by omega); (try have : w.heap.size + 1 + 1 + 1 < w1.heap.size := by omega))
  refine bodyPost_ret (by simp [results, Try.results88, go_sem, *]; try rfl) rfl ?_
  exact ⟨rfl, by (repeat' (first | (with_reducible exact Below.refl _ _) | (with_reducible assumption) | (with_reducible refine Below.drew ?_) | (with_reducible refine below_drewN ?_ _) | ((with_reducible refine Below.alloc ?_ ?_ _); rotate_left; focus (go_size; done)) | ((with_reducible refine Below.setCell ?_ ?_ _); rotate_left; focus (go_size; done)) | ((with_reducible refine Below.trans ?_ (Below.mono (by with_reducible assumption) ?_)); rotate_left; focus (go_size; done))))⟩
set_option maxHeartbeats 1000000 in
theorem bound_any (w : World) : Calls Try.prog 55 #[] w fun e w' => e = .returned (.agg #[.int .u64 (wd B34 1), .int .u64 (wd B34 0)]) ∧ Below w.heap.size w w' := by
  have HT : Hid (∀ W, Calls Try.prog 88 #[.int .i64 34] W fun e w' => e = .returned (.agg #[.int .u64 (wd B34 1), .int .u64 (wd B34 0)]) ∧ Below W.heap.size W w') := Lib.hid (fun W => power_any 34 (by decide) W)
  generalize wd B34 0 = x0 at *
  generalize wd B34 1 = x1 at *
  go_enter Try.func55, Try.ntmps55
  go_wp2_with ((go_at_call 88; with_reducible refine (HT.out _).mono ?_); rintro _ w1 ⟨rfl, hb1⟩; have hb1s := hb1.size; (try simp only [World.size_alloc, World.size_setCell, World.size_drew, World.heap_drewN] at hb1s); obtain ⟨hb1c, hb1f⟩ := bcell hb1; (try have : w.heap.size < w1.heap.size := by omega); (try have : w.heap.size + 1 < w1.heap.size := by omega); (try have : w.heap.size + 1 + 1 < w1.heap.size := by omega); (try have : w.heap.size + 1 + 1 + 1 < w1.heap.size := by omega))
  refine bodyPost_ret (by simp [results, Try.results55, go_sem, *]; try rfl) rfl ?_
  exact ⟨rfl, by (repeat' (first | (with_reducible exact Below.refl _ _) | (with_reducible assumption) | (with_reducible refine Below.drew ?_) | (with_reducible refine below_drewN ?_ _) | ((with_reducible refine Below.alloc ?_ ?_ _); rotate_left; focus (go_size; done)) | ((with_reducible refine Below.setCell ?_ ?_ _); rotate_left; focus (go_size; done)) | ((with_reducible refine Below.trans ?_ (Below.mono (by with_reducible assumption) ?_)); rotate_left; focus (go_size; done))))⟩
theorem wd_hi2 {n : Nat} (h : n < 2 ^ 128) : wd n 2 = 0 ∧ wd n 3 = 0 := (wd_low4 (Nat.lt_trans h (by decide))).2 h
set_option maxHeartbeats 1000000 in
theorem long_any (n : Nat) (h : n < 2 ^ 128) (w : World) : Calls Try.prog 62 #[.agg #[.int .u64 (wd n 1), .int .u64 (wd n 0)]] w fun e w' => e = .returned (.agg #[.int .u64 (wd n 0), .int .u64 (wd n 1), .int .u64 (wd n 2), .int .u64 (wd n 3)]) ∧ Below w.heap.size w w' := by
  obtain ⟨e2, e3⟩ := wd_hi2 h
  rw [e2, e3]
  clear e2 e3 h
  generalize wd n 0 = x0 at *
  generalize wd n 1 = x1 at *
  go_enter Try.func62, Try.ntmps62
  go_wp2_with fail
  refine bodyPost_ret (by simp [results, Try.results62, go_sem, *]; try rfl) rfl ?_
  exact ⟨rfl, by (repeat' (first | (with_reducible exact Below.refl _ _) | (with_reducible assumption) | (with_reducible refine Below.drew ?_) | (with_reducible refine below_drewN ?_ _) | ((with_reducible refine Below.alloc ?_ ?_ _); rotate_left; focus (go_size; done)) | ((with_reducible refine Below.setCell ?_ ?_ _); rotate_left; focus (go_size; done)) | ((with_reducible refine Below.trans ?_ (Below.mono (by with_reducible assumption) ?_)); rotate_left; focus (go_size; done))))⟩
theorem eq_nil {n : Nat} (h : n < 2 ^ 128) : ((wd n 1 == 0) && (wd n 0 == 0)) = decide (n = 0) := by
  have e := wd_eq_iff h (show 0 < 2 ^ 128 by decide)
  rwa [wd_zero, wd_zero] at e
set_option maxHeartbeats 1000000 in
theorem zero_any (b : Bool) (c : Nat) (s : Int) (h : c < 2 ^ 128) (w : World) : Calls Try.prog 56 #[.agg #[.bool b, .int .u64 (wd (c) 1), .int .u64 (wd (c) 0), .int .i64 s]] w fun e w' => e = .returned (.bool (decide (c = 0))) ∧ Below w.heap.size w w' := by
  have qz : ∀ W, (binOp .eql 24 (.agg #[.int .u64 (wd c 1), .int .u64 (wd c 0)]) (.agg #[.int .u64 0, .int .u64 0])).run Try.prog W = .ok (.bool (decide (c = 0))) W := fun W => by rw [eq_wide, eq_nil h]
  clear h
  generalize decide (c = 0) = z at *
  generalize wd c 0 = x0 at *
  generalize wd c 1 = x1 at *
  go_enter Try.func56, Try.ntmps56
  go_wp2_with fail
  refine bodyPost_ret (by simp [results, Try.results56, go_sem, *]; try rfl) rfl ?_
  exact ⟨rfl, by (repeat' (first | (with_reducible exact Below.refl _ _) | (with_reducible assumption) | (with_reducible refine Below.drew ?_) | (with_reducible refine below_drewN ?_ _) | ((with_reducible refine Below.alloc ?_ ?_ _); rotate_left; focus (go_size; done)) | ((with_reducible refine Below.setCell ?_ ?_ _); rotate_left; focus (go_size; done)) | ((with_reducible refine Below.trans ?_ (Below.mono (by with_reducible assumption) ?_)); rotate_left; focus (go_size; done))))⟩
end Go.Proofs.Ythkgjodidkpaeaa
