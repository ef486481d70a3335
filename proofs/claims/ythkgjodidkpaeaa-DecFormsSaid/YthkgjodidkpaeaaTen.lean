/- Ten to a power, by the program and by the document. -/
import Derived.Test.YthkgjodidkpaeaaWm
set_option linter.unusedSimpArgs false
set_option linter.unusedVariables false
namespace Go.Proofs.Ythkgjodidkpaeaa
open Go.RowKit

theorem ten_38 {k : Nat} (h : k ≤ 38) : 10 ^ k < 2 ^ 128 := Nat.lt_of_le_of_lt (Nat.pow_le_pow_right (by decide) h) (by decide)
set_option maxHeartbeats 1000000 in
theorem ten_bad (k : Int) (hk : k < 0 ∨ 38 < k) (w : World) : Calls Try.prog 99 #[.int .i64 k] w fun e w' => e = .returned (.tuple #[.agg #[.int .u64 0, .int .u64 0], .int .i64 1]) ∧ Below w.heap.size w w' := by
  rcases hk with hk | hk
  · go_enter Try.func99, Try.ntmps99
    go_wp2_with fail
    refine bodyPost_ret (by simp [results, Try.results99, go_sem, *]; try rfl) rfl ?_
    exact ⟨rfl, by (repeat' (first | (with_reducible exact Below.refl _ _) | (with_reducible assumption) | (with_reducible refine Below.drew ?_) | (with_reducible refine below_drewN ?_ _) | ((with_reducible refine Below.alloc ?_ ?_ _); rotate_left; focus (go_size; done)) | ((with_reducible refine Below.setCell ?_ ?_ _); rotate_left; focus (go_size; done)) | ((with_reducible refine Below.trans ?_ (Below.mono (by with_reducible assumption) ?_)); rotate_left; focus (go_size; done))))⟩
  · have h0 : ¬ k < 0 := by omega
    go_enter Try.func99, Try.ntmps99
    go_wp2_with fail
    refine bodyPost_ret (by simp [results, Try.results99, go_sem, *]; try rfl) rfl ?_
    exact ⟨rfl, by (repeat' (first | (with_reducible exact Below.refl _ _) | (with_reducible assumption) | (with_reducible refine Below.drew ?_) | (with_reducible refine below_drewN ?_ _) | ((with_reducible refine Below.alloc ?_ ?_ _); rotate_left; focus (go_size; done)) | ((with_reducible refine Below.setCell ?_ ?_ _); rotate_left; focus (go_size; done)) | ((with_reducible refine Below.trans ?_ (Below.mono (by with_reducible assumption) ?_)); rotate_left; focus (go_size; done))))⟩
theorem mul_ten (X : Nat) (hX : X < 2 ^ 128) (W : World) : Calls Try.prog 77 #[.agg #[.int .u64 (wd X 1), .int .u64 (wd X 0)], .agg #[.int .u64 0, .int .u64 10]] W fun e w' => e = .returned (.agg #[.int .u64 (wd (X * 10) 0), .int .u64 (wd (X * 10) 1), .int .u64 (wd (X * 10) 2), .int .u64 (wd (X * 10) 3)]) ∧ Below W.heap.size W w' := by
  have h := mul_any X 10 hX (by decide) W
  have b0 : wd 10 0 = 10 := by rw [wd0]; rfl
  have b1 : wd 10 1 = 0 := by rw [wd1]; rfl
  rw [b0, b1] at h
  exact h
theorem fit_id {X : Nat} (h : X < 2 ^ 128) : fitW X = X := by unfold fitW; rw [if_pos h]
theorem over_id {X : Nat} (h : X < 2 ^ 128) : over X = 0 := by unfold over; rw [if_pos h]
set_option maxHeartbeats 4000000 in
theorem ten_any (k : Nat) (hk : k ≤ 38) (w : World) : Calls Try.prog 99 #[.int .i64 k] w fun e w' => e = .returned (.tuple #[.agg #[.int .u64 (wd (10 ^ k) 1), .int .u64 (wd (10 ^ k) 0)], .int .i64 0]) ∧ Below w.heap.size w w' := by
  have k0 : (0 : Int) ≤ (k : Int) := by omega
  have k1 : (k : Int) ≤ 38 := by omega
  go_enter Try.func99, Try.ntmps99
  go_wp2_with fail
  go_loopg [14] k (fun kk i wr => ∃ t : Nat, kk + t = k ∧ i = .int .i64 t ∧ Bk wr (w.heap.size + 1) 24 [.int .u64 (wd (10 ^ t) 1), .int .u64 (wd (10 ^ t) 0)] ∧ Bk wr w.heap.size 24 [.int .u64 0, .int .u64 0] ∧ w.heap.size + 2 ≤ wr.heap.size ∧ Below w.heap.size w wr)
  case atStart =>
    refine ⟨0, by omega, rfl, ?_, by (repeat (first | (with_reducible assumption) | ((with_reducible refine Bk.new_ ?_); (first | rfl | (simp only [World.size_alloc, World.size_setCell, World.size_drew, World.heap_drewN]; done))) | (with_reducible refine Bk.alloc ?_ _) | (with_reducible refine Bk.drew ?_) | (with_reducible refine Bk.drewN ?_ _) | ((with_reducible refine Bk.far ?_ ?_ _); rotate_left; focus (simp only []; omega)) | ((with_reducible refine Bk.below ?_ (by with_reducible assumption) ?_); rotate_left; focus (go_size; done)))), by go_size, by (repeat' (first | (with_reducible exact Below.refl _ _) | (with_reducible assumption) | (with_reducible refine Below.drew ?_) | (with_reducible refine below_drewN ?_ _) | ((with_reducible refine Below.alloc ?_ ?_ _); rotate_left; focus (go_size; done)) | ((with_reducible refine Below.setCell ?_ ?_ _); rotate_left; focus (go_size; done)) | ((with_reducible refine Below.trans ?_ (Below.mono (by with_reducible assumption) ?_)); rotate_left; focus (go_size; done))))⟩
    have b0 : wd (10 ^ 0) 0 = 1 := by rw [wd0]; rfl
    have b1 : wd (10 ^ 0) 1 = 0 := by rw [wd1]; rfl
    rw [b0, b1]
    (repeat (first | (with_reducible assumption) | ((with_reducible refine Bk.new_ ?_); (first | rfl | (simp only [World.size_alloc, World.size_setCell, World.size_drew, World.heap_drewN]; done))) | (with_reducible refine Bk.alloc ?_ _) | (with_reducible refine Bk.drew ?_) | (with_reducible refine Bk.drewN ?_ _) | ((with_reducible refine Bk.far ?_ ?_ _); rotate_left; focus (simp only []; omega)) | ((with_reducible refine Bk.below ?_ (by with_reducible assumption) ?_); rotate_left; focus (go_size; done))))
  case round =>
    obtain ⟨t, hn, rfl, b1, b0, hsz, hbel⟩ := hrel
    have HK := Lib.hid hn
    have ht : t ≤ k := by omega
    have c0 := b1.cell 0 rfl
    have c1 := b1.cell 1 rfl
    have f0 := b1.frozen 0
    have f1 := b1.frozen 1
    have d0 := b0.cell 0 rfl
    have d1 := b0.cell 1 rfl
    have e0 := b0.frozen 0
    have e1 := b0.frozen 1
    have B0 := Lib.hid b0
    have B1 := Lib.hid b1
    (try have : w.heap.size < wr.heap.size := by omega); (try have : w.heap.size + 1 < wr.heap.size := by omega); (try have : w.heap.size + 1 + 1 < wr.heap.size := by omega); (try have : w.heap.size + 1 + 1 + 1 < wr.heap.size := by omega)
    clear hn b0 b1
    by_cases hlt : t < k
    · have hx : 10 ^ t < 2 ^ 128 := ten_38 (by omega)
      have hy : 10 ^ t * 10 < 2 ^ 128 := by rw [← Nat.pow_succ]; exact ten_38 (by omega)
      have HM := Lib.hid (fun W => mul_ten (10 ^ t) hx W)
      have HN := Lib.hid (fun W => narrow_any (10 ^ t * 10) (Nat.lt_trans hy (by decide)) W)
      rw [fit_id hy, over_id hy] at HN
      obtain ⟨X, hX⟩ : ∃ X, X = 10 ^ t := ⟨_, rfl⟩
      obtain ⟨Y, hY⟩ : ∃ Y, Y = X * 10 := ⟨_, rfl⟩
      rw [← hX] at c0 c1 HM HN
      rw [← hY] at HM HN
      have EX := Far.mk hX
      have EY := Far.mk hY
      clear hX hY hx hy
      go_wp2_with (first
        | ((go_at_call 77; with_reducible refine (HM.out _).mono ?_); rintro _ w1 ⟨rfl, hb1⟩; have hb1s := hb1.size; (try simp only [World.size_alloc, World.size_setCell, World.size_drew, World.heap_drewN] at hb1s); obtain ⟨hb1c, hb1f⟩ := bcell hb1; (try have : w.heap.size < w1.heap.size := by omega); (try have : w.heap.size + 1 < w1.heap.size := by omega); (try have : w.heap.size + 1 + 1 < w1.heap.size := by omega); (try have : w.heap.size + 1 + 1 + 1 < w1.heap.size := by omega))
        | ((go_at_call 94; with_reducible refine (HN.out _).mono ?_); rintro _ w2 ⟨rfl, hb2⟩; have hb2s := hb2.size; (try simp only [World.size_alloc, World.size_setCell, World.size_drew, World.heap_drewN] at hb2s); obtain ⟨hb2c, hb2f⟩ := bcell hb2; (try have : w.heap.size < w2.heap.size := by omega); (try have : w.heap.size + 1 < w2.heap.size := by omega); (try have : w.heap.size + 1 + 1 < w2.heap.size := by omega); (try have : w.heap.size + 1 + 1 + 1 < w2.heap.size := by omega); (try have : w1.heap.size < w2.heap.size := by omega); (try have : w1.heap.size + 1 < w2.heap.size := by omega); (try have : w1.heap.size + 1 + 1 < w2.heap.size := by omega); (try have : w1.heap.size + 1 + 1 + 1 < w2.heap.size := by omega)))
      go_roundg (gk - 1)
      case measure => have := HK.out; omega
      case rel =>
        have b0 := B0.out
        have b1 := B1.out
        refine ⟨t + 1, by have := HK.out; omega, by go_num, ?_, by (repeat (first | (with_reducible assumption) | ((with_reducible refine Bk.new_ ?_); (first | rfl | (simp only [World.size_alloc, World.size_setCell, World.size_drew, World.heap_drewN]; done))) | (with_reducible refine Bk.alloc ?_ _) | (with_reducible refine Bk.drew ?_) | (with_reducible refine Bk.drewN ?_ _) | ((with_reducible refine Bk.far ?_ ?_ _); rotate_left; focus (simp only []; omega)) | ((with_reducible refine Bk.below ?_ (by with_reducible assumption) ?_); rotate_left; focus (go_size; done)))), by go_size, by (repeat' (first | (with_reducible exact Below.refl _ _) | (with_reducible assumption) | (with_reducible refine Below.drew ?_) | (with_reducible refine below_drewN ?_ _) | ((with_reducible refine Below.alloc ?_ ?_ _); rotate_left; focus (go_size; done)) | ((with_reducible refine Below.setCell ?_ ?_ _); rotate_left; focus (go_size; done)) | ((with_reducible refine Below.trans ?_ (Below.mono (by with_reducible assumption) ?_)); rotate_left; focus (go_size; done))))⟩
        have e : 10 ^ (t + 1) = Y := by rw [EY.out, EX.out, Nat.pow_succ]
        rw [e]
        refine ((?_ : Bk w2 _ _ [.int .u64 (wd (10 ^ t) 1), .int .u64 (wd (10 ^ t) 0)]).set_ 0 _).set_ 1 _
        (repeat (first | (with_reducible assumption) | ((with_reducible refine Bk.new_ ?_); (first | rfl | (simp only [World.size_alloc, World.size_setCell, World.size_drew, World.heap_drewN]; done))) | (with_reducible refine Bk.alloc ?_ _) | (with_reducible refine Bk.drew ?_) | (with_reducible refine Bk.drewN ?_ _) | ((with_reducible refine Bk.far ?_ ?_ _); rotate_left; focus (simp only []; omega)) | ((with_reducible refine Bk.below ?_ (by with_reducible assumption) ?_); rotate_left; focus (go_size; done))))
    · obtain rfl : t = k := by omega
      obtain ⟨X, hX⟩ : ∃ X, X = 10 ^ t := ⟨_, rfl⟩
      rw [← hX] at c0 c1
      have EX := Far.mk hX
      clear hX
      go_wp2_with fail
      refine bodyPost_ret (by simp [results, Try.results99, go_sem, *]; try rfl) rfl ?_
      exact ⟨by rw [EX.out], by (repeat' (first | (with_reducible exact Below.refl _ _) | (with_reducible assumption) | (with_reducible refine Below.drew ?_) | (with_reducible refine below_drewN ?_ _) | ((with_reducible refine Below.alloc ?_ ?_ _); rotate_left; focus (go_size; done)) | ((with_reducible refine Below.setCell ?_ ?_ _); rotate_left; focus (go_size; done)) | ((with_reducible refine Below.trans ?_ (Below.mono (by with_reducible assumption) ?_)); rotate_left; focus (go_size; done))))⟩
end Go.Proofs.Ythkgjodidkpaeaa
