/- The program: two numbers of four words, their order, their sum, their difference. -/
import Derived.Test.YthkgjodidkpaeaaFw
import Derived.Test.YthkgjodidkpaeaaWc
import Derived.Test.YthkgjodidkpaeaaNw
set_option linter.unusedSimpArgs false
set_option linter.unusedVariables false
namespace Go.Proofs.Ythkgjodidkpaeaa
open Go.RowKit

set_option maxHeartbeats 4000000 in
theorem order_any (n m : Nat) (hn : n < 2 ^ 256) (hm : m < 2 ^ 256) (w : World) : Calls Try.prog 48 #[.agg #[.int .u64 (wd n 0), .int .u64 (wd n 1), .int .u64 (wd n 2), .int .u64 (wd n 3)], .agg #[.int .u64 (wd m 0), .int .u64 (wd m 1), .int .u64 (wd m 2), .int .u64 (wd m 3)]] w fun e w' => e = .returned (.int .i64 (cmpN n m)) ∧ Below w.heap.size w w' := by
  have H0 := Far.mk (top_none hn hm)
  obtain ⟨cc, hcc⟩ : ∃ cc, cc = cmpN n m := ⟨_, rfl⟩
  rw [← hcc]
  have HC := Lib.hid hcc
  clear hn hm hcc
  go_enter Try.func48, Try.ntmps48
  go_wp2_with fail
  go_loopg [5] 4 (fun k i wr => k ≤ 4 ∧ i = .int .i64 ((k : Int) - 1) ∧ Far (n / 2 ^ (64 * k) = m / 2 ^ (64 * k)) ∧ Bk wr w.heap.size 45 (lcells n) ∧ Bk wr (w.heap.size + 1) 45 (lcells m) ∧ Below w.heap.size w wr)
  case atStart => exact ⟨Nat.le_refl _, rfl, H0, by rw [lcells_eq]; (repeat (first | (with_reducible assumption) | ((with_reducible refine Bk.new_ ?_); (first | rfl | (simp only [World.size_alloc, World.size_setCell, World.size_drew, World.heap_drewN]; done))) | (with_reducible refine Bk.alloc ?_ _) | (with_reducible refine Bk.drew ?_) | (with_reducible refine Bk.drewN ?_ _) | ((with_reducible refine Bk.far ?_ ?_ _); rotate_left; focus (simp only []; omega)) | ((with_reducible refine Bk.below ?_ (by with_reducible assumption) ?_); rotate_left; focus (go_size; done)))), by rw [lcells_eq]; (repeat (first | (with_reducible assumption) | ((with_reducible refine Bk.new_ ?_); (first | rfl | (simp only [World.size_alloc, World.size_setCell, World.size_drew, World.heap_drewN]; done))) | (with_reducible refine Bk.alloc ?_ _) | (with_reducible refine Bk.drew ?_) | (with_reducible refine Bk.drewN ?_ _) | ((with_reducible refine Bk.far ?_ ?_ _); rotate_left; focus (simp only []; omega)) | ((with_reducible refine Bk.below ?_ (by with_reducible assumption) ?_); rotate_left; focus (go_size; done)))), by (repeat' (first | (with_reducible exact Below.refl _ _) | (with_reducible assumption) | (with_reducible refine Below.drew ?_) | (with_reducible refine below_drewN ?_ _) | ((with_reducible refine Below.alloc ?_ ?_ _); rotate_left; focus (go_size; done)) | ((with_reducible refine Below.setCell ?_ ?_ _); rotate_left; focus (go_size; done)) | ((with_reducible refine Below.trans ?_ (Below.mono (by with_reducible assumption) ?_)); rotate_left; focus (go_size; done))))⟩
  case round =>
    obtain ⟨hk, rfl, hd, b0, b1, hbel⟩ := hrel
    have HB0 := Lib.hid b0
    have HB1 := Lib.hid b1
    clear b0 b1 H0
    by_cases hz : gk = 0
    · subst hz
      have e : n = m := by have := hd.out; rwa [Nat.mul_zero, Nat.pow_zero, Nat.div_one, Nat.div_one] at this
      have hc : cmpN n m = 0 := by unfold cmpN; rw [if_pos e]
      have HD := Lib.hid hc
      have h0 : ¬ (0 : Int) ≤ ((0 : Nat) : Int) - 1 := by omega
      clear e hc hd
      go_wp2_with fail
      go_ret
      exact ⟨ret_int (by rw [HC.out, HD.out]), by (repeat' (first | (with_reducible exact Below.refl _ _) | (with_reducible assumption) | (with_reducible refine Below.drew ?_) | (with_reducible refine below_drewN ?_ _) | ((with_reducible refine Below.alloc ?_ ?_ _); rotate_left; focus (go_size; done)) | ((with_reducible refine Below.setCell ?_ ?_ _); rotate_left; focus (go_size; done)) | ((with_reducible refine Below.trans ?_ (Below.mono (by with_reducible assumption) ?_)); rotate_left; focus (go_size; done))))⟩
    · obtain ⟨j, rfl⟩ : ∃ j, gk = j + 1 := ⟨gk - 1, by omega⟩
      have j4 : j < 4 := by omega
      have hx : ((j + 1 : Nat) : Int) - 1 = (j : Int) := by omega
      have c0 : wr.cell? ⟨w.heap.size, j, none⟩ = some (.int .u64 (wd n j)) := HB0.out.cell j (lcells_at n j j4)
      have c1 : wr.cell? ⟨w.heap.size + 1, j, none⟩ = some (.int .u64 (wd m j)) := HB1.out.cell j (lcells_at m j j4)
      obtain ⟨x, ex⟩ : ∃ x, x = wd n j := ⟨_, rfl⟩
      obtain ⟨y, ey⟩ : ∃ y, y = wd m j := ⟨_, rfl⟩
      rw [← ex] at c0
      rw [← ey] at c1
      have HX := Lib.hid ex
      have HY := Lib.hid ey
      clear ex ey hz
      rw [hx]
      have j0 : (0 : Int) ≤ (j : Int) := by omega
      have j3 : (j : Int) < 4 := by omega
      rcases Int.lt_trichotomy x y with hl | he | hg
      · have hlt : n < m := top_lt hd.out (by rw [← HX.out, ← HY.out]; exact hl)
        have hc : cmpN n m = -1 := by unfold cmpN; rw [if_neg (by omega), if_pos hlt]
        have HD := Lib.hid hc
        clear hc hlt hx
        go_wp2_with fail
        go_region
        all_goals
          go_wp2_with fail
          go_ret
          exact ⟨ret_int (by rw [HC.out, HD.out]), by (repeat' (first | (with_reducible exact Below.refl _ _) | (with_reducible assumption) | (with_reducible refine Below.drew ?_) | (with_reducible refine below_drewN ?_ _) | ((with_reducible refine Below.alloc ?_ ?_ _); rotate_left; focus (go_size; done)) | ((with_reducible refine Below.setCell ?_ ?_ _); rotate_left; focus (go_size; done)) | ((with_reducible refine Below.trans ?_ (Below.mono (by with_reducible assumption) ?_)); rotate_left; focus (go_size; done))))⟩
      · have heq : n / 2 ^ (64 * j) = m / 2 ^ (64 * j) := top_eq hd.out (by rw [← HX.out, ← HY.out]; exact he)
        have HE := Far.mk heq
        clear heq hx
        subst he
        go_wp2_with fail
        go_region
        all_goals
          go_wp2_with fail
          go_region
          all_goals
            go_wp2_with fail
            go_roundg j
            case measure => omega
            case rel =>
              have b0 := HB0.out
              have b1 := HB1.out
              exact ⟨by omega, rfl, HE, by (repeat (first | (with_reducible assumption) | ((with_reducible refine Bk.new_ ?_); (first | rfl | (simp only [World.size_alloc, World.size_setCell, World.size_drew, World.heap_drewN]; done))) | (with_reducible refine Bk.alloc ?_ _) | (with_reducible refine Bk.drew ?_) | (with_reducible refine Bk.drewN ?_ _) | ((with_reducible refine Bk.far ?_ ?_ _); rotate_left; focus (simp only []; omega)) | ((with_reducible refine Bk.below ?_ (by with_reducible assumption) ?_); rotate_left; focus (go_size; done)))), by (repeat (first | (with_reducible assumption) | ((with_reducible refine Bk.new_ ?_); (first | rfl | (simp only [World.size_alloc, World.size_setCell, World.size_drew, World.heap_drewN]; done))) | (with_reducible refine Bk.alloc ?_ _) | (with_reducible refine Bk.drew ?_) | (with_reducible refine Bk.drewN ?_ _) | ((with_reducible refine Bk.far ?_ ?_ _); rotate_left; focus (simp only []; omega)) | ((with_reducible refine Bk.below ?_ (by with_reducible assumption) ?_); rotate_left; focus (go_size; done)))), by (repeat' (first | (with_reducible exact Below.refl _ _) | (with_reducible assumption) | (with_reducible refine Below.drew ?_) | (with_reducible refine below_drewN ?_ _) | ((with_reducible refine Below.alloc ?_ ?_ _); rotate_left; focus (go_size; done)) | ((with_reducible refine Below.setCell ?_ ?_ _); rotate_left; focus (go_size; done)) | ((with_reducible refine Below.trans ?_ (Below.mono (by with_reducible assumption) ?_)); rotate_left; focus (go_size; done))))⟩
      · have hlt : m < n := top_lt hd.out.symm (by rw [← HX.out, ← HY.out]; exact hg)
        have hc : cmpN n m = 1 := by unfold cmpN; rw [if_neg (by omega), if_neg (by omega)]
        have HD := Lib.hid hc
        have hg2 : ¬ x < y := by omega
        clear hc hlt hx
        go_wp2_with fail
        go_region
        all_goals
          go_wp2_with fail
          go_region
          all_goals
            go_wp2_with fail
            go_ret
            exact ⟨ret_int (by rw [HC.out, HD.out]), by (repeat' (first | (with_reducible exact Below.refl _ _) | (with_reducible assumption) | (with_reducible refine Below.drew ?_) | (with_reducible refine below_drewN ?_ _) | ((with_reducible refine Below.alloc ?_ ?_ _); rotate_left; focus (go_size; done)) | ((with_reducible refine Below.setCell ?_ ?_ _); rotate_left; focus (go_size; done)) | ((with_reducible refine Below.trans ?_ (Below.mono (by with_reducible assumption) ?_)); rotate_left; focus (go_size; done))))⟩
end Go.Proofs.Ythkgjodidkpaeaa
