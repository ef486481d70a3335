/- The quotient of a number of four words by one of two. -/
import Derived.Test.YtnjiibeomailhaaWm
import Derived.Test.YtnjiibeomailhaaEq
import Derived.Test.YtnjiibeomailhaaDv
import Derived.RegionTactic
import Derived.BigRegion
import Derived.StillTailTactics
set_option linter.unusedSimpArgs false
set_option linter.unusedVariables false
namespace Go.Proofs.Ytnjiibeomailhaa
open Go.RowKit

theorem dv_less {D T T' R b : Nat} (hD : D < 2 ^ 128) (e1 : T' = T % 2 ^ 128) (hR : R < D) (e2 : T = 2 * R + b) (hb : b < 2) (h : D ≤ T) : lessW T' D = T - D := by
  unfold lessW
  split <;> omega
set_option maxHeartbeats 1000000 in
theorem div_zero (N : Nat) (w : World) : Calls Try.prog 14 #[.agg #[.int .u64 (wd N 0), .int .u64 (wd N 1), .int .u64 (wd N 2), .int .u64 (wd N 3)], .agg #[.int .u64 0, .int .u64 0]] w fun e w' => e = .returned (.tuple #[.agg #[.int .u64 0, .int .u64 0, .int .u64 0, .int .u64 0], .agg #[.int .u64 0, .int .u64 0], .int .i64 4]) ∧ Below w.heap.size w w' := by
  generalize wd N 0 = x0 at *
  generalize wd N 1 = x1 at *
  generalize wd N 2 = x2 at *
  generalize wd N 3 = x3 at *
  go_enter Try.func14, Try.ntmps14
  go_wp2_with fail
  refine bodyPost_ret (by simp [results, Try.results14, go_sem, *]; try rfl) rfl ?_
  exact ⟨rfl, by (repeat' (first | (with_reducible exact Below.refl _ _) | (with_reducible assumption) | (with_reducible refine Below.drew ?_) | (with_reducible refine below_drewN ?_ _) | ((with_reducible refine Below.alloc ?_ ?_ _); rotate_left; focus (go_size; done)) | ((with_reducible refine Below.setCell ?_ ?_ _); rotate_left; focus (go_size; done)) | ((with_reducible refine Below.trans ?_ (Below.mono (by with_reducible assumption) ?_)); rotate_left; focus (go_size; done))))⟩
set_option maxHeartbeats 4000000 in
theorem div_any (N D : Nat) (hN : N < 2 ^ 256) (hD : D < 2 ^ 128) (h0 : D ≠ 0) (w : World) :
    Calls Try.prog 14 #[.agg #[.int .u64 (wd N 0), .int .u64 (wd N 1), .int .u64 (wd N 2), .int .u64 (wd N 3)], .agg #[.int .u64 (wd D 1), .int .u64 (wd D 0)]] w fun e w' => e = .returned (.tuple #[.agg #[.int .u64 (wd (N / D) 0), .int .u64 (wd (N / D) 1), .int .u64 (wd (N / D) 2), .int .u64 (wd (N / D) 3)], .agg #[.int .u64 (wd (N % D) 1), .int .u64 (wd (N % D) 0)], .int .i64 0]) ∧ Below w.heap.size w w' := by
  have g0 : ((wd D 1 == 0) && (wd D 0 == 0)) = false := by
    have e := wd_eq_iff hD (show 0 < 2 ^ 128 by decide)
    rw [wd_zero, wd_zero] at e
    rw [e]; simpa using h0
  have HN := Far.mk hN
  have HD := Far.mk hD
  have H0 : Hid (0 < D) := Lib.hid (by omega)
  clear hN hD h0
  obtain ⟨d1, hd1⟩ : ∃ x, x = wd D 1 := ⟨_, rfl⟩
  obtain ⟨d0, hd0⟩ : ∃ x, x = wd D 0 := ⟨_, rfl⟩
  rw [← hd1, ← hd0] at g0 ⊢
  have q0 := fun W => eq_wide d1 d0 0 0 W
  rw [g0] at q0
  clear g0
  have E1 := Lib.hid hd1
  have E0 := Lib.hid hd0
  clear hd1 hd0
  go_enter Try.func14, Try.ntmps14
  go_wp2_with fail
  go_loopg [9] 256 (fun k i wr => k ≤ 256 ∧ i = .int .i64 ((k : Int) - 1) ∧ Bk wr (w.heap.size + 1 + 1 + 1 + 1) 24 (lcells (N / 2 ^ k / D * 2 ^ k)) ∧
    Bk wr (w.heap.size + 1 + 1 + 1 + 1 + 1) 27 [.int .u64 (wd (N / 2 ^ k % D) 1), .int .u64 (wd (N / 2 ^ k % D) 0)] ∧ Bk wr w.heap.size 24 (lcells N) ∧ Bk wr (w.heap.size + 1) 27 [.int .u64 d1, .int .u64 d0] ∧
    Bk wr (w.heap.size + 1 + 1) 24 [.int .u64 0, .int .u64 0, .int .u64 0, .int .u64 0] ∧ Bk wr (w.heap.size + 1 + 1 + 1) 27 [.int .u64 0, .int .u64 0] ∧ w.heap.size + 6 ≤ wr.heap.size ∧ Below w.heap.size w wr)
  case atStart =>
    refine ⟨Nat.le_refl _, rfl, ?_, ?_, by rw [lcells_eq]; (repeat (first | (with_reducible assumption) | ((with_reducible refine Bk.new_ ?_); (first | rfl | (simp only [World.size_alloc, World.size_setCell, World.size_drew, World.heap_drewN]; done))) | (with_reducible refine Bk.alloc ?_ _) | (with_reducible refine Bk.drew ?_) | (with_reducible refine Bk.drewN ?_ _) | ((with_reducible refine Bk.far ?_ ?_ _); rotate_left; focus (simp only []; omega)) | ((with_reducible refine Bk.below ?_ (by with_reducible assumption) ?_); rotate_left; focus (go_size; done)))), by (repeat (first | (with_reducible assumption) | ((with_reducible refine Bk.new_ ?_); (first | rfl | (simp only [World.size_alloc, World.size_setCell, World.size_drew, World.heap_drewN]; done))) | (with_reducible refine Bk.alloc ?_ _) | (with_reducible refine Bk.drew ?_) | (with_reducible refine Bk.drewN ?_ _) | ((with_reducible refine Bk.far ?_ ?_ _); rotate_left; focus (simp only []; omega)) | ((with_reducible refine Bk.below ?_ (by with_reducible assumption) ?_); rotate_left; focus (go_size; done)))), by (repeat (first | (with_reducible assumption) | ((with_reducible refine Bk.new_ ?_); (first | rfl | (simp only [World.size_alloc, World.size_setCell, World.size_drew, World.heap_drewN]; done))) | (with_reducible refine Bk.alloc ?_ _) | (with_reducible refine Bk.drew ?_) | (with_reducible refine Bk.drewN ?_ _) | ((with_reducible refine Bk.far ?_ ?_ _); rotate_left; focus (simp only []; omega)) | ((with_reducible refine Bk.below ?_ (by with_reducible assumption) ?_); rotate_left; focus (go_size; done)))), by (repeat (first | (with_reducible assumption) | ((with_reducible refine Bk.new_ ?_); (first | rfl | (simp only [World.size_alloc, World.size_setCell, World.size_drew, World.heap_drewN]; done))) | (with_reducible refine Bk.alloc ?_ _) | (with_reducible refine Bk.drew ?_) | (with_reducible refine Bk.drewN ?_ _) | ((with_reducible refine Bk.far ?_ ?_ _); rotate_left; focus (simp only []; omega)) | ((with_reducible refine Bk.below ?_ (by with_reducible assumption) ?_); rotate_left; focus (go_size; done)))), by go_size, by (repeat' (first | (with_reducible exact Below.refl _ _) | (with_reducible assumption) | (with_reducible refine Below.drew ?_) | (with_reducible refine below_drewN ?_ _) | ((with_reducible refine Below.alloc ?_ ?_ _); rotate_left; focus (go_size; done)) | ((with_reducible refine Below.setCell ?_ ?_ _); rotate_left; focus (go_size; done)) | ((with_reducible refine Below.trans ?_ (Below.mono (by with_reducible assumption) ?_)); rotate_left; focus (go_size; done))))⟩
    · rw [Nat.div_eq_of_lt HN.out, Nat.zero_div, Nat.zero_mul]
      show Bk _ _ _ [.int .u64 0, .int .u64 0, .int .u64 0, .int .u64 0]
      (repeat (first | (with_reducible assumption) | ((with_reducible refine Bk.new_ ?_); (first | rfl | (simp only [World.size_alloc, World.size_setCell, World.size_drew, World.heap_drewN]; done))) | (with_reducible refine Bk.alloc ?_ _) | (with_reducible refine Bk.drew ?_) | (with_reducible refine Bk.drewN ?_ _) | ((with_reducible refine Bk.far ?_ ?_ _); rotate_left; focus (simp only []; omega)) | ((with_reducible refine Bk.below ?_ (by with_reducible assumption) ?_); rotate_left; focus (go_size; done))))
    · rw [Nat.div_eq_of_lt HN.out, Nat.zero_mod]
      show Bk _ _ _ [.int .u64 0, .int .u64 0]
      (repeat (first | (with_reducible assumption) | ((with_reducible refine Bk.new_ ?_); (first | rfl | (simp only [World.size_alloc, World.size_setCell, World.size_drew, World.heap_drewN]; done))) | (with_reducible refine Bk.alloc ?_ _) | (with_reducible refine Bk.drew ?_) | (with_reducible refine Bk.drewN ?_ _) | ((with_reducible refine Bk.far ?_ ?_ _); rotate_left; focus (simp only []; omega)) | ((with_reducible refine Bk.below ?_ (by with_reducible assumption) ?_); rotate_left; focus (go_size; done))))
  case round =>
    obtain ⟨hk, rfl, b4, b5, b0, b1, b2, b3, hsz, hbel⟩ := hrel
    have B4 := Lib.hid b4
    have B5 := Lib.hid b5
    have B0 := Lib.hid b0
    have B1 := Lib.hid b1
    have B2 := Lib.hid b2
    have B3 := Lib.hid b3
    clear b4 b5 b0 b1 b2 b3
    (try have : w.heap.size < wr.heap.size := by omega); (try have : w.heap.size + 1 < wr.heap.size := by omega); (try have : w.heap.size + 1 + 1 < wr.heap.size := by omega); (try have : w.heap.size + 1 + 1 + 1 < wr.heap.size := by omega)
    have s4 : w.heap.size + 1 + 1 + 1 + 1 < wr.heap.size := by omega
    have s5 : w.heap.size + 1 + 1 + 1 + 1 + 1 < wr.heap.size := by omega
    by_cases hk0 : gk = 0
    · subst hk0
      have hm : ¬ (0 : Int) ≤ ((0 : Nat) : Int) - 1 := by omega
      rw [Nat.pow_zero, Nat.div_one, Nat.mul_one] at B4
      rw [Nat.pow_zero, Nat.div_one] at B5
      have b4 := B4.out
      rw [lcells_eq] at b4
      have q0 := b4.cell 0 rfl
      have q1 := b4.cell 1 rfl
      have q2 := b4.cell 2 rfl
      have q3 := b4.cell 3 rfl
      have r0 := B5.out.cell 0 rfl
      have r1 := B5.out.cell 1 rfl
      have p0 := B2.out.frozen 0
      have p1 := B2.out.frozen 1
      have p2 := B2.out.frozen 2
      have p3 := B2.out.frozen 3
      have o0 := B3.out.frozen 0
      have o1 := B3.out.frozen 1
      have u0 := B2.out.cell 0 rfl
      have u1 := B2.out.cell 1 rfl
      have u2 := B2.out.cell 2 rfl
      have u3 := B2.out.cell 3 rfl
      have v0 := B3.out.cell 0 rfl
      have v1 := B3.out.cell 1 rfl
      clear b4
      go_wp2_with fail
      go_region
      go_wp2_with fail
      refine bodyPost_ret (by simp [results, Try.results14, go_sem, *]; try rfl) rfl ?_
      exact ⟨rfl, by (repeat' (first | (with_reducible exact Below.refl _ _) | (with_reducible assumption) | (with_reducible refine Below.drew ?_) | (with_reducible refine below_drewN ?_ _) | ((with_reducible refine Below.alloc ?_ ?_ _); rotate_left; focus (go_size; done)) | ((with_reducible refine Below.setCell ?_ ?_ _); rotate_left; focus (go_size; done)) | ((with_reducible refine Below.trans ?_ (Below.mono (by with_reducible assumption) ?_)); rotate_left; focus (go_size; done))))⟩
    · obtain ⟨j, rfl⟩ : ∃ j, gk = j + 1 := ⟨gk - 1, by omega⟩
      have hp : (0 : Int) < ((j + 1 : Nat) : Int) := by omega
      have hx : ((j + 1 : Nat) : Int) - 1 = (j : Int) := by omega
      have j0 : (0 : Int) ≤ (j : Int) := by omega
      have hj : j < 256 := by omega
      obtain ⟨R, hR⟩ : ∃ R, R = N / 2 ^ (j + 1) % D := ⟨_, rfl⟩
      have hRD : R < D := by rw [hR]; exact Nat.mod_lt _ H0.out
      have hRw : R < 2 ^ 128 := Nat.lt_trans hRD HD.out
      obtain ⟨b, hb⟩ : ∃ b, b = N / 2 ^ j % 2 := ⟨_, rfl⟩
      have hb2' : b < 2 := by omega
      have L1 := Lib.hid (dv_hi R b hRw hb2')
      have L0 := Lib.hid (dv_lo R b hRw hb2')
      have LV := Lib.hid (dv_over R b hRw hb2')
      have LB := Lib.hid (dv_bit N j)
      rw [← hb] at LB
      rw [← hR] at B5
      obtain ⟨T, hT⟩ : ∃ T, T = 2 * R + b := ⟨_, rfl⟩
      obtain ⟨T', hT'⟩ : ∃ T', T' = T % 2 ^ 128 := ⟨_, rfl⟩
      rw [← hT, ← hT'] at L1 L0
      rw [← hT] at LV
      have ER := Far.mk hR
      have EB := Far.mk hb
      have ET := Far.mk hT
      have ET' := Far.mk hT'
      have ERD := Far.mk hRD
      have c5 := B5.out.cell 0 rfl
      have c5' := B5.out.cell 1 rfl
      have f5 := B5.out.frozen 0
      have f5' := B5.out.frozen 1
      have c0 : wr.cell? ⟨w.heap.size, j / 64, none⟩ = some (.int .u64 (wd N (j / 64))) := B0.out.cell _ (lcells_at N _ (by omega))
      clear hk0 hR hRD hRw hb hT hT' 
      obtain ⟨x1, hx1⟩ : ∃ x, x = wd R 1 := ⟨_, rfl⟩
      obtain ⟨x0, hx0⟩ : ∃ x, x = wd R 0 := ⟨_, rfl⟩
      rw [← hx1] at c5 L1 LV
      rw [← hx0] at c5' L1 L0
      clear hx1 hx0
      go_wp2_with fail
      go_region
      rw [LB.out, L1.out, L0.out]
      obtain ⟨y1, hy1⟩ : ∃ x, x = wd T' 1 := ⟨_, rfl⟩
      obtain ⟨y0, hy0⟩ : ∃ x, x = wd T' 0 := ⟨_, rfl⟩
      rw [← hy1, ← hy0]
      have m5 : Bk (((wr.setCell ⟨w.heap.size + 1 + 1 + 1 + 1 + 1, 0, none⟩ (.int .u64 y1)).setCell ⟨w.heap.size + 1 + 1 + 1 + 1 + 1, 1, none⟩ (.int .u64 y0)).drew) (w.heap.size + 1 + 1 + 1 + 1 + 1) 27 [.int .u64 y1, .int .u64 y0] := ((B5.out.set_ 0 _).set_ 1 _).drew
      have m4 : Bk (((wr.setCell ⟨w.heap.size + 1 + 1 + 1 + 1 + 1, 0, none⟩ (.int .u64 y1)).setCell ⟨w.heap.size + 1 + 1 + 1 + 1 + 1, 1, none⟩ (.int .u64 y0)).drew) (w.heap.size + 1 + 1 + 1 + 1) 24 (lcells (N / 2 ^ (j + 1) / D * 2 ^ (j + 1))) := ((B4.out.far (by simp only []; omega) _).far (by simp only []; omega) _).drew
      have m0 : Bk (((wr.setCell ⟨w.heap.size + 1 + 1 + 1 + 1 + 1, 0, none⟩ (.int .u64 y1)).setCell ⟨w.heap.size + 1 + 1 + 1 + 1 + 1, 1, none⟩ (.int .u64 y0)).drew) w.heap.size 24 (lcells N) := ((B0.out.far (by simp only []; omega) _).far (by simp only []; omega) _).drew
      have m1 : Bk (((wr.setCell ⟨w.heap.size + 1 + 1 + 1 + 1 + 1, 0, none⟩ (.int .u64 y1)).setCell ⟨w.heap.size + 1 + 1 + 1 + 1 + 1, 1, none⟩ (.int .u64 y0)).drew) (w.heap.size + 1) 27 [.int .u64 d1, .int .u64 d0] := ((B1.out.far (by simp only []; omega) _).far (by simp only []; omega) _).drew
      have m2 : Bk (((wr.setCell ⟨w.heap.size + 1 + 1 + 1 + 1 + 1, 0, none⟩ (.int .u64 y1)).setCell ⟨w.heap.size + 1 + 1 + 1 + 1 + 1, 1, none⟩ (.int .u64 y0)).drew) (w.heap.size + 1 + 1) 24 [.int .u64 0, .int .u64 0, .int .u64 0, .int .u64 0] := ((B2.out.far (by simp only []; omega) _).far (by simp only []; omega) _).drew
      have m3 : Bk (((wr.setCell ⟨w.heap.size + 1 + 1 + 1 + 1 + 1, 0, none⟩ (.int .u64 y1)).setCell ⟨w.heap.size + 1 + 1 + 1 + 1 + 1, 1, none⟩ (.int .u64 y0)).drew) (w.heap.size + 1 + 1 + 1) 27 [.int .u64 0, .int .u64 0] := ((B3.out.far (by simp only []; omega) _).far (by simp only []; omega) _).drew
      have ms : w.heap.size + 6 ≤ (((wr.setCell ⟨w.heap.size + 1 + 1 + 1 + 1 + 1, 0, none⟩ (.int .u64 y1)).setCell ⟨w.heap.size + 1 + 1 + 1 + 1 + 1, 1, none⟩ (.int .u64 y0)).drew).heap.size := by go_size
      have mb : Below w.heap.size w (((wr.setCell ⟨w.heap.size + 1 + 1 + 1 + 1 + 1, 0, none⟩ (.int .u64 y1)).setCell ⟨w.heap.size + 1 + 1 + 1 + 1 + 1, 1, none⟩ (.int .u64 y0)).drew) := by (repeat' (first | (with_reducible exact Below.refl _ _) | (with_reducible assumption) | (with_reducible refine Below.drew ?_) | (with_reducible refine below_drewN ?_ _) | ((with_reducible refine Below.alloc ?_ ?_ _); rotate_left; focus (go_size; done)) | ((with_reducible refine Below.setCell ?_ ?_ _); rotate_left; focus (go_size; done)) | ((with_reducible refine Below.trans ?_ (Below.mono (by with_reducible assumption) ?_)); rotate_left; focus (go_size; done))))
      generalize hw9 : (((wr.setCell ⟨w.heap.size + 1 + 1 + 1 + 1 + 1, 0, none⟩ (.int .u64 y1)).setCell ⟨w.heap.size + 1 + 1 + 1 + 1 + 1, 1, none⟩ (.int .u64 y0)).drew) = w9 at *
      clear hw9
      have M5 := Lib.hid m5
      have M4 := Lib.hid m4
      have M0 := Lib.hid m0
      have M2 := Lib.hid m2
      have M3 := Lib.hid m3
      have M1 := Lib.hid m1
      have cr0 := m5.cell 0 rfl
      have cr1 := m5.cell 1 rfl
      have fr0 := m5.frozen 0
      have fr1 := m5.frozen 1
      have cd0 := m1.cell 0 rfl
      have cd1 := m1.cell 1 rfl
      clear m5 m4 m0 m2 m3 m1 c5 c5' f5 f5' c0
      have hT1 : T' < 2 ^ 128 := by rw [ET'.out]; exact Nat.mod_lt _ (by decide)
      have GT1 := Far.mk hT1
      have EY1 := Lib.hid hy1
      have EY0 := Lib.hid hy0
      clear hT1 hy1 hy0
      obtain ⟨ov, hov⟩ : ∃ ov, ov = x1 / 9223372036854775808 := ⟨_, rfl⟩
      rw [← hov] at LV ⊢
      clear hov
      have HL := Lib.hid (fun W => less_any T' D GT1.out HD.out W)
      rw [← EY1.out, ← EY0.out, ← E1.out, ← E0.out] at HL
      have HC := Lib.hid (fun W => cmp_any T' D GT1.out HD.out W)
      rw [← EY1.out, ← EY0.out, ← E1.out, ← E0.out] at HC
      by_cases hv : (ov == 1) = true
      · go_wp2_with fail
        have hTD : D ≤ T := by
          have h1 := LV.out
          rw [hv] at h1
          have h2 : 2 ^ 128 ≤ T := of_decide_eq_true h1.symm
          exact Nat.le_trans (Nat.le_of_lt HD.out) h2
        have HTD := Far.mk hTD
        clear hTD
        refine (HL.out _).mono ?_
        rintro _ w2 ⟨rfl, hb2⟩
        have hb2s := hb2.size
        have n5 := M5.out.below hb2 (by omega)
        have n4 := M4.out.below hb2 (by omega)
        have n3 := M3.out.below hb2 (by omega)
        have n2 := M2.out.below hb2 (by omega)
        have n1 := M1.out.below hb2 (by omega)
        have n0 := M0.out.below hb2 (by omega)
        have N5 := Lib.hid n5
        have N4 := Lib.hid n4
        have N3 := Lib.hid n3
        have N2 := Lib.hid n2
        have N1 := Lib.hid n1
        have N0 := Lib.hid n0
        have nb : Below w.heap.size w w2 := by (repeat' (first | (with_reducible exact Below.refl _ _) | (with_reducible assumption) | (with_reducible refine Below.drew ?_) | (with_reducible refine below_drewN ?_ _) | ((with_reducible refine Below.alloc ?_ ?_ _); rotate_left; focus (go_size; done)) | ((with_reducible refine Below.setCell ?_ ?_ _); rotate_left; focus (go_size; done)) | ((with_reducible refine Below.trans ?_ (Below.mono (by with_reducible assumption) ?_)); rotate_left; focus (go_size; done))))
        have cr0 := n5.cell 0 rfl
        have cr1 := n5.cell 1 rfl
        have fr0 := n5.frozen 0
        have fr1 := n5.frozen 1
        have cd0 := n1.cell 0 rfl
        have cd1 := n1.cell 1 rfl
        have cq := n4.cell (j / 64) (lcells_at _ _ (by omega))
        have fq := n4.frozen (j / 64)
        have hq4 : j / 64 < 4 := by omega
        clear n5 n4 n3 n2 n1 n0
        go_wp2_with fail
        go_region
        go_wp2_with fail
        go_roundg j
        case measure => omega
        case rel =>
          obtain ⟨q1, q2⟩ := dv_yes H0.out ER.out EB.out ET.out hb2' HTD.out
          have n0 := N0.out
          have n1 := N1.out
          have n2 := N2.out
          have n3 := N3.out
          refine ⟨by omega, rfl, ?_, ?_, by (repeat (first | (with_reducible assumption) | ((with_reducible refine Bk.new_ ?_); (first | rfl | (simp only [World.size_alloc, World.size_setCell, World.size_drew, World.heap_drewN]; done))) | (with_reducible refine Bk.alloc ?_ _) | (with_reducible refine Bk.drew ?_) | (with_reducible refine Bk.drewN ?_ _) | ((with_reducible refine Bk.far ?_ ?_ _); rotate_left; focus (simp only []; omega)) | ((with_reducible refine Bk.below ?_ (by with_reducible assumption) ?_); rotate_left; focus (go_size; done)))), by (repeat (first | (with_reducible assumption) | ((with_reducible refine Bk.new_ ?_); (first | rfl | (simp only [World.size_alloc, World.size_setCell, World.size_drew, World.heap_drewN]; done))) | (with_reducible refine Bk.alloc ?_ _) | (with_reducible refine Bk.drew ?_) | (with_reducible refine Bk.drewN ?_ _) | ((with_reducible refine Bk.far ?_ ?_ _); rotate_left; focus (simp only []; omega)) | ((with_reducible refine Bk.below ?_ (by with_reducible assumption) ?_); rotate_left; focus (go_size; done)))), by (repeat (first | (with_reducible assumption) | ((with_reducible refine Bk.new_ ?_); (first | rfl | (simp only [World.size_alloc, World.size_setCell, World.size_drew, World.heap_drewN]; done))) | (with_reducible refine Bk.alloc ?_ _) | (with_reducible refine Bk.drew ?_) | (with_reducible refine Bk.drewN ?_ _) | ((with_reducible refine Bk.far ?_ ?_ _); rotate_left; focus (simp only []; omega)) | ((with_reducible refine Bk.below ?_ (by with_reducible assumption) ?_); rotate_left; focus (go_size; done)))), by (repeat (first | (with_reducible assumption) | ((with_reducible refine Bk.new_ ?_); (first | rfl | (simp only [World.size_alloc, World.size_setCell, World.size_drew, World.heap_drewN]; done))) | (with_reducible refine Bk.alloc ?_ _) | (with_reducible refine Bk.drew ?_) | (with_reducible refine Bk.drewN ?_ _) | ((with_reducible refine Bk.far ?_ ?_ _); rotate_left; focus (simp only []; omega)) | ((with_reducible refine Bk.below ?_ (by with_reducible assumption) ?_); rotate_left; focus (go_size; done)))), by go_size, by (repeat' (first | (with_reducible exact Below.refl _ _) | (with_reducible assumption) | (with_reducible refine Below.drew ?_) | (with_reducible refine below_drewN ?_ _) | ((with_reducible refine Below.alloc ?_ ?_ _); rotate_left; focus (go_size; done)) | ((with_reducible refine Below.setCell ?_ ?_ _); rotate_left; focus (go_size; done)) | ((with_reducible refine Below.trans ?_ (Below.mono (by with_reducible assumption) ?_)); rotate_left; focus (go_size; done))))⟩
          · rw [q1, ← dv_cells _ _ hj (dv_q256 HN.out D j)]
            exact (((N4.out.far (by simp only []; omega) _).far (by simp only []; omega) _).set_ _ _).drew
          · have e : lessW T' D = T - D := dv_less HD.out ET'.out ERD.out ET.out hb2' HTD.out
            rw [q2, ← e]
            exact (((N5.out.set_ 0 _).set_ 1 _).far (by simp only []; omega) _).drew
      · have hv' : (ov == 1) = false := by simpa using hv
        have hTs : T < 2 ^ 128 := by
          have h1 := LV.out
          rw [hv'] at h1
          have h2 := of_decide_eq_false h1.symm
          omega
        have HTS := Far.mk hTs
        clear hv hTs
        go_wp2_with fail
        refine (HC.out _).mono ?_
        rintro _ w3 ⟨rfl, hb3⟩
        have hb3s := hb3.size
        have M5 := Lib.hid (M5.out.below hb3 (by omega))
        have M4 := Lib.hid (M4.out.below hb3 (by omega))
        have M3 := Lib.hid (M3.out.below hb3 (by omega))
        have M2 := Lib.hid (M2.out.below hb3 (by omega))
        have M1 := Lib.hid (M1.out.below hb3 (by omega))
        have M0 := Lib.hid (M0.out.below hb3 (by omega))
        have mb : Below w.heap.size w w3 := by (repeat' (first | (with_reducible exact Below.refl _ _) | (with_reducible assumption) | (with_reducible refine Below.drew ?_) | (with_reducible refine below_drewN ?_ _) | ((with_reducible refine Below.alloc ?_ ?_ _); rotate_left; focus (go_size; done)) | ((with_reducible refine Below.setCell ?_ ?_ _); rotate_left; focus (go_size; done)) | ((with_reducible refine Below.trans ?_ (Below.mono (by with_reducible assumption) ?_)); rotate_left; focus (go_size; done))))
        have ms : w.heap.size + 6 ≤ w3.heap.size := by omega
        have cr0 := M5.out.cell 0 rfl
        have cr1 := M5.out.cell 1 rfl
        have fr0 := M5.out.frozen 0
        have fr1 := M5.out.frozen 1
        have cd0 := M1.out.cell 0 rfl
        have cd1 := M1.out.cell 1 rfl
        by_cases hge : D ≤ T'
        · have hcc : (0 : Int) ≤ cmpN T' D := by unfold cmpN; split; omega; split; omega; omega
          generalize cmpN T' D = cc at *
          have HTD : Far (D ≤ T) := Far.mk (by rw [ET'.out, Nat.mod_eq_of_lt HTS.out] at hge; exact hge)
          clear hge
          go_wp2_with fail
          refine (HL.out _).mono ?_
          rintro _ w2 ⟨rfl, hb2⟩
          have hb2s := hb2.size
          have n5 := M5.out.below hb2 (by omega)
          have n4 := M4.out.below hb2 (by omega)
          have n3 := M3.out.below hb2 (by omega)
          have n2 := M2.out.below hb2 (by omega)
          have n1 := M1.out.below hb2 (by omega)
          have n0 := M0.out.below hb2 (by omega)
          have N5 := Lib.hid n5
          have N4 := Lib.hid n4
          have N3 := Lib.hid n3
          have N2 := Lib.hid n2
          have N1 := Lib.hid n1
          have N0 := Lib.hid n0
          have nb : Below w.heap.size w w2 := by (repeat' (first | (with_reducible exact Below.refl _ _) | (with_reducible assumption) | (with_reducible refine Below.drew ?_) | (with_reducible refine below_drewN ?_ _) | ((with_reducible refine Below.alloc ?_ ?_ _); rotate_left; focus (go_size; done)) | ((with_reducible refine Below.setCell ?_ ?_ _); rotate_left; focus (go_size; done)) | ((with_reducible refine Below.trans ?_ (Below.mono (by with_reducible assumption) ?_)); rotate_left; focus (go_size; done))))
          have cr0 := n5.cell 0 rfl
          have cr1 := n5.cell 1 rfl
          have fr0 := n5.frozen 0
          have fr1 := n5.frozen 1
          have cd0 := n1.cell 0 rfl
          have cd1 := n1.cell 1 rfl
          have cq := n4.cell (j / 64) (lcells_at _ _ (by omega))
          have fq := n4.frozen (j / 64)
          have hq4 : j / 64 < 4 := by omega
          clear n5 n4 n3 n2 n1 n0
          go_wp2_with fail
          go_region
          go_wp2_with fail
          go_roundg j
          case measure => omega
          case rel =>
            obtain ⟨q1, q2⟩ := dv_yes H0.out ER.out EB.out ET.out hb2' HTD.out
            have n0 := N0.out
            have n1 := N1.out
            have n2 := N2.out
            have n3 := N3.out
            refine ⟨by omega, rfl, ?_, ?_, by (repeat (first | (with_reducible assumption) | ((with_reducible refine Bk.new_ ?_); (first | rfl | (simp only [World.size_alloc, World.size_setCell, World.size_drew, World.heap_drewN]; done))) | (with_reducible refine Bk.alloc ?_ _) | (with_reducible refine Bk.drew ?_) | (with_reducible refine Bk.drewN ?_ _) | ((with_reducible refine Bk.far ?_ ?_ _); rotate_left; focus (simp only []; omega)) | ((with_reducible refine Bk.below ?_ (by with_reducible assumption) ?_); rotate_left; focus (go_size; done)))), by (repeat (first | (with_reducible assumption) | ((with_reducible refine Bk.new_ ?_); (first | rfl | (simp only [World.size_alloc, World.size_setCell, World.size_drew, World.heap_drewN]; done))) | (with_reducible refine Bk.alloc ?_ _) | (with_reducible refine Bk.drew ?_) | (with_reducible refine Bk.drewN ?_ _) | ((with_reducible refine Bk.far ?_ ?_ _); rotate_left; focus (simp only []; omega)) | ((with_reducible refine Bk.below ?_ (by with_reducible assumption) ?_); rotate_left; focus (go_size; done)))), by (repeat (first | (with_reducible assumption) | ((with_reducible refine Bk.new_ ?_); (first | rfl | (simp only [World.size_alloc, World.size_setCell, World.size_drew, World.heap_drewN]; done))) | (with_reducible refine Bk.alloc ?_ _) | (with_reducible refine Bk.drew ?_) | (with_reducible refine Bk.drewN ?_ _) | ((with_reducible refine Bk.far ?_ ?_ _); rotate_left; focus (simp only []; omega)) | ((with_reducible refine Bk.below ?_ (by with_reducible assumption) ?_); rotate_left; focus (go_size; done)))), by (repeat (first | (with_reducible assumption) | ((with_reducible refine Bk.new_ ?_); (first | rfl | (simp only [World.size_alloc, World.size_setCell, World.size_drew, World.heap_drewN]; done))) | (with_reducible refine Bk.alloc ?_ _) | (with_reducible refine Bk.drew ?_) | (with_reducible refine Bk.drewN ?_ _) | ((with_reducible refine Bk.far ?_ ?_ _); rotate_left; focus (simp only []; omega)) | ((with_reducible refine Bk.below ?_ (by with_reducible assumption) ?_); rotate_left; focus (go_size; done)))), by go_size, by (repeat' (first | (with_reducible exact Below.refl _ _) | (with_reducible assumption) | (with_reducible refine Below.drew ?_) | (with_reducible refine below_drewN ?_ _) | ((with_reducible refine Below.alloc ?_ ?_ _); rotate_left; focus (go_size; done)) | ((with_reducible refine Below.setCell ?_ ?_ _); rotate_left; focus (go_size; done)) | ((with_reducible refine Below.trans ?_ (Below.mono (by with_reducible assumption) ?_)); rotate_left; focus (go_size; done))))⟩
            · rw [q1, ← dv_cells _ _ hj (dv_q256 HN.out D j)]
              exact (((N4.out.far (by simp only []; omega) _).far (by simp only []; omega) _).set_ _ _).drew
            · have e : lessW T' D = T - D := dv_less HD.out ET'.out ERD.out ET.out hb2' HTD.out
              rw [q2, ← e]
              exact (((N5.out.set_ 0 _).set_ 1 _).far (by simp only []; omega) _).drew
        · have hcc : ¬ (0 : Int) ≤ cmpN T' D := by unfold cmpN; split; omega; split; omega; omega
          generalize cmpN T' D = cc at *
          have HTD : Far (T < D) := Far.mk (by rw [ET'.out, Nat.mod_eq_of_lt HTS.out] at hge; omega)
          clear hge
          go_wp2_with fail
          go_roundg j
          case measure => omega
          case rel =>
            obtain ⟨q1, q2⟩ := dv_no H0.out ER.out EB.out ET.out HTD.out
            have m0 := M0.out
            have m1 := M1.out
            have m2 := M2.out
            have m3 := M3.out
            refine ⟨by omega, rfl, ?_, ?_, m0, m1, m2, m3, ms, mb⟩
            · rw [q1, ← dv_zero]; exact M4.out
            · have e : T' = T := by rw [ET'.out, Nat.mod_eq_of_lt HTS.out]
              rw [q2, ← e, ← EY1.out, ← EY0.out]; exact M5.out
end Go.Proofs.Ytnjiibeomailhaa
