/- The program: the sum of two numbers of four words. -/
import Derived.Test.YthkgjodidkpaeaaFw
import Derived.Test.YthkgjodidkpaeaaWa
import Derived.Test.YthkgjodidkpaeaaNw
set_option linter.unusedSimpArgs false
set_option linter.unusedVariables false
namespace Go.Proofs.Ythkgjodidkpaeaa
open Go.RowKit

set_option maxHeartbeats 4000000 in
theorem plus4_any (n m : Nat) (hs : n + m < 2 ^ 256) (w : World) : Calls Try.prog 52 #[.agg #[.int .u64 (wd n 0), .int .u64 (wd n 1), .int .u64 (wd n 2), .int .u64 (wd n 3)], .agg #[.int .u64 (wd m 0), .int .u64 (wd m 1), .int .u64 (wd m 2), .int .u64 (wd m 3)]] w fun e w' => e = .returned (.agg #[.int .u64 (wd (n + m) 0), .int .u64 (wd (n + m) 1), .int .u64 (wd (n + m) 2), .int .u64 (wd (n + m) 3)]) ∧ Below w.heap.size w w' := by
  have hn : n < 2 ^ 256 := by omega
  have HN := Far.mk hn
  have HS := Far.mk hs
  obtain ⟨z, hz⟩ : ∃ z, z = n + m := ⟨_, rfl⟩
  rw [← hz]
  have HZ := Lib.hid hz
  clear hn hs hz
  go_enter Try.func52, Try.ntmps52
  go_wp2_with fail
  go_loopg [5, 7] 4 (fun k c i wr => ∃ (t : Nat) (cc : Int) (V : Nat), k + t = 4 ∧ i = .int .i64 t ∧ c = .int .u64 cc ∧ 0 ≤ cc ∧ cc ≤ 1 ∧ Far (V < 2 ^ 256) ∧ Far ((V : Int) + cc * ((2 ^ (64 * t) : Nat) : Int) = n + ((m % 2 ^ (64 * t) : Nat) : Int)) ∧
    Bk wr w.heap.size 45 (lcells V) ∧ Bk wr (w.heap.size + 1) 45 (lcells m) ∧ Bk wr (w.heap.size + 1 + 1) 45 [.int .u64 0, .int .u64 0, .int .u64 0, .int .u64 0] ∧ Below w.heap.size w wr)
  case atStart =>
    refine ⟨0, 0, n, rfl, rfl, rfl, by decide, by decide, HN, Far.mk ?_, by rw [lcells_eq]; (repeat (first | (with_reducible assumption) | ((with_reducible refine Bk.new_ ?_); (first | rfl | (simp only [World.size_alloc, World.size_setCell, World.size_drew, World.heap_drewN]; done))) | (with_reducible refine Bk.alloc ?_ _) | (with_reducible refine Bk.drew ?_) | (with_reducible refine Bk.drewN ?_ _) | ((with_reducible refine Bk.far ?_ ?_ _); rotate_left; focus (simp only []; omega)) | ((with_reducible refine Bk.below ?_ (by with_reducible assumption) ?_); rotate_left; focus (go_size; done)))), by rw [lcells_eq]; (repeat (first | (with_reducible assumption) | ((with_reducible refine Bk.new_ ?_); (first | rfl | (simp only [World.size_alloc, World.size_setCell, World.size_drew, World.heap_drewN]; done))) | (with_reducible refine Bk.alloc ?_ _) | (with_reducible refine Bk.drew ?_) | (with_reducible refine Bk.drewN ?_ _) | ((with_reducible refine Bk.far ?_ ?_ _); rotate_left; focus (simp only []; omega)) | ((with_reducible refine Bk.below ?_ (by with_reducible assumption) ?_); rotate_left; focus (go_size; done)))), by (repeat (first | (with_reducible assumption) | ((with_reducible refine Bk.new_ ?_); (first | rfl | (simp only [World.size_alloc, World.size_setCell, World.size_drew, World.heap_drewN]; done))) | (with_reducible refine Bk.alloc ?_ _) | (with_reducible refine Bk.drew ?_) | (with_reducible refine Bk.drewN ?_ _) | ((with_reducible refine Bk.far ?_ ?_ _); rotate_left; focus (simp only []; omega)) | ((with_reducible refine Bk.below ?_ (by with_reducible assumption) ?_); rotate_left; focus (go_size; done)))), by (repeat' (first | (with_reducible exact Below.refl _ _) | (with_reducible assumption) | (with_reducible refine Below.drew ?_) | (with_reducible refine below_drewN ?_ _) | ((with_reducible refine Below.alloc ?_ ?_ _); rotate_left; focus (go_size; done)) | ((with_reducible refine Below.setCell ?_ ?_ _); rotate_left; focus (go_size; done)) | ((with_reducible refine Below.trans ?_ (Below.mono (by with_reducible assumption) ?_)); rotate_left; focus (go_size; done))))⟩
    rw [Nat.mul_zero, Nat.pow_zero, Nat.mod_one]; simp
  case round =>
    obtain ⟨t, cc, V, hk, rfl, rfl, c0, c1, hV, hE, b0, b1, b2, hbel⟩ := hrel
    have HK := Lib.hid hk
    have HB0 := Lib.hid b0
    have HB1 := Lib.hid b1
    have HB2 := Lib.hid b2
    have t4 : t ≤ 4 := by omega
    have l2 := b2.lt
    clear hk b0 b1 b2
    by_cases hlt : t < 4
    · have t0 : (0 : Int) ≤ (t : Int) := by omega
      have t3 : (t : Int) < 4 := by omega
      have d0 : wr.cell? ⟨w.heap.size, t, none⟩ = some (.int .u64 (wd V t)) := HB0.out.cell t (lcells_at V t hlt)
      have d1 : wr.cell? ⟨w.heap.size + 1, t, none⟩ = some (.int .u64 (wd m t)) := HB1.out.cell t (lcells_at m t hlt)
      have f0 := HB0.out.frozen t
      obtain ⟨s, k, f, hC⟩ := add64_ex (wd V t) (wd m t) cc (wd_nn V t) (wd_lt V t) (wd_nn m t) (wd_lt m t) c0 c1
      unfold Carry at hC
      obtain ⟨i3, s0, s1, k0, k1⟩ := hC
      obtain ⟨V', v1, v2, v3, v4, v5⟩ := lcells_set V t hlt hV.out s s0 s1
      have HNEW := Far.mk (plus_word hE.out rfl rfl v2 i3)
      have HV' := Far.mk v1
      have HL := Lib.hid v3
      clear i3 v1 v2 v3 v4 v5 hE hV
      generalize wd V t = x at *
      generalize wd m t = y at *
      go_wp2_with fail
      go_region
      all_goals
        go_wp2_with fail
        go_roundg (gk - 1)
        case measure => have := HK.out; omega
        case rel =>
          have b0 := HB0.out
          have b1 := HB1.out
          have b2 := HB2.out
          refine ⟨t + 1, k, V', by have := HK.out; omega, by go_num, rfl, k0, k1, HV', HNEW, ?_, by (repeat (first | (with_reducible assumption) | ((with_reducible refine Bk.new_ ?_); (first | rfl | (simp only [World.size_alloc, World.size_setCell, World.size_drew, World.heap_drewN]; done))) | (with_reducible refine Bk.alloc ?_ _) | (with_reducible refine Bk.drew ?_) | (with_reducible refine Bk.drewN ?_ _) | ((with_reducible refine Bk.far ?_ ?_ _); rotate_left; focus (simp only []; omega)) | ((with_reducible refine Bk.below ?_ (by with_reducible assumption) ?_); rotate_left; focus (go_size; done)))), by (repeat (first | (with_reducible assumption) | ((with_reducible refine Bk.new_ ?_); (first | rfl | (simp only [World.size_alloc, World.size_setCell, World.size_drew, World.heap_drewN]; done))) | (with_reducible refine Bk.alloc ?_ _) | (with_reducible refine Bk.drew ?_) | (with_reducible refine Bk.drewN ?_ _) | ((with_reducible refine Bk.far ?_ ?_ _); rotate_left; focus (simp only []; omega)) | ((with_reducible refine Bk.below ?_ (by with_reducible assumption) ?_); rotate_left; focus (go_size; done)))), by (repeat' (first | (with_reducible exact Below.refl _ _) | (with_reducible assumption) | (with_reducible refine Below.drew ?_) | (with_reducible refine below_drewN ?_ _) | ((with_reducible refine Below.alloc ?_ ?_ _); rotate_left; focus (go_size; done)) | ((with_reducible refine Below.setCell ?_ ?_ _); rotate_left; focus (go_size; done)) | ((with_reducible refine Below.trans ?_ (Below.mono (by with_reducible assumption) ?_)); rotate_left; focus (go_size; done))))⟩
          rw [← HL.out]
          repeat (first | refine Bk.drew ?_ | refine Bk.drewN ?_ _)
          exact b0.set_ _ _
    · obtain rfl : t = 4 := by omega
      have e := plus_end hV.out HS.out c0 hE.out
      rw [← HZ.out] at e
      subst e
      have b0 := HB0.out
      have b2 := HB2.out
      rw [lcells_eq] at b0
      have d0 := b0.cell 0 rfl
      have d1 := b0.cell 1 rfl
      have d2 := b0.cell 2 rfl
      have d3 := b0.cell 3 rfl
      have e0 := b2.cell 0 rfl
      have e1 := b2.cell 1 rfl
      have e2 := b2.cell 2 rfl
      have e3 := b2.cell 3 rfl
      have g0 := b2.frozen 0
      have g1 := b2.frozen 1
      have g2 := b2.frozen 2
      have g3 := b2.frozen 3
      clear b0 b2 hE hV HS
      go_wp2_with fail
      refine bodyPost_ret (by simp [results, Try.results52, go_sem, *]; try rfl) rfl ?_
      exact ⟨rfl, by (repeat' (first | (with_reducible exact Below.refl _ _) | (with_reducible assumption) | (with_reducible refine Below.drew ?_) | (with_reducible refine below_drewN ?_ _) | ((with_reducible refine Below.alloc ?_ ?_ _); rotate_left; focus (go_size; done)) | ((with_reducible refine Below.setCell ?_ ?_ _); rotate_left; focus (go_size; done)) | ((with_reducible refine Below.trans ?_ (Below.mono (by with_reducible assumption) ?_)); rotate_left; focus (go_size; done))))⟩
end Go.Proofs.Ythkgjodidkpaeaa
