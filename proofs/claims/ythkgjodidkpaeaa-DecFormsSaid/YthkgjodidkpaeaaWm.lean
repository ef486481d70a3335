/- The product of two numbers of two words. -/
import Derived.Test.YthkgjodidkpaeaaWc
import Derived.Test.YthkgjodidkpaeaaLc
set_option linter.unusedSimpArgs false
set_option linter.unusedVariables false
namespace Go.Proofs.Ythkgjodidkpaeaa
open Go.RowKit

/-- one step of the product: a product of words, a word that is there, a carry -/
theorem mul_step (x y o c : Int) (hx0 : 0 ≤ x) (hx : x < 18446744073709551616) (hy0 : 0 ≤ y) (hy : y < 18446744073709551616) (ho0 : 0 ≤ o) (ho : o < 18446744073709551616) (hc0 : 0 ≤ c) (hc : c < 18446744073709551616) :
    ∃ h l s k t j : Int, Hid (∀ w : World, Calls Try.prog 96 #[.int .u64 x, .int .u64 y] w fun e w' => e = .returned (.tuple #[.int .u64 h, .int .u64 l]) ∧ ∃ nn, w' = w.drewN nn) ∧
      (∀ W : World, (callFunc 86 #[.int .u64 l, .int .u64 o, .int .u64 0]).run Try.prog W = .ok (.value (.tuple #[.int .u64 s, .int .u64 k])) W) ∧
      (∀ W : World, (callFunc 86 #[.int .u64 s, .int .u64 c, .int .u64 0]).run Try.prog W = .ok (.value (.tuple #[.int .u64 t, .int .u64 j])) W) ∧
      Hid (t + 18446744073709551616 * (h + k + j) = x * y + o + c) ∧ 0 ≤ h ∧ h + k < 18446744073709551616 ∧ 0 ≤ k ∧ 0 ≤ j ∧ 0 ≤ t ∧ t < 18446744073709551616 ∧ h + k + j < 18446744073709551616 := by
  obtain ⟨h, l, f, H⟩ := mul64_ex x y hx0 hx hy0 hy
  unfold Two at H
  obtain ⟨s, k, g, K⟩ := add64_ex l o 0 (by omega) (by omega) ho0 ho (by decide) (by decide)
  unfold Carry at K
  obtain ⟨t, j, e, J⟩ := add64_ex s c 0 (by omega) (by omega) hc0 hc (by decide) (by decide)
  unfold Carry at J
  have hm : x * y ≤ 18446744073709551615 * 18446744073709551615 := Int.mul_le_mul (by omega) (by omega) hy0 (by decide)
  have hn : 0 ≤ x * y := Int.mul_nonneg hx0 hy0
  generalize x * y = p at *
  exact ⟨h, l, s, k, t, j, f, g, e, by show t + 18446744073709551616 * (h + k + j) = p + o + c; omega, by omega, by omega, by omega, by omega, by omega, by omega, by omega⟩

theorem two_at (n t : Nat) (h : t < 2) : [Value.int .u64 (wd n 0), .int .u64 (wd n 1)][t]? = some (.int .u64 (wd n t)) := by
  have hc : t = 0 ∨ t = 1 := by omega
  rcases hc with rfl | rfl <;> rfl
theorem mul_low {n m t : Nat} (hm : m < 2 ^ 128) : n % 2 ^ (64 * t) * m < 2 ^ (64 * (t + 2)) := by
  rw [show 64 * (t + 2) = 64 * t + 128 by omega, Nat.pow_add]
  have h1 : n % 2 ^ (64 * t) < 2 ^ (64 * t) := Nat.mod_lt _ (Nat.two_pow_pos _)
  exact Nat.mul_lt_mul'' h1 hm
theorem mul_inv {V V' O t s : Nat} {cc X Y Z h k1 k3 s3 M M' : Int}
    (i1 : (V : Int) + cc * ((2 ^ (64 * (t + s)) : Nat) : Int) = O + X * M * ((2 ^ (64 * t) : Nat) : Int))
    (i2 : (V' : Int) = V + (s3 - Z) * ((2 ^ (64 * (t + s)) : Nat) : Int))
    (i3 : s3 + 18446744073709551616 * (h + k1 + k3) = X * Y + Z + cc)
    (i4 : M' = M + Y * ((2 ^ (64 * s) : Nat) : Int)) :
    (V' : Int) + (h + k1 + k3) * ((2 ^ (64 * (t + (s + 1))) : Nat) : Int) = O + X * M' * ((2 ^ (64 * t) : Nat) : Int) := by
  have e1 : ((2 ^ (64 * (t + (s + 1))) : Nat) : Int) = ((2 ^ (64 * (t + s)) : Nat) : Int) * 18446744073709551616 := by
    rw [show 64 * (t + (s + 1)) = 64 * (t + s) + 64 by omega, Nat.pow_add, Int.natCast_mul]; rfl
  have e2 : ((2 ^ (64 * (t + s)) : Nat) : Int) = ((2 ^ (64 * t) : Nat) : Int) * ((2 ^ (64 * s) : Nat) : Int) := by
    rw [show 64 * (t + s) = 64 * t + 64 * s by omega, Nat.pow_add, Int.natCast_mul]
  rw [e1, i2, i4]
  rw [e2] at i1 ⊢
  generalize ((2 ^ (64 * t) : Nat) : Int) = P at *
  generalize ((2 ^ (64 * s) : Nat) : Int) = Q at *
  grind
theorem mul_end {n m t V V' O : Nat} {cc : Int} (hm : m < 2 ^ 128) (eO : O = n % 2 ^ (64 * t) * m)
    (i1 : (V : Int) + cc * ((2 ^ (64 * (t + 2)) : Nat) : Int) = O + wd n t * ((m % 2 ^ (64 * 2) : Nat) : Int) * ((2 ^ (64 * t) : Nat) : Int))
    (i2 : (V' : Int) = V + (cc - wd V (t + 2)) * ((2 ^ (64 * (t + 2)) : Nat) : Int)) (i3 : wd V (t + 2) = 0) : n % 2 ^ (64 * (t + 1)) * m = V' := by
  rw [i3, Int.sub_zero, i1, Nat.mod_eq_of_lt hm, eO] at i2
  have e := wd_mod_succ n t
  have : ((n % 2 ^ (64 * (t + 1)) * m : Nat) : Int) = (V' : Int) := by
    rw [i2, Int.natCast_mul, e, Int.natCast_mul]
    generalize ((2 ^ (64 * t) : Nat) : Int) = P
    generalize ((n % 2 ^ (64 * t) : Nat) : Int) = Q
    grind
  exact_mod_cast this
set_option maxHeartbeats 4000000 in
theorem mul_any (n m : Nat) (hn : n < 2 ^ 128) (hm : m < 2 ^ 128) (w : World) : Calls Try.prog 77 #[.agg #[.int .u64 (wd n 1), .int .u64 (wd n 0)], .agg #[.int .u64 (wd m 1), .int .u64 (wd m 0)]] w fun e w' => e = .returned (.agg #[.int .u64 (wd (n * m) 0), .int .u64 (wd (n * m) 1), .int .u64 (wd (n * m) 2), .int .u64 (wd (n * m) 3)]) ∧ Below w.heap.size w w' := by
  have HN := Far.mk hn
  have HM := Far.mk hm
  have a0 := wd_nn n 0
  have a1 := wd_lt n 0
  have b0 := wd_nn n 1
  have b1 := wd_lt n 1
  have c0 := wd_nn m 0
  have c1 := wd_lt m 0
  have d0 := wd_nn m 1
  have d1 := wd_lt m 1
  clear hn hm
  go_enter Try.func77, Try.ntmps77
  go_wp2_with fail
  go_region_held3 (fun w' => w'.cell? ⟨w.heap.size, 0, none⟩ = some (.int .u64 (wd n 1)) ∧ w'.cell? ⟨w.heap.size, 1, none⟩ = some (.int .u64 (wd n 0)) ∧ w'.cell? ⟨w.heap.size + 1, 0, none⟩ = some (.int .u64 (wd m 1)) ∧ w'.cell? ⟨w.heap.size + 1, 1, none⟩ = some (.int .u64 (wd m 0))) (first | (go_keep; done) | (simp [go_sem]; done) | ((try dsimp only); (repeat' apply And.intro) <;> (first | (with_reducible assumption) | ((rw [World.cell?_alloc_lt _ _ _ (by show _ < _; omega)]); go_split_ands; (first | with_reducible assumption | (refine (World.cell?_alloc_lt _ _ _ (by show _ < _; omega)).symm.trans ?_; with_reducible assumption))) | ((rw [World.cell?_setCell_other _ _ _ _ (by intro e; injection e; omega)]); with_reducible assumption) | (go_keep; done) | (simp [go_sem]; done) | (simp (disch := go_size) [*, World.cell?_alloc_some, World.cell?_setCell_far]; done)))) (fail)
  · go_wp2_with fail
    clear a0 a1 b0 b1 c0 c1 d0 d1
    go_loopg [24] 2 (fun k i wr => ∃ t : Nat, k + t = 2 ∧ i = .int .i64 t ∧ Bk wr (w.heap.size + 1 + 1 + 1) 45 (lcells (n % 2 ^ (64 * t) * m)) ∧ Bk wr (w.heap.size + 1 + 1 + 1 + 1) 96 [.int .u64 (wd n 0), .int .u64 (wd n 1)] ∧ Bk wr (w.heap.size + 1 + 1 + 1 + 1 + 1) 96 [.int .u64 (wd m 0), .int .u64 (wd m 1)] ∧
      Bk wr (w.heap.size + 1 + 1) 45 [.int .u64 0, .int .u64 0, .int .u64 0, .int .u64 0] ∧ w.heap.size + 6 ≤ wr.heap.size ∧ Below w.heap.size w wr)
    case atStart =>
      refine ⟨0, rfl, rfl, ?_, by (repeat (first | (with_reducible assumption) | ((with_reducible refine Bk.new_ ?_); (first | rfl | (simp only [World.size_alloc, World.size_setCell, World.size_drew, World.heap_drewN]; done))) | (with_reducible refine Bk.alloc ?_ _) | (with_reducible refine Bk.drew ?_) | (with_reducible refine Bk.drewN ?_ _) | ((with_reducible refine Bk.far ?_ ?_ _); rotate_left; focus (simp only []; omega)) | ((with_reducible refine Bk.below ?_ (by with_reducible assumption) ?_); rotate_left; focus (go_size; done)))), by (repeat (first | (with_reducible assumption) | ((with_reducible refine Bk.new_ ?_); (first | rfl | (simp only [World.size_alloc, World.size_setCell, World.size_drew, World.heap_drewN]; done))) | (with_reducible refine Bk.alloc ?_ _) | (with_reducible refine Bk.drew ?_) | (with_reducible refine Bk.drewN ?_ _) | ((with_reducible refine Bk.far ?_ ?_ _); rotate_left; focus (simp only []; omega)) | ((with_reducible refine Bk.below ?_ (by with_reducible assumption) ?_); rotate_left; focus (go_size; done)))), by (repeat (first | (with_reducible assumption) | ((with_reducible refine Bk.new_ ?_); (first | rfl | (simp only [World.size_alloc, World.size_setCell, World.size_drew, World.heap_drewN]; done))) | (with_reducible refine Bk.alloc ?_ _) | (with_reducible refine Bk.drew ?_) | (with_reducible refine Bk.drewN ?_ _) | ((with_reducible refine Bk.far ?_ ?_ _); rotate_left; focus (simp only []; omega)) | ((with_reducible refine Bk.below ?_ (by with_reducible assumption) ?_); rotate_left; focus (go_size; done)))), by go_size, by (repeat' (first | (with_reducible exact Below.refl _ _) | (with_reducible assumption) | (with_reducible refine Below.drew ?_) | (with_reducible refine below_drewN ?_ _) | ((with_reducible refine Below.alloc ?_ ?_ _); rotate_left; focus (go_size; done)) | ((with_reducible refine Below.setCell ?_ ?_ _); rotate_left; focus (go_size; done)) | ((with_reducible refine Below.trans ?_ (Below.mono (by with_reducible assumption) ?_)); rotate_left; focus (go_size; done))))⟩
      rw [Nat.mul_zero, Nat.pow_zero, Nat.mod_one, Nat.zero_mul]
      show Bk _ _ _ [.int .u64 0, .int .u64 0, .int .u64 0, .int .u64 0]
      (repeat (first | (with_reducible assumption) | ((with_reducible refine Bk.new_ ?_); (first | rfl | (simp only [World.size_alloc, World.size_setCell, World.size_drew, World.heap_drewN]; done))) | (with_reducible refine Bk.alloc ?_ _) | (with_reducible refine Bk.drew ?_) | (with_reducible refine Bk.drewN ?_ _) | ((with_reducible refine Bk.far ?_ ?_ _); rotate_left; focus (simp only []; omega)) | ((with_reducible refine Bk.below ?_ (by with_reducible assumption) ?_); rotate_left; focus (go_size; done))))
    case round =>
      obtain ⟨t, hk, rfl, bo, bx, by_, b4, hsz, hbel⟩ := hrel
      have HK := Lib.hid hk
      have BO := Lib.hid bo
      have BX := Lib.hid bx
      have BY := Lib.hid by_
      have B4 := Lib.hid b4
      have t2 : t ≤ 2 := by omega
      clear hk bo bx by_ b4
      (try have : w.heap.size < wr.heap.size := by omega); (try have : w.heap.size + 1 < wr.heap.size := by omega); (try have : w.heap.size + 1 + 1 < wr.heap.size := by omega); (try have : w.heap.size + 1 + 1 + 1 < wr.heap.size := by omega)
      by_cases hlt : t < 2
      · go_wp2_with fail
        obtain ⟨wo, hwo⟩ : ∃ wo : World, wo = wr := ⟨_, rfl⟩
        clear hwo
        obtain ⟨go, hgo⟩ : ∃ go : Nat, go = gk := ⟨_, rfl⟩
        rw [← hgo] at HK
        have HGO := Lib.hid hgo
        clear hgo
        have hO : n % 2 ^ (64 * t) * m < 2 ^ (64 * (t + 2)) := mul_low HM.out
        have hO2 : n % 2 ^ (64 * t) * m < 2 ^ 256 := Nat.lt_of_lt_of_le hO (Nat.pow_le_pow_right (by decide) (by omega))
        obtain ⟨O, eO⟩ : ∃ O, O = n % 2 ^ (64 * t) * m := ⟨_, rfl⟩
        rw [← eO] at hO hO2 BO
        have EO := Far.mk eO
        have H1 := Far.mk hO
        have H2 := Far.mk hO2
        clear eO hO hO2
        go_loopg [9, 27] 2 (fun k c j wr => ∃ (s : Nat) (cc : Int) (V : Nat), k + s = 2 ∧ j = .int .i64 s ∧ c = .int .u64 cc ∧ 0 ≤ cc ∧ cc < 18446744073709551616 ∧ V < 2 ^ 256 ∧
          (V : Int) + cc * ((2 ^ (64 * (t + s)) : Nat) : Int) = O + wd n t * ((m % 2 ^ (64 * s) : Nat) : Int) * ((2 ^ (64 * t) : Nat) : Int) ∧ (∀ j, t + 2 ≤ j → j < 4 → wd V j = 0) ∧
          Bk wr (w.heap.size + 1 + 1 + 1) 45 (lcells V) ∧ Bk wr (w.heap.size + 1 + 1 + 1 + 1) 96 [.int .u64 (wd n 0), .int .u64 (wd n 1)] ∧ Bk wr (w.heap.size + 1 + 1 + 1 + 1 + 1) 96 [.int .u64 (wd m 0), .int .u64 (wd m 1)] ∧
          Bk wr (w.heap.size + 1 + 1) 45 [.int .u64 0, .int .u64 0, .int .u64 0, .int .u64 0] ∧ w.heap.size + 6 ≤ wr.heap.size ∧ Below w.heap.size w wr)
        case atStart =>
          refine ⟨0, 0, O, rfl, rfl, rfl, by omega, by omega, H2.out, ?_, ?_, BO.out, BX.out, BY.out, B4.out, hsz, hbel⟩
          · rw [Nat.mul_zero, Nat.pow_zero, Nat.mod_one, Int.zero_mul, Int.natCast_zero, Int.mul_zero, Int.zero_mul]
          · intro j hj _
            exact wd_past H1.out hj
        case round =>
          obtain ⟨s, cc, V, hk, rfl, rfl, hc0, hc1, hV, heq, hz, bo, bx, by_, b4, hsz, hbel⟩ := hrel
          have HK2 := Lib.hid hk
          have HV := Far.mk hV
          have HE := Far.mk heq
          have HZ := Lib.hid hz
          have BO := Lib.hid bo
          have BX := Lib.hid bx
          have BY := Lib.hid by_
          have B4 := Lib.hid b4
          have s2 : s ≤ 2 := by omega
          clear hk hV heq hz bo bx by_ b4
          (try have : w.heap.size < wr.heap.size := by omega); (try have : w.heap.size + 1 < wr.heap.size := by omega); (try have : w.heap.size + 1 + 1 < wr.heap.size := by omega); (try have : w.heap.size + 1 + 1 + 1 < wr.heap.size := by omega)
          by_cases hls : s < 2
          · have cx : wr.cell? ⟨(w.heap.size + 1 + 1 + 1 + 1), t, none⟩ = some (.int .u64 (wd n t)) := BX.out.cell t (two_at n t hlt)
            have cy : wr.cell? ⟨(w.heap.size + 1 + 1 + 1 + 1 + 1), s, none⟩ = some (.int .u64 (wd m s)) := BY.out.cell s (two_at m s hls)
            have co : wr.cell? ⟨w.heap.size + 1 + 1 + 1, t + s, none⟩ = some (.int .u64 (wd V (t + s))) := BO.out.cell _ (lcells_at V _ (by omega))
            have fo := BO.out.frozen (t + s)
            obtain ⟨h, l, s1, k1, s3, k3, f, g, e, HS, p1, p2, p3, p4, p5, p6, p7⟩ := mul_step (wd n t) (wd m s) (wd V (t + s)) cc (wd_nn n t) (wd_lt n t) (wd_nn m s) (wd_lt m s) (wd_nn V _) (wd_lt V _) hc0 hc1
            obtain ⟨V', v1, v2, v3, v4, v5⟩ := lcells_set V (t + s) (by omega) HV.out s3 p5 p6
            have L1 := Far.mk v1
            have L2 := Far.mk v2
            have L3 := Lib.hid v3
            have L4 := Lib.hid v4
            clear v1 v2 v3 v4 v5
            obtain ⟨X, hX⟩ : ∃ X, X = wd n t := ⟨_, rfl⟩
            obtain ⟨Y, hY⟩ : ∃ Y, Y = wd m s := ⟨_, rfl⟩
            obtain ⟨Z, hZ⟩ : ∃ Z, Z = wd V (t + s) := ⟨_, rfl⟩
            rw [← hX] at cx f HS HE
            rw [← hY] at cy f HS
            rw [← hZ] at co g HS L2
            have EX := Lib.hid hX
            have EY := Lib.hid hY
            clear hX hY hZ
            go_wp2_with fail
            go_quiet ((go_at_call 96; (first | exact Calls.quiet_of (f.out _) | exact quiet_add (f.out _))))
            go_wp2_with fail
            go_roundg (gk - 1)
            case measure => have := HK2.out; omega
            case rel =>
              have bx := BX.out
              have by_ := BY.out
              have b4 := B4.out
              refine ⟨s + 1, h + k1 + k3, V', by have := HK2.out; omega, by go_num, rfl, by omega, p7, L1.out, ?_, ?_, ?_, by (repeat (first | (with_reducible assumption) | ((with_reducible refine Bk.new_ ?_); (first | rfl | (simp only [World.size_alloc, World.size_setCell, World.size_drew, World.heap_drewN]; done))) | (with_reducible refine Bk.alloc ?_ _) | (with_reducible refine Bk.drew ?_) | (with_reducible refine Bk.drewN ?_ _) | ((with_reducible refine Bk.far ?_ ?_ _); rotate_left; focus (simp only []; omega)) | ((with_reducible refine Bk.below ?_ (by with_reducible assumption) ?_); rotate_left; focus (go_size; done)))), by (repeat (first | (with_reducible assumption) | ((with_reducible refine Bk.new_ ?_); (first | rfl | (simp only [World.size_alloc, World.size_setCell, World.size_drew, World.heap_drewN]; done))) | (with_reducible refine Bk.alloc ?_ _) | (with_reducible refine Bk.drew ?_) | (with_reducible refine Bk.drewN ?_ _) | ((with_reducible refine Bk.far ?_ ?_ _); rotate_left; focus (simp only []; omega)) | ((with_reducible refine Bk.below ?_ (by with_reducible assumption) ?_); rotate_left; focus (go_size; done)))), by (repeat (first | (with_reducible assumption) | ((with_reducible refine Bk.new_ ?_); (first | rfl | (simp only [World.size_alloc, World.size_setCell, World.size_drew, World.heap_drewN]; done))) | (with_reducible refine Bk.alloc ?_ _) | (with_reducible refine Bk.drew ?_) | (with_reducible refine Bk.drewN ?_ _) | ((with_reducible refine Bk.far ?_ ?_ _); rotate_left; focus (simp only []; omega)) | ((with_reducible refine Bk.below ?_ (by with_reducible assumption) ?_); rotate_left; focus (go_size; done)))), by go_size, by (repeat' (first | (with_reducible exact Below.refl _ _) | (with_reducible assumption) | (with_reducible refine Below.drew ?_) | (with_reducible refine below_drewN ?_ _) | ((with_reducible refine Below.alloc ?_ ?_ _); rotate_left; focus (go_size; done)) | ((with_reducible refine Below.setCell ?_ ?_ _); rotate_left; focus (go_size; done)) | ((with_reducible refine Below.trans ?_ (Below.mono (by with_reducible assumption) ?_)); rotate_left; focus (go_size; done))))⟩
              · have i1 := HE.out
                have i2 := L2.out
                have i3 := HS.out
                have i4 := wd_mod_succ m s
                rw [← EY.out] at i4
                rw [← EX.out]
                exact mul_inv i1 i2 i3 i4
              · intro j hj h4
                rw [L4.out j h4 (by omega)]
                exact HZ.out j hj h4
              · rw [← L3.out]
                exact (BO.out.drewN _).set_ _ _
          · obtain rfl : s = 2 := by omega
            have co : wr.cell? ⟨w.heap.size + 1 + 1 + 1, t + 2, none⟩ = some (.int .u64 (wd V (t + 2))) := BO.out.cell _ (lcells_at V _ (by omega))
            have fo := BO.out.frozen (t + 2)
            obtain ⟨V', v1, v2, v3, v4, v5⟩ := lcells_set V (t + 2) (by omega) HV.out cc hc0 hc1
            have L2 := Far.mk v2
            have L3 := Lib.hid v3
            clear v1 v2 v3 v4 v5
            go_wp2_with fail
            go_roundg (go - 1)
            case measure => have := HK.out; have := HGO.out; omega
            case rel =>
              have bx := BX.out
              have by_ := BY.out
              have b4 := B4.out
              refine ⟨t + 1, by have := HK.out; omega, by go_num, ?_, by (repeat (first | (with_reducible assumption) | ((with_reducible refine Bk.new_ ?_); (first | rfl | (simp only [World.size_alloc, World.size_setCell, World.size_drew, World.heap_drewN]; done))) | (with_reducible refine Bk.alloc ?_ _) | (with_reducible refine Bk.drew ?_) | (with_reducible refine Bk.drewN ?_ _) | ((with_reducible refine Bk.far ?_ ?_ _); rotate_left; focus (simp only []; omega)) | ((with_reducible refine Bk.below ?_ (by with_reducible assumption) ?_); rotate_left; focus (go_size; done)))), by (repeat (first | (with_reducible assumption) | ((with_reducible refine Bk.new_ ?_); (first | rfl | (simp only [World.size_alloc, World.size_setCell, World.size_drew, World.heap_drewN]; done))) | (with_reducible refine Bk.alloc ?_ _) | (with_reducible refine Bk.drew ?_) | (with_reducible refine Bk.drewN ?_ _) | ((with_reducible refine Bk.far ?_ ?_ _); rotate_left; focus (simp only []; omega)) | ((with_reducible refine Bk.below ?_ (by with_reducible assumption) ?_); rotate_left; focus (go_size; done)))), by (repeat (first | (with_reducible assumption) | ((with_reducible refine Bk.new_ ?_); (first | rfl | (simp only [World.size_alloc, World.size_setCell, World.size_drew, World.heap_drewN]; done))) | (with_reducible refine Bk.alloc ?_ _) | (with_reducible refine Bk.drew ?_) | (with_reducible refine Bk.drewN ?_ _) | ((with_reducible refine Bk.far ?_ ?_ _); rotate_left; focus (simp only []; omega)) | ((with_reducible refine Bk.below ?_ (by with_reducible assumption) ?_); rotate_left; focus (go_size; done)))), by go_size, by (repeat' (first | (with_reducible exact Below.refl _ _) | (with_reducible assumption) | (with_reducible refine Below.drew ?_) | (with_reducible refine below_drewN ?_ _) | ((with_reducible refine Below.alloc ?_ ?_ _); rotate_left; focus (go_size; done)) | ((with_reducible refine Below.setCell ?_ ?_ _); rotate_left; focus (go_size; done)) | ((with_reducible refine Below.trans ?_ (Below.mono (by with_reducible assumption) ?_)); rotate_left; focus (go_size; done))))⟩
              have i1 := HE.out
              have i2 := L2.out
              have i3 := HZ.out (t + 2) (Nat.le_refl _) (by omega)
              have e : n % 2 ^ (64 * (t + 1)) * m = V' := mul_end HM.out EO.out i1 i2 i3
              rw [e, ← L3.out]
              exact BO.out.set_ _ _
      · obtain rfl : t = 2 := by omega
        have e : n % 2 ^ (64 * 2) * m = n * m := by rw [Nat.mod_eq_of_lt HN.out]
        rw [e] at BO
        obtain ⟨z, hz⟩ : ∃ z, z = n * m := ⟨_, rfl⟩
        rw [← hz] at BO
        have EZ := Lib.hid hz
        clear hz
        have bo := BO.out
        rw [lcells_eq] at bo
        have c0 := bo.cell 0 rfl
        have c1 := bo.cell 1 rfl
        have c2 := bo.cell 2 rfl
        have c3 := bo.cell 3 rfl
        have d0 := B4.out.cell 0 rfl
        have d1 := B4.out.cell 1 rfl
        have d2 := B4.out.cell 2 rfl
        have d3 := B4.out.cell 3 rfl
        have f0 := B4.out.frozen 0
        have f1 := B4.out.frozen 1
        have f2 := B4.out.frozen 2
        have f3 := B4.out.frozen 3
        clear bo e
        go_wp2_with fail
        refine bodyPost_ret (by simp [results, Try.results77, go_sem, *]; try rfl) rfl ?_
        exact ⟨by rw [EZ.out], by (repeat' (first | (with_reducible exact Below.refl _ _) | (with_reducible assumption) | (with_reducible refine Below.drew ?_) | (with_reducible refine below_drewN ?_ _) | ((with_reducible refine Below.alloc ?_ ?_ _); rotate_left; focus (go_size; done)) | ((with_reducible refine Below.setCell ?_ ?_ _); rotate_left; focus (go_size; done)) | ((with_reducible refine Below.trans ?_ (Below.mono (by with_reducible assumption) ?_)); rotate_left; focus (go_size; done))))⟩
  · go_wp2_with fail
    clear a0 a1 b0 b1 c0 c1 d0 d1
    go_loopg [24] 2 (fun k i wr => ∃ t : Nat, k + t = 2 ∧ i = .int .i64 t ∧ Bk wr (w.heap.size + 1 + 1 + 1) 45 (lcells (n % 2 ^ (64 * t) * m)) ∧ Bk wr (w.heap.size + 1 + 1 + 1 + 1 + 1) 96 [.int .u64 (wd n 0), .int .u64 (wd n 1)] ∧ Bk wr (w.heap.size + 1 + 1 + 1 + 1) 96 [.int .u64 (wd m 0), .int .u64 (wd m 1)] ∧
      Bk wr (w.heap.size + 1 + 1) 45 [.int .u64 0, .int .u64 0, .int .u64 0, .int .u64 0] ∧ w.heap.size + 6 ≤ wr.heap.size ∧ Below w.heap.size w wr)
    case atStart =>
      refine ⟨0, rfl, rfl, ?_, by (repeat (first | (with_reducible assumption) | ((with_reducible refine Bk.new_ ?_); (first | rfl | (simp only [World.size_alloc, World.size_setCell, World.size_drew, World.heap_drewN]; done))) | (with_reducible refine Bk.alloc ?_ _) | (with_reducible refine Bk.drew ?_) | (with_reducible refine Bk.drewN ?_ _) | ((with_reducible refine Bk.far ?_ ?_ _); rotate_left; focus (simp only []; omega)) | ((with_reducible refine Bk.below ?_ (by with_reducible assumption) ?_); rotate_left; focus (go_size; done)))), by (repeat (first | (with_reducible assumption) | ((with_reducible refine Bk.new_ ?_); (first | rfl | (simp only [World.size_alloc, World.size_setCell, World.size_drew, World.heap_drewN]; done))) | (with_reducible refine Bk.alloc ?_ _) | (with_reducible refine Bk.drew ?_) | (with_reducible refine Bk.drewN ?_ _) | ((with_reducible refine Bk.far ?_ ?_ _); rotate_left; focus (simp only []; omega)) | ((with_reducible refine Bk.below ?_ (by with_reducible assumption) ?_); rotate_left; focus (go_size; done)))), by (repeat (first | (with_reducible assumption) | ((with_reducible refine Bk.new_ ?_); (first | rfl | (simp only [World.size_alloc, World.size_setCell, World.size_drew, World.heap_drewN]; done))) | (with_reducible refine Bk.alloc ?_ _) | (with_reducible refine Bk.drew ?_) | (with_reducible refine Bk.drewN ?_ _) | ((with_reducible refine Bk.far ?_ ?_ _); rotate_left; focus (simp only []; omega)) | ((with_reducible refine Bk.below ?_ (by with_reducible assumption) ?_); rotate_left; focus (go_size; done)))), by go_size, by (repeat' (first | (with_reducible exact Below.refl _ _) | (with_reducible assumption) | (with_reducible refine Below.drew ?_) | (with_reducible refine below_drewN ?_ _) | ((with_reducible refine Below.alloc ?_ ?_ _); rotate_left; focus (go_size; done)) | ((with_reducible refine Below.setCell ?_ ?_ _); rotate_left; focus (go_size; done)) | ((with_reducible refine Below.trans ?_ (Below.mono (by with_reducible assumption) ?_)); rotate_left; focus (go_size; done))))⟩
      rw [Nat.mul_zero, Nat.pow_zero, Nat.mod_one, Nat.zero_mul]
      show Bk _ _ _ [.int .u64 0, .int .u64 0, .int .u64 0, .int .u64 0]
      (repeat (first | (with_reducible assumption) | ((with_reducible refine Bk.new_ ?_); (first | rfl | (simp only [World.size_alloc, World.size_setCell, World.size_drew, World.heap_drewN]; done))) | (with_reducible refine Bk.alloc ?_ _) | (with_reducible refine Bk.drew ?_) | (with_reducible refine Bk.drewN ?_ _) | ((with_reducible refine Bk.far ?_ ?_ _); rotate_left; focus (simp only []; omega)) | ((with_reducible refine Bk.below ?_ (by with_reducible assumption) ?_); rotate_left; focus (go_size; done))))
    case round =>
      obtain ⟨t, hk, rfl, bo, bx, by_, b4, hsz, hbel⟩ := hrel
      have HK := Lib.hid hk
      have BO := Lib.hid bo
      have BX := Lib.hid bx
      have BY := Lib.hid by_
      have B4 := Lib.hid b4
      have t2 : t ≤ 2 := by omega
      clear hk bo bx by_ b4
      (try have : w.heap.size < wr.heap.size := by omega); (try have : w.heap.size + 1 < wr.heap.size := by omega); (try have : w.heap.size + 1 + 1 < wr.heap.size := by omega); (try have : w.heap.size + 1 + 1 + 1 < wr.heap.size := by omega)
      by_cases hlt : t < 2
      · go_wp2_with fail
        obtain ⟨wo, hwo⟩ : ∃ wo : World, wo = wr := ⟨_, rfl⟩
        clear hwo
        obtain ⟨go, hgo⟩ : ∃ go : Nat, go = gk := ⟨_, rfl⟩
        rw [← hgo] at HK
        have HGO := Lib.hid hgo
        clear hgo
        have hO : n % 2 ^ (64 * t) * m < 2 ^ (64 * (t + 2)) := mul_low HM.out
        have hO2 : n % 2 ^ (64 * t) * m < 2 ^ 256 := Nat.lt_of_lt_of_le hO (Nat.pow_le_pow_right (by decide) (by omega))
        obtain ⟨O, eO⟩ : ∃ O, O = n % 2 ^ (64 * t) * m := ⟨_, rfl⟩
        rw [← eO] at hO hO2 BO
        have EO := Far.mk eO
        have H1 := Far.mk hO
        have H2 := Far.mk hO2
        clear eO hO hO2
        go_loopg [9, 27] 2 (fun k c j wr => ∃ (s : Nat) (cc : Int) (V : Nat), k + s = 2 ∧ j = .int .i64 s ∧ c = .int .u64 cc ∧ 0 ≤ cc ∧ cc < 18446744073709551616 ∧ V < 2 ^ 256 ∧
          (V : Int) + cc * ((2 ^ (64 * (t + s)) : Nat) : Int) = O + wd n t * ((m % 2 ^ (64 * s) : Nat) : Int) * ((2 ^ (64 * t) : Nat) : Int) ∧ (∀ j, t + 2 ≤ j → j < 4 → wd V j = 0) ∧
          Bk wr (w.heap.size + 1 + 1 + 1) 45 (lcells V) ∧ Bk wr (w.heap.size + 1 + 1 + 1 + 1 + 1) 96 [.int .u64 (wd n 0), .int .u64 (wd n 1)] ∧ Bk wr (w.heap.size + 1 + 1 + 1 + 1) 96 [.int .u64 (wd m 0), .int .u64 (wd m 1)] ∧
          Bk wr (w.heap.size + 1 + 1) 45 [.int .u64 0, .int .u64 0, .int .u64 0, .int .u64 0] ∧ w.heap.size + 6 ≤ wr.heap.size ∧ Below w.heap.size w wr)
        case atStart =>
          refine ⟨0, 0, O, rfl, rfl, rfl, by omega, by omega, H2.out, ?_, ?_, BO.out, BX.out, BY.out, B4.out, hsz, hbel⟩
          · rw [Nat.mul_zero, Nat.pow_zero, Nat.mod_one, Int.zero_mul, Int.natCast_zero, Int.mul_zero, Int.zero_mul]
          · intro j hj _
            exact wd_past H1.out hj
        case round =>
          obtain ⟨s, cc, V, hk, rfl, rfl, hc0, hc1, hV, heq, hz, bo, bx, by_, b4, hsz, hbel⟩ := hrel
          have HK2 := Lib.hid hk
          have HV := Far.mk hV
          have HE := Far.mk heq
          have HZ := Lib.hid hz
          have BO := Lib.hid bo
          have BX := Lib.hid bx
          have BY := Lib.hid by_
          have B4 := Lib.hid b4
          have s2 : s ≤ 2 := by omega
          clear hk hV heq hz bo bx by_ b4
          (try have : w.heap.size < wr.heap.size := by omega); (try have : w.heap.size + 1 < wr.heap.size := by omega); (try have : w.heap.size + 1 + 1 < wr.heap.size := by omega); (try have : w.heap.size + 1 + 1 + 1 < wr.heap.size := by omega)
          by_cases hls : s < 2
          · have cx : wr.cell? ⟨(w.heap.size + 1 + 1 + 1 + 1 + 1), t, none⟩ = some (.int .u64 (wd n t)) := BX.out.cell t (two_at n t hlt)
            have cy : wr.cell? ⟨(w.heap.size + 1 + 1 + 1 + 1), s, none⟩ = some (.int .u64 (wd m s)) := BY.out.cell s (two_at m s hls)
            have co : wr.cell? ⟨w.heap.size + 1 + 1 + 1, t + s, none⟩ = some (.int .u64 (wd V (t + s))) := BO.out.cell _ (lcells_at V _ (by omega))
            have fo := BO.out.frozen (t + s)
            obtain ⟨h, l, s1, k1, s3, k3, f, g, e, HS, p1, p2, p3, p4, p5, p6, p7⟩ := mul_step (wd n t) (wd m s) (wd V (t + s)) cc (wd_nn n t) (wd_lt n t) (wd_nn m s) (wd_lt m s) (wd_nn V _) (wd_lt V _) hc0 hc1
            obtain ⟨V', v1, v2, v3, v4, v5⟩ := lcells_set V (t + s) (by omega) HV.out s3 p5 p6
            have L1 := Far.mk v1
            have L2 := Far.mk v2
            have L3 := Lib.hid v3
            have L4 := Lib.hid v4
            clear v1 v2 v3 v4 v5
            obtain ⟨X, hX⟩ : ∃ X, X = wd n t := ⟨_, rfl⟩
            obtain ⟨Y, hY⟩ : ∃ Y, Y = wd m s := ⟨_, rfl⟩
            obtain ⟨Z, hZ⟩ : ∃ Z, Z = wd V (t + s) := ⟨_, rfl⟩
            rw [← hX] at cx f HS HE
            rw [← hY] at cy f HS
            rw [← hZ] at co g HS L2
            have EX := Lib.hid hX
            have EY := Lib.hid hY
            clear hX hY hZ
            go_wp2_with fail
            go_quiet ((go_at_call 96; (first | exact Calls.quiet_of (f.out _) | exact quiet_add (f.out _))))
            go_wp2_with fail
            go_roundg (gk - 1)
            case measure => have := HK2.out; omega
            case rel =>
              have bx := BX.out
              have by_ := BY.out
              have b4 := B4.out
              refine ⟨s + 1, h + k1 + k3, V', by have := HK2.out; omega, by go_num, rfl, by omega, p7, L1.out, ?_, ?_, ?_, by (repeat (first | (with_reducible assumption) | ((with_reducible refine Bk.new_ ?_); (first | rfl | (simp only [World.size_alloc, World.size_setCell, World.size_drew, World.heap_drewN]; done))) | (with_reducible refine Bk.alloc ?_ _) | (with_reducible refine Bk.drew ?_) | (with_reducible refine Bk.drewN ?_ _) | ((with_reducible refine Bk.far ?_ ?_ _); rotate_left; focus (simp only []; omega)) | ((with_reducible refine Bk.below ?_ (by with_reducible assumption) ?_); rotate_left; focus (go_size; done)))), by (repeat (first | (with_reducible assumption) | ((with_reducible refine Bk.new_ ?_); (first | rfl | (simp only [World.size_alloc, World.size_setCell, World.size_drew, World.heap_drewN]; done))) | (with_reducible refine Bk.alloc ?_ _) | (with_reducible refine Bk.drew ?_) | (with_reducible refine Bk.drewN ?_ _) | ((with_reducible refine Bk.far ?_ ?_ _); rotate_left; focus (simp only []; omega)) | ((with_reducible refine Bk.below ?_ (by with_reducible assumption) ?_); rotate_left; focus (go_size; done)))), by (repeat (first | (with_reducible assumption) | ((with_reducible refine Bk.new_ ?_); (first | rfl | (simp only [World.size_alloc, World.size_setCell, World.size_drew, World.heap_drewN]; done))) | (with_reducible refine Bk.alloc ?_ _) | (with_reducible refine Bk.drew ?_) | (with_reducible refine Bk.drewN ?_ _) | ((with_reducible refine Bk.far ?_ ?_ _); rotate_left; focus (simp only []; omega)) | ((with_reducible refine Bk.below ?_ (by with_reducible assumption) ?_); rotate_left; focus (go_size; done)))), by go_size, by (repeat' (first | (with_reducible exact Below.refl _ _) | (with_reducible assumption) | (with_reducible refine Below.drew ?_) | (with_reducible refine below_drewN ?_ _) | ((with_reducible refine Below.alloc ?_ ?_ _); rotate_left; focus (go_size; done)) | ((with_reducible refine Below.setCell ?_ ?_ _); rotate_left; focus (go_size; done)) | ((with_reducible refine Below.trans ?_ (Below.mono (by with_reducible assumption) ?_)); rotate_left; focus (go_size; done))))⟩
              · have i1 := HE.out
                have i2 := L2.out
                have i3 := HS.out
                have i4 := wd_mod_succ m s
                rw [← EY.out] at i4
                rw [← EX.out]
                exact mul_inv i1 i2 i3 i4
              · intro j hj h4
                rw [L4.out j h4 (by omega)]
                exact HZ.out j hj h4
              · rw [← L3.out]
                exact (BO.out.drewN _).set_ _ _
          · obtain rfl : s = 2 := by omega
            have co : wr.cell? ⟨w.heap.size + 1 + 1 + 1, t + 2, none⟩ = some (.int .u64 (wd V (t + 2))) := BO.out.cell _ (lcells_at V _ (by omega))
            have fo := BO.out.frozen (t + 2)
            obtain ⟨V', v1, v2, v3, v4, v5⟩ := lcells_set V (t + 2) (by omega) HV.out cc hc0 hc1
            have L2 := Far.mk v2
            have L3 := Lib.hid v3
            clear v1 v2 v3 v4 v5
            go_wp2_with fail
            go_roundg (go - 1)
            case measure => have := HK.out; have := HGO.out; omega
            case rel =>
              have bx := BX.out
              have by_ := BY.out
              have b4 := B4.out
              refine ⟨t + 1, by have := HK.out; omega, by go_num, ?_, by (repeat (first | (with_reducible assumption) | ((with_reducible refine Bk.new_ ?_); (first | rfl | (simp only [World.size_alloc, World.size_setCell, World.size_drew, World.heap_drewN]; done))) | (with_reducible refine Bk.alloc ?_ _) | (with_reducible refine Bk.drew ?_) | (with_reducible refine Bk.drewN ?_ _) | ((with_reducible refine Bk.far ?_ ?_ _); rotate_left; focus (simp only []; omega)) | ((with_reducible refine Bk.below ?_ (by with_reducible assumption) ?_); rotate_left; focus (go_size; done)))), by (repeat (first | (with_reducible assumption) | ((with_reducible refine Bk.new_ ?_); (first | rfl | (simp only [World.size_alloc, World.size_setCell, World.size_drew, World.heap_drewN]; done))) | (with_reducible refine Bk.alloc ?_ _) | (with_reducible refine Bk.drew ?_) | (with_reducible refine Bk.drewN ?_ _) | ((with_reducible refine Bk.far ?_ ?_ _); rotate_left; focus (simp only []; omega)) | ((with_reducible refine Bk.below ?_ (by with_reducible assumption) ?_); rotate_left; focus (go_size; done)))), by (repeat (first | (with_reducible assumption) | ((with_reducible refine Bk.new_ ?_); (first | rfl | (simp only [World.size_alloc, World.size_setCell, World.size_drew, World.heap_drewN]; done))) | (with_reducible refine Bk.alloc ?_ _) | (with_reducible refine Bk.drew ?_) | (with_reducible refine Bk.drewN ?_ _) | ((with_reducible refine Bk.far ?_ ?_ _); rotate_left; focus (simp only []; omega)) | ((with_reducible refine Bk.below ?_ (by with_reducible assumption) ?_); rotate_left; focus (go_size; done)))), by go_size, by (repeat' (first | (with_reducible exact Below.refl _ _) | (with_reducible assumption) | (with_reducible refine Below.drew ?_) | (with_reducible refine below_drewN ?_ _) | ((with_reducible refine Below.alloc ?_ ?_ _); rotate_left; focus (go_size; done)) | ((with_reducible refine Below.setCell ?_ ?_ _); rotate_left; focus (go_size; done)) | ((with_reducible refine Below.trans ?_ (Below.mono (by with_reducible assumption) ?_)); rotate_left; focus (go_size; done))))⟩
              have i1 := HE.out
              have i2 := L2.out
              have i3 := HZ.out (t + 2) (Nat.le_refl _) (by omega)
              have e : n % 2 ^ (64 * (t + 1)) * m = V' := mul_end HM.out EO.out i1 i2 i3
              rw [e, ← L3.out]
              exact BO.out.set_ _ _
      · obtain rfl : t = 2 := by omega
        have e : n % 2 ^ (64 * 2) * m = n * m := by rw [Nat.mod_eq_of_lt HN.out]
        rw [e] at BO
        obtain ⟨z, hz⟩ : ∃ z, z = n * m := ⟨_, rfl⟩
        rw [← hz] at BO
        have EZ := Lib.hid hz
        clear hz
        have bo := BO.out
        rw [lcells_eq] at bo
        have c0 := bo.cell 0 rfl
        have c1 := bo.cell 1 rfl
        have c2 := bo.cell 2 rfl
        have c3 := bo.cell 3 rfl
        have d0 := B4.out.cell 0 rfl
        have d1 := B4.out.cell 1 rfl
        have d2 := B4.out.cell 2 rfl
        have d3 := B4.out.cell 3 rfl
        have f0 := B4.out.frozen 0
        have f1 := B4.out.frozen 1
        have f2 := B4.out.frozen 2
        have f3 := B4.out.frozen 3
        clear bo e
        go_wp2_with fail
        refine bodyPost_ret (by simp [results, Try.results77, go_sem, *]; try rfl) rfl ?_
        exact ⟨by rw [EZ.out], by (repeat' (first | (with_reducible exact Below.refl _ _) | (with_reducible assumption) | (with_reducible refine Below.drew ?_) | (with_reducible refine below_drewN ?_ _) | ((with_reducible refine Below.alloc ?_ ?_ _); rotate_left; focus (go_size; done)) | ((with_reducible refine Below.setCell ?_ ?_ _); rotate_left; focus (go_size; done)) | ((with_reducible refine Below.trans ?_ (Below.mono (by with_reducible assumption) ?_)); rotate_left; focus (go_size; done))))⟩
end Go.Proofs.Ythkgjodidkpaeaa
