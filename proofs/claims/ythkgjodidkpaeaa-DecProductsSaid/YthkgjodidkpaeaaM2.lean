/- The contracts of the functions that the law reaches, part 2: what each returns and what becomes of memory. -/
import Derived.IntWalk
import Derived.Deep.RegionHeld3
import Derived.Test.YthkgjodidkpaeaaM1
set_option linter.unusedSimpArgs false
set_option linter.unusedVariables false
namespace Go.Proofs.Ythkgjodidkpaeaa
open Go.RowKit

/-- one step of the product: a product of words, a word that is there, a carry -/
theorem mul_step (x y o c : Int) (hx0 : 0 ≤ x) (hx : x < 18446744073709551616) (hy0 : 0 ≤ y) (hy : y < 18446744073709551616) (ho0 : 0 ≤ o) (ho : o < 18446744073709551616) (hc0 : 0 ≤ c) (hc : c < 18446744073709551616) :
    ∃ h l s k t j : Int, Hid (∀ w : World, Calls Try.prog 96 #[.int .u64 x, .int .u64 y] w fun e w' => e = .returned (.tuple #[.int .u64 h, .int .u64 l]) ∧ ∃ nn, w' = w.drewN nn) ∧
      (∀ W : World, (callFunc 86 #[.int .u64 l, .int .u64 o, .int .u64 0]).run Try.prog W = .ok (.value (.tuple #[.int .u64 s, .int .u64 k])) W) ∧
      (∀ W : World, (callFunc 86 #[.int .u64 s, .int .u64 c, .int .u64 0]).run Try.prog W = .ok (.value (.tuple #[.int .u64 t, .int .u64 j])) W) ∧
      Hid (t + 18446744073709551616 * (h + k + j) = x * y + o + c) ∧ 0 ≤ h ∧ h + k < 18446744073709551616 ∧ 0 ≤ k ∧ 0 ≤ j ∧ 0 ≤ t ∧ t < 18446744073709551616 ∧ h + k + j < 18446744073709551616 := by
  obtain ⟨h, l, f, H⟩ := mul64_ex x y hx0 hx hy0 hy
  unfold Two at H
  obtain ⟨s, k, g, K⟩ := add64_ex l o 0 (by omega) (by omega) ho0 ho (by decide) (by decide)
  unfold Carry at K
  obtain ⟨t, j, e, J⟩ := add64_ex s c 0 (by omega) (by omega) hc0 hc (by decide) (by decide)
  unfold Carry at J
  have hm : x * y ≤ 18446744073709551615 * 18446744073709551615 := Int.mul_le_mul (by omega) (by omega) hy0 (by decide)
  have hn : 0 ≤ x * y := Int.mul_nonneg hx0 hy0
  generalize x * y = p at *
  exact ⟨h, l, s, k, t, j, f, g, e, by show t + 18446744073709551616 * (h + k + j) = p + o + c; omega, by omega, by omega, by omega, by omega, by omega, by omega, by omega⟩

theorem two_at (n t : Nat) (h : t < 2) : [Value.int .u64 (wd n 0), .int .u64 (wd n 1)][t]? = some (.int .u64 (wd n t)) := by
  have hc : t = 0 ∨ t = 1 := by omega
  rcases hc with rfl | rfl <;> rfl
theorem mul_low {n m t : Nat} (hm : m < 2 ^ 128) : n % 2 ^ (64 * t) * m < 2 ^ (64 * (t + 2)) := by
  rw [show 64 * (t + 2) = 64 * t + 128 by omega, Nat.pow_add]
  have h1 : n % 2 ^ (64 * t) < 2 ^ (64 * t) := Nat.mod_lt _ (Nat.two_pow_pos _)
  exact Nat.mul_lt_mul'' h1 hm
theorem mul_inv {V V' O t s : Nat} {cc X Y Z h k1 k3 s3 M M' : Int}
    (i1 : (V : Int) + cc * ((2 ^ (64 * (t + s)) : Nat) : Int) = O + X * M * ((2 ^ (64 * t) : Nat) : Int))
    (i2 : (V' : Int) = V + (s3 - Z) * ((2 ^ (64 * (t + s)) : Nat) : Int))
    (i3 : s3 + 18446744073709551616 * (h + k1 + k3) = X * Y + Z + cc)
    (i4 : M' = M + Y * ((2 ^ (64 * s) : Nat) : Int)) :
    (V' : Int) + (h + k1 + k3) * ((2 ^ (64 * (t + (s + 1))) : Nat) : Int) = O + X * M' * ((2 ^ (64 * t) : Nat) : Int) := by
  have e1 : ((2 ^ (64 * (t + (s + 1))) : Nat) : Int) = ((2 ^ (64 * (t + s)) : Nat) : Int) * 18446744073709551616 := by
    rw [show 64 * (t + (s + 1)) = 64 * (t + s) + 64 by omega, Nat.pow_add, Int.natCast_mul]; rfl
  have e2 : ((2 ^ (64 * (t + s)) : Nat) : Int) = ((2 ^ (64 * t) : Nat) : Int) * ((2 ^ (64 * s) : Nat) : Int) := by
    rw [show 64 * (t + s) = 64 * t + 64 * s by omega, Nat.pow_add, Int.natCast_mul]
  rw [e1, i2, i4]
  rw [e2] at i1 ⊢
  generalize ((2 ^ (64 * t) : Nat) : Int) = P at *
  generalize ((2 ^ (64 * s) : Nat) : Int) = Q at *
  grind
theorem mul_end {n m t V V' O : Nat} {cc : Int} (hm : m < 2 ^ 128) (eO : O = n % 2 ^ (64 * t) * m)
    (i1 : (V : Int) + cc * ((2 ^ (64 * (t + 2)) : Nat) : Int) = O + wd n t * ((m % 2 ^ (64 * 2) : Nat) : Int) * ((2 ^ (64 * t) : Nat) : Int))
    (i2 : (V' : Int) = V + (cc - wd V (t + 2)) * ((2 ^ (64 * (t + 2)) : Nat) : Int)) (i3 : wd V (t + 2) = 0) : n % 2 ^ (64 * (t + 1)) * m = V' := by
  rw [i3, Int.sub_zero, i1, Nat.mod_eq_of_lt hm, eO] at i2
  have e := wd_mod_succ n t
  have : ((n % 2 ^ (64 * (t + 1)) * m : Nat) : Int) = (V' : Int) := by
    rw [i2, Int.natCast_mul, e, Int.natCast_mul]
    generalize ((2 ^ (64 * t) : Nat) : Int) = P
    generalize ((n % 2 ^ (64 * t) : Nat) : Int) = Q
    grind
  exact_mod_cast this
set_option maxHeartbeats 4000000 in
theorem mul_any (n m : Nat) (hn : n < 2 ^ 128) (hm : m < 2 ^ 128) (w : World) : Calls Try.prog 77 #[.agg #[.int .u64 (wd n 1), .int .u64 (wd n 0)], .agg #[.int .u64 (wd m 1), .int .u64 (wd m 0)]] w fun e w' => e = .returned (.agg #[.int .u64 (wd (n * m) 0), .int .u64 (wd (n * m) 1), .int .u64 (wd (n * m) 2), .int .u64 (wd (n * m) 3)]) ∧ Below w.heap.size w w' := by
  have HN := Far.mk hn
  have HM := Far.mk hm
  have a0 := wd_nn n 0
  have a1 := wd_lt n 0
  have b0 := wd_nn n 1
  have b1 := wd_lt n 1
  have c0 := wd_nn m 0
  have c1 := wd_lt m 0
  have d0 := wd_nn m 1
  have d1 := wd_lt m 1
  clear hn hm
  go_enter Try.func77, Try.ntmps77
  go_wp2_with fail
  go_region_held3 (fun w' => w'.cell? ⟨w.heap.size, 0, none⟩ = some (.int .u64 (wd n 1)) ∧ w'.cell? ⟨w.heap.size, 1, none⟩ = some (.int .u64 (wd n 0)) ∧ w'.cell? ⟨w.heap.size + 1, 0, none⟩ = some (.int .u64 (wd m 1)) ∧ w'.cell? ⟨w.heap.size + 1, 1, none⟩ = some (.int .u64 (wd m 0))) (first | (go_keep; done) | (simp [go_sem]; done) | ((try dsimp only); (repeat' apply And.intro) <;> (first | (with_reducible assumption) | ((rw [World.cell?_alloc_lt _ _ _ (by show _ < _; omega)]); go_split_ands; (first | with_reducible assumption | (refine (World.cell?_alloc_lt _ _ _ (by show _ < _; omega)).symm.trans ?_; with_reducible assumption))) | ((rw [World.cell?_setCell_other _ _ _ _ (by intro e; injection e; omega)]); with_reducible assumption) | (go_keep; done) | (simp [go_sem]; done) | (simp (disch := go_size) [*, World.cell?_alloc_some, World.cell?_setCell_far]; done)))) (fail)
  · go_wp2_with fail
    clear a0 a1 b0 b1 c0 c1 d0 d1
    go_loopg [24] 2 (fun k i wr => ∃ t : Nat, k + t = 2 ∧ i = .int .i64 t ∧ Bk wr (w.heap.size + 1 + 1 + 1) 45 (lcells (n % 2 ^ (64 * t) * m)) ∧ Bk wr (w.heap.size + 1 + 1 + 1 + 1) 96 [.int .u64 (wd n 0), .int .u64 (wd n 1)] ∧ Bk wr (w.heap.size + 1 + 1 + 1 + 1 + 1) 96 [.int .u64 (wd m 0), .int .u64 (wd m 1)] ∧
      Bk wr (w.heap.size + 1 + 1) 45 [.int .u64 0, .int .u64 0, .int .u64 0, .int .u64 0] ∧ w.heap.size + 6 ≤ wr.heap.size ∧ Below w.heap.size w wr)
    case atStart =>
      refine ⟨0, rfl, rfl, ?_, by (repeat (first | (with_reducible assumption) | ((with_reducible refine Bk.new_ ?_); (first | rfl | (simp only [World.size_alloc, World.size_setCell, World.size_drew, World.heap_drewN]; done))) | (with_reducible refine Bk.alloc ?_ _) | (with_reducible refine Bk.drew ?_) | (with_reducible refine Bk.drewN ?_ _) | ((with_reducible refine Bk.far ?_ ?_ _); rotate_left; focus (simp only []; omega)) | ((with_reducible refine Bk.below ?_ (by with_reducible assumption) ?_); rotate_left; focus (go_size; done)))), by (repeat (first | (with_reducible assumption) | ((with_reducible refine Bk.new_ ?_); (first | rfl | (simp only [World.size_alloc, World.size_setCell, World.size_drew, World.heap_drewN]; done))) | (with_reducible refine Bk.alloc ?_ _) | (with_reducible refine Bk.drew ?_) | (with_reducible refine Bk.drewN ?_ _) | ((with_reducible refine Bk.far ?_ ?_ _); rotate_left; focus (simp only []; omega)) | ((with_reducible refine Bk.below ?_ (by with_reducible assumption) ?_); rotate_left; focus (go_size; done)))), by (repeat (first | (with_reducible assumption) | ((with_reducible refine Bk.new_ ?_); (first | rfl | (simp only [World.size_alloc, World.size_setCell, World.size_drew, World.heap_drewN]; done))) | (with_reducible refine Bk.alloc ?_ _) | (with_reducible refine Bk.drew ?_) | (with_reducible refine Bk.drewN ?_ _) | ((with_reducible refine Bk.far ?_ ?_ _); rotate_left; focus (simp only []; omega)) | ((with_reducible refine Bk.below ?_ (by with_reducible assumption) ?_); rotate_left; focus (go_size; done)))), by go_size, by (repeat' (first | (with_reducible exact Below.refl _ _) | (with_reducible assumption) | (with_reducible refine Below.drew ?_) | (with_reducible refine below_drewN ?_ _) | ((with_reducible refine Below.alloc ?_ ?_ _); rotate_left; focus (go_size; done)) | ((with_reducible refine Below.setCell ?_ ?_ _); rotate_left; focus (go_size; done)) | ((with_reducible refine Below.trans ?_ (Below.mono (by with_reducible assumption) ?_)); rotate_left; focus (go_size; done))))⟩
      rw [Nat.mul_zero, Nat.pow_zero, Nat.mod_one, Nat.zero_mul]
      show Bk _ _ _ [.int .u64 0, .int .u64 0, .int .u64 0, .int .u64 0]
      (repeat (first | (with_reducible assumption) | ((with_reducible refine Bk.new_ ?_); (first | rfl | (simp only [World.size_alloc, World.size_setCell, World.size_drew, World.heap_drewN]; done))) | (with_reducible refine Bk.alloc ?_ _) | (with_reducible refine Bk.drew ?_) | (with_reducible refine Bk.drewN ?_ _) | ((with_reducible refine Bk.far ?_ ?_ _); rotate_left; focus (simp only []; omega)) | ((with_reducible refine Bk.below ?_ (by with_reducible assumption) ?_); rotate_left; focus (go_size; done))))
    case round =>
      obtain ⟨t, hk, rfl, bo, bx, by_, b4, hsz, hbel⟩ := hrel
      have HK := Lib.hid hk
      have BO := Lib.hid bo
      have BX := Lib.hid bx
      have BY := Lib.hid by_
      have B4 := Lib.hid b4
      have t2 : t ≤ 2 := by omega
      clear hk bo bx by_ b4
      (try have : w.heap.size < wr.heap.size := by omega); (try have : w.heap.size + 1 < wr.heap.size := by omega); (try have : w.heap.size + 1 + 1 < wr.heap.size := by omega); (try have : w.heap.size + 1 + 1 + 1 < wr.heap.size := by omega)
      by_cases hlt : t < 2
      · go_wp2_with fail
        obtain ⟨wo, hwo⟩ : ∃ wo : World, wo = wr := ⟨_, rfl⟩
        clear hwo
        obtain ⟨go, hgo⟩ : ∃ go : Nat, go = gk := ⟨_, rfl⟩
        rw [← hgo] at HK
        have HGO := Lib.hid hgo
        clear hgo
        have hO : n % 2 ^ (64 * t) * m < 2 ^ (64 * (t + 2)) := mul_low HM.out
        have hO2 : n % 2 ^ (64 * t) * m < 2 ^ 256 := Nat.lt_of_lt_of_le hO (Nat.pow_le_pow_right (by decide) (by omega))
        obtain ⟨O, eO⟩ : ∃ O, O = n % 2 ^ (64 * t) * m := ⟨_, rfl⟩
        rw [← eO] at hO hO2 BO
        have EO := Far.mk eO
        have H1 := Far.mk hO
        have H2 := Far.mk hO2
        clear eO hO hO2
        go_loopg [9, 27] 2 (fun k c j wr => ∃ (s : Nat) (cc : Int) (V : Nat), k + s = 2 ∧ j = .int .i64 s ∧ c = .int .u64 cc ∧ 0 ≤ cc ∧ cc < 18446744073709551616 ∧ V < 2 ^ 256 ∧
          (V : Int) + cc * ((2 ^ (64 * (t + s)) : Nat) : Int) = O + wd n t * ((m % 2 ^ (64 * s) : Nat) : Int) * ((2 ^ (64 * t) : Nat) : Int) ∧ (∀ j, t + 2 ≤ j → j < 4 → wd V j = 0) ∧
          Bk wr (w.heap.size + 1 + 1 + 1) 45 (lcells V) ∧ Bk wr (w.heap.size + 1 + 1 + 1 + 1) 96 [.int .u64 (wd n 0), .int .u64 (wd n 1)] ∧ Bk wr (w.heap.size + 1 + 1 + 1 + 1 + 1) 96 [.int .u64 (wd m 0), .int .u64 (wd m 1)] ∧
          Bk wr (w.heap.size + 1 + 1) 45 [.int .u64 0, .int .u64 0, .int .u64 0, .int .u64 0] ∧ w.heap.size + 6 ≤ wr.heap.size ∧ Below w.heap.size w wr)
        case atStart =>
          refine ⟨0, 0, O, rfl, rfl, rfl, by omega, by omega, H2.out, ?_, ?_, BO.out, BX.out, BY.out, B4.out, hsz, hbel⟩
          · rw [Nat.mul_zero, Nat.pow_zero, Nat.mod_one, Int.zero_mul, Int.natCast_zero, Int.mul_zero, Int.zero_mul]
          · intro j hj _
            exact wd_past H1.out hj
        case round =>
          obtain ⟨s, cc, V, hk, rfl, rfl, hc0, hc1, hV, heq, hz, bo, bx, by_, b4, hsz, hbel⟩ := hrel
          have HK2 := Lib.hid hk
          have HV := Far.mk hV
          have HE := Far.mk heq
          have HZ := Lib.hid hz
          have BO := Lib.hid bo
          have BX := Lib.hid bx
          have BY := Lib.hid by_
          have B4 := Lib.hid b4
          have s2 : s ≤ 2 := by omega
          clear hk hV heq hz bo bx by_ b4
          (try have : w.heap.size < wr.heap.size := by omega); (try have : w.heap.size + 1 < wr.heap.size := by omega); (try have : w.heap.size + 1 + 1 < wr.heap.size := by omega); (try have : w.heap.size + 1 + 1 + 1 < wr.heap.size := by omega)
          by_cases hls : s < 2
          · have cx : wr.cell? ⟨(w.heap.size + 1 + 1 + 1 + 1), t, none⟩ = some (.int .u64 (wd n t)) := BX.out.cell t (two_at n t hlt)
            have cy : wr.cell? ⟨(w.heap.size + 1 + 1 + 1 + 1 + 1), s, none⟩ = some (.int .u64 (wd m s)) := BY.out.cell s (two_at m s hls)
            have co : wr.cell? ⟨w.heap.size + 1 + 1 + 1, t + s, none⟩ = some (.int .u64 (wd V (t + s))) := BO.out.cell _ (lcells_at V _ (by omega))
            have fo := BO.out.frozen (t + s)
            obtain ⟨h, l, s1, k1, s3, k3, f, g, e, HS, p1, p2, p3, p4, p5, p6, p7⟩ := mul_step (wd n t) (wd m s) (wd V (t + s)) cc (wd_nn n t) (wd_lt n t) (wd_nn m s) (wd_lt m s) (wd_nn V _) (wd_lt V _) hc0 hc1
            obtain ⟨V', v1, v2, v3, v4, v5⟩ := lcells_set V (t + s) (by omega) HV.out s3 p5 p6
            have L1 := Far.mk v1
            have L2 := Far.mk v2
            have L3 := Lib.hid v3
            have L4 := Lib.hid v4
            clear v1 v2 v3 v4 v5
            obtain ⟨X, hX⟩ : ∃ X, X = wd n t := ⟨_, rfl⟩
            obtain ⟨Y, hY⟩ : ∃ Y, Y = wd m s := ⟨_, rfl⟩
            obtain ⟨Z, hZ⟩ : ∃ Z, Z = wd V (t + s) := ⟨_, rfl⟩
            rw [← hX] at cx f HS HE
            rw [← hY] at cy f HS
            rw [← hZ] at co g HS L2
            have EX := Lib.hid hX
            have EY := Lib.hid hY
            clear hX hY hZ
            go_wp2_with fail
            go_quiet ((go_at_call 96; (first | exact Calls.quiet_of (f.out _) | exact quiet_add (f.out _))))
            go_wp2_with fail
            go_roundg (gk - 1)
            case measure => have := HK2.out; omega
            case rel =>
              have bx := BX.out
              have by_ := BY.out
              have b4 := B4.out
              refine ⟨s + 1, h + k1 + k3, V', by have := HK2.out; omega, by go_num, rfl, by omega, p7, L1.out, ?_, ?_, ?_, by (repeat (first | (with_reducible assumption) | ((with_reducible refine Bk.new_ ?_); (first | rfl | (simp only [World.size_alloc, World.size_setCell, World.size_drew, World.heap_drewN]; done))) | (with_reducible refine Bk.alloc ?_ _) | (with_reducible refine Bk.drew ?_) | (with_reducible refine Bk.drewN ?_ _) | ((with_reducible refine Bk.far ?_ ?_ _); rotate_left; focus (simp only []; omega)) | ((with_reducible refine Bk.below ?_ (by with_reducible assumption) ?_); rotate_left; focus (go_size; done)))), by (repeat (first | (with_reducible assumption) | ((with_reducible refine Bk.new_ ?_); (first | rfl | (simp only [World.size_alloc, World.size_setCell, World.size_drew, World.heap_drewN]; done))) | (with_reducible refine Bk.alloc ?_ _) | (with_reducible refine Bk.drew ?_) | (with_reducible refine Bk.drewN ?_ _) | ((with_reducible refine Bk.far ?_ ?_ _); rotate_left; focus (simp only []; omega)) | ((with_reducible refine Bk.below ?_ (by with_reducible assumption) ?_); rotate_left; focus (go_size; done)))), by (repeat (first | (with_reducible assumption) | ((with_reducible refine Bk.new_ ?_); (first | rfl | (simp only [World.size_alloc, World.size_setCell, World.size_drew, World.heap_drewN]; done))) | (with_reducible refine Bk.alloc ?_ _) | (with_reducible refine Bk.drew ?_) | (with_reducible refine Bk.drewN ?_ _) | ((with_reducible refine Bk.far ?_ ?_ _); rotate_left; focus (simp only []; omega)) | ((with_reducible refine Bk.below ?_ (by with_reducible assumption) ?_); rotate_left; focus (go_size; done)))), by go_size, by (repeat' (first | (with_reducible exact Below.refl _ _) | (with_reducible assumption) | (with_reducible refine Below.drew ?_) | (with_reducible refine below_drewN ?_ _) | ((with_reducible refine Below.alloc ?_ ?_ _); rotate_left; focus (go_size; done)) | ((with_reducible refine Below.setCell ?_ ?_ _); rotate_left; focus (go_size; done)) | ((with_reducible refine Below.trans ?_ (Below.mono (by with_reducible assumption) ?_)); rotate_left; focus (go_size; done))))⟩
              · have i1 := HE.out
                have i2 := L2.out
                have i3 := HS.out
                have i4 := wd_mod_succ m s
                rw [← EY.out] at i4
                rw [← EX.out]
                exact mul_inv i1 i2 i3 i4
              · intro j hj h4
                rw [L4.out j h4 (by omega)]
                exact HZ.out j hj h4
              · rw [← L3.out]
                exact (BO.out.drewN _).set_ _ _
          · obtain rfl : s = 2 := by omega
            have co : wr.cell? ⟨w.heap.size + 1 + 1 + 1, t + 2, none⟩ = some (.int .u64 (wd V (t + 2))) := BO.out.cell _ (lcells_at V _ (by omega))
            have fo := BO.out.frozen (t + 2)
            obtain ⟨V', v1, v2, v3, v4, v5⟩ := lcells_set V (t + 2) (by omega) HV.out cc hc0 hc1
            have L2 := Far.mk v2
            have L3 := Lib.hid v3
            clear v1 v2 v3 v4 v5
            go_wp2_with fail
            go_roundg (go - 1)
            case measure => have := HK.out; have := HGO.out; omega
            case rel =>
              have bx := BX.out
              have by_ := BY.out
              have b4 := B4.out
              refine ⟨t + 1, by have := HK.out; omega, by go_num, ?_, by (repeat (first | (with_reducible assumption) | ((with_reducible refine Bk.new_ ?_); (first | rfl | (simp only [World.size_alloc, World.size_setCell, World.size_drew, World.heap_drewN]; done))) | (with_reducible refine Bk.alloc ?_ _) | (with_reducible refine Bk.drew ?_) | (with_reducible refine Bk.drewN ?_ _) | ((with_reducible refine Bk.far ?_ ?_ _); rotate_left; focus (simp only []; omega)) | ((with_reducible refine Bk.below ?_ (by with_reducible assumption) ?_); rotate_left; focus (go_size; done)))), by (repeat (first | (with_reducible assumption) | ((with_reducible refine Bk.new_ ?_); (first | rfl | (simp only [World.size_alloc, World.size_setCell, World.size_drew, World.heap_drewN]; done))) | (with_reducible refine Bk.alloc ?_ _) | (with_reducible refine Bk.drew ?_) | (with_reducible refine Bk.drewN ?_ _) | ((with_reducible refine Bk.far ?_ ?_ _); rotate_left; focus (simp only []; omega)) | ((with_reducible refine Bk.below ?_ (by with_reducible assumption) ?_); rotate_left; focus (go_size; done)))), by (repeat (first | (with_reducible assumption) | ((with_reducible refine Bk.new_ ?_); (first | rfl | (simp only [World.size_alloc, World.size_setCell, World.size_drew, World.heap_drewN]; done))) | (with_reducible refine Bk.alloc ?_ _) | (with_reducible refine Bk.drew ?_) | (with_reducible refine Bk.drewN ?_ _) | ((with_reducible refine Bk.far ?_ ?_ _); rotate_left; focus (simp only []; omega)) | ((with_reducible refine Bk.below ?_ (by with_reducible assumption) ?_); rotate_left; focus (go_size; done)))), by go_size, by (repeat' (first | (with_reducible exact Below.refl _ _) | (with_reducible assumption) | (with_reducible refine Below.drew ?_) | (with_reducible refine below_drewN ?_ _) | ((with_reducible refine Below.alloc ?_ ?_ _); rotate_left; focus (go_size; done)) | ((with_reducible refine Below.setCell ?_ ?_ _); rotate_left; focus (go_size; done)) | ((with_reducible refine Below.trans ?_ (Below.mono (by with_reducible assumption) ?_)); rotate_left; focus (go_size; done))))⟩
              have i1 := HE.out
              have i2 := L2.out
              have i3 := HZ.out (t + 2) (Nat.le_refl _) (by omega)
              have e : n % 2 ^ (64 * (t + 1)) * m = V' := mul_end HM.out EO.out i1 i2 i3
              rw [e, ← L3.out]
              exact BO.out.set_ _ _
      · obtain rfl : t = 2 := by omega
        have e : n % 2 ^ (64 * 2) * m = n * m := by rw [Nat.mod_eq_of_lt HN.out]
        rw [e] at BO
        obtain ⟨z, hz⟩ : ∃ z, z = n * m := ⟨_, rfl⟩
        rw [← hz] at BO
        have EZ := Lib.hid hz
        clear hz
        have bo := BO.out
        rw [lcells_eq] at bo
        have c0 := bo.cell 0 rfl
        have c1 := bo.cell 1 rfl
        have c2 := bo.cell 2 rfl
        have c3 := bo.cell 3 rfl
        have d0 := B4.out.cell 0 rfl
        have d1 := B4.out.cell 1 rfl
        have d2 := B4.out.cell 2 rfl
        have d3 := B4.out.cell 3 rfl
        have f0 := B4.out.frozen 0
        have f1 := B4.out.frozen 1
        have f2 := B4.out.frozen 2
        have f3 := B4.out.frozen 3
        clear bo e
        go_wp2_with fail
        refine bodyPost_ret (by simp [results, Try.results77, go_sem, *]; try rfl) rfl ?_
        exact ⟨by rw [EZ.out], by (repeat' (first | (with_reducible exact Below.refl _ _) | (with_reducible assumption) | (with_reducible refine Below.drew ?_) | (with_reducible refine below_drewN ?_ _) | ((with_reducible refine Below.alloc ?_ ?_ _); rotate_left; focus (go_size; done)) | ((with_reducible refine Below.setCell ?_ ?_ _); rotate_left; focus (go_size; done)) | ((with_reducible refine Below.trans ?_ (Below.mono (by with_reducible assumption) ?_)); rotate_left; focus (go_size; done))))⟩
  · go_wp2_with fail
    clear a0 a1 b0 b1 c0 c1 d0 d1
    go_loopg [24] 2 (fun k i wr => ∃ t : Nat, k + t = 2 ∧ i = .int .i64 t ∧ Bk wr (w.heap.size + 1 + 1 + 1) 45 (lcells (n % 2 ^ (64 * t) * m)) ∧ Bk wr (w.heap.size + 1 + 1 + 1 + 1 + 1) 96 [.int .u64 (wd n 0), .int .u64 (wd n 1)] ∧ Bk wr (w.heap.size + 1 + 1 + 1 + 1) 96 [.int .u64 (wd m 0), .int .u64 (wd m 1)] ∧
      Bk wr (w.heap.size + 1 + 1) 45 [.int .u64 0, .int .u64 0, .int .u64 0, .int .u64 0] ∧ w.heap.size + 6 ≤ wr.heap.size ∧ Below w.heap.size w wr)
    case atStart =>
      refine ⟨0, rfl, rfl, ?_, by (repeat (first | (with_reducible assumption) | ((with_reducible refine Bk.new_ ?_); (first | rfl | (simp only [World.size_alloc, World.size_setCell, World.size_drew, World.heap_drewN]; done))) | (with_reducible refine Bk.alloc ?_ _) | (with_reducible refine Bk.drew ?_) | (with_reducible refine Bk.drewN ?_ _) | ((with_reducible refine Bk.far ?_ ?_ _); rotate_left; focus (simp only []; omega)) | ((with_reducible refine Bk.below ?_ (by with_reducible assumption) ?_); rotate_left; focus (go_size; done)))), by (repeat (first | (with_reducible assumption) | ((with_reducible refine Bk.new_ ?_); (first | rfl | (simp only [World.size_alloc, World.size_setCell, World.size_drew, World.heap_drewN]; done))) | (with_reducible refine Bk.alloc ?_ _) | (with_reducible refine Bk.drew ?_) | (with_reducible refine Bk.drewN ?_ _) | ((with_reducible refine Bk.far ?_ ?_ _); rotate_left; focus (simp only []; omega)) | ((with_reducible refine Bk.below ?_ (by with_reducible assumption) ?_); rotate_left; focus (go_size; done)))), by (repeat (first | (with_reducible assumption) | ((with_reducible refine Bk.new_ ?_); (first | rfl | (simp only [World.size_alloc, World.size_setCell, World.size_drew, World.heap_drewN]; done))) | (with_reducible refine Bk.alloc ?_ _) | (with_reducible refine Bk.drew ?_) | (with_reducible refine Bk.drewN ?_ _) | ((with_reducible refine Bk.far ?_ ?_ _); rotate_left; focus (simp only []; omega)) | ((with_reducible refine Bk.below ?_ (by with_reducible assumption) ?_); rotate_left; focus (go_size; done)))), by go_size, by (repeat' (first | (with_reducible exact Below.refl _ _) | (with_reducible assumption) | (with_reducible refine Below.drew ?_) | (with_reducible refine below_drewN ?_ _) | ((with_reducible refine Below.alloc ?_ ?_ _); rotate_left; focus (go_size; done)) | ((with_reducible refine Below.setCell ?_ ?_ _); rotate_left; focus (go_size; done)) | ((with_reducible refine Below.trans ?_ (Below.mono (by with_reducible assumption) ?_)); rotate_left; focus (go_size; done))))⟩
      rw [Nat.mul_zero, Nat.pow_zero, Nat.mod_one, Nat.zero_mul]
      show Bk _ _ _ [.int .u64 0, .int .u64 0, .int .u64 0, .int .u64 0]
      (repeat (first | (with_reducible assumption) | ((with_reducible refine Bk.new_ ?_); (first | rfl | (simp only [World.size_alloc, World.size_setCell, World.size_drew, World.heap_drewN]; done))) | (with_reducible refine Bk.alloc ?_ _) | (with_reducible refine Bk.drew ?_) | (with_reducible refine Bk.drewN ?_ _) | ((with_reducible refine Bk.far ?_ ?_ _); rotate_left; focus (simp only []; omega)) | ((with_reducible refine Bk.below ?_ (by with_reducible assumption) ?_); rotate_left; focus (go_size; done))))
    case round =>
      obtain ⟨t, hk, rfl, bo, bx, by_, b4, hsz, hbel⟩ := hrel
      have HK := Lib.hid hk
      have BO := Lib.hid bo
      have BX := Lib.hid bx
      have BY := Lib.hid by_
      have B4 := Lib.hid b4
      have t2 : t ≤ 2 := by omega
      clear hk bo bx by_ b4
      (try have : w.heap.size < wr.heap.size := by omega); (try have : w.heap.size + 1 < wr.heap.size := by omega); (try have : w.heap.size + 1 + 1 < wr.heap.size := by omega); (try have : w.heap.size + 1 + 1 + 1 < wr.heap.size := by omega)
      by_cases hlt : t < 2
      · go_wp2_with fail
        obtain ⟨wo, hwo⟩ : ∃ wo : World, wo = wr := ⟨_, rfl⟩
        clear hwo
        obtain ⟨go, hgo⟩ : ∃ go : Nat, go = gk := ⟨_, rfl⟩
        rw [← hgo] at HK
        have HGO := Lib.hid hgo
        clear hgo
        have hO : n % 2 ^ (64 * t) * m < 2 ^ (64 * (t + 2)) := mul_low HM.out
        have hO2 : n % 2 ^ (64 * t) * m < 2 ^ 256 := Nat.lt_of_lt_of_le hO (Nat.pow_le_pow_right (by decide) (by omega))
        obtain ⟨O, eO⟩ : ∃ O, O = n % 2 ^ (64 * t) * m := ⟨_, rfl⟩
        rw [← eO] at hO hO2 BO
        have EO := Far.mk eO
        have H1 := Far.mk hO
        have H2 := Far.mk hO2
        clear eO hO hO2
        go_loopg [9, 27] 2 (fun k c j wr => ∃ (s : Nat) (cc : Int) (V : Nat), k + s = 2 ∧ j = .int .i64 s ∧ c = .int .u64 cc ∧ 0 ≤ cc ∧ cc < 18446744073709551616 ∧ V < 2 ^ 256 ∧
          (V : Int) + cc * ((2 ^ (64 * (t + s)) : Nat) : Int) = O + wd n t * ((m % 2 ^ (64 * s) : Nat) : Int) * ((2 ^ (64 * t) : Nat) : Int) ∧ (∀ j, t + 2 ≤ j → j < 4 → wd V j = 0) ∧
          Bk wr (w.heap.size + 1 + 1 + 1) 45 (lcells V) ∧ Bk wr (w.heap.size + 1 + 1 + 1 + 1 + 1) 96 [.int .u64 (wd n 0), .int .u64 (wd n 1)] ∧ Bk wr (w.heap.size + 1 + 1 + 1 + 1) 96 [.int .u64 (wd m 0), .int .u64 (wd m 1)] ∧
          Bk wr (w.heap.size + 1 + 1) 45 [.int .u64 0, .int .u64 0, .int .u64 0, .int .u64 0] ∧ w.heap.size + 6 ≤ wr.heap.size ∧ Below w.heap.size w wr)
        case atStart =>
          refine ⟨0, 0, O, rfl, rfl, rfl, by omega, by omega, H2.out, ?_, ?_, BO.out, BX.out, BY.out, B4.out, hsz, hbel⟩
          · rw [Nat.mul_zero, Nat.pow_zero, Nat.mod_one, Int.zero_mul, Int.natCast_zero, Int.mul_zero, Int.zero_mul]
          · intro j hj _
            exact wd_past H1.out hj
        case round =>
          obtain ⟨s, cc, V, hk, rfl, rfl, hc0, hc1, hV, heq, hz, bo, bx, by_, b4, hsz, hbel⟩ := hrel
          have HK2 := Lib.hid hk
          have HV := Far.mk hV
          have HE := Far.mk heq
          have HZ := Lib.hid hz
          have BO := Lib.hid bo
          have BX := Lib.hid bx
          have BY := Lib.hid by_
          have B4 := Lib.hid b4
          have s2 : s ≤ 2 := by omega
          clear hk hV heq hz bo bx by_ b4
          (try have : w.heap.size < wr.heap.size := by omega); (try have : w.heap.size + 1 < wr.heap.size := by omega); (try have : w.heap.size + 1 + 1 < wr.heap.size := by omega); (try have : w.heap.size + 1 + 1 + 1 < wr.heap.size := by omega)
          by_cases hls : s < 2
          · have cx : wr.cell? ⟨(w.heap.size + 1 + 1 + 1 + 1 + 1), t, none⟩ = some (.int .u64 (wd n t)) := BX.out.cell t (two_at n t hlt)
            have cy : wr.cell? ⟨(w.heap.size + 1 + 1 + 1 + 1), s, none⟩ = some (.int .u64 (wd m s)) := BY.out.cell s (two_at m s hls)
            have co : wr.cell? ⟨w.heap.size + 1 + 1 + 1, t + s, none⟩ = some (.int .u64 (wd V (t + s))) := BO.out.cell _ (lcells_at V _ (by omega))
            have fo := BO.out.frozen (t + s)
            obtain ⟨h, l, s1, k1, s3, k3, f, g, e, HS, p1, p2, p3, p4, p5, p6, p7⟩ := mul_step (wd n t) (wd m s) (wd V (t + s)) cc (wd_nn n t) (wd_lt n t) (wd_nn m s) (wd_lt m s) (wd_nn V _) (wd_lt V _) hc0 hc1
            obtain ⟨V', v1, v2, v3, v4, v5⟩ := lcells_set V (t + s) (by omega) HV.out s3 p5 p6
            have L1 := Far.mk v1
            have L2 := Far.mk v2
            have L3 := Lib.hid v3
            have L4 := Lib.hid v4
            clear v1 v2 v3 v4 v5
            obtain ⟨X, hX⟩ : ∃ X, X = wd n t := ⟨_, rfl⟩
            obtain ⟨Y, hY⟩ : ∃ Y, Y = wd m s := ⟨_, rfl⟩
            obtain ⟨Z, hZ⟩ : ∃ Z, Z = wd V (t + s) := ⟨_, rfl⟩
            rw [← hX] at cx f HS HE
            rw [← hY] at cy f HS
            rw [← hZ] at co g HS L2
            have EX := Lib.hid hX
            have EY := Lib.hid hY
            clear hX hY hZ
            go_wp2_with fail
            go_quiet ((go_at_call 96; (first | exact Calls.quiet_of (f.out _) | exact quiet_add (f.out _))))
            go_wp2_with fail
            go_roundg (gk - 1)
            case measure => have := HK2.out; omega
            case rel =>
              have bx := BX.out
              have by_ := BY.out
              have b4 := B4.out
              refine ⟨s + 1, h + k1 + k3, V', by have := HK2.out; omega, by go_num, rfl, by omega, p7, L1.out, ?_, ?_, ?_, by (repeat (first | (with_reducible assumption) | ((with_reducible refine Bk.new_ ?_); (first | rfl | (simp only [World.size_alloc, World.size_setCell, World.size_drew, World.heap_drewN]; done))) | (with_reducible refine Bk.alloc ?_ _) | (with_reducible refine Bk.drew ?_) | (with_reducible refine Bk.drewN ?_ _) | ((with_reducible refine Bk.far ?_ ?_ _); rotate_left; focus (simp only []; omega)) | ((with_reducible refine Bk.below ?_ (by with_reducible assumption) ?_); rotate_left; focus (go_size; done)))), by (repeat (first | (with_reducible assumption) | ((with_reducible refine Bk.new_ ?_); (first | rfl | (simp only [World.size_alloc, World.size_setCell, World.size_drew, World.heap_drewN]; done))) | (with_reducible refine Bk.alloc ?_ _) | (with_reducible refine Bk.drew ?_) | (with_reducible refine Bk.drewN ?_ _) | ((with_reducible refine Bk.far ?_ ?_ _); rotate_left; focus (simp only []; omega)) | ((with_reducible refine Bk.below ?_ (by with_reducible assumption) ?_); rotate_left; focus (go_size; done)))), by (repeat (first | (with_reducible assumption) | ((with_reducible refine Bk.new_ ?_); (first | rfl | (simp only [World.size_alloc, World.size_setCell, World.size_drew, World.heap_drewN]; done))) | (with_reducible refine Bk.alloc ?_ _) | (with_reducible refine Bk.drew ?_) | (with_reducible refine Bk.drewN ?_ _) | ((with_reducible refine Bk.far ?_ ?_ _); rotate_left; focus (simp only []; omega)) | ((with_reducible refine Bk.below ?_ (by with_reducible assumption) ?_); rotate_left; focus (go_size; done)))), by go_size, by (repeat' (first | (with_reducible exact Below.refl _ _) | (with_reducible assumption) | (with_reducible refine Below.drew ?_) | (with_reducible refine below_drewN ?_ _) | ((with_reducible refine Below.alloc ?_ ?_ _); rotate_left; focus (go_size; done)) | ((with_reducible refine Below.setCell ?_ ?_ _); rotate_left; focus (go_size; done)) | ((with_reducible refine Below.trans ?_ (Below.mono (by with_reducible assumption) ?_)); rotate_left; focus (go_size; done))))⟩
              · have i1 := HE.out
                have i2 := L2.out
                have i3 := HS.out
                have i4 := wd_mod_succ m s
                rw [← EY.out] at i4
                rw [← EX.out]
                exact mul_inv i1 i2 i3 i4
              · intro j hj h4
                rw [L4.out j h4 (by omega)]
                exact HZ.out j hj h4
              · rw [← L3.out]
                exact (BO.out.drewN _).set_ _ _
          · obtain rfl : s = 2 := by omega
            have co : wr.cell? ⟨w.heap.size + 1 + 1 + 1, t + 2, none⟩ = some (.int .u64 (wd V (t + 2))) := BO.out.cell _ (lcells_at V _ (by omega))
            have fo := BO.out.frozen (t + 2)
            obtain ⟨V', v1, v2, v3, v4, v5⟩ := lcells_set V (t + 2) (by omega) HV.out cc hc0 hc1
            have L2 := Far.mk v2
            have L3 := Lib.hid v3
            clear v1 v2 v3 v4 v5
            go_wp2_with fail
            go_roundg (go - 1)
            case measure => have := HK.out; have := HGO.out; omega
            case rel =>
              have bx := BX.out
              have by_ := BY.out
              have b4 := B4.out
              refine ⟨t + 1, by have := HK.out; omega, by go_num, ?_, by (repeat (first | (with_reducible assumption) | ((with_reducible refine Bk.new_ ?_); (first | rfl | (simp only [World.size_alloc, World.size_setCell, World.size_drew, World.heap_drewN]; done))) | (with_reducible refine Bk.alloc ?_ _) | (with_reducible refine Bk.drew ?_) | (with_reducible refine Bk.drewN ?_ _) | ((with_reducible refine Bk.far ?_ ?_ _); rotate_left; focus (simp only []; omega)) | ((with_reducible refine Bk.below ?_ (by with_reducible assumption) ?_); rotate_left; focus (go_size; done)))), by (repeat (first | (with_reducible assumption) | ((with_reducible refine Bk.new_ ?_); (first | rfl | (simp only [World.size_alloc, World.size_setCell, World.size_drew, World.heap_drewN]; done))) | (with_reducible refine Bk.alloc ?_ _) | (with_reducible refine Bk.drew ?_) | (with_reducible refine Bk.drewN ?_ _) | ((with_reducible refine Bk.far ?_ ?_ _); rotate_left; focus (simp only []; omega)) | ((with_reducible refine Bk.below ?_ (by with_reducible assumption) ?_); rotate_left; focus (go_size; done)))), by (repeat (first | (with_reducible assumption) | ((with_reducible refine Bk.new_ ?_); (first | rfl | (simp only [World.size_alloc, World.size_setCell, World.size_drew, World.heap_drewN]; done))) | (with_reducible refine Bk.alloc ?_ _) | (with_reducible refine Bk.drew ?_) | (with_reducible refine Bk.drewN ?_ _) | ((with_reducible refine Bk.far ?_ ?_ _); rotate_left; focus (simp only []; omega)) | ((with_reducible refine Bk.below ?_ (by with_reducible assumption) ?_); rotate_left; focus (go_size; done)))), by go_size, by (repeat' (first | (with_reducible exact Below.refl _ _) | (with_reducible assumption) | (with_reducible refine Below.drew ?_) | (with_reducible refine below_drewN ?_ _) | ((with_reducible refine Below.alloc ?_ ?_ _); rotate_left; focus (go_size; done)) | ((with_reducible refine Below.setCell ?_ ?_ _); rotate_left; focus (go_size; done)) | ((with_reducible refine Below.trans ?_ (Below.mono (by with_reducible assumption) ?_)); rotate_left; focus (go_size; done))))⟩
              have i1 := HE.out
              have i2 := L2.out
              have i3 := HZ.out (t + 2) (Nat.le_refl _) (by omega)
              have e : n % 2 ^ (64 * (t + 1)) * m = V' := mul_end HM.out EO.out i1 i2 i3
              rw [e, ← L3.out]
              exact BO.out.set_ _ _
      · obtain rfl : t = 2 := by omega
        have e : n % 2 ^ (64 * 2) * m = n * m := by rw [Nat.mod_eq_of_lt HN.out]
        rw [e] at BO
        obtain ⟨z, hz⟩ : ∃ z, z = n * m := ⟨_, rfl⟩
        rw [← hz] at BO
        have EZ := Lib.hid hz
        clear hz
        have bo := BO.out
        rw [lcells_eq] at bo
        have c0 := bo.cell 0 rfl
        have c1 := bo.cell 1 rfl
        have c2 := bo.cell 2 rfl
        have c3 := bo.cell 3 rfl
        have d0 := B4.out.cell 0 rfl
        have d1 := B4.out.cell 1 rfl
        have d2 := B4.out.cell 2 rfl
        have d3 := B4.out.cell 3 rfl
        have f0 := B4.out.frozen 0
        have f1 := B4.out.frozen 1
        have f2 := B4.out.frozen 2
        have f3 := B4.out.frozen 3
        clear bo e
        go_wp2_with fail
        refine bodyPost_ret (by simp [results, Try.results77, go_sem, *]; try rfl) rfl ?_
        exact ⟨by rw [EZ.out], by (repeat' (first | (with_reducible exact Below.refl _ _) | (with_reducible assumption) | (with_reducible refine Below.drew ?_) | (with_reducible refine below_drewN ?_ _) | ((with_reducible refine Below.alloc ?_ ?_ _); rotate_left; focus (go_size; done)) | ((with_reducible refine Below.setCell ?_ ?_ _); rotate_left; focus (go_size; done)) | ((with_reducible refine Below.trans ?_ (Below.mono (by with_reducible assumption) ?_)); rotate_left; focus (go_size; done))))⟩
end Go.Proofs.Ythkgjodidkpaeaa

set_option linter.unusedSimpArgs false
set_option linter.unusedVariables false
namespace Go.Proofs.Ythkgjodidkpaeaa
open Go.RowKit

theorem ten_38 {k : Nat} (h : k ≤ 38) : 10 ^ k < 2 ^ 128 := Nat.lt_of_le_of_lt (Nat.pow_le_pow_right (by decide) h) (by decide)
set_option maxHeartbeats 1000000 in
theorem ten_bad (k : Int) (hk : k < 0 ∨ 38 < k) (w : World) : Calls Try.prog 99 #[.int .i64 k] w fun e w' => e = .returned (.tuple #[.agg #[.int .u64 0, .int .u64 0], .int .i64 1]) ∧ Below w.heap.size w w' := by
  rcases hk with hk | hk
  · go_enter Try.func99, Try.ntmps99
    go_wp2_with fail
    refine bodyPost_ret (by simp [results, Try.results99, go_sem, *]; try rfl) rfl ?_
    exact ⟨rfl, by (repeat' (first | (with_reducible exact Below.refl _ _) | (with_reducible assumption) | (with_reducible refine Below.drew ?_) | (with_reducible refine below_drewN ?_ _) | ((with_reducible refine Below.alloc ?_ ?_ _); rotate_left; focus (go_size; done)) | ((with_reducible refine Below.setCell ?_ ?_ _); rotate_left; focus (go_size; done)) | ((with_reducible refine Below.trans ?_ (Below.mono (by with_reducible assumption) ?_)); rotate_left; focus (go_size; done))))⟩
  · have h0 : ¬ k < 0 := by omega
    go_enter Try.func99, Try.ntmps99
    go_wp2_with fail
    refine bodyPost_ret (by simp [results, Try.results99, go_sem, *]; try rfl) rfl ?_
    exact ⟨rfl, by (repeat' (first | (with_reducible exact Below.refl _ _) | (with_reducible assumption) | (with_reducible refine Below.drew ?_) | (with_reducible refine below_drewN ?_ _) | ((with_reducible refine Below.alloc ?_ ?_ _); rotate_left; focus (go_size; done)) | ((with_reducible refine Below.setCell ?_ ?_ _); rotate_left; focus (go_size; done)) | ((with_reducible refine Below.trans ?_ (Below.mono (by with_reducible assumption) ?_)); rotate_left; focus (go_size; done))))⟩
theorem mul_ten (X : Nat) (hX : X < 2 ^ 128) (W : World) : Calls Try.prog 77 #[.agg #[.int .u64 (wd X 1), .int .u64 (wd X 0)], .agg #[.int .u64 0, .int .u64 10]] W fun e w' => e = .returned (.agg #[.int .u64 (wd (X * 10) 0), .int .u64 (wd (X * 10) 1), .int .u64 (wd (X * 10) 2), .int .u64 (wd (X * 10) 3)]) ∧ Below W.heap.size W w' := by
  have h := mul_any X 10 hX (by decide) W
  have b0 : wd 10 0 = 10 := by rw [wd0]; rfl
  have b1 : wd 10 1 = 0 := by rw [wd1]; rfl
  rw [b0, b1] at h
  exact h
theorem fit_id {X : Nat} (h : X < 2 ^ 128) : fitW X = X := by unfold fitW; rw [if_pos h]
theorem over_id {X : Nat} (h : X < 2 ^ 128) : over X = 0 := by unfold over; rw [if_pos h]
set_option maxHeartbeats 4000000 in
theorem ten_any (k : Nat) (hk : k ≤ 38) (w : World) : Calls Try.prog 99 #[.int .i64 k] w fun e w' => e = .returned (.tuple #[.agg #[.int .u64 (wd (10 ^ k) 1), .int .u64 (wd (10 ^ k) 0)], .int .i64 0]) ∧ Below w.heap.size w w' := by
  have k0 : (0 : Int) ≤ (k : Int) := by omega
  have k1 : (k : Int) ≤ 38 := by omega
  go_enter Try.func99, Try.ntmps99
  go_wp2_with fail
  go_loopg [14] k (fun kk i wr => ∃ t : Nat, kk + t = k ∧ i = .int .i64 t ∧ Bk wr (w.heap.size + 1) 24 [.int .u64 (wd (10 ^ t) 1), .int .u64 (wd (10 ^ t) 0)] ∧ Bk wr w.heap.size 24 [.int .u64 0, .int .u64 0] ∧ w.heap.size + 2 ≤ wr.heap.size ∧ Below w.heap.size w wr)
  case atStart =>
    refine ⟨0, by omega, rfl, ?_, by (repeat (first | (with_reducible assumption) | ((with_reducible refine Bk.new_ ?_); (first | rfl | (simp only [World.size_alloc, World.size_setCell, World.size_drew, World.heap_drewN]; done))) | (with_reducible refine Bk.alloc ?_ _) | (with_reducible refine Bk.drew ?_) | (with_reducible refine Bk.drewN ?_ _) | ((with_reducible refine Bk.far ?_ ?_ _); rotate_left; focus (simp only []; omega)) | ((with_reducible refine Bk.below ?_ (by with_reducible assumption) ?_); rotate_left; focus (go_size; done)))), by go_size, by (repeat' (first | (with_reducible exact Below.refl _ _) | (with_reducible assumption) | (with_reducible refine Below.drew ?_) | (with_reducible refine below_drewN ?_ _) | ((with_reducible refine Below.alloc ?_ ?_ _); rotate_left; focus (go_size; done)) | ((with_reducible refine Below.setCell ?_ ?_ _); rotate_left; focus (go_size; done)) | ((with_reducible refine Below.trans ?_ (Below.mono (by with_reducible assumption) ?_)); rotate_left; focus (go_size; done))))⟩
    have b0 : wd (10 ^ 0) 0 = 1 := by rw [wd0]; rfl
    have b1 : wd (10 ^ 0) 1 = 0 := by rw [wd1]; rfl
    rw [b0, b1]
    (repeat (first | (with_reducible assumption) | ((with_reducible refine Bk.new_ ?_); (first | rfl | (simp only [World.size_alloc, World.size_setCell, World.size_drew, World.heap_drewN]; done))) | (with_reducible refine Bk.alloc ?_ _) | (with_reducible refine Bk.drew ?_) | (with_reducible refine Bk.drewN ?_ _) | ((with_reducible refine Bk.far ?_ ?_ _); rotate_left; focus (simp only []; omega)) | ((with_reducible refine Bk.below ?_ (by with_reducible assumption) ?_); rotate_left; focus (go_size; done))))
  case round =>
    obtain ⟨t, hn, rfl, b1, b0, hsz, hbel⟩ := hrel
    have HK := Lib.hid hn
    have ht : t ≤ k := by omega
    have c0 := b1.cell 0 rfl
    have c1 := b1.cell 1 rfl
    have f0 := b1.frozen 0
    have f1 := b1.frozen 1
    have d0 := b0.cell 0 rfl
    have d1 := b0.cell 1 rfl
    have e0 := b0.frozen 0
    have e1 := b0.frozen 1
    have B0 := Lib.hid b0
    have B1 := Lib.hid b1
    (try have : w.heap.size < wr.heap.size := by omega); (try have : w.heap.size + 1 < wr.heap.size := by omega); (try have : w.heap.size + 1 + 1 < wr.heap.size := by omega); (try have : w.heap.size + 1 + 1 + 1 < wr.heap.size := by omega)
    clear hn b0 b1
    by_cases hlt : t < k
    · have hx : 10 ^ t < 2 ^ 128 := ten_38 (by omega)
      have hy : 10 ^ t * 10 < 2 ^ 128 := by rw [← Nat.pow_succ]; exact ten_38 (by omega)
      have HM := Lib.hid (fun W => mul_ten (10 ^ t) hx W)
      have HN := Lib.hid (fun W => narrow_any (10 ^ t * 10) (Nat.lt_trans hy (by decide)) W)
      rw [fit_id hy, over_id hy] at HN
      obtain ⟨X, hX⟩ : ∃ X, X = 10 ^ t := ⟨_, rfl⟩
      obtain ⟨Y, hY⟩ : ∃ Y, Y = X * 10 := ⟨_, rfl⟩
      rw [← hX] at c0 c1 HM HN
      rw [← hY] at HM HN
      have EX := Far.mk hX
      have EY := Far.mk hY
      clear hX hY hx hy
      go_wp2_with (first
        | ((go_at_call 77; with_reducible refine (HM.out _).mono ?_); rintro _ w1 ⟨rfl, hb1⟩; have hb1s := hb1.size; (try simp only [World.size_alloc, World.size_setCell, World.size_drew, World.heap_drewN] at hb1s); obtain ⟨hb1c, hb1f⟩ := bcell hb1; (try have : w.heap.size < w1.heap.size := by omega); (try have : w.heap.size + 1 < w1.heap.size := by omega); (try have : w.heap.size + 1 + 1 < w1.heap.size := by omega); (try have : w.heap.size + 1 + 1 + 1 < w1.heap.size := by omega))
        | ((go_at_call 94; with_reducible refine (HN.out _).mono ?_); rintro _ w2 ⟨rfl, hb2⟩; have hb2s := hb2.size; (try simp only [World.size_alloc, World.size_setCell, World.size_drew, World.heap_drewN] at hb2s); obtain ⟨hb2c, hb2f⟩ := bcell hb2; (try have : w.heap.size < w2.heap.size := by omega); (try have : w.heap.size + 1 < w2.heap.size := by omega); (try have : w.heap.size + 1 + 1 < w2.heap.size := by omega); (try have : w.heap.size + 1 + 1 + 1 < w2.heap.size := by omega); (try have : w1.heap.size < w2.heap.size := by omega); (try have : w1.heap.size + 1 < w2.heap.size := by omega); (try have : w1.heap.size + 1 + 1 < w2.heap.size := by omega); (try have : w1.heap.size + 1 + 1 + 1 < w2.heap.size := by omega)))
      go_roundg (gk - 1)
      case measure => have := HK.out; omega
      case rel =>
        have b0 := B0.out
        have b1 := B1.out
        refine ⟨t + 1, by have := HK.out; omega, by go_num, ?_, by (repeat (first | (with_reducible assumption) | ((with_reducible refine Bk.new_ ?_); (first | rfl | (simp only [World.size_alloc, World.size_setCell, World.size_drew, World.heap_drewN]; done))) | (with_reducible refine Bk.alloc ?_ _) | (with_reducible refine Bk.drew ?_) | (with_reducible refine Bk.drewN ?_ _) | ((with_reducible refine Bk.far ?_ ?_ _); rotate_left; focus (simp only []; omega)) | ((with_reducible refine Bk.below ?_ (by with_reducible assumption) ?_); rotate_left; focus (go_size; done)))), by go_size, by (repeat' (first | (with_reducible exact Below.refl _ _) | (with_reducible assumption) | (with_reducible refine Below.drew ?_) | (with_reducible refine below_drewN ?_ _) | ((with_reducible refine Below.alloc ?_ ?_ _); rotate_left; focus (go_size; done)) | ((with_reducible refine Below.setCell ?_ ?_ _); rotate_left; focus (go_size; done)) | ((with_reducible refine Below.trans ?_ (Below.mono (by with_reducible assumption) ?_)); rotate_left; focus (go_size; done))))⟩
        have e : 10 ^ (t + 1) = Y := by rw [EY.out, EX.out, Nat.pow_succ]
        rw [e]
        refine ((?_ : Bk w2 _ _ [.int .u64 (wd (10 ^ t) 1), .int .u64 (wd (10 ^ t) 0)]).set_ 0 _).set_ 1 _
        (repeat (first | (with_reducible assumption) | ((with_reducible refine Bk.new_ ?_); (first | rfl | (simp only [World.size_alloc, World.size_setCell, World.size_drew, World.heap_drewN]; done))) | (with_reducible refine Bk.alloc ?_ _) | (with_reducible refine Bk.drew ?_) | (with_reducible refine Bk.drewN ?_ _) | ((with_reducible refine Bk.far ?_ ?_ _); rotate_left; focus (simp only []; omega)) | ((with_reducible refine Bk.below ?_ (by with_reducible assumption) ?_); rotate_left; focus (go_size; done))))
    · obtain rfl : t = k := by omega
      obtain ⟨X, hX⟩ : ∃ X, X = 10 ^ t := ⟨_, rfl⟩
      rw [← hX] at c0 c1
      have EX := Far.mk hX
      clear hX
      go_wp2_with fail
      refine bodyPost_ret (by simp [results, Try.results99, go_sem, *]; try rfl) rfl ?_
      exact ⟨by rw [EX.out], by (repeat' (first | (with_reducible exact Below.refl _ _) | (with_reducible assumption) | (with_reducible refine Below.drew ?_) | (with_reducible refine below_drewN ?_ _) | ((with_reducible refine Below.alloc ?_ ?_ _); rotate_left; focus (go_size; done)) | ((with_reducible refine Below.setCell ?_ ?_ _); rotate_left; focus (go_size; done)) | ((with_reducible refine Below.trans ?_ (Below.mono (by with_reducible assumption) ?_)); rotate_left; focus (go_size; done))))⟩
end Go.Proofs.Ythkgjodidkpaeaa

set_option linter.unusedSimpArgs false
set_option linter.unusedVariables false
namespace Go.Proofs.Ythkgjodidkpaeaa
open Go.RowKit

set_option maxHeartbeats 1000000 in
theorem power_any (k : Nat) (hk : k ≤ 38) (w : World) : Calls Try.prog 88 #[.int .i64 k] w fun e w' => e = .returned (.agg #[.int .u64 (wd (10 ^ k) 1), .int .u64 (wd (10 ^ k) 0)]) ∧ Below w.heap.size w w' := by
  have HT := Lib.hid (fun W => ten_any k hk W)
  generalize wd (10 ^ k) 0 = x0 at *
  generalize wd (10 ^ k) 1 = x1 at *
  go_enter Try.func88, Try.ntmps88
  go_wp2_with ((go_at_call 99; with_reducible refine (HT.out _).mono ?_); rintro _ w1 ⟨rfl, hb1⟩; have hb1s := hb1.size; (try simp only [World.size_alloc, World.size_setCell, World.size_drew, World.heap_drewN] at hb1s); obtain ⟨hb1c, hb1f⟩ := bcell hb1; (try have : w.heap.size < w1.heap.size := by omega); (try have : w.heap.size + 1 < w1.heap.size := by omega); (try have : w.heap.size + 1 + 1 < w1.heap.size := by omega); (try have : w.heap.size + 1 + 1 + 1 < w1.heap.size := by omega))
  refine bodyPost_ret (by simp [results, Try.results88, go_sem, *]; try rfl) rfl ?_
  exact ⟨rfl, by (repeat' (first | (with_reducible exact Below.refl _ _) | (with_reducible assumption) | (with_reducible refine Below.drew ?_) | (with_reducible refine below_drewN ?_ _) | ((with_reducible refine Below.alloc ?_ ?_ _); rotate_left; focus (go_size; done)) | ((with_reducible refine Below.setCell ?_ ?_ _); rotate_left; focus (go_size; done)) | ((with_reducible refine Below.trans ?_ (Below.mono (by with_reducible assumption) ?_)); rotate_left; focus (go_size; done))))⟩
set_option maxHeartbeats 1000000 in
theorem bound_any (w : World) : Calls Try.prog 55 #[] w fun e w' => e = .returned (.agg #[.int .u64 (wd B34 1), .int .u64 (wd B34 0)]) ∧ Below w.heap.size w w' := by
  have HT : Hid (∀ W, Calls Try.prog 88 #[.int .i64 34] W fun e w' => e = .returned (.agg #[.int .u64 (wd B34 1), .int .u64 (wd B34 0)]) ∧ Below W.heap.size W w') := Lib.hid (fun W => power_any 34 (by decide) W)
  generalize wd B34 0 = x0 at *
  generalize wd B34 1 = x1 at *
  go_enter Try.func55, Try.ntmps55
  go_wp2_with ((go_at_call 88; with_reducible refine (HT.out _).mono ?_); rintro _ w1 ⟨rfl, hb1⟩; have hb1s := hb1.size; (try simp only [World.size_alloc, World.size_setCell, World.size_drew, World.heap_drewN] at hb1s); obtain ⟨hb1c, hb1f⟩ := bcell hb1; (try have : w.heap.size < w1.heap.size := by omega); (try have : w.heap.size + 1 < w1.heap.size := by omega); (try have : w.heap.size + 1 + 1 < w1.heap.size := by omega); (try have : w.heap.size + 1 + 1 + 1 < w1.heap.size := by omega))
  refine bodyPost_ret (by simp [results, Try.results55, go_sem, *]; try rfl) rfl ?_
  exact ⟨rfl, by (repeat' (first | (with_reducible exact Below.refl _ _) | (with_reducible assumption) | (with_reducible refine Below.drew ?_) | (with_reducible refine below_drewN ?_ _) | ((with_reducible refine Below.alloc ?_ ?_ _); rotate_left; focus (go_size; done)) | ((with_reducible refine Below.setCell ?_ ?_ _); rotate_left; focus (go_size; done)) | ((with_reducible refine Below.trans ?_ (Below.mono (by with_reducible assumption) ?_)); rotate_left; focus (go_size; done))))⟩
theorem wd_hi2 {n : Nat} (h : n < 2 ^ 128) : wd n 2 = 0 ∧ wd n 3 = 0 := (wd_low4 (Nat.lt_trans h (by decide))).2 h
set_option maxHeartbeats 1000000 in
theorem long_any (n : Nat) (h : n < 2 ^ 128) (w : World) : Calls Try.prog 62 #[.agg #[.int .u64 (wd n 1), .int .u64 (wd n 0)]] w fun e w' => e = .returned (.agg #[.int .u64 (wd n 0), .int .u64 (wd n 1), .int .u64 (wd n 2), .int .u64 (wd n 3)]) ∧ Below w.heap.size w w' := by
  obtain ⟨e2, e3⟩ := wd_hi2 h
  rw [e2, e3]
  clear e2 e3 h
  generalize wd n 0 = x0 at *
  generalize wd n 1 = x1 at *
  go_enter Try.func62, Try.ntmps62
  go_wp2_with fail
  refine bodyPost_ret (by simp [results, Try.results62, go_sem, *]; try rfl) rfl ?_
  exact ⟨rfl, by (repeat' (first | (with_reducible exact Below.refl _ _) | (with_reducible assumption) | (with_reducible refine Below.drew ?_) | (with_reducible refine below_drewN ?_ _) | ((with_reducible refine Below.alloc ?_ ?_ _); rotate_left; focus (go_size; done)) | ((with_reducible refine Below.setCell ?_ ?_ _); rotate_left; focus (go_size; done)) | ((with_reducible refine Below.trans ?_ (Below.mono (by with_reducible assumption) ?_)); rotate_left; focus (go_size; done))))⟩
theorem eq_nil {n : Nat} (h : n < 2 ^ 128) : ((wd n 1 == 0) && (wd n 0 == 0)) = decide (n = 0) := by
  have e := wd_eq_iff h (show 0 < 2 ^ 128 by decide)
  rwa [wd_zero, wd_zero] at e
set_option maxHeartbeats 1000000 in
theorem zero_any (b : Bool) (c : Nat) (s : Int) (h : c < 2 ^ 128) (w : World) : Calls Try.prog 56 #[.agg #[.bool b, .int .u64 (wd (c) 1), .int .u64 (wd (c) 0), .int .i64 s]] w fun e w' => e = .returned (.bool (decide (c = 0))) ∧ Below w.heap.size w w' := by
  have qz : ∀ W, (binOp .eql 24 (.agg #[.int .u64 (wd c 1), .int .u64 (wd c 0)]) (.agg #[.int .u64 0, .int .u64 0])).run Try.prog W = .ok (.bool (decide (c = 0))) W := fun W => by rw [eq_wide, eq_nil h]
  clear h
  generalize decide (c = 0) = z at *
  generalize wd c 0 = x0 at *
  generalize wd c 1 = x1 at *
  go_enter Try.func56, Try.ntmps56
  go_wp2_with fail
  refine bodyPost_ret (by simp [results, Try.results56, go_sem, *]; try rfl) rfl ?_
  exact ⟨rfl, by (repeat' (first | (with_reducible exact Below.refl _ _) | (with_reducible assumption) | (with_reducible refine Below.drew ?_) | (with_reducible refine below_drewN ?_ _) | ((with_reducible refine Below.alloc ?_ ?_ _); rotate_left; focus (go_size; done)) | ((with_reducible refine Below.setCell ?_ ?_ _); rotate_left; focus (go_size; done)) | ((with_reducible refine Below.trans ?_ (Below.mono (by with_reducible assumption) ?_)); rotate_left; focus (go_size; done))))⟩
end Go.Proofs.Ythkgjodidkpaeaa

set_option linter.unusedSimpArgs false
set_option linter.unusedVariables false
namespace Go.Proofs.Ythkgjodidkpaeaa
open Go.RowKit

theorem dform_hi {b : Bool} {c : Nat} {s : Int} (h : ¬ c < B34) : dform b c s = false := by unfold dform; rw [decide_eq_false h]; rfl
theorem dform_neg {b : Bool} {c : Nat} {s : Int} (h : s < 0) : dform b c s = false := by unfold dform; rw [decide_eq_false (show ¬ 0 ≤ s by omega)]; simp
theorem dform_deep {b : Bool} {c : Nat} {s : Int} (h : 18 < s) : dform b c s = false := by unfold dform; rw [decide_eq_false (show ¬ s ≤ 18 by omega)]; simp
theorem dform_in {b : Bool} {c : Nat} {s : Int} (h : c < B34) (h0 : 0 ≤ s) (h1 : s ≤ 18) : dform b c s = if c = 0 then !b && decide (s = 0) else decide (s = 0) || decide (c % 10 ≠ 0) := by
  unfold dform; rw [decide_eq_true h, decide_eq_true h0, decide_eq_true h1]; rfl
theorem cmp_bound {c : Nat} (h : c < B34) : cmpN c B34 < 0 := by unfold cmpN; rw [if_neg (by omega), if_pos h]; decide
theorem cmp_bound' {c : Nat} (h : ¬ c < B34) : 0 ≤ cmpN c B34 := by unfold cmpN; rw [if_neg h]; split <;> decide
set_option maxHeartbeats 4000000 in
theorem form_any (b : Bool) (c : Nat) (s : Int) (hc : c < 2 ^ 128) (w : World) : Calls Try.prog 16 #[.agg #[.bool b, .int .u64 (wd (c) 1), .int .u64 (wd (c) 0), .int .i64 s]] w fun e w' => e = .returned (.bool (dform b c s)) ∧ Below w.heap.size w w' := by
  have HC := Lib.hid (fun W => cmp_any c B34 hc B34_lt W)
  have HB := Lib.hid (fun W => bound_any W)
  have HZ := Lib.hid (fun W => zero_any b c s hc W)
  generalize wd B34 0 = p0 at *
  generalize wd B34 1 = p1 at *
  by_cases hb : c < B34
  · have g1 := cmp_bound hb
    have g1' : decide (0 ≤ cmpN c B34) = false := by simp; omega
    by_cases h0 : s < 0
    · rw [dform_neg h0]
      generalize cmpN c B34 = cc at *
      generalize wd c 0 = x0 at *
      generalize wd c 1 = x1 at *
      clear hc hb
      generalize decide (c = 0) = zz at *
      go_enter Try.func16, Try.ntmps16
      go_wp2_with fail
      first | (go_region_with (first | ((go_at_call 55; with_reducible refine (HB.out _).mono ?_); rintro _ w1 ⟨rfl, hb1⟩; have hb1s := hb1.size; (try simp only [World.size_alloc, World.size_setCell, World.size_drew, World.heap_drewN] at hb1s); obtain ⟨hb1c, hb1f⟩ := bcell hb1; (try have : w.heap.size < w1.heap.size := by omega); (try have : w.heap.size + 1 < w1.heap.size := by omega); (try have : w.heap.size + 1 + 1 < w1.heap.size := by omega); (try have : w.heap.size + 1 + 1 + 1 < w1.heap.size := by omega)) | ((go_at_call 54; with_reducible refine (HC.out _).mono ?_); rintro _ w2 ⟨rfl, hb2⟩; have hb2s := hb2.size; (try simp only [World.size_alloc, World.size_setCell, World.size_drew, World.heap_drewN] at hb2s); obtain ⟨hb2c, hb2f⟩ := bcell hb2; (try have : w.heap.size < w2.heap.size := by omega); (try have : w.heap.size + 1 < w2.heap.size := by omega); (try have : w.heap.size + 1 + 1 < w2.heap.size := by omega); (try have : w.heap.size + 1 + 1 + 1 < w2.heap.size := by omega); (try have : w1.heap.size < w2.heap.size := by omega); (try have : w1.heap.size + 1 < w2.heap.size := by omega); (try have : w1.heap.size + 1 + 1 < w2.heap.size := by omega); (try have : w1.heap.size + 1 + 1 + 1 < w2.heap.size := by omega)))) | fail
      all_goals
        go_wp2_with fail
        go_ret
        exact ⟨rfl, by (repeat' (first | (with_reducible exact Below.refl _ _) | (with_reducible assumption) | (with_reducible refine Below.drew ?_) | (with_reducible refine below_drewN ?_ _) | ((with_reducible refine Below.alloc ?_ ?_ _); rotate_left; focus (go_size; done)) | ((with_reducible refine Below.setCell ?_ ?_ _); rotate_left; focus (go_size; done)) | ((with_reducible refine Below.trans ?_ (Below.mono (by with_reducible assumption) ?_)); rotate_left; focus (go_size; done))))⟩
    · by_cases h1 : 18 < s
      · rw [dform_deep h1]
        have g3 : decide (s < 0) = false := by simp; omega
        generalize cmpN c B34 = cc at *
        generalize wd c 0 = x0 at *
        generalize wd c 1 = x1 at *
        clear hc hb
        generalize decide (c = 0) = zz at *
        go_enter Try.func16, Try.ntmps16
        go_wp2_with fail
        first | (go_region_held3 (fun w' => w'.cell? ⟨w.heap.size, 1, none⟩ = some (.int .u64 x1) ∧ w'.cell? ⟨w.heap.size, 2, none⟩ = some (.int .u64 x0) ∧ w'.cell? ⟨w.heap.size, 3, none⟩ = some (.int .i64 s)) (first | (first | (go_keep; done) | (simp [go_sem]; done) | ((try dsimp only); (repeat' apply And.intro) <;> (first | (with_reducible assumption) | ((rw [World.cell?_alloc_lt _ _ _ (by show _ < _; omega)]); go_split_ands; (first | with_reducible assumption | (refine (World.cell?_alloc_lt _ _ _ (by show _ < _; omega)).symm.trans ?_; with_reducible assumption))) | ((rw [World.cell?_setCell_other _ _ _ _ (by intro e; injection e; omega)]); with_reducible assumption) | (go_keep; done) | (simp [go_sem]; done) | (simp (disch := go_size) [*, World.cell?_alloc_some, World.cell?_setCell_far]; done))))) (first | ((go_at_call 55; with_reducible refine (HB.out _).mono ?_); rintro _ w1 ⟨rfl, hb1⟩; have hb1s := hb1.size; (try simp only [World.size_alloc, World.size_setCell, World.size_drew, World.heap_drewN] at hb1s); obtain ⟨hb1c, hb1f⟩ := bcell hb1; (try have : w.heap.size < w1.heap.size := by omega); (try have : w.heap.size + 1 < w1.heap.size := by omega); (try have : w.heap.size + 1 + 1 < w1.heap.size := by omega); (try have : w.heap.size + 1 + 1 + 1 < w1.heap.size := by omega)) | ((go_at_call 54; with_reducible refine (HC.out _).mono ?_); rintro _ w2 ⟨rfl, hb2⟩; have hb2s := hb2.size; (try simp only [World.size_alloc, World.size_setCell, World.size_drew, World.heap_drewN] at hb2s); obtain ⟨hb2c, hb2f⟩ := bcell hb2; (try have : w.heap.size < w2.heap.size := by omega); (try have : w.heap.size + 1 < w2.heap.size := by omega); (try have : w.heap.size + 1 + 1 < w2.heap.size := by omega); (try have : w.heap.size + 1 + 1 + 1 < w2.heap.size := by omega); (try have : w1.heap.size < w2.heap.size := by omega); (try have : w1.heap.size + 1 < w2.heap.size := by omega); (try have : w1.heap.size + 1 + 1 < w2.heap.size := by omega); (try have : w1.heap.size + 1 + 1 + 1 < w2.heap.size := by omega)))) | fail
        all_goals
          go_wp2_with fail
          go_ret
          exact ⟨rfl, by (repeat' (first | (with_reducible exact Below.refl _ _) | (with_reducible assumption) | (with_reducible refine Below.drew ?_) | (with_reducible refine below_drewN ?_ _) | ((with_reducible refine Below.alloc ?_ ?_ _); rotate_left; focus (go_size; done)) | ((with_reducible refine Below.setCell ?_ ?_ _); rotate_left; focus (go_size; done)) | ((with_reducible refine Below.trans ?_ (Below.mono (by with_reducible assumption) ?_)); rotate_left; focus (go_size; done))))⟩
      · rw [dform_in hb (by omega) (by omega)]
        have g3 : decide (s < 0) = false := by simp; omega
        have g4 : decide (18 < s) = false := by simp; omega
        by_cases hz : c = 0
        · rw [if_pos hz]
          rw [decide_eq_true hz] at HZ
          have g2 : (s == 0) = decide (s = 0) := by rw [Bool.eq_iff_iff]; simp
          generalize cmpN c B34 = cc at *
          generalize wd c 0 = x0 at *
          generalize wd c 1 = x1 at *
          clear hc hb
          generalize decide (s = 0) = sz at *
          clear hz
          cases b
          · go_enter Try.func16, Try.ntmps16
            go_wp2_with fail
            first | (go_region_held3 (fun w' => w'.cell? ⟨w.heap.size, 1, none⟩ = some (.int .u64 x1) ∧ w'.cell? ⟨w.heap.size, 2, none⟩ = some (.int .u64 x0) ∧ w'.cell? ⟨w.heap.size, 3, none⟩ = some (.int .i64 s)) (first | (first | (go_keep; done) | (simp [go_sem]; done) | ((try dsimp only); (repeat' apply And.intro) <;> (first | (with_reducible assumption) | ((rw [World.cell?_alloc_lt _ _ _ (by show _ < _; omega)]); go_split_ands; (first | with_reducible assumption | (refine (World.cell?_alloc_lt _ _ _ (by show _ < _; omega)).symm.trans ?_; with_reducible assumption))) | ((rw [World.cell?_setCell_other _ _ _ _ (by intro e; injection e; omega)]); with_reducible assumption) | (go_keep; done) | (simp [go_sem]; done) | (simp (disch := go_size) [*, World.cell?_alloc_some, World.cell?_setCell_far]; done))))) (first | ((go_at_call 55; with_reducible refine (HB.out _).mono ?_); rintro _ w1 ⟨rfl, hb1⟩; have hb1s := hb1.size; (try simp only [World.size_alloc, World.size_setCell, World.size_drew, World.heap_drewN] at hb1s); obtain ⟨hb1c, hb1f⟩ := bcell hb1; (try have : w.heap.size < w1.heap.size := by omega); (try have : w.heap.size + 1 < w1.heap.size := by omega); (try have : w.heap.size + 1 + 1 < w1.heap.size := by omega); (try have : w.heap.size + 1 + 1 + 1 < w1.heap.size := by omega)) | ((go_at_call 54; with_reducible refine (HC.out _).mono ?_); rintro _ w2 ⟨rfl, hb2⟩; have hb2s := hb2.size; (try simp only [World.size_alloc, World.size_setCell, World.size_drew, World.heap_drewN] at hb2s); obtain ⟨hb2c, hb2f⟩ := bcell hb2; (try have : w.heap.size < w2.heap.size := by omega); (try have : w.heap.size + 1 < w2.heap.size := by omega); (try have : w.heap.size + 1 + 1 < w2.heap.size := by omega); (try have : w.heap.size + 1 + 1 + 1 < w2.heap.size := by omega); (try have : w1.heap.size < w2.heap.size := by omega); (try have : w1.heap.size + 1 < w2.heap.size := by omega); (try have : w1.heap.size + 1 + 1 < w2.heap.size := by omega); (try have : w1.heap.size + 1 + 1 + 1 < w2.heap.size := by omega)))) | fail
            all_goals
              go_wp2_with ((go_at_call 56; with_reducible refine (HZ.out _).mono ?_); rintro _ w3 ⟨rfl, hb3⟩; have hb3s := hb3.size; (try simp only [World.size_alloc, World.size_setCell, World.size_drew, World.heap_drewN] at hb3s); obtain ⟨hb3c, hb3f⟩ := bcell hb3; (try have : w.heap.size < w3.heap.size := by omega); (try have : w.heap.size + 1 < w3.heap.size := by omega); (try have : w.heap.size + 1 + 1 < w3.heap.size := by omega); (try have : w.heap.size + 1 + 1 + 1 < w3.heap.size := by omega); (try have : w1.heap.size < w3.heap.size := by omega); (try have : w1.heap.size + 1 < w3.heap.size := by omega); (try have : w1.heap.size + 1 + 1 < w3.heap.size := by omega); (try have : w1.heap.size + 1 + 1 + 1 < w3.heap.size := by omega); (try have : w2.heap.size < w3.heap.size := by omega); (try have : w2.heap.size + 1 < w3.heap.size := by omega); (try have : w2.heap.size + 1 + 1 < w3.heap.size := by omega); (try have : w2.heap.size + 1 + 1 + 1 < w3.heap.size := by omega))
              go_ret
              exact ⟨by simp, by (repeat' (first | (with_reducible exact Below.refl _ _) | (with_reducible assumption) | (with_reducible refine Below.drew ?_) | (with_reducible refine below_drewN ?_ _) | ((with_reducible refine Below.alloc ?_ ?_ _); rotate_left; focus (go_size; done)) | ((with_reducible refine Below.setCell ?_ ?_ _); rotate_left; focus (go_size; done)) | ((with_reducible refine Below.trans ?_ (Below.mono (by with_reducible assumption) ?_)); rotate_left; focus (go_size; done))))⟩
          · go_enter Try.func16, Try.ntmps16
            go_wp2_with fail
            first | (go_region_held3 (fun w' => w'.cell? ⟨w.heap.size, 1, none⟩ = some (.int .u64 x1) ∧ w'.cell? ⟨w.heap.size, 2, none⟩ = some (.int .u64 x0) ∧ w'.cell? ⟨w.heap.size, 3, none⟩ = some (.int .i64 s)) (first | (first | (go_keep; done) | (simp [go_sem]; done) | ((try dsimp only); (repeat' apply And.intro) <;> (first | (with_reducible assumption) | ((rw [World.cell?_alloc_lt _ _ _ (by show _ < _; omega)]); go_split_ands; (first | with_reducible assumption | (refine (World.cell?_alloc_lt _ _ _ (by show _ < _; omega)).symm.trans ?_; with_reducible assumption))) | ((rw [World.cell?_setCell_other _ _ _ _ (by intro e; injection e; omega)]); with_reducible assumption) | (go_keep; done) | (simp [go_sem]; done) | (simp (disch := go_size) [*, World.cell?_alloc_some, World.cell?_setCell_far]; done))))) (first | ((go_at_call 55; with_reducible refine (HB.out _).mono ?_); rintro _ w1 ⟨rfl, hb1⟩; have hb1s := hb1.size; (try simp only [World.size_alloc, World.size_setCell, World.size_drew, World.heap_drewN] at hb1s); obtain ⟨hb1c, hb1f⟩ := bcell hb1; (try have : w.heap.size < w1.heap.size := by omega); (try have : w.heap.size + 1 < w1.heap.size := by omega); (try have : w.heap.size + 1 + 1 < w1.heap.size := by omega); (try have : w.heap.size + 1 + 1 + 1 < w1.heap.size := by omega)) | ((go_at_call 54; with_reducible refine (HC.out _).mono ?_); rintro _ w2 ⟨rfl, hb2⟩; have hb2s := hb2.size; (try simp only [World.size_alloc, World.size_setCell, World.size_drew, World.heap_drewN] at hb2s); obtain ⟨hb2c, hb2f⟩ := bcell hb2; (try have : w.heap.size < w2.heap.size := by omega); (try have : w.heap.size + 1 < w2.heap.size := by omega); (try have : w.heap.size + 1 + 1 < w2.heap.size := by omega); (try have : w.heap.size + 1 + 1 + 1 < w2.heap.size := by omega); (try have : w1.heap.size < w2.heap.size := by omega); (try have : w1.heap.size + 1 < w2.heap.size := by omega); (try have : w1.heap.size + 1 + 1 < w2.heap.size := by omega); (try have : w1.heap.size + 1 + 1 + 1 < w2.heap.size := by omega)))) | fail
            all_goals
              go_wp2_with ((go_at_call 56; with_reducible refine (HZ.out _).mono ?_); rintro _ w3 ⟨rfl, hb3⟩; have hb3s := hb3.size; (try simp only [World.size_alloc, World.size_setCell, World.size_drew, World.heap_drewN] at hb3s); obtain ⟨hb3c, hb3f⟩ := bcell hb3; (try have : w.heap.size < w3.heap.size := by omega); (try have : w.heap.size + 1 < w3.heap.size := by omega); (try have : w.heap.size + 1 + 1 < w3.heap.size := by omega); (try have : w.heap.size + 1 + 1 + 1 < w3.heap.size := by omega); (try have : w1.heap.size < w3.heap.size := by omega); (try have : w1.heap.size + 1 < w3.heap.size := by omega); (try have : w1.heap.size + 1 + 1 < w3.heap.size := by omega); (try have : w1.heap.size + 1 + 1 + 1 < w3.heap.size := by omega); (try have : w2.heap.size < w3.heap.size := by omega); (try have : w2.heap.size + 1 < w3.heap.size := by omega); (try have : w2.heap.size + 1 + 1 < w3.heap.size := by omega); (try have : w2.heap.size + 1 + 1 + 1 < w3.heap.size := by omega))
              go_ret
              exact ⟨by simp, by (repeat' (first | (with_reducible exact Below.refl _ _) | (with_reducible assumption) | (with_reducible refine Below.drew ?_) | (with_reducible refine below_drewN ?_ _) | ((with_reducible refine Below.alloc ?_ ?_ _); rotate_left; focus (go_size; done)) | ((with_reducible refine Below.setCell ?_ ?_ _); rotate_left; focus (go_size; done)) | ((with_reducible refine Below.trans ?_ (Below.mono (by with_reducible assumption) ?_)); rotate_left; focus (go_size; done))))⟩
        · rw [if_neg hz]
          rw [decide_eq_false hz] at HZ
          obtain ⟨T, k, ht⟩ := tz_upto c 34 hz hb
          have HT := Lib.hid (fun W => trim_any c T k hc ht W)
          have hk : decide (c % 10 ≠ 0) = decide ((k : Int) = 0) := by
            rw [Bool.eq_iff_iff]
            simp only [decide_eq_true_eq]
            constructor
            · intro h
              rcases Nat.eq_zero_or_pos k with h0 | h0
              · omega
              · exact absurd (by have := ht.mod_lt (t := 0) h0; rwa [Nat.pow_zero, Nat.div_one] at this) h
            · intro h
              obtain rfl : k = 0 := by omega
              have := ht.2
              have e := ht.1
              rw [Nat.pow_zero, Nat.mul_one] at e
              rw [e]; exact this
          rw [hk]
          have k0 : (0 : Int) ≤ (k : Int) := by omega
          generalize cmpN c B34 = cc at *
          generalize wd c 0 = x0 at *
          generalize wd c 1 = x1 at *
          clear hc hb
          generalize wd T 0 = y0 at *
          generalize wd T 1 = y1 at *
          clear hz ht hk
          by_cases hs : s = 0
          · have g2 : (s == 0) = true := by simpa using hs
            rw [decide_eq_true hs]
            have HS := Lib.hid hs
            clear hs
            go_enter Try.func16, Try.ntmps16
            go_wp2_with fail
            first | (go_region_held3 (fun w' => w'.cell? ⟨w.heap.size, 1, none⟩ = some (.int .u64 x1) ∧ w'.cell? ⟨w.heap.size, 2, none⟩ = some (.int .u64 x0) ∧ w'.cell? ⟨w.heap.size, 3, none⟩ = some (.int .i64 s)) (first | (first | (go_keep; done) | (simp [go_sem]; done) | ((try dsimp only); (repeat' apply And.intro) <;> (first | (with_reducible assumption) | ((rw [World.cell?_alloc_lt _ _ _ (by show _ < _; omega)]); go_split_ands; (first | with_reducible assumption | (refine (World.cell?_alloc_lt _ _ _ (by show _ < _; omega)).symm.trans ?_; with_reducible assumption))) | ((rw [World.cell?_setCell_other _ _ _ _ (by intro e; injection e; omega)]); with_reducible assumption) | (go_keep; done) | (simp [go_sem]; done) | (simp (disch := go_size) [*, World.cell?_alloc_some, World.cell?_setCell_far]; done))))) (first | ((go_at_call 55; with_reducible refine (HB.out _).mono ?_); rintro _ w1 ⟨rfl, hb1⟩; have hb1s := hb1.size; (try simp only [World.size_alloc, World.size_setCell, World.size_drew, World.heap_drewN] at hb1s); obtain ⟨hb1c, hb1f⟩ := bcell hb1; (try have : w.heap.size < w1.heap.size := by omega); (try have : w.heap.size + 1 < w1.heap.size := by omega); (try have : w.heap.size + 1 + 1 < w1.heap.size := by omega); (try have : w.heap.size + 1 + 1 + 1 < w1.heap.size := by omega)) | ((go_at_call 54; with_reducible refine (HC.out _).mono ?_); rintro _ w2 ⟨rfl, hb2⟩; have hb2s := hb2.size; (try simp only [World.size_alloc, World.size_setCell, World.size_drew, World.heap_drewN] at hb2s); obtain ⟨hb2c, hb2f⟩ := bcell hb2; (try have : w.heap.size < w2.heap.size := by omega); (try have : w.heap.size + 1 < w2.heap.size := by omega); (try have : w.heap.size + 1 + 1 < w2.heap.size := by omega); (try have : w.heap.size + 1 + 1 + 1 < w2.heap.size := by omega); (try have : w1.heap.size < w2.heap.size := by omega); (try have : w1.heap.size + 1 < w2.heap.size := by omega); (try have : w1.heap.size + 1 + 1 < w2.heap.size := by omega); (try have : w1.heap.size + 1 + 1 + 1 < w2.heap.size := by omega)))) | fail
            all_goals
              go_wp2_with (first | ((go_at_call 56; with_reducible refine (HZ.out _).mono ?_); rintro _ w3 ⟨rfl, hb3⟩; have hb3s := hb3.size; (try simp only [World.size_alloc, World.size_setCell, World.size_drew, World.heap_drewN] at hb3s); obtain ⟨hb3c, hb3f⟩ := bcell hb3; (try have : w.heap.size < w3.heap.size := by omega); (try have : w.heap.size + 1 < w3.heap.size := by omega); (try have : w.heap.size + 1 + 1 < w3.heap.size := by omega); (try have : w.heap.size + 1 + 1 + 1 < w3.heap.size := by omega); (try have : w1.heap.size < w3.heap.size := by omega); (try have : w1.heap.size + 1 < w3.heap.size := by omega); (try have : w1.heap.size + 1 + 1 < w3.heap.size := by omega); (try have : w1.heap.size + 1 + 1 + 1 < w3.heap.size := by omega); (try have : w2.heap.size < w3.heap.size := by omega); (try have : w2.heap.size + 1 < w3.heap.size := by omega); (try have : w2.heap.size + 1 + 1 < w3.heap.size := by omega); (try have : w2.heap.size + 1 + 1 + 1 < w3.heap.size := by omega)) | ((go_at_call 57; with_reducible refine (HT.out _).mono ?_); rintro _ w4 ⟨rfl, hb4⟩; have hb4s := hb4.size; (try simp only [World.size_alloc, World.size_setCell, World.size_drew, World.heap_drewN] at hb4s); obtain ⟨hb4c, hb4f⟩ := bcell hb4; (try have : w.heap.size < w4.heap.size := by omega); (try have : w.heap.size + 1 < w4.heap.size := by omega); (try have : w.heap.size + 1 + 1 < w4.heap.size := by omega); (try have : w.heap.size + 1 + 1 + 1 < w4.heap.size := by omega); (try have : w1.heap.size < w4.heap.size := by omega); (try have : w1.heap.size + 1 < w4.heap.size := by omega); (try have : w1.heap.size + 1 + 1 < w4.heap.size := by omega); (try have : w1.heap.size + 1 + 1 + 1 < w4.heap.size := by omega); (try have : w2.heap.size < w4.heap.size := by omega); (try have : w2.heap.size + 1 < w4.heap.size := by omega); (try have : w2.heap.size + 1 + 1 < w4.heap.size := by omega); (try have : w2.heap.size + 1 + 1 + 1 < w4.heap.size := by omega); (try have : w3.heap.size < w4.heap.size := by omega); (try have : w3.heap.size + 1 < w4.heap.size := by omega); (try have : w3.heap.size + 1 + 1 < w4.heap.size := by omega); (try have : w3.heap.size + 1 + 1 + 1 < w4.heap.size := by omega)))
              go_ret
              exact ⟨rfl, by (repeat' (first | (with_reducible exact Below.refl _ _) | (with_reducible assumption) | (with_reducible refine Below.drew ?_) | (with_reducible refine below_drewN ?_ _) | ((with_reducible refine Below.alloc ?_ ?_ _); rotate_left; focus (go_size; done)) | ((with_reducible refine Below.setCell ?_ ?_ _); rotate_left; focus (go_size; done)) | ((with_reducible refine Below.trans ?_ (Below.mono (by with_reducible assumption) ?_)); rotate_left; focus (go_size; done))))⟩
          · have g2 : (s == 0) = false := by simpa using hs
            rw [decide_eq_false hs]
            clear hs
            go_enter Try.func16, Try.ntmps16
            go_wp2_with fail
            first | (go_region_held3 (fun w' => w'.cell? ⟨w.heap.size, 1, none⟩ = some (.int .u64 x1) ∧ w'.cell? ⟨w.heap.size, 2, none⟩ = some (.int .u64 x0) ∧ w'.cell? ⟨w.heap.size, 3, none⟩ = some (.int .i64 s)) (first | (first | (go_keep; done) | (simp [go_sem]; done) | ((try dsimp only); (repeat' apply And.intro) <;> (first | (with_reducible assumption) | ((rw [World.cell?_alloc_lt _ _ _ (by show _ < _; omega)]); go_split_ands; (first | with_reducible assumption | (refine (World.cell?_alloc_lt _ _ _ (by show _ < _; omega)).symm.trans ?_; with_reducible assumption))) | ((rw [World.cell?_setCell_other _ _ _ _ (by intro e; injection e; omega)]); with_reducible assumption) | (go_keep; done) | (simp [go_sem]; done) | (simp (disch := go_size) [*, World.cell?_alloc_some, World.cell?_setCell_far]; done))))) (first | ((go_at_call 55; with_reducible refine (HB.out _).mono ?_); rintro _ w1 ⟨rfl, hb1⟩; have hb1s := hb1.size; (try simp only [World.size_alloc, World.size_setCell, World.size_drew, World.heap_drewN] at hb1s); obtain ⟨hb1c, hb1f⟩ := bcell hb1; (try have : w.heap.size < w1.heap.size := by omega); (try have : w.heap.size + 1 < w1.heap.size := by omega); (try have : w.heap.size + 1 + 1 < w1.heap.size := by omega); (try have : w.heap.size + 1 + 1 + 1 < w1.heap.size := by omega)) | ((go_at_call 54; with_reducible refine (HC.out _).mono ?_); rintro _ w2 ⟨rfl, hb2⟩; have hb2s := hb2.size; (try simp only [World.size_alloc, World.size_setCell, World.size_drew, World.heap_drewN] at hb2s); obtain ⟨hb2c, hb2f⟩ := bcell hb2; (try have : w.heap.size < w2.heap.size := by omega); (try have : w.heap.size + 1 < w2.heap.size := by omega); (try have : w.heap.size + 1 + 1 < w2.heap.size := by omega); (try have : w.heap.size + 1 + 1 + 1 < w2.heap.size := by omega); (try have : w1.heap.size < w2.heap.size := by omega); (try have : w1.heap.size + 1 < w2.heap.size := by omega); (try have : w1.heap.size + 1 + 1 < w2.heap.size := by omega); (try have : w1.heap.size + 1 + 1 + 1 < w2.heap.size := by omega)))) | fail
            all_goals
              go_wp2_with (first | ((go_at_call 56; with_reducible refine (HZ.out _).mono ?_); rintro _ w3 ⟨rfl, hb3⟩; have hb3s := hb3.size; (try simp only [World.size_alloc, World.size_setCell, World.size_drew, World.heap_drewN] at hb3s); obtain ⟨hb3c, hb3f⟩ := bcell hb3; (try have : w.heap.size < w3.heap.size := by omega); (try have : w.heap.size + 1 < w3.heap.size := by omega); (try have : w.heap.size + 1 + 1 < w3.heap.size := by omega); (try have : w.heap.size + 1 + 1 + 1 < w3.heap.size := by omega); (try have : w1.heap.size < w3.heap.size := by omega); (try have : w1.heap.size + 1 < w3.heap.size := by omega); (try have : w1.heap.size + 1 + 1 < w3.heap.size := by omega); (try have : w1.heap.size + 1 + 1 + 1 < w3.heap.size := by omega); (try have : w2.heap.size < w3.heap.size := by omega); (try have : w2.heap.size + 1 < w3.heap.size := by omega); (try have : w2.heap.size + 1 + 1 < w3.heap.size := by omega); (try have : w2.heap.size + 1 + 1 + 1 < w3.heap.size := by omega)) | ((go_at_call 57; with_reducible refine (HT.out _).mono ?_); rintro _ w4 ⟨rfl, hb4⟩; have hb4s := hb4.size; (try simp only [World.size_alloc, World.size_setCell, World.size_drew, World.heap_drewN] at hb4s); obtain ⟨hb4c, hb4f⟩ := bcell hb4; (try have : w.heap.size < w4.heap.size := by omega); (try have : w.heap.size + 1 < w4.heap.size := by omega); (try have : w.heap.size + 1 + 1 < w4.heap.size := by omega); (try have : w.heap.size + 1 + 1 + 1 < w4.heap.size := by omega); (try have : w1.heap.size < w4.heap.size := by omega); (try have : w1.heap.size + 1 < w4.heap.size := by omega); (try have : w1.heap.size + 1 + 1 < w4.heap.size := by omega); (try have : w1.heap.size + 1 + 1 + 1 < w4.heap.size := by omega); (try have : w2.heap.size < w4.heap.size := by omega); (try have : w2.heap.size + 1 < w4.heap.size := by omega); (try have : w2.heap.size + 1 + 1 < w4.heap.size := by omega); (try have : w2.heap.size + 1 + 1 + 1 < w4.heap.size := by omega); (try have : w3.heap.size < w4.heap.size := by omega); (try have : w3.heap.size + 1 < w4.heap.size := by omega); (try have : w3.heap.size + 1 + 1 < w4.heap.size := by omega); (try have : w3.heap.size + 1 + 1 + 1 < w4.heap.size := by omega)))
              go_ret
              exact ⟨ret_bool (by rw [Bool.eq_iff_iff]; simp), by (repeat' (first | (with_reducible exact Below.refl _ _) | (with_reducible assumption) | (with_reducible refine Below.drew ?_) | (with_reducible refine below_drewN ?_ _) | ((with_reducible refine Below.alloc ?_ ?_ _); rotate_left; focus (go_size; done)) | ((with_reducible refine Below.setCell ?_ ?_ _); rotate_left; focus (go_size; done)) | ((with_reducible refine Below.trans ?_ (Below.mono (by with_reducible assumption) ?_)); rotate_left; focus (go_size; done))))⟩
  · have g1 := cmp_bound' hb
    have g1' : decide (0 ≤ cmpN c B34) = true := by simp; omega
    rw [dform_hi hb]
    generalize cmpN c B34 = cc at *
    generalize wd c 0 = x0 at *
    generalize wd c 1 = x1 at *
    clear hc hb
    generalize decide (c = 0) = zz at *
    go_enter Try.func16, Try.ntmps16
    go_wp2_with fail
    first | (go_region_with (first | ((go_at_call 55; with_reducible refine (HB.out _).mono ?_); rintro _ w1 ⟨rfl, hb1⟩; have hb1s := hb1.size; (try simp only [World.size_alloc, World.size_setCell, World.size_drew, World.heap_drewN] at hb1s); obtain ⟨hb1c, hb1f⟩ := bcell hb1; (try have : w.heap.size < w1.heap.size := by omega); (try have : w.heap.size + 1 < w1.heap.size := by omega); (try have : w.heap.size + 1 + 1 < w1.heap.size := by omega); (try have : w.heap.size + 1 + 1 + 1 < w1.heap.size := by omega)) | ((go_at_call 54; with_reducible refine (HC.out _).mono ?_); rintro _ w2 ⟨rfl, hb2⟩; have hb2s := hb2.size; (try simp only [World.size_alloc, World.size_setCell, World.size_drew, World.heap_drewN] at hb2s); obtain ⟨hb2c, hb2f⟩ := bcell hb2; (try have : w.heap.size < w2.heap.size := by omega); (try have : w.heap.size + 1 < w2.heap.size := by omega); (try have : w.heap.size + 1 + 1 < w2.heap.size := by omega); (try have : w.heap.size + 1 + 1 + 1 < w2.heap.size := by omega); (try have : w1.heap.size < w2.heap.size := by omega); (try have : w1.heap.size + 1 < w2.heap.size := by omega); (try have : w1.heap.size + 1 + 1 < w2.heap.size := by omega); (try have : w1.heap.size + 1 + 1 + 1 < w2.heap.size := by omega)))) | fail
    all_goals
      go_wp2_with fail
      go_ret
      exact ⟨rfl, by (repeat' (first | (with_reducible exact Below.refl _ _) | (with_reducible assumption) | (with_reducible refine Below.drew ?_) | (with_reducible refine below_drewN ?_ _) | ((with_reducible refine Below.alloc ?_ ?_ _); rotate_left; focus (go_size; done)) | ((with_reducible refine Below.setCell ?_ ?_ _); rotate_left; focus (go_size; done)) | ((with_reducible refine Below.trans ?_ (Below.mono (by with_reducible assumption) ?_)); rotate_left; focus (go_size; done))))⟩
end Go.Proofs.Ythkgjodidkpaeaa

set_option linter.unusedSimpArgs false
set_option linter.unusedVariables false
namespace Go.Proofs.Ythkgjodidkpaeaa
open Go.RowKit

theorem len_34 {l : List Int} {n : Nat} (h : IsDg l n) : l.length ≤ 34 ↔ n < B34 := ⟨fun hl => h.lt_of_len hl, fun hn => h.len_le hn⟩
theorem B34_small {n : Nat} (h : n < B34) : Tiny n := lt_128_tiny (Nat.lt_trans h B34_lt)
set_option maxHeartbeats 1000000 in
theorem one_any (k : Nat) (hk : k ≤ 998) (w : World) : Calls Try.prog 61 #[.int .i64 k] w (RetDg (10 ^ k) w) := by
  have HS := Lib.hid (fun W v hv => shift_any 1 k (by omega) v W hv small_one)
  rw [Nat.one_mul] at HS
  go_enter Try.func61, Try.ntmps61
  go_wp2_with fail
  refine (HS.out _ _ (dg_one (Bk.new_ rfl))).mono ?_
  rintro _ w1 ⟨v1, rfl, d1, hb1⟩; have hb1s := hb1.size; (try simp only [World.size_alloc, World.size_setCell, World.size_drew, World.heap_drewN] at hb1s); obtain ⟨hb1c, hb1f⟩ := bcell hb1; (try have : w.heap.size < w1.heap.size := by omega); (try have : w.heap.size + 1 < w1.heap.size := by omega); (try have : w.heap.size + 1 + 1 < w1.heap.size := by omega); (try have : w.heap.size + 1 + 1 + 1 < w1.heap.size := by omega); have Hd1 := Lib.hid d1; clear d1
  go_wp2_with fail
  go_ret
  exact ⟨v1, rfl, Hd1.out, by (repeat' (first | (with_reducible exact Below.refl _ _) | (with_reducible assumption) | (with_reducible refine Below.drew ?_) | (with_reducible refine below_drewN ?_ _) | ((with_reducible refine Below.alloc ?_ ?_ _); rotate_left; focus (go_size; done)) | ((with_reducible refine Below.setCell ?_ ?_ _); rotate_left; focus (go_size; done)) | ((with_reducible refine Below.trans ?_ (Below.mono (by with_reducible assumption) ?_)); rotate_left; focus (go_size; done))))⟩
set_option maxHeartbeats 4000000 in
theorem make1_any (neg : Bool) (n s : Nat) (v : Value) (w : World) (hv : Dg w v n) (hn : n < B34) (hs : s ≤ 1000) : Calls Try.prog 58 #[.bool neg, v, .int .i64 s] w fun e w' => e = .returned (.agg #[.bool (sg neg (stripC n s)), .int .u64 (wd ((stripC n s)) 1), .int .u64 (wd ((stripC n s)) 0), .int .i64 (stripS n s)]) ∧ Below w.heap.size w w' := by
  have HB := B34_small hn
  by_cases h0 : n = 0
  · have e1 : stripC n s = 0 := stripC_zero.2 h0
    have e2 : stripS n s = 0 := by rw [h0]; exact (strip_nil s).2
    rw [e1, e2, wd_zero, wd_zero, sg_zero]
    obtain ⟨A, k, c, rfl, hk, hkc⟩ := dg_len hv
    obtain rfl : k = 0 := hk.2 h0
    clear hk hv h0 hn HB e1 e2
    go_enter Try.func58, Try.ntmps58
    go_wp2_with fail
    refine bodyPost_ret (by simp [results, Try.results58, go_sem, *]; try rfl) rfl ?_
    exact ⟨rfl, by (repeat' (first | (with_reducible exact Below.refl _ _) | (with_reducible assumption) | (with_reducible refine Below.drew ?_) | (with_reducible refine below_drewN ?_ _) | ((with_reducible refine Below.alloc ?_ ?_ _); rotate_left; focus (go_size; done)) | ((with_reducible refine Below.setCell ?_ ?_ _); rotate_left; focus (go_size; done)) | ((with_reducible refine Below.trans ?_ (Below.mono (by with_reducible assumption) ?_)); rotate_left; focus (go_size; done))))⟩
  · have hne : sg neg (stripC n s) = neg := sg_pos (fun e => h0 (stripC_zero.1 e))
    rw [hne]
    obtain ⟨C, hC⟩ : ∃ C, C = stripC n s := ⟨_, rfl⟩
    obtain ⟨S, hS⟩ : ∃ S, S = stripS n s := ⟨_, rfl⟩
    rw [← hC, ← hS]
    have EC := Far.mk hC
    have ES := Far.mk hS
    obtain ⟨A, k, c, rfl, hk, hkc⟩ := dg_len hv
    have hk0 : ((k : Int) == 0) = false := by simp; omega
    have hkp : (0 : Int) < (k : Int) := by omega
    have HV := Lib.hid hv
    have HH0 := Lib.hid h0
    have HN := Far.mk hn
    clear hC hS hv hn hne h0 hk
    go_enter Try.func58, Try.ntmps58
    go_wp2_with fail
    clear hkp hk0
    go_loopg [1, 2] s (fun kk v sv wr => ∃ m : Nat, sv = .int .i64 (kk : Int) ∧ kk ≤ 1000 ∧ Hid (m ≠ 0) ∧ Far (m < B34) ∧ Far (C = stripC m kk ∧ S = stripS m kk) ∧ Dg wr v m ∧ Bk wr w.heap.size 26 [.bool false, .int .u64 0, .int .u64 0, .int .i64 0] ∧ Below w.heap.size w wr)
    case atStart => exact ⟨n, rfl, hs, HH0, HN, Far.mk ⟨EC.out, ES.out⟩, HV.out.below (by (repeat' (first | (with_reducible exact Below.refl _ _) | (with_reducible assumption) | (with_reducible refine Below.drew ?_) | (with_reducible refine below_drewN ?_ _) | ((with_reducible refine Below.alloc ?_ ?_ _); rotate_left; focus (go_size; done)) | ((with_reducible refine Below.setCell ?_ ?_ _); rotate_left; focus (go_size; done)) | ((with_reducible refine Below.trans ?_ (Below.mono (by with_reducible assumption) ?_)); rotate_left; focus (go_size; done))))), by (repeat (first | (with_reducible assumption) | ((with_reducible refine Bk.new_ ?_); (first | rfl | (simp only [World.size_alloc, World.size_setCell, World.size_drew, World.heap_drewN]; done))) | (with_reducible refine Bk.alloc ?_ _) | (with_reducible refine Bk.drew ?_) | (with_reducible refine Bk.drewN ?_ _) | ((with_reducible refine Bk.far ?_ ?_ _); rotate_left; focus (simp only []; omega)) | ((with_reducible refine Bk.below ?_ (by with_reducible assumption) ?_); rotate_left; focus (go_size; done)))), by (repeat' (first | (with_reducible exact Below.refl _ _) | (with_reducible assumption) | (with_reducible refine Below.drew ?_) | (with_reducible refine below_drewN ?_ _) | ((with_reducible refine Below.alloc ?_ ?_ _); rotate_left; focus (go_size; done)) | ((with_reducible refine Below.setCell ?_ ?_ _); rotate_left; focus (go_size; done)) | ((with_reducible refine Below.trans ?_ (Below.mono (by with_reducible assumption) ?_)); rotate_left; focus (go_size; done))))⟩
    case round =>
      obtain ⟨m, rfl, hk1, hm0, hmb, hcs, hdg, b0, hbel⟩ := hrel
      have HB0 := Lib.hid b0
      have l0 := b0.lt
      obtain ⟨xs, ⟨A, c, rfl, hc, hs⟩, hd⟩ := hdg
      have hlen : xs.length ≤ 34 := (len_34 hd).2 hmb.out
      have hpos : 0 < xs.length := Nat.pos_of_ne_zero (fun e => hm0.out (hd.zero_iff.1 e))
      obtain ⟨g, o, rfl, hg, hcell⟩ := hs.at_ (k := 0) hpos
      have hdig := dval_digit hd.1 0 hpos
      rw [hd.2.2, Int.pow_zero, Int.ediv_one] at hdig
      have hdig2 : xs.getD 0 0 = ((m % 10 : Nat) : Int) := by rw [hdig]; rfl
      rw [hdig2, Nat.add_zero] at hcell
      have hl0 : (0 : Int) < (xs.length : Int) := by omega
      have HS := Lib.hid hs
      have HD := Lib.hid hd
      have HC := Lib.hid hc
      clear hs hd hdig hdig2 b0 hc
      by_cases hz : gk = 0
      · subst hz
        have hm10 : Far (C = m ∧ S = 0) := hcs
        have ht := hm10.out
        have HT := Lib.hid (fun W h => to_any m (.slice (some ⟨g, o, none⟩) xs.length c) W h (B34_small hmb.out).small)
        unfold RetWide at HT
        rw [Nat.mod_eq_of_lt (Nat.lt_trans (Nat.lt_trans hmb.out B34_lt) (by decide))] at HT
        generalize decide (m < 2 ^ 128) = fr at *
        have HDG : Hid (Dg wr (.slice (some ⟨g, o, none⟩) xs.length c) m) := Lib.hid ⟨xs, ⟨_, c, rfl, HC.out, HS.out⟩, HD.out⟩
        have hng : ¬ (0 : Int) < ((0 : Nat) : Int) := by omega
        clear ht
        go_wp2_with fail
        refine (HT.out _ HDG.out).mono ?_
        rintro _ w2 ⟨rfl, hb2⟩; have hb2s := hb2.size; (try simp only [World.size_alloc, World.size_setCell, World.size_drew, World.heap_drewN] at hb2s); obtain ⟨hb2c, hb2f⟩ := bcell hb2; (try have : w.heap.size < w2.heap.size := by omega); (try have : w.heap.size + 1 < w2.heap.size := by omega); (try have : w.heap.size + 1 + 1 < w2.heap.size := by omega); (try have : w.heap.size + 1 + 1 + 1 < w2.heap.size := by omega)
        have b0 := HB0.out
        have k0 : Bk w2 w.heap.size 26 [.bool false, .int .u64 0, .int .u64 0, .int .i64 0] := by (repeat (first | (with_reducible assumption) | ((with_reducible refine Bk.new_ ?_); (first | rfl | (simp only [World.size_alloc, World.size_setCell, World.size_drew, World.heap_drewN]; done))) | (with_reducible refine Bk.alloc ?_ _) | (with_reducible refine Bk.drew ?_) | (with_reducible refine Bk.drewN ?_ _) | ((with_reducible refine Bk.far ?_ ?_ _); rotate_left; focus (simp only []; omega)) | ((with_reducible refine Bk.below ?_ (by with_reducible assumption) ?_); rotate_left; focus (go_size; done))))
        have k_0 := k0.cell 0 rfl
        have k_1 := k0.cell 1 rfl
        have k_2 := k0.cell 2 rfl
        have k_3 := k0.cell 3 rfl
        have k_4 := k0.frozen 0
        have k_5 := k0.frozen 1
        have k_6 := k0.frozen 2
        have k_7 := k0.frozen 3
        have k0l := k0.lt
        clear b0 k0 hb2c hb2f
        go_wp2_with fail
        refine bodyPost_ret (by simp [results, Try.results58, go_sem, *]; try rfl) rfl ?_
        obtain ⟨e1, e2⟩ := hm10.out
        exact ⟨by rw [e1, e2]; rfl, by (repeat' (first | (with_reducible exact Below.refl _ _) | (with_reducible assumption) | (with_reducible refine Below.drew ?_) | (with_reducible refine below_drewN ?_ _) | ((with_reducible refine Below.alloc ?_ ?_ _); rotate_left; focus (go_size; done)) | ((with_reducible refine Below.setCell ?_ ?_ _); rotate_left; focus (go_size; done)) | ((with_reducible refine Below.trans ?_ (Below.mono (by with_reducible assumption) ?_)); rotate_left; focus (go_size; done))))⟩
      · obtain ⟨j, rfl⟩ : ∃ j, gk = j + 1 := ⟨gk - 1, by omega⟩
        have hj : (0 : Int) < ((j + 1 : Nat) : Int) := by omega
        by_cases hd10 : m % 10 = 0
        · have hcs' : Far (C = stripC (m / 10) j ∧ S = stripS (m / 10) j) := Far.mk (by
            obtain ⟨e1, e2⟩ := hcs.out
            rw [e1, e2]; exact strip_yes hd10 j)
          rw [hd10] at hcell
          obtain ⟨hdd, _⟩ := HD.out.drop_zeros 1 hpos (by
            intro t ht
            obtain rfl : t = 0 := by omega
            have := dval_digit HD.out.1 0 hpos
            rw [HD.out.2.2, Int.pow_zero, Int.ediv_one] at this
            rw [this]; omega)
          have hm1 : m / 10 ≠ 0 := by have := hm0.out; omega
          have hlen2 : 1 < xs.length := by
            rcases Nat.lt_or_ge 1 xs.length with h | h
            · exact h
            · have := HD.out.lt_of_len (k := 1) h
              omega
          have hsl : IsSl wr (.slice (some ⟨g, o + 1, none⟩) (xs.length - 1) (c - 1)) (xs.drop 1) := sl_drop HS.out hlen2 HC.out
          have HDG : Hid (Dg wr (.slice (some ⟨g, o + 1, none⟩) (xs.length - 1) (c - 1)) (m / 10)) := Lib.hid ⟨_, hsl, by rw [Nat.pow_one] at hdd; exact hdd⟩
          have hc1 : (1 : Int) ≤ (c : Int) := by have := HC.out; omega
          have hcne : ¬ c = 1 := by have := HC.out; omega
          have hl1 : (1 : Int) ≤ (xs.length : Int) := by omega
          have hmb' : Far (m / 10 < B34) := Far.mk (by have := hmb.out; omega)
          have HM1 := Lib.hid hm1
          clear hdd hsl hm1 hd10 hcs hmb hm0
          go_wp2_with fail
          go_roundg j
          case measure => omega
          case rel =>
            refine ⟨m / 10, ?_, by omega, HM1, hmb', hcs', ?_, HB0.out, hbel⟩
            · congr 1
            · exact HDG.out
        · have hm10 : Far (C = m ∧ S = j + 1) := Far.mk (by
            obtain ⟨e1, e2⟩ := hcs.out
            rw [e1, e2]; exact strip_no hd10 (j + 1))
          have hne : ((((m % 10 : Nat) : Int)) == 0) = false := by simp; omega
          obtain ⟨d, hdd⟩ : ∃ d : Int, d = ((m % 10 : Nat) : Int) := ⟨_, rfl⟩
          rw [← hdd] at hcell hne
          have HT := Lib.hid (fun W h => to_any m (.slice (some ⟨g, o, none⟩) xs.length c) W h (B34_small hmb.out).small)
          unfold RetWide at HT
          rw [Nat.mod_eq_of_lt (Nat.lt_trans (Nat.lt_trans hmb.out B34_lt) (by decide))] at HT
          generalize decide (m < 2 ^ 128) = fr at *
          have HDG : Hid (Dg wr (.slice (some ⟨g, o, none⟩) xs.length c) m) := Lib.hid ⟨xs, ⟨_, c, rfl, HC.out, HS.out⟩, HD.out⟩
          clear hdd hd10 hcs
          go_wp2_with fail
          refine (HT.out _ HDG.out).mono ?_
          rintro _ w2 ⟨rfl, hb2⟩; have hb2s := hb2.size; (try simp only [World.size_alloc, World.size_setCell, World.size_drew, World.heap_drewN] at hb2s); obtain ⟨hb2c, hb2f⟩ := bcell hb2; (try have : w.heap.size < w2.heap.size := by omega); (try have : w.heap.size + 1 < w2.heap.size := by omega); (try have : w.heap.size + 1 + 1 < w2.heap.size := by omega); (try have : w.heap.size + 1 + 1 + 1 < w2.heap.size := by omega)
          have b0 := HB0.out
          have k0 : Bk w2 w.heap.size 26 [.bool false, .int .u64 0, .int .u64 0, .int .i64 0] := by (repeat (first | (with_reducible assumption) | ((with_reducible refine Bk.new_ ?_); (first | rfl | (simp only [World.size_alloc, World.size_setCell, World.size_drew, World.heap_drewN]; done))) | (with_reducible refine Bk.alloc ?_ _) | (with_reducible refine Bk.drew ?_) | (with_reducible refine Bk.drewN ?_ _) | ((with_reducible refine Bk.far ?_ ?_ _); rotate_left; focus (simp only []; omega)) | ((with_reducible refine Bk.below ?_ (by with_reducible assumption) ?_); rotate_left; focus (go_size; done))))
          have k_0 := k0.cell 0 rfl
          have k_1 := k0.cell 1 rfl
          have k_2 := k0.cell 2 rfl
          have k_3 := k0.cell 3 rfl
          have k_4 := k0.frozen 0
          have k_5 := k0.frozen 1
          have k_6 := k0.frozen 2
          have k_7 := k0.frozen 3
          have k0l := k0.lt
          clear b0 k0 hb2c hb2f
          go_wp2_with fail
          refine bodyPost_ret (by simp [results, Try.results58, go_sem, *]; try rfl) rfl ?_
          obtain ⟨e1, e2⟩ := hm10.out
          exact ⟨by rw [e1, e2]; first | rfl | (congr; omega), by (repeat' (first | (with_reducible exact Below.refl _ _) | (with_reducible assumption) | (with_reducible refine Below.drew ?_) | (with_reducible refine below_drewN ?_ _) | ((with_reducible refine Below.alloc ?_ ?_ _); rotate_left; focus (go_size; done)) | ((with_reducible refine Below.setCell ?_ ?_ _); rotate_left; focus (go_size; done)) | ((with_reducible refine Below.trans ?_ (Below.mono (by with_reducible assumption) ?_)); rotate_left; focus (go_size; done))))⟩
end Go.Proofs.Ythkgjodidkpaeaa

set_option linter.unusedSimpArgs false
set_option linter.unusedVariables false
namespace Go.Proofs.Ythkgjodidkpaeaa
open Go.RowKit

/-- a bound that bears a shift by eighteen places -/
def Slim (n : Nat) : Prop := True → n < 10 ^ 900
theorem Slim.of_lt {n k : Nat} (h : n < 10 ^ k) (hk : k ≤ 900) : Slim n := fun _ => Nat.lt_of_lt_of_le h (ten_le k 900 hk)
theorem Slim.tiny {n : Nat} (h : Slim n) : Tiny n := fun t => Nat.lt_of_lt_of_le (h t) (ten_le 900 999 (by decide))
theorem slim_key {n s : Nat} (a : Nat) (h : n < 10 ^ a) : n * 10 ^ s < 10 ^ (a + s) := by
  have h1 := Nat.mul_lt_mul_of_pos_right h (show 0 < 10 ^ s from Nat.pow_pos (by decide))
  rwa [← Nat.pow_add] at h1
theorem Slim.shift {n s : Nat} (h : Slim n) (hs : s ≤ 18) : Tiny (n * 10 ^ s) := fun t =>
  Nat.lt_of_lt_of_le (slim_key 900 (h t)) (ten_le (900 + s) 999 (by omega))
theorem fitd_yes {n d j : Nat} (h : near (n * 10 ^ j) d < B34) (e : fin (fitK n d (K19 n)) = fin (fitK n d (j + 1))) :
    FitC n d = stripC (near (n * 10 ^ j) d) j ∧ FitS n d = stripS (near (n * 10 ^ j) d) j ∧ FitE n d = 0 := by
  unfold FitC FitS FitE
  rw [e, fitK_yes h]
  exact ⟨rfl, rfl, rfl⟩
theorem fitd_no {n d j : Nat} (h : ¬ near (n * 10 ^ j) d < B34) (e : fin (fitK n d (K19 n)) = fin (fitK n d (j + 1))) : fin (fitK n d (K19 n)) = fin (fitK n d j) := by
  rw [e, fitK_no h]
theorem fitd_end {n d : Nat} (e : fin (fitK n d (K19 n)) = fin (fitK n d 0)) : FitC n d = 0 ∧ FitS n d = 0 ∧ FitE n d = 3 := by
  unfold FitC FitS FitE
  rw [e]
  exact ⟨rfl, rfl, rfl⟩
set_option maxHeartbeats 4000000 in
theorem rfit_any (neg : Bool) (n d : Nat) (u v : Value) (w : World) (hu : Dg w u n) (hv : Dg w v d) (hn : Slim n) (hd : Slim d) (h0 : 0 < d) : Calls Try.prog 60 #[.bool neg, u, v] w fun e w' => e = .returned (.tuple #[.agg #[.bool (sg neg (FitC (n) (d))), .int .u64 (wd (FitC (n) (d)) 1), .int .u64 (wd (FitC (n) (d)) 0), .int .i64 (FitS (n) (d))], .int .i64 (FitE n d)]) ∧ Below w.heap.size w w' := by
  have HU := Lib.hid hu
  have HV := Lib.hid hv
  have HN := Lib.hid hn
  have HD := Lib.hid hd
  have HP := Lib.hid h0
  obtain ⟨C, hC⟩ : ∃ C, C = FitC n d := ⟨_, rfl⟩
  obtain ⟨S, hS⟩ : ∃ S, S = FitS n d := ⟨_, rfl⟩
  obtain ⟨E, hE⟩ : ∃ E, E = FitE n d := ⟨_, rfl⟩
  rw [← hC, ← hS, ← hE]
  have EC := Far.mk hC
  have ES := Far.mk hS
  have EE := Far.mk hE
  have H19 := Far.mk (K19_eq n)
  clear hC hS hE hu hv hn hd h0
  go_enter Try.func60, Try.ntmps60
  go_wp2_with fail
  go_loopg [8] 19 (fun kk sv wr => kk ≤ 19 ∧ sv = .int .i64 ((kk : Int) - 1) ∧ Far (fin (fitK n d (K19 n)) = fin (fitK n d kk)) ∧ Bk wr w.heap.size 26 [.bool false, .int .u64 0, .int .u64 0, .int .i64 0] ∧ Below w.heap.size w wr)
  case atStart => exact ⟨Nat.le_refl _, rfl, Far.mk (by rw [H19.out]), by (repeat (first | (with_reducible assumption) | ((with_reducible refine Bk.new_ ?_); (first | rfl | (simp only [World.size_alloc, World.size_setCell, World.size_drew, World.heap_drewN]; done))) | (with_reducible refine Bk.alloc ?_ _) | (with_reducible refine Bk.drew ?_) | (with_reducible refine Bk.drewN ?_ _) | ((with_reducible refine Bk.far ?_ ?_ _); rotate_left; focus (simp only []; omega)) | ((with_reducible refine Bk.below ?_ (by with_reducible assumption) ?_); rotate_left; focus (go_size; done)))), by (repeat' (first | (with_reducible exact Below.refl _ _) | (with_reducible assumption) | (with_reducible refine Below.drew ?_) | (with_reducible refine below_drewN ?_ _) | ((with_reducible refine Below.alloc ?_ ?_ _); rotate_left; focus (go_size; done)) | ((with_reducible refine Below.setCell ?_ ?_ _); rotate_left; focus (go_size; done)) | ((with_reducible refine Below.trans ?_ (Below.mono (by with_reducible assumption) ?_)); rotate_left; focus (go_size; done))))⟩
  case round =>
    obtain ⟨hk19, rfl, he, b0, hbel⟩ := hrel
    have HB0 := Lib.hid b0
    have l0 := b0.lt
    by_cases hz : gk = 0
    · subst hz
      have hm : ¬ (0 : Int) ≤ ((0 : Nat) : Int) - 1 := by omega
      have b0_0 := b0.cell 0 rfl
      have b0_1 := b0.cell 1 rfl
      have b0_2 := b0.cell 2 rfl
      have b0_3 := b0.cell 3 rfl
      have b0_4 := b0.frozen 0
      have b0_5 := b0.frozen 1
      have b0_6 := b0.frozen 2
      have b0_7 := b0.frozen 3
      clear b0
      go_wp2_with fail
      refine bodyPost_ret (by simp [results, Try.results60, go_sem, *]; try rfl) rfl ?_
      obtain ⟨e1, e2, e3⟩ := fitd_end he.out
      exact ⟨by rw [EC.out, ES.out, EE.out, e1, e2, e3, wd_zero, wd_zero, sg_zero]; rfl, by (repeat' (first | (with_reducible exact Below.refl _ _) | (with_reducible assumption) | (with_reducible refine Below.drew ?_) | (with_reducible refine below_drewN ?_ _) | ((with_reducible refine Below.alloc ?_ ?_ _); rotate_left; focus (go_size; done)) | ((with_reducible refine Below.setCell ?_ ?_ _); rotate_left; focus (go_size; done)) | ((with_reducible refine Below.trans ?_ (Below.mono (by with_reducible assumption) ?_)); rotate_left; focus (go_size; done))))⟩
    · obtain ⟨j, rfl⟩ : ∃ j, gk = j + 1 := ⟨gk - 1, by omega⟩
      have hx : ((j + 1 : Nat) : Int) - 1 = (j : Int) := by omega
      rw [hx]
      have j0 : (0 : Int) ≤ (j : Int) := by omega
      have hnear := near_small (HN.out.shift (s := j) (by omega)) d
      have HNS := Lib.hid hnear
      clear hx b0 hnear
      go_wp2_with fail
      refine (shift_any n j (by omega) _ _ (HU.out.below hbel) HN.out.tiny.small).mono ?_
      rintro _ w1 ⟨v1, rfl, d1, hb1⟩; have hb1s := hb1.size; (try simp only [World.size_alloc, World.size_setCell, World.size_drew, World.heap_drewN] at hb1s); obtain ⟨hb1c, hb1f⟩ := bcell hb1; (try have : w.heap.size < w1.heap.size := by omega); (try have : w.heap.size + 1 < w1.heap.size := by omega); (try have : w.heap.size + 1 + 1 < w1.heap.size := by omega); (try have : w.heap.size + 1 + 1 + 1 < w1.heap.size := by omega); have Hd1 := Lib.hid d1; clear d1
      go_wp2_with fail
      refine (near_any (n * 10 ^ j) d HP.out _ _ _ Hd1.out ((HV.out.below hbel).below hb1) (HN.out.shift (by omega)) HD.out.tiny).mono ?_
      rintro _ w2 ⟨v2, rfl, d2, hb2⟩; have hb2s := hb2.size; (try simp only [World.size_alloc, World.size_setCell, World.size_drew, World.heap_drewN] at hb2s); obtain ⟨hb2c, hb2f⟩ := bcell hb2; (try have : w.heap.size < w2.heap.size := by omega); (try have : w.heap.size + 1 < w2.heap.size := by omega); (try have : w.heap.size + 1 + 1 < w2.heap.size := by omega); (try have : w.heap.size + 1 + 1 + 1 < w2.heap.size := by omega); have Hd2 := Lib.hid d2; clear d2
      have hyes := fitd_yes (n := n) (d := d) (j := j)
      have hno := fitd_no (n := n) (d := d) (j := j)
      have HYES := Far.mk hyes
      have HNO := Far.mk hno
      generalize near (n * 10 ^ j) d = q at *
      have r0 : Bk w2 w.heap.size 26 [.bool false, .int .u64 0, .int .u64 0, .int .i64 0] := by
        have b0 := HB0.out
        (repeat (first | (with_reducible assumption) | ((with_reducible refine Bk.new_ ?_); (first | rfl | (simp only [World.size_alloc, World.size_setCell, World.size_drew, World.heap_drewN]; done))) | (with_reducible refine Bk.alloc ?_ _) | (with_reducible refine Bk.drew ?_) | (with_reducible refine Bk.drewN ?_ _) | ((with_reducible refine Bk.far ?_ ?_ _); rotate_left; focus (simp only []; omega)) | ((with_reducible refine Bk.below ?_ (by with_reducible assumption) ?_); rotate_left; focus (go_size; done))))
      have HR0 := Lib.hid r0
      have mb : Below w.heap.size w w2 := by (repeat' (first | (with_reducible exact Below.refl _ _) | (with_reducible assumption) | (with_reducible refine Below.drew ?_) | (with_reducible refine below_drewN ?_ _) | ((with_reducible refine Below.alloc ?_ ?_ _); rotate_left; focus (go_size; done)) | ((with_reducible refine Below.setCell ?_ ?_ _); rotate_left; focus (go_size; done)) | ((with_reducible refine Below.trans ?_ (Below.mono (by with_reducible assumption) ?_)); rotate_left; focus (go_size; done))))
      clear hyes hno hb1c hb1f hb2c hb2f r0
      obtain ⟨xs, ⟨A, c, rfl, hc, hs⟩, hd⟩ := Hd2.out
      have h34 := len_34 hd
      by_cases hq : q < B34
      · obtain ⟨e1, e2, e3⟩ := HYES.out hq he.out
        have HM := Lib.hid (fun W hv => make1_any neg q j (.slice A xs.length c) W hv hq (by omega))
        rw [← e1, ← e2, ← EC.out, ← ES.out] at HM
        have E3 := Far.mk e3
        have hl : (xs.length : Int) ≤ 34 := by have := h34.2 hq; omega
        clear hq e1 e2 e3 HYES HNO he h34 hc hs hd
        go_wp2_with fail
        refine (HM.out _ Hd2.out).mono ?_
        rintro _ w3 ⟨rfl, hb3⟩; have hb3s := hb3.size; (try simp only [World.size_alloc, World.size_setCell, World.size_drew, World.heap_drewN] at hb3s); obtain ⟨hb3c, hb3f⟩ := bcell hb3; (try have : w.heap.size < w3.heap.size := by omega); (try have : w.heap.size + 1 < w3.heap.size := by omega); (try have : w.heap.size + 1 + 1 < w3.heap.size := by omega); (try have : w.heap.size + 1 + 1 + 1 < w3.heap.size := by omega)
        have k0 : Bk w3 w.heap.size 26 [.bool false, .int .u64 0, .int .u64 0, .int .i64 0] := by
          have r0 := HR0.out
          (repeat (first | (with_reducible assumption) | ((with_reducible refine Bk.new_ ?_); (first | rfl | (simp only [World.size_alloc, World.size_setCell, World.size_drew, World.heap_drewN]; done))) | (with_reducible refine Bk.alloc ?_ _) | (with_reducible refine Bk.drew ?_) | (with_reducible refine Bk.drewN ?_ _) | ((with_reducible refine Bk.far ?_ ?_ _); rotate_left; focus (simp only []; omega)) | ((with_reducible refine Bk.below ?_ (by with_reducible assumption) ?_); rotate_left; focus (go_size; done))))
        have k0_0 := k0.cell 0 rfl
        have k0_1 := k0.cell 1 rfl
        have k0_2 := k0.cell 2 rfl
        have k0_3 := k0.cell 3 rfl
        have k0_4 := k0.frozen 0
        have k0_5 := k0.frozen 1
        have k0_6 := k0.frozen 2
        have k0_7 := k0.frozen 3
        have k0l := k0.lt
        clear k0 hb3c hb3f
        go_wp2_with fail
        refine bodyPost_ret (by simp [results, Try.results60, go_sem, *]; try rfl) rfl ?_
        exact ⟨by rw [EE.out, E3.out], by (repeat' (first | (with_reducible exact Below.refl _ _) | (with_reducible assumption) | (with_reducible refine Below.drew ?_) | (with_reducible refine below_drewN ?_ _) | ((with_reducible refine Below.alloc ?_ ?_ _); rotate_left; focus (go_size; done)) | ((with_reducible refine Below.setCell ?_ ?_ _); rotate_left; focus (go_size; done)) | ((with_reducible refine Below.trans ?_ (Below.mono (by with_reducible assumption) ?_)); rotate_left; focus (go_size; done))))⟩
      · have HNX := Far.mk (HNO.out hq he.out)
        have hl : ¬ (xs.length : Int) ≤ 34 := by
          have := mt h34.1 hq
          omega
        clear hq HYES HNO he h34 hc hs hd
        go_wp2_with fail
        go_roundg j
        case measure => omega
        case rel => exact ⟨by omega, rfl, HNX, HR0.out, mb⟩
end Go.Proofs.Ythkgjodidkpaeaa

set_option linter.unusedSimpArgs false
set_option linter.unusedVariables false
namespace Go.Proofs.Ythkgjodidkpaeaa
open Go.RowKit

set_option maxHeartbeats 4000000 in
theorem rform_any (b : Bool) (c : Nat) (s : Int) (hc : c < 2 ^ 128) (w : World) : Calls Try.prog 13 #[.agg #[.bool b, .int .u64 (wd (c) 1), .int .u64 (wd (c) 0), .int .i64 s]] w fun e w' => e = .returned (.bool (dform b c s)) ∧ Below w.heap.size w w' := by
  have HO := Lib.hid (fun W => of_any c hc W)
  obtain ⟨x0, hx0⟩ : ∃ x, x = wd c 0 := ⟨_, rfl⟩
  obtain ⟨x1, hx1⟩ : ∃ x, x = wd c 1 := ⟨_, rfl⟩
  rw [← hx0, ← hx1] at HO
  rw [← hx0, ← hx1]
  obtain ⟨f, hf⟩ : ∃ f, f = dform b c s := ⟨_, rfl⟩
  rw [← hf]
  have HF := Far.mk hf
  clear hx0 hx1 hc hf
  go_enter Try.func13, Try.ntmps13
  go_wp2_with fail
  refine (HO.out _).mono ?_
  rintro _ w1 ⟨v1, rfl, d1, hb1⟩; have hb1s := hb1.size; (try simp only [World.size_alloc, World.size_setCell, World.size_drew, World.heap_drewN] at hb1s); obtain ⟨hb1c, hb1f⟩ := bcell hb1; (try have : w.heap.size < w1.heap.size := by omega); (try have : w.heap.size + 1 < w1.heap.size := by omega); (try have : w.heap.size + 1 + 1 < w1.heap.size := by omega); (try have : w.heap.size + 1 + 1 + 1 < w1.heap.size := by omega); have Hd1 := Lib.hid d1; clear d1
  have k0 : Bk w1 w.heap.size 26 [.bool b, .int .u64 x1, .int .u64 x0, .int .i64 s] := by (repeat (first | (with_reducible assumption) | ((with_reducible refine Bk.new_ ?_); (first | rfl | (simp only [World.size_alloc, World.size_setCell, World.size_drew, World.heap_drewN]; done))) | (with_reducible refine Bk.alloc ?_ _) | (with_reducible refine Bk.drew ?_) | (with_reducible refine Bk.drewN ?_ _) | ((with_reducible refine Bk.far ?_ ?_ _); rotate_left; focus (simp only []; omega)) | ((with_reducible refine Bk.below ?_ (by with_reducible assumption) ?_); rotate_left; focus (go_size; done))))
  have k0_0 := k0.cell 0 rfl
  have k0_1 := k0.cell 1 rfl
  have k0_2 := k0.cell 2 rfl
  have k0_3 := k0.cell 3 rfl
  have k0_4 := k0.frozen 0
  have k0_5 := k0.frozen 1
  have k0_6 := k0.frozen 2
  have k0_7 := k0.frozen 3
  have k0l := k0.lt
  have mb : Below w.heap.size w w1 := by (repeat' (first | (with_reducible exact Below.refl _ _) | (with_reducible assumption) | (with_reducible refine Below.drew ?_) | (with_reducible refine below_drewN ?_ _) | ((with_reducible refine Below.alloc ?_ ?_ _); rotate_left; focus (go_size; done)) | ((with_reducible refine Below.setCell ?_ ?_ _); rotate_left; focus (go_size; done)) | ((with_reducible refine Below.trans ?_ (Below.mono (by with_reducible assumption) ?_)); rotate_left; focus (go_size; done))))
  clear k0 hb1c hb1f hb1 hb1s
  obtain ⟨xs, ⟨A, k, rfl, hk, hs⟩, hd⟩ := Hd1.out
  have h34 := len_34 hd
  by_cases hb : c < B34
  · have hl : (xs.length : Int) ≤ 34 := by have := h34.2 hb; omega
    have hl' : ¬ (34 : Int) < (xs.length : Int) := by omega
    by_cases h0 : s < 0
    · have e := HF.out
      rw [dform_neg h0] at e
      subst e
      clear hb h34 hk hs hd
      go_wp2_with fail
      go_ret
      exact ⟨rfl, by (repeat' (first | (with_reducible exact Below.refl _ _) | (with_reducible assumption) | (with_reducible refine Below.drew ?_) | (with_reducible refine below_drewN ?_ _) | ((with_reducible refine Below.alloc ?_ ?_ _); rotate_left; focus (go_size; done)) | ((with_reducible refine Below.setCell ?_ ?_ _); rotate_left; focus (go_size; done)) | ((with_reducible refine Below.trans ?_ (Below.mono (by with_reducible assumption) ?_)); rotate_left; focus (go_size; done))))⟩
    · by_cases h1 : 18 < s
      · have e := HF.out
        rw [dform_deep h1] at e
        subst e
        clear hb h34 hk hs hd
        go_wp2_with fail
        go_ret
        exact ⟨rfl, by (repeat' (first | (with_reducible exact Below.refl _ _) | (with_reducible assumption) | (with_reducible refine Below.drew ?_) | (with_reducible refine below_drewN ?_ _) | ((with_reducible refine Below.alloc ?_ ?_ _); rotate_left; focus (go_size; done)) | ((with_reducible refine Below.setCell ?_ ?_ _); rotate_left; focus (go_size; done)) | ((with_reducible refine Below.trans ?_ (Below.mono (by with_reducible assumption) ?_)); rotate_left; focus (go_size; done))))⟩
      · have e := HF.out
        rw [dform_in hb (by omega) (by omega)] at e
        by_cases hz : c = 0
        · rw [if_pos hz] at e
          have hl0 : xs.length = 0 := hd.zero_iff.2 hz
          have E := Lib.hid e
          clear hb h34 hk hs hd hz e HF
          rw [hl0]
          cases b
          · go_wp2_with fail
            go_ret
            exact ⟨ret_bool (by rw [E.out]; simp; first | rfl | omega | (rw [Bool.eq_iff_iff]; simp)), by (repeat' (first | (with_reducible exact Below.refl _ _) | (with_reducible assumption) | (with_reducible refine Below.drew ?_) | (with_reducible refine below_drewN ?_ _) | ((with_reducible refine Below.alloc ?_ ?_ _); rotate_left; focus (go_size; done)) | ((with_reducible refine Below.setCell ?_ ?_ _); rotate_left; focus (go_size; done)) | ((with_reducible refine Below.trans ?_ (Below.mono (by with_reducible assumption) ?_)); rotate_left; focus (go_size; done))))⟩
          · go_wp2_with fail
            go_ret
            exact ⟨ret_bool (by rw [E.out]; rfl), by (repeat' (first | (with_reducible exact Below.refl _ _) | (with_reducible assumption) | (with_reducible refine Below.drew ?_) | (with_reducible refine below_drewN ?_ _) | ((with_reducible refine Below.alloc ?_ ?_ _); rotate_left; focus (go_size; done)) | ((with_reducible refine Below.setCell ?_ ?_ _); rotate_left; focus (go_size; done)) | ((with_reducible refine Below.trans ?_ (Below.mono (by with_reducible assumption) ?_)); rotate_left; focus (go_size; done))))⟩
        · rw [if_neg hz] at e
          have E := Lib.hid e
          obtain ⟨g, o, k', c', e', hkc, hcell, hg⟩ := dg_first Hd1.out hz
          injection e' with e1 e2 e3
          subst e1
          have hlp : ((xs.length : Int) == 0) = false := by rw [beq_eq_false_iff_ne]; omega
          have hlq : (0 : Int) < (xs.length : Int) := by omega
          obtain ⟨d, hdd⟩ : ∃ d : Int, d = ((c % 10 : Nat) : Int) := ⟨_, rfl⟩
          rw [← hdd] at hcell
          have HDD := Lib.hid hdd
          clear hb h34 hk hs hd hz e HF hdd e2 e3
          by_cases hs0 : s = 0
          · have g2 : (s == 0) = true := by simpa using hs0
            have HS := Lib.hid hs0
            clear hs0
            go_wp2_with fail
            go_ret
            exact ⟨ret_bool (by rw [E.out, HS.out]; rfl), by (repeat' (first | (with_reducible exact Below.refl _ _) | (with_reducible assumption) | (with_reducible refine Below.drew ?_) | (with_reducible refine below_drewN ?_ _) | ((with_reducible refine Below.alloc ?_ ?_ _); rotate_left; focus (go_size; done)) | ((with_reducible refine Below.setCell ?_ ?_ _); rotate_left; focus (go_size; done)) | ((with_reducible refine Below.trans ?_ (Below.mono (by with_reducible assumption) ?_)); rotate_left; focus (go_size; done))))⟩
          · have g2 : (s == 0) = false := by simpa using hs0
            have HS := Lib.hid hs0
            clear hs0
            go_wp2_with fail
            go_ret
            exact ⟨ret_bool (by rw [E.out, decide_eq_false HS.out, Bool.false_or, Bool.eq_iff_iff]; have := HDD.out; simp; omega), by (repeat' (first | (with_reducible exact Below.refl _ _) | (with_reducible assumption) | (with_reducible refine Below.drew ?_) | (with_reducible refine below_drewN ?_ _) | ((with_reducible refine Below.alloc ?_ ?_ _); rotate_left; focus (go_size; done)) | ((with_reducible refine Below.setCell ?_ ?_ _); rotate_left; focus (go_size; done)) | ((with_reducible refine Below.trans ?_ (Below.mono (by with_reducible assumption) ?_)); rotate_left; focus (go_size; done))))⟩
  · have e := HF.out
    rw [dform_hi hb] at e
    subst e
    have hl : (34 : Int) < (xs.length : Int) := by have := mt h34.1 hb; omega
    clear hb h34 hk hs hd
    go_wp2_with fail
    go_ret
    exact ⟨rfl, by (repeat' (first | (with_reducible exact Below.refl _ _) | (with_reducible assumption) | (with_reducible refine Below.drew ?_) | (with_reducible refine below_drewN ?_ _) | ((with_reducible refine Below.alloc ?_ ?_ _); rotate_left; focus (go_size; done)) | ((with_reducible refine Below.setCell ?_ ?_ _); rotate_left; focus (go_size; done)) | ((with_reducible refine Below.trans ?_ (Below.mono (by with_reducible assumption) ?_)); rotate_left; focus (go_size; done))))⟩
set_option maxHeartbeats 2000000 in
theorem flip_any (b : Bool) (c : Nat) (s : Int) (hc : c < 2 ^ 128) (w : World) : Calls Try.prog 65 #[.agg #[.bool b, .int .u64 (wd (c) 1), .int .u64 (wd (c) 0), .int .i64 s]] w fun e w' => e = .returned (.agg #[.bool (sg (!b) c), .int .u64 (wd (c) 1), .int .u64 (wd (c) 0), .int .i64 s]) ∧ Below w.heap.size w w' := by
  have qz : ∀ W, (binOp .neq 24 (.agg #[.int .u64 (wd c 1), .int .u64 (wd c 0)]) (.agg #[.int .u64 0, .int .u64 0])).run Try.prog W = .ok (.bool (!(decide (c = 0)))) W := fun W => by rw [neq_wide, eq_nil hc]
  obtain ⟨z, hz⟩ : ∃ z, z = decide (c = 0) := ⟨_, rfl⟩
  obtain ⟨r, hr⟩ : ∃ r, r = sg (!b) c := ⟨_, rfl⟩
  have HR := Lib.hid (show r = (!b && !z) by rw [hr, hz]; unfold sg; simp)
  rw [← hz] at qz
  rw [← hr]
  generalize wd c 0 = x0 at *
  generalize wd c 1 = x1 at *
  clear hc hz hr
  cases b
  · go_enter Try.func65, Try.ntmps65
    go_wp2_with fail
    refine bodyPost_ret (by simp [results, Try.results65, go_sem, *]; try rfl) rfl ?_
    exact ⟨by rw [HR.out]; rfl, by (repeat' (first | (with_reducible exact Below.refl _ _) | (with_reducible assumption) | (with_reducible refine Below.drew ?_) | (with_reducible refine below_drewN ?_ _) | ((with_reducible refine Below.alloc ?_ ?_ _); rotate_left; focus (go_size; done)) | ((with_reducible refine Below.setCell ?_ ?_ _); rotate_left; focus (go_size; done)) | ((with_reducible refine Below.trans ?_ (Below.mono (by with_reducible assumption) ?_)); rotate_left; focus (go_size; done))))⟩
  · go_enter Try.func65, Try.ntmps65
    go_wp2_with fail
    refine bodyPost_ret (by simp [results, Try.results65, go_sem, *]; try rfl) rfl ?_
    exact ⟨by rw [HR.out]; rfl, by (repeat' (first | (with_reducible exact Below.refl _ _) | (with_reducible assumption) | (with_reducible refine Below.drew ?_) | (with_reducible refine below_drewN ?_ _) | ((with_reducible refine Below.alloc ?_ ?_ _); rotate_left; focus (go_size; done)) | ((with_reducible refine Below.setCell ?_ ?_ _); rotate_left; focus (go_size; done)) | ((with_reducible refine Below.trans ?_ (Below.mono (by with_reducible assumption) ?_)); rotate_left; focus (go_size; done))))⟩
def RetUnits (b : Bool) (n : Nat) (w : World) (e : Ending) (w' : World) : Prop := ∃ v, e = .returned (.tuple #[.bool b, v]) ∧ Dg w' v n ∧ Below w.heap.size w w'
set_option maxHeartbeats 4000000 in
theorem units_any (b : Bool) (c s : Nat) (hc : c < 2 ^ 128) (hs : s ≤ 18) (w : World) : Calls Try.prog 66 #[.agg #[.bool b, .int .u64 (wd (c) 1), .int .u64 (wd (c) 0), .int .i64 s]] w (RetUnits b (unit c s) w) := by
  have HO := Lib.hid (fun W => of_any c hc W)
  have HSM := Lib.hid (lt_128_tiny hc).small
  generalize wd c 0 = x0 at *
  generalize wd c 1 = x1 at *
  have gw : IntKind.i64.wrap (18 - (s : Int)) = 18 - (s : Int) := IntWalk.i64_in _ (by omega)
  have HX : Hid (∀ W v, Dg W v c → Calls Try.prog 91 #[v, .int .i64 (18 - (s : Int))] W (RetDg (unit c s) W)) := Lib.hid (fun W v hv => by
    rw [show (18 : Int) - (s : Int) = ((18 - s : Nat) : Int) by omega]
    exact shift_any c (18 - s) (by omega) v W hv HSM.out)
  generalize unit c s = U at *
  clear hc
  go_enter Try.func66, Try.ntmps66
  go_wp2_with fail
  go_region_held3 (fun w' => (w'.cell? ⟨w.heap.size, 0, none⟩ = some (.bool b) ∧ w'.cell? ⟨w.heap.size, 1, none⟩ = some (.int .u64 x1) ∧ w'.cell? ⟨w.heap.size, 2, none⟩ = some (.int .u64 x0) ∧ w'.cell? ⟨w.heap.size, 3, none⟩ = some (.int .i64 ((s : Int))))) (first | (first | (go_keep; done) | (simp [go_sem]; done) | ((try dsimp only); (repeat' apply And.intro) <;> (first | (with_reducible assumption) | ((rw [World.cell?_alloc_lt _ _ _ (by show _ < _; omega)]); go_split_ands; (first | with_reducible assumption | (refine (World.cell?_alloc_lt _ _ _ (by show _ < _; omega)).symm.trans ?_; with_reducible assumption))) | ((rw [World.cell?_setCell_other _ _ _ _ (by intro e; injection e; omega)]); with_reducible assumption) | (go_keep; done) | (simp [go_sem]; done) | (simp (disch := go_size) [*, World.cell?_alloc_some, World.cell?_setCell_far]; done)))) | ((refine ⟨Bk.cell (t := 26) (cs := [.bool b, .int .u64 x1, .int .u64 x0, .int .i64 ((s : Int))]) ?_ 0 rfl, Bk.cell (t := 26) (cs := [.bool b, .int .u64 x1, .int .u64 x0, .int .i64 ((s : Int))]) ?_ 1 rfl, Bk.cell (t := 26) (cs := [.bool b, .int .u64 x1, .int .u64 x0, .int .i64 ((s : Int))]) ?_ 2 rfl, Bk.cell (t := 26) (cs := [.bool b, .int .u64 x1, .int .u64 x0, .int .i64 ((s : Int))]) ?_ 3 rfl⟩) <;> ((repeat (first | (with_reducible assumption) | ((with_reducible refine Bk.new_ ?_); (first | rfl | (simp only [World.size_alloc, World.size_setCell, World.size_drew, World.heap_drewN]; done))) | (with_reducible refine Bk.alloc ?_ _) | (with_reducible refine Bk.drew ?_) | (with_reducible refine Bk.drewN ?_ _) | ((with_reducible refine Bk.far ?_ ?_ _); rotate_left; focus (simp only []; omega)) | ((with_reducible refine Bk.below ?_ (by with_reducible assumption) ?_); rotate_left; focus (go_size; done)))); done))) (first | (go_at_call 49; (with_reducible refine (HO.out _).mono ?_); rintro _ w1 ⟨v1, rfl, d1, hb1⟩; have hb1s := hb1.size; (try simp only [World.size_alloc, World.size_setCell, World.size_drew, World.heap_drewN] at hb1s); obtain ⟨hb1c, hb1f⟩ := bcell hb1; (try have : w.heap.size < w1.heap.size := by omega); (try have : w.heap.size + 1 < w1.heap.size := by omega); (try have : w.heap.size + 1 + 1 < w1.heap.size := by omega); (try have : w.heap.size + 1 + 1 + 1 < w1.heap.size := by omega); have Hd1 := Lib.hid d1; clear d1) | (go_at_call 91; (with_reducible refine (HX.out _ _ ?hx).mono ?_); (case hx => ((first | exact Hid.out (by assumption) | exact Dg.below (Hid.out (by assumption)) (by (repeat' (first | (with_reducible exact Below.refl _ _) | (with_reducible assumption) | (with_reducible refine Below.drew ?_) | (with_reducible refine below_drewN ?_ _) | ((with_reducible refine Below.alloc ?_ ?_ _); rotate_left; focus (go_size; done)) | ((with_reducible refine Below.setCell ?_ ?_ _); rotate_left; focus (go_size; done)) | ((with_reducible refine Below.trans ?_ (Below.mono (by with_reducible assumption) ?_)); rotate_left; focus (go_size; done)))))))); rintro _ w2 ⟨v2, rfl, d2, hb2⟩; have hb2s := hb2.size; (try simp only [World.size_alloc, World.size_setCell, World.size_drew, World.heap_drewN] at hb2s); obtain ⟨hb2c, hb2f⟩ := bcell hb2; (try have : w.heap.size < w2.heap.size := by omega); (try have : w.heap.size + 1 < w2.heap.size := by omega); (try have : w.heap.size + 1 + 1 < w2.heap.size := by omega); (try have : w.heap.size + 1 + 1 + 1 < w2.heap.size := by omega); have Hd2 := Lib.hid d2; clear d2; (try have : w1.heap.size < w2.heap.size := by omega); (try have : w1.heap.size + 1 < w2.heap.size := by omega); (try have : w1.heap.size + 1 + 1 < w2.heap.size := by omega); (try have : w1.heap.size + 1 + 1 + 1 < w2.heap.size := by omega)))
  all_goals
    go_wp2_with fail
    go_ret2
    exact ⟨_, rfl, by (first | exact Hid.out (by assumption) | exact Dg.below (Hid.out (by assumption)) (by (repeat' (first | (with_reducible exact Below.refl _ _) | (with_reducible assumption) | (with_reducible refine Below.drew ?_) | (with_reducible refine below_drewN ?_ _) | ((with_reducible refine Below.alloc ?_ ?_ _); rotate_left; focus (go_size; done)) | ((with_reducible refine Below.setCell ?_ ?_ _); rotate_left; focus (go_size; done)) | ((with_reducible refine Below.trans ?_ (Below.mono (by with_reducible assumption) ?_)); rotate_left; focus (go_size; done)))))), by (repeat' (first | (with_reducible exact Below.refl _ _) | (with_reducible assumption) | (with_reducible refine Below.drew ?_) | (with_reducible refine below_drewN ?_ _) | ((with_reducible refine Below.alloc ?_ ?_ _); rotate_left; focus (go_size; done)) | ((with_reducible refine Below.setCell ?_ ?_ _); rotate_left; focus (go_size; done)) | ((with_reducible refine Below.trans ?_ (Below.mono (by with_reducible assumption) ?_)); rotate_left; focus (go_size; done))))⟩
def RetSum (an : Bool) (x : Nat) (bn : Bool) (y : Nat) (w : World) (e : Ending) (w' : World) : Prop := ∃ v, e = .returned (.tuple #[.bool (sgn an x bn y), v]) ∧ Dg w' v (sab an x bn y) ∧ Below w.heap.size w w'
set_option maxHeartbeats 4000000 in
theorem rsum_any (an : Bool) (x : Nat) (bn : Bool) (y : Nat) (u v : Value) (w : World) (hu : Dg w u x) (hv : Dg w v y) (hx : Tiny x) (hy : Tiny y) :
    Calls Try.prog 67 #[.bool an, u, .bool bn, v] w (RetSum an x bn y w) := by
  have HU := Lib.hid hu
  have HV := Lib.hid hv
  have HX := Lib.hid hx.small
  have HY := Lib.hid hy.small
  obtain ⟨N, hN⟩ : ∃ N, N = sgn an x bn y := ⟨_, rfl⟩
  obtain ⟨U, hU⟩ : ∃ U, U = sab an x bn y := ⟨_, rfl⟩
  unfold RetSum
  rw [← hN, ← hU]
  clear hu hv hx hy
  by_cases hb : an = bn
  · have hbe : (an == bn) = true := by simpa using hb
    have e1 : N = an := by rw [hN]; unfold sgn; rw [if_pos hb]
    have e2 : U = x + y := by rw [hU]; unfold sab; rw [if_pos hb]
    subst e1
    have E2 := Lib.hid e2
    clear hb hN hU e2
    go_enter Try.func67, Try.ntmps67
    go_wp2_with fail
    refine (plus_any x y _ _ _ HU.out HV.out HX.out HY.out).mono ?_
    rintro _ w1 ⟨v1, rfl, d1, hb1⟩; have hb1s := hb1.size; (try simp only [World.size_alloc, World.size_setCell, World.size_drew, World.heap_drewN] at hb1s); obtain ⟨hb1c, hb1f⟩ := bcell hb1; (try have : w.heap.size < w1.heap.size := by omega); (try have : w.heap.size + 1 < w1.heap.size := by omega); (try have : w.heap.size + 1 + 1 < w1.heap.size := by omega); (try have : w.heap.size + 1 + 1 + 1 < w1.heap.size := by omega); have Hd1 := Lib.hid d1; clear d1
    go_wp2_with fail
    go_ret2
    exact ⟨_, rfl, by rw [E2.out]; exact Hd1.out, by (repeat' (first | (with_reducible exact Below.refl _ _) | (with_reducible assumption) | (with_reducible refine Below.drew ?_) | (with_reducible refine below_drewN ?_ _) | ((with_reducible refine Below.alloc ?_ ?_ _); rotate_left; focus (go_size; done)) | ((with_reducible refine Below.setCell ?_ ?_ _); rotate_left; focus (go_size; done)) | ((with_reducible refine Below.trans ?_ (Below.mono (by with_reducible assumption) ?_)); rotate_left; focus (go_size; done))))⟩
  · have hbe : (an == bn) = false := by simpa using hb
    by_cases hl : y ≤ x
    · have hc : 0 ≤ cmpN x y := by unfold cmpN; split <;> (try split) <;> omega
      have e1 : N = an := by rw [hN]; unfold sgn; rw [if_neg hb, if_pos hl]
      have e2 : U = x - y := by rw [hU]; unfold sab; rw [if_neg hb, if_pos hl]
      subst e1
      have E2 := Lib.hid e2
      have HL := Lib.hid hl
      have HC := Lib.hid (fun W hu hv => rcmp_bel x y u v W hu hv HX.out HY.out)
      generalize cmpN x y = cc at *
      clear hb hN hU e2 hl
      go_enter Try.func67, Try.ntmps67
      go_wp2_with fail
      refine (HC.out _ HU.out HV.out).mono ?_
      rintro _ w1 ⟨rfl, hb1⟩; have hb1s := hb1.size; (try simp only [World.size_alloc, World.size_setCell, World.size_drew, World.heap_drewN] at hb1s); obtain ⟨hb1c, hb1f⟩ := bcell hb1; (try have : w.heap.size < w1.heap.size := by omega); (try have : w.heap.size + 1 < w1.heap.size := by omega); (try have : w.heap.size + 1 + 1 < w1.heap.size := by omega); (try have : w.heap.size + 1 + 1 + 1 < w1.heap.size := by omega)
      go_wp2_with fail
      refine (rless_any x y HL.out _ _ _ (HU.out.below hb1) (HV.out.below hb1) HX.out HY.out).mono ?_
      rintro _ w2 ⟨v2, rfl, d2, hb2⟩; have hb2s := hb2.size; (try simp only [World.size_alloc, World.size_setCell, World.size_drew, World.heap_drewN] at hb2s); obtain ⟨hb2c, hb2f⟩ := bcell hb2; (try have : w.heap.size < w2.heap.size := by omega); (try have : w.heap.size + 1 < w2.heap.size := by omega); (try have : w.heap.size + 1 + 1 < w2.heap.size := by omega); (try have : w.heap.size + 1 + 1 + 1 < w2.heap.size := by omega); have Hd2 := Lib.hid d2; clear d2
      go_wp2_with fail
      go_ret2
      exact ⟨_, rfl, by rw [E2.out]; exact Hd2.out, by (repeat' (first | (with_reducible exact Below.refl _ _) | (with_reducible assumption) | (with_reducible refine Below.drew ?_) | (with_reducible refine below_drewN ?_ _) | ((with_reducible refine Below.alloc ?_ ?_ _); rotate_left; focus (go_size; done)) | ((with_reducible refine Below.setCell ?_ ?_ _); rotate_left; focus (go_size; done)) | ((with_reducible refine Below.trans ?_ (Below.mono (by with_reducible assumption) ?_)); rotate_left; focus (go_size; done))))⟩
    · have hc : ¬ 0 ≤ cmpN x y := by unfold cmpN; rw [if_neg (by omega), if_pos (by omega)]; decide
      have e1 : N = bn := by rw [hN]; unfold sgn; rw [if_neg hb, if_neg hl]
      have e2 : U = y - x := by rw [hU]; unfold sab; rw [if_neg hb, if_neg hl]
      subst e1
      have E2 := Lib.hid e2
      have HL : Hid (x ≤ y) := Lib.hid (by omega)
      have HC := Lib.hid (fun W hu hv => rcmp_bel x y u v W hu hv HX.out HY.out)
      generalize cmpN x y = cc at *
      clear hb hN hU e2 hl
      go_enter Try.func67, Try.ntmps67
      go_wp2_with fail
      refine (HC.out _ HU.out HV.out).mono ?_
      rintro _ w1 ⟨rfl, hb1⟩; have hb1s := hb1.size; (try simp only [World.size_alloc, World.size_setCell, World.size_drew, World.heap_drewN] at hb1s); obtain ⟨hb1c, hb1f⟩ := bcell hb1; (try have : w.heap.size < w1.heap.size := by omega); (try have : w.heap.size + 1 < w1.heap.size := by omega); (try have : w.heap.size + 1 + 1 < w1.heap.size := by omega); (try have : w.heap.size + 1 + 1 + 1 < w1.heap.size := by omega)
      go_wp2_with fail
      refine (rless_any y x HL.out _ _ _ (HV.out.below hb1) (HU.out.below hb1) HY.out HX.out).mono ?_
      rintro _ w2 ⟨v2, rfl, d2, hb2⟩; have hb2s := hb2.size; (try simp only [World.size_alloc, World.size_setCell, World.size_drew, World.heap_drewN] at hb2s); obtain ⟨hb2c, hb2f⟩ := bcell hb2; (try have : w.heap.size < w2.heap.size := by omega); (try have : w.heap.size + 1 < w2.heap.size := by omega); (try have : w.heap.size + 1 + 1 < w2.heap.size := by omega); (try have : w.heap.size + 1 + 1 + 1 < w2.heap.size := by omega); have Hd2 := Lib.hid d2; clear d2
      go_wp2_with fail
      go_ret2
      exact ⟨_, rfl, by rw [E2.out]; exact Hd2.out, by (repeat' (first | (with_reducible exact Below.refl _ _) | (with_reducible assumption) | (with_reducible refine Below.drew ?_) | (with_reducible refine below_drewN ?_ _) | ((with_reducible refine Below.alloc ?_ ?_ _); rotate_left; focus (go_size; done)) | ((with_reducible refine Below.setCell ?_ ?_ _); rotate_left; focus (go_size; done)) | ((with_reducible refine Below.trans ?_ (Below.mono (by with_reducible assumption) ?_)); rotate_left; focus (go_size; done))))⟩
end Go.Proofs.Ythkgjodidkpaeaa

set_option linter.unusedSimpArgs false
set_option linter.unusedVariables false
namespace Go.Proofs.Ythkgjodidkpaeaa
open Go.RowKit

def ferr (x : Bool) : Int := if x = true then 0 else 2
set_option maxHeartbeats 4000000 in
theorem formed_one (b : Bool) (c : Nat) (s : Int) (hc : c < 2 ^ 128) (g : Nat) (w : World) (hg : Bk w g 26 [.bool b, .int .u64 (wd (c) 1), .int .u64 (wd (c) 0), .int .i64 s]) :
    Calls Try.prog 46 #[.slice (some ⟨g, 0, none⟩) 1 1] w fun e w' => e = .returned (.int .i64 (ferr (dform b c s))) ∧ Below w.heap.size w w' := by
  have HF := Lib.hid (fun W => form_any b c s hc W)
  obtain ⟨v, hv⟩ : ∃ v, v = dform b c s := ⟨_, rfl⟩
  rw [← hv] at HF
  rw [← hv]
  generalize wd c 0 = x0 at *
  generalize wd c 1 = x1 at *
  have HG := Lib.hid hg
  have hgl := hg.lt
  clear hc hv hg
  go_enter Try.func46, Try.ntmps46
  go_wp2_with fail
  go_loopg [7] 1 (fun k i wr => ∃ t : Nat, k + t = 1 ∧ i = .int .i64 t ∧ (t = 0 ∨ v = true) ∧ Below w.heap.size w wr)
  case atStart => exact ⟨0, rfl, rfl, .inl rfl, by (repeat' (first | (with_reducible exact Below.refl _ _) | (with_reducible assumption) | (with_reducible refine Below.drew ?_) | (with_reducible refine below_drewN ?_ _) | ((with_reducible refine Below.alloc ?_ ?_ _); rotate_left; focus (go_size; done)) | ((with_reducible refine Below.setCell ?_ ?_ _); rotate_left; focus (go_size; done)) | ((with_reducible refine Below.trans ?_ (Below.mono (by with_reducible assumption) ?_)); rotate_left; focus (go_size; done))))⟩
  case round =>
    obtain ⟨t, hk, rfl, hv, hbel⟩ := hrel
    have HK := Lib.hid hk
    have hbs := hbel.size
    have hc : t = 0 ∨ t = 1 := by omega
    clear hk
    rcases hc with rfl | rfl
    · have bg := HG.out.below hbel hgl
      have d0 := bg.cell 0 rfl
      have d1 := bg.cell 1 rfl
      have d2 := bg.cell 2 rfl
      have d3 := bg.cell 3 rfl
      clear bg hv
      cases v
      · go_wp2_with ((go_at_call 16; with_reducible refine (HF.out _).mono ?_); rintro _ w1 ⟨rfl, hb1⟩; have hb1s := hb1.size; (try simp only [World.size_alloc, World.size_setCell, World.size_drew, World.heap_drewN] at hb1s); obtain ⟨hb1c, hb1f⟩ := bcell hb1; (try have : w.heap.size < w1.heap.size := by omega); (try have : w.heap.size + 1 < w1.heap.size := by omega); (try have : w.heap.size + 1 + 1 < w1.heap.size := by omega); (try have : w.heap.size + 1 + 1 + 1 < w1.heap.size := by omega))
        go_ret
        exact ⟨rfl, by (repeat' (first | (with_reducible exact Below.refl _ _) | (with_reducible assumption) | (with_reducible refine Below.drew ?_) | (with_reducible refine below_drewN ?_ _) | ((with_reducible refine Below.alloc ?_ ?_ _); rotate_left; focus (go_size; done)) | ((with_reducible refine Below.setCell ?_ ?_ _); rotate_left; focus (go_size; done)) | ((with_reducible refine Below.trans ?_ (Below.mono (by with_reducible assumption) ?_)); rotate_left; focus (go_size; done))))⟩
      · go_wp2_with ((go_at_call 16; with_reducible refine (HF.out _).mono ?_); rintro _ w1 ⟨rfl, hb1⟩; have hb1s := hb1.size; (try simp only [World.size_alloc, World.size_setCell, World.size_drew, World.heap_drewN] at hb1s); obtain ⟨hb1c, hb1f⟩ := bcell hb1; (try have : w.heap.size < w1.heap.size := by omega); (try have : w.heap.size + 1 < w1.heap.size := by omega); (try have : w.heap.size + 1 + 1 < w1.heap.size := by omega); (try have : w.heap.size + 1 + 1 + 1 < w1.heap.size := by omega))
        go_roundg 0
        case measure => have := HK.out; omega
        case rel => exact ⟨1, rfl, rfl, .inr (by simp), by (repeat' (first | (with_reducible exact Below.refl _ _) | (with_reducible assumption) | (with_reducible refine Below.drew ?_) | (with_reducible refine below_drewN ?_ _) | ((with_reducible refine Below.alloc ?_ ?_ _); rotate_left; focus (go_size; done)) | ((with_reducible refine Below.setCell ?_ ?_ _); rotate_left; focus (go_size; done)) | ((with_reducible refine Below.trans ?_ (Below.mono (by with_reducible assumption) ?_)); rotate_left; focus (go_size; done))))⟩
    · obtain rfl : v = true := by simpa using hv
      clear hv
      go_wp2_with fail
      go_ret
      exact ⟨rfl, by (repeat' (first | (with_reducible exact Below.refl _ _) | (with_reducible assumption) | (with_reducible refine Below.drew ?_) | (with_reducible refine below_drewN ?_ _) | ((with_reducible refine Below.alloc ?_ ?_ _); rotate_left; focus (go_size; done)) | ((with_reducible refine Below.setCell ?_ ?_ _); rotate_left; focus (go_size; done)) | ((with_reducible refine Below.trans ?_ (Below.mono (by with_reducible assumption) ?_)); rotate_left; focus (go_size; done))))⟩
set_option maxHeartbeats 4000000 in
theorem formed_two (b : Bool) (c : Nat) (s : Int) (hc : c < 2 ^ 128) (b' : Bool) (c' : Nat) (s' : Int) (hc' : c' < 2 ^ 128) (g : Nat) (w : World) (hg : Bk w g 26 [.bool b, .int .u64 (wd c 1), .int .u64 (wd c 0), .int .i64 s, .bool b', .int .u64 (wd c' 1), .int .u64 (wd c' 0), .int .i64 s']) :
    Calls Try.prog 46 #[.slice (some ⟨g, 0, none⟩) 2 2] w fun e w' => e = .returned (.int .i64 (ferr (dform b c s && dform b' c' s'))) ∧ Below w.heap.size w w' := by
  have HF := Lib.hid (fun W => form_any b c s hc W)
  have HF' := Lib.hid (fun W => form_any b' c' s' hc' W)
  obtain ⟨v, hv⟩ : ∃ v, v = dform b c s := ⟨_, rfl⟩
  obtain ⟨v', hv'⟩ : ∃ v', v' = dform b' c' s' := ⟨_, rfl⟩
  rw [← hv] at HF
  rw [← hv'] at HF'
  rw [← hv, ← hv']
  generalize wd c 0 = x0 at *
  generalize wd c 1 = x1 at *
  generalize wd c' 0 = y0 at *
  generalize wd c' 1 = y1 at *
  have HG := Lib.hid hg
  have hgl := hg.lt
  clear hc hv hg hc' hv'
  go_enter Try.func46, Try.ntmps46
  go_wp2_with fail
  go_loopg [7] 2 (fun k i wr => ∃ t : Nat, k + t = 2 ∧ i = .int .i64 t ∧ (t = 0 ∨ v = true) ∧ (t ≤ 1 ∨ v' = true) ∧ Below w.heap.size w wr)
  case atStart => exact ⟨0, rfl, rfl, .inl rfl, .inl (by decide), by (repeat' (first | (with_reducible exact Below.refl _ _) | (with_reducible assumption) | (with_reducible refine Below.drew ?_) | (with_reducible refine below_drewN ?_ _) | ((with_reducible refine Below.alloc ?_ ?_ _); rotate_left; focus (go_size; done)) | ((with_reducible refine Below.setCell ?_ ?_ _); rotate_left; focus (go_size; done)) | ((with_reducible refine Below.trans ?_ (Below.mono (by with_reducible assumption) ?_)); rotate_left; focus (go_size; done))))⟩
  case round =>
    obtain ⟨t, hk, rfl, hv, hv', hbel⟩ := hrel
    have HK := Lib.hid hk
    have hbs := hbel.size
    have hc : t = 0 ∨ t = 1 ∨ t = 2 := by omega
    have bg := HG.out.below hbel hgl
    clear hk
    rcases hc with rfl | rfl | rfl
    · have d0 := bg.cell 0 rfl
      have d1 := bg.cell 1 rfl
      have d2 := bg.cell 2 rfl
      have d3 := bg.cell 3 rfl
      clear bg hv hv'
      cases v
      · go_wp2_with ((go_at_call 16; with_reducible refine (HF.out _).mono ?_); rintro _ w1 ⟨rfl, hb1⟩; have hb1s := hb1.size; (try simp only [World.size_alloc, World.size_setCell, World.size_drew, World.heap_drewN] at hb1s); obtain ⟨hb1c, hb1f⟩ := bcell hb1; (try have : w.heap.size < w1.heap.size := by omega); (try have : w.heap.size + 1 < w1.heap.size := by omega); (try have : w.heap.size + 1 + 1 < w1.heap.size := by omega); (try have : w.heap.size + 1 + 1 + 1 < w1.heap.size := by omega))
        go_ret
        exact ⟨rfl, by (repeat' (first | (with_reducible exact Below.refl _ _) | (with_reducible assumption) | (with_reducible refine Below.drew ?_) | (with_reducible refine below_drewN ?_ _) | ((with_reducible refine Below.alloc ?_ ?_ _); rotate_left; focus (go_size; done)) | ((with_reducible refine Below.setCell ?_ ?_ _); rotate_left; focus (go_size; done)) | ((with_reducible refine Below.trans ?_ (Below.mono (by with_reducible assumption) ?_)); rotate_left; focus (go_size; done))))⟩
      · go_wp2_with ((go_at_call 16; with_reducible refine (HF.out _).mono ?_); rintro _ w1 ⟨rfl, hb1⟩; have hb1s := hb1.size; (try simp only [World.size_alloc, World.size_setCell, World.size_drew, World.heap_drewN] at hb1s); obtain ⟨hb1c, hb1f⟩ := bcell hb1; (try have : w.heap.size < w1.heap.size := by omega); (try have : w.heap.size + 1 < w1.heap.size := by omega); (try have : w.heap.size + 1 + 1 < w1.heap.size := by omega); (try have : w.heap.size + 1 + 1 + 1 < w1.heap.size := by omega))
        go_roundg 1
        case measure => have := HK.out; omega
        case rel => exact ⟨1, rfl, rfl, .inr (by simp), .inl (Nat.le_refl _), by (repeat' (first | (with_reducible exact Below.refl _ _) | (with_reducible assumption) | (with_reducible refine Below.drew ?_) | (with_reducible refine below_drewN ?_ _) | ((with_reducible refine Below.alloc ?_ ?_ _); rotate_left; focus (go_size; done)) | ((with_reducible refine Below.setCell ?_ ?_ _); rotate_left; focus (go_size; done)) | ((with_reducible refine Below.trans ?_ (Below.mono (by with_reducible assumption) ?_)); rotate_left; focus (go_size; done))))⟩
    · obtain rfl : v = true := by simpa using hv
      have d0 := bg.cell 4 rfl
      have d1 := bg.cell 5 rfl
      have d2 := bg.cell 6 rfl
      have d3 := bg.cell 7 rfl
      clear bg hv hv' HF
      cases v'
      · go_wp2_with ((go_at_call 16; with_reducible refine (HF'.out _).mono ?_); rintro _ w1 ⟨rfl, hb1⟩; have hb1s := hb1.size; (try simp only [World.size_alloc, World.size_setCell, World.size_drew, World.heap_drewN] at hb1s); obtain ⟨hb1c, hb1f⟩ := bcell hb1; (try have : w.heap.size < w1.heap.size := by omega); (try have : w.heap.size + 1 < w1.heap.size := by omega); (try have : w.heap.size + 1 + 1 < w1.heap.size := by omega); (try have : w.heap.size + 1 + 1 + 1 < w1.heap.size := by omega))
        go_ret
        exact ⟨rfl, by (repeat' (first | (with_reducible exact Below.refl _ _) | (with_reducible assumption) | (with_reducible refine Below.drew ?_) | (with_reducible refine below_drewN ?_ _) | ((with_reducible refine Below.alloc ?_ ?_ _); rotate_left; focus (go_size; done)) | ((with_reducible refine Below.setCell ?_ ?_ _); rotate_left; focus (go_size; done)) | ((with_reducible refine Below.trans ?_ (Below.mono (by with_reducible assumption) ?_)); rotate_left; focus (go_size; done))))⟩
      · go_wp2_with ((go_at_call 16; with_reducible refine (HF'.out _).mono ?_); rintro _ w1 ⟨rfl, hb1⟩; have hb1s := hb1.size; (try simp only [World.size_alloc, World.size_setCell, World.size_drew, World.heap_drewN] at hb1s); obtain ⟨hb1c, hb1f⟩ := bcell hb1; (try have : w.heap.size < w1.heap.size := by omega); (try have : w.heap.size + 1 < w1.heap.size := by omega); (try have : w.heap.size + 1 + 1 < w1.heap.size := by omega); (try have : w.heap.size + 1 + 1 + 1 < w1.heap.size := by omega))
        go_roundg 0
        case measure => have := HK.out; omega
        case rel => exact ⟨2, rfl, rfl, .inr (by simp), .inr (by simp), by (repeat' (first | (with_reducible exact Below.refl _ _) | (with_reducible assumption) | (with_reducible refine Below.drew ?_) | (with_reducible refine below_drewN ?_ _) | ((with_reducible refine Below.alloc ?_ ?_ _); rotate_left; focus (go_size; done)) | ((with_reducible refine Below.setCell ?_ ?_ _); rotate_left; focus (go_size; done)) | ((with_reducible refine Below.trans ?_ (Below.mono (by with_reducible assumption) ?_)); rotate_left; focus (go_size; done))))⟩
    · obtain rfl : v = true := by simpa using hv
      obtain rfl : v' = true := by simpa using hv'
      clear hv hv' bg
      go_wp2_with fail
      go_ret
      exact ⟨rfl, by (repeat' (first | (with_reducible exact Below.refl _ _) | (with_reducible assumption) | (with_reducible refine Below.drew ?_) | (with_reducible refine below_drewN ?_ _) | ((with_reducible refine Below.alloc ?_ ?_ _); rotate_left; focus (go_size; done)) | ((with_reducible refine Below.setCell ?_ ?_ _); rotate_left; focus (go_size; done)) | ((with_reducible refine Below.trans ?_ (Below.mono (by with_reducible assumption) ?_)); rotate_left; focus (go_size; done))))⟩
end Go.Proofs.Ythkgjodidkpaeaa

set_option linter.unusedSimpArgs false
set_option linter.unusedVariables false
namespace Go.Proofs.Ythkgjodidkpaeaa
open Go.RowKit

theorem pow_step (t : Nat) : ((2 ^ (64 * (t + 1)) : Nat) : Int) = ((2 ^ (64 * t) : Nat) : Int) * 18446744073709551616 := by
  rw [show 64 * (t + 1) = 64 * t + 64 by omega, Nat.pow_add, Int.natCast_mul]; rfl
theorem plus_word {V V' n m t : Nat} {c s k x y : Int} (i1 : (V : Int) + c * ((2 ^ (64 * t) : Nat) : Int) = n + ((m % 2 ^ (64 * t) : Nat) : Int)) (hx : x = wd V t) (hy : y = wd m t)
    (i2 : (V' : Int) = V + (s - wd V t) * ((2 ^ (64 * t) : Nat) : Int)) (i3 : s + 18446744073709551616 * k = x + y + c) :
    (V' : Int) + k * ((2 ^ (64 * (t + 1)) : Nat) : Int) = n + ((m % 2 ^ (64 * (t + 1)) : Nat) : Int) := by
  rw [pow_step, wd_mod_succ, i2, ← hy, ← hx]
  generalize ((2 ^ (64 * t) : Nat) : Int) = P at *
  generalize ((m % 2 ^ (64 * t) : Nat) : Int) = M at *
  grind
theorem minus_word {V V' n m t : Nat} {c s k x y : Int} (i1 : (V : Int) - c * ((2 ^ (64 * t) : Nat) : Int) = n - ((m % 2 ^ (64 * t) : Nat) : Int)) (hx : x = wd V t) (hy : y = wd m t)
    (i2 : (V' : Int) = V + (s - wd V t) * ((2 ^ (64 * t) : Nat) : Int)) (i3 : s - 18446744073709551616 * k = x - y - c) :
    (V' : Int) - k * ((2 ^ (64 * (t + 1)) : Nat) : Int) = n - ((m % 2 ^ (64 * (t + 1)) : Nat) : Int) := by
  rw [pow_step, wd_mod_succ, i2, ← hy, ← hx]
  generalize ((2 ^ (64 * t) : Nat) : Int) = P at *
  generalize ((m % 2 ^ (64 * t) : Nat) : Int) = M at *
  grind
theorem ten_word {V V' n t : Nat} {c s k h x : Int} (i1 : (V : Int) + c * ((2 ^ (64 * t) : Nat) : Int) = n + 9 * ((n % 2 ^ (64 * t) : Nat) : Int)) (hx : x = wd V t) (hn : wd V t = wd n t)
    (i2 : (V' : Int) = V + (s - wd V t) * ((2 ^ (64 * t) : Nat) : Int)) (i3 : s + 18446744073709551616 * (h + k) = x * 10 + c) :
    (V' : Int) + (h + k) * ((2 ^ (64 * (t + 1)) : Nat) : Int) = n + 9 * ((n % 2 ^ (64 * (t + 1)) : Nat) : Int) := by
  rw [pow_step, wd_mod_succ, i2, ← hn, ← hx]
  generalize ((2 ^ (64 * t) : Nat) : Int) = P at *
  generalize ((n % 2 ^ (64 * t) : Nat) : Int) = M at *
  grind
theorem p256 : ((2 ^ (64 * 4) : Nat) : Int) = 115792089237316195423570985008687907853269984665640564039457584007913129639936 := by rfl
theorem plus_end {V n m : Nat} {c : Int} (hV : V < 2 ^ 256) (hs : n + m < 2 ^ 256) (h0 : 0 ≤ c) (i1 : (V : Int) + c * ((2 ^ (64 * 4) : Nat) : Int) = n + ((m % 2 ^ (64 * 4) : Nat) : Int)) : V = n + m := by
  rw [Nat.mod_eq_of_lt (show m < 2 ^ (64 * 4) by omega), p256] at i1
  omega
theorem minus_end {V n m : Nat} {c : Int} (hV : V < 2 ^ 256) (hn : n < 2 ^ 256) (hs : m ≤ n) (h0 : 0 ≤ c) (i1 : (V : Int) - c * ((2 ^ (64 * 4) : Nat) : Int) = n - ((m % 2 ^ (64 * 4) : Nat) : Int)) : V = n - m := by
  rw [Nat.mod_eq_of_lt (show m < 2 ^ (64 * 4) by omega), p256] at i1
  omega
theorem ten_end {V n : Nat} {c : Int} (hV : V < 2 ^ 256) (hs : n * 10 < 2 ^ 256) (h0 : 0 ≤ c) (i1 : (V : Int) + c * ((2 ^ (64 * 4) : Nat) : Int) = n + 9 * ((n % 2 ^ (64 * 4) : Nat) : Int)) : V = n * 10 := by
  rw [Nat.mod_eq_of_lt (show n < 2 ^ (64 * 4) by omega), p256] at i1
  omega
/-- the order, from the top word on -/
theorem top_word (n k : Nat) : n / 2 ^ (64 * k) = n / 2 ^ (64 * (k + 1)) * 18446744073709551616 + (wd n k).toNat := by
  unfold wd
  rw [show 64 * (k + 1) = 64 * k + 64 by omega, Nat.pow_add, ← Nat.div_div_eq_div_mul, Int.toNat_natCast]
  omega
theorem top_lt {n m k : Nat} (h : n / 2 ^ (64 * (k + 1)) = m / 2 ^ (64 * (k + 1))) (hl : wd n k < wd m k) : n < m := by
  have e1 := top_word n k
  have e2 := top_word m k
  have a0 := wd_nn n k
  have : n / 2 ^ (64 * k) < m / 2 ^ (64 * k) := by rw [e1, e2, h]; omega
  exact Nat.lt_of_not_le fun hle => absurd (Nat.div_le_div_right (c := 2 ^ (64 * k)) hle) (by omega)
theorem top_eq {n m k : Nat} (h : n / 2 ^ (64 * (k + 1)) = m / 2 ^ (64 * (k + 1))) (hl : wd n k = wd m k) : n / 2 ^ (64 * k) = m / 2 ^ (64 * k) := by
  rw [top_word n k, top_word m k, h, hl]
theorem top_none {n m : Nat} (hn : n < 2 ^ 256) (hm : m < 2 ^ 256) : n / 2 ^ (64 * 4) = m / 2 ^ (64 * 4) := by
  rw [Nat.div_eq_of_lt (show n < 2 ^ (64 * 4) from hn), Nat.div_eq_of_lt (show m < 2 ^ (64 * 4) from hm)]
end Go.Proofs.Ythkgjodidkpaeaa

set_option linter.unusedSimpArgs false
set_option linter.unusedVariables false
namespace Go.Proofs.Ythkgjodidkpaeaa
open Go.RowKit

theorem ten_step (x c : Int) (hx0 : 0 ≤ x) (hx : x < 18446744073709551616) (hc0 : 0 ≤ c) (hc : c < 18446744073709551616) :
    ∃ h l s k : Int, Hid (∀ w : World, Calls Try.prog 96 #[.int .u64 x, .int .u64 10] w fun e w' => e = .returned (.tuple #[.int .u64 h, .int .u64 l]) ∧ ∃ nn, w' = w.drewN nn) ∧
      (∀ W : World, (callFunc 86 #[.int .u64 l, .int .u64 c, .int .u64 0]).run Try.prog W = .ok (.value (.tuple #[.int .u64 s, .int .u64 k])) W) ∧
      Hid (s + 18446744073709551616 * (h + k) = x * 10 + c) ∧ 0 ≤ h ∧ 0 ≤ k ∧ 0 ≤ s ∧ s < 18446744073709551616 ∧ h + k < 18446744073709551616 := by
  obtain ⟨h, l, f, H⟩ := mul64_ex x 10 hx0 hx (by decide) (by decide)
  unfold Two at H
  obtain ⟨s, k, g, K⟩ := add64_ex l c 0 (by omega) (by omega) hc0 hc (by decide) (by decide)
  unfold Carry at K
  exact ⟨h, l, s, k, f, g, by show s + 18446744073709551616 * (h + k) = x * 10 + c; omega, by omega, by omega, by omega, by omega, by omega⟩
set_option maxHeartbeats 4000000 in
theorem times_any4 (c k : Nat) (hc : c < 2 ^ 128) (hk : k ≤ 1000) (h : c * 10 ^ k < 2 ^ 256) (w : World) : Calls Try.prog 79 #[.agg #[.int .u64 (wd c 1), .int .u64 (wd c 0)], .int .i64 k] w fun e w' => e = .returned (.agg #[.int .u64 (wd (c * 10 ^ k) 0), .int .u64 (wd (c * 10 ^ k) 1), .int .u64 (wd (c * 10 ^ k) 2), .int .u64 (wd (c * 10 ^ k) 3)]) ∧ Below w.heap.size w w' := by
  have HL := Lib.hid (fun W => long_any c hc W)
  have H := Far.mk h
  have k0 : (0 : Int) ≤ (k : Int) := by omega
  have k1 : (k : Int) ≤ 1000 := by omega
  obtain ⟨z, hz⟩ : ∃ z, z = c * 10 ^ k := ⟨_, rfl⟩
  rw [← hz]
  have HZ := Far.mk hz
  clear hc h hz
  obtain ⟨x1, hx1⟩ : ∃ x1, x1 = wd c 1 := ⟨_, rfl⟩
  obtain ⟨x0, hx0⟩ : ∃ x0, x0 = wd c 0 := ⟨_, rfl⟩
  rw [← hx1, ← hx0]
  rw [← hx1, ← hx0] at HL
  have X1 := Lib.hid hx1
  have X0 := Lib.hid hx0
  clear hx1 hx0
  go_enter Try.func79, Try.ntmps79
  go_wp2_with fail
  refine (HL.out _).mono ?_
  rw [X1.out, X0.out]
  rintro _ w1 ⟨rfl, hb1⟩; have hb1s := hb1.size; (try simp only [World.size_alloc, World.size_setCell, World.size_drew, World.heap_drewN] at hb1s); obtain ⟨hb1c, hb1f⟩ := bcell hb1; (try have : w.heap.size < w1.heap.size := by omega); (try have : w.heap.size + 1 < w1.heap.size := by omega); (try have : w.heap.size + 1 + 1 < w1.heap.size := by omega); (try have : w.heap.size + 1 + 1 + 1 < w1.heap.size := by omega)
  go_wp2_with fail
  go_loopg [14] k (fun kk i wr => ∃ t : Nat, kk + t = k ∧ i = .int .i64 t ∧ Bk wr w1.heap.size 45 (lcells (c * 10 ^ t)) ∧ Bk wr (w.heap.size + 1) 45 [.int .u64 0, .int .u64 0, .int .u64 0, .int .u64 0] ∧ w1.heap.size < wr.heap.size ∧ Below w.heap.size w wr)
  case atStart =>
    refine ⟨0, by omega, rfl, ?_, by (repeat (first | (with_reducible assumption) | ((with_reducible refine Bk.new_ ?_); (first | rfl | (simp only [World.size_alloc, World.size_setCell, World.size_drew, World.heap_drewN]; done))) | (with_reducible refine Bk.alloc ?_ _) | (with_reducible refine Bk.drew ?_) | (with_reducible refine Bk.drewN ?_ _) | ((with_reducible refine Bk.far ?_ ?_ _); rotate_left; focus (simp only []; omega)) | ((with_reducible refine Bk.below ?_ (by with_reducible assumption) ?_); rotate_left; focus (go_size; done)))), by go_size, by (repeat' (first | (with_reducible exact Below.refl _ _) | (with_reducible assumption) | (with_reducible refine Below.drew ?_) | (with_reducible refine below_drewN ?_ _) | ((with_reducible refine Below.alloc ?_ ?_ _); rotate_left; focus (go_size; done)) | ((with_reducible refine Below.setCell ?_ ?_ _); rotate_left; focus (go_size; done)) | ((with_reducible refine Below.trans ?_ (Below.mono (by with_reducible assumption) ?_)); rotate_left; focus (go_size; done))))⟩
    rw [Nat.pow_zero, Nat.mul_one, lcells_eq]
    (repeat (first | (with_reducible assumption) | ((with_reducible refine Bk.new_ ?_); (first | rfl | (simp only [World.size_alloc, World.size_setCell, World.size_drew, World.heap_drewN]; done))) | (with_reducible refine Bk.alloc ?_ _) | (with_reducible refine Bk.drew ?_) | (with_reducible refine Bk.drewN ?_ _) | ((with_reducible refine Bk.far ?_ ?_ _); rotate_left; focus (simp only []; omega)) | ((with_reducible refine Bk.below ?_ (by with_reducible assumption) ?_); rotate_left; focus (go_size; done))))
  case round =>
    obtain ⟨t, hn, rfl, b1, b0, hsz, hbel⟩ := hrel
    have HK := Lib.hid hn
    have HB1 := Lib.hid b1
    have HB0 := Lib.hid b0
    have ht : t ≤ k := by omega
    clear hn b1 b0
    by_cases hlt : t < k
    · have hM : c * 10 ^ t * 10 < 2 ^ 256 := by
        have h1 := H.out
        have h2 : c * 10 ^ t * 10 ≤ c * 10 ^ k := by
          rw [Nat.mul_assoc, ← Nat.pow_succ]
          exact Nat.mul_le_mul_left _ (Nat.pow_le_pow_right (by decide) hlt)
        omega
      obtain ⟨M, eM⟩ : ∃ M, M = c * 10 ^ t := ⟨_, rfl⟩
      rw [← eM] at hM HB1
      have EM := Far.mk eM
      have HM := Far.mk hM
      have HM0 : Far (M < 2 ^ 256) := Far.mk (by omega)
      have tlt : (t : Int) < (k : Int) := by omega
      clear eM hM
      go_wp2_with fail
      obtain ⟨wo, hwo⟩ : ∃ wo : World, wo = wr := ⟨_, rfl⟩
      obtain ⟨go, hgo⟩ : ∃ go : Nat, go = gk := ⟨_, rfl⟩
      rw [← hgo] at HK
      have HGO := Lib.hid hgo
      clear hwo hgo
      go_loopg [6, 16] 4 (fun kk cv j wr => ∃ (s : Nat) (cc : Int) (V : Nat), kk + s = 4 ∧ j = .int .i64 s ∧ cv = .int .u64 cc ∧ 0 ≤ cc ∧ cc < 18446744073709551616 ∧ Far (V < 2 ^ 256) ∧ Far ((V : Int) + cc * ((2 ^ (64 * s) : Nat) : Int) = M + 9 * ((M % 2 ^ (64 * s) : Nat) : Int)) ∧ Hid (∀ i, s ≤ i → i < 4 → wd V i = wd M i) ∧
        Bk wr w1.heap.size 45 (lcells V) ∧ Bk wr (w.heap.size + 1) 45 [.int .u64 0, .int .u64 0, .int .u64 0, .int .u64 0] ∧ w1.heap.size < wr.heap.size ∧ Below w.heap.size w wr)
      case atStart =>
        refine ⟨0, 0, M, rfl, rfl, rfl, by decide, by decide, HM0, Far.mk ?_, Lib.hid (fun i _ _ => rfl), HB1.out, HB0.out, hsz, hbel⟩
        rw [Nat.mul_zero, Nat.pow_zero, Nat.mod_one]; simp
      case round =>
        obtain ⟨s, cc, V, hk2, rfl, rfl, c0, c1, hV, hE, hU, b1, b0, hsz, hbel⟩ := hrel
        have HK2 := Lib.hid hk2
        have HB1 := Lib.hid b1
        have HB0 := Lib.hid b0
        have s4 : s ≤ 4 := by omega
        clear hk2 b1 b0
        by_cases hls : s < 4
        · have s0' : (0 : Int) ≤ (s : Int) := by omega
          have s3' : (s : Int) < 4 := by omega
          have d0 : wr.cell? ⟨w1.heap.size, s, none⟩ = some (.int .u64 (wd V s)) := HB1.out.cell s (lcells_at V s hls)
          have f0 := HB1.out.frozen s
          obtain ⟨h, l, u, q, f, g, HS, h0, q0, u0, u1, hq⟩ := ten_step (wd V s) cc (wd_nn V s) (wd_lt V s) c0 c1
          obtain ⟨V', v1, v2, v3, v4, v5⟩ := lcells_set V s hls hV.out u u0 u1
          have HNEW := Far.mk (ten_word hE.out rfl (hU.out s (Nat.le_refl _) hls) v2 HS.out)
          have HV' := Far.mk v1
          have HL := Lib.hid v3
          have HU' : Hid (∀ i, s + 1 ≤ i → i < 4 → wd V' i = wd M i) := Lib.hid (fun i hi h4 => by rw [v4 i h4 (by omega)]; exact hU.out i (by omega) h4)
          have hq0 : 0 ≤ h + q := by omega
          clear v1 v2 v3 v4 v5 hE hV hU HS
          generalize wd V s = x at *
          go_wp2_with ((go_at_call 96; with_reducible refine (f.out _).mono ?_); rintro _ _ ⟨rfl, nn, rfl⟩)
          go_roundg (gk - 1)
          case measure => have := HK2.out; omega
          case rel =>
            have b0 := HB0.out
            have b1 := HB1.out
            refine ⟨s + 1, h + q, V', by have := HK2.out; omega, by go_num, rfl, hq0, hq, HV', HNEW, HU', ?_, by (repeat (first | (with_reducible assumption) | ((with_reducible refine Bk.new_ ?_); (first | rfl | (simp only [World.size_alloc, World.size_setCell, World.size_drew, World.heap_drewN]; done))) | (with_reducible refine Bk.alloc ?_ _) | (with_reducible refine Bk.drew ?_) | (with_reducible refine Bk.drewN ?_ _) | ((with_reducible refine Bk.far ?_ ?_ _); rotate_left; focus (simp only []; omega)) | ((with_reducible refine Bk.below ?_ (by with_reducible assumption) ?_); rotate_left; focus (go_size; done)))), by go_size, by (repeat' (first | (with_reducible exact Below.refl _ _) | (with_reducible assumption) | (with_reducible refine Below.drew ?_) | (with_reducible refine below_drewN ?_ _) | ((with_reducible refine Below.alloc ?_ ?_ _); rotate_left; focus (go_size; done)) | ((with_reducible refine Below.setCell ?_ ?_ _); rotate_left; focus (go_size; done)) | ((with_reducible refine Below.trans ?_ (Below.mono (by with_reducible assumption) ?_)); rotate_left; focus (go_size; done))))⟩
            rw [← HL.out]
            exact (b1.drewN _).set_ _ _
        · obtain rfl : s = 4 := by omega
          have e := ten_end hV.out HM.out c0 hE.out
          subst e
          clear hV hE
          go_wp2_with fail
          go_roundg (go - 1)
          case measure => have := HK.out; have := HGO.out; omega
          case rel =>
            refine ⟨t + 1, by have := HK.out; omega, by go_num, ?_, HB0.out, hsz, hbel⟩
            rw [Nat.pow_succ, ← Nat.mul_assoc, ← EM.out]
            exact HB1.out
    · obtain rfl : t = k := by omega
      have b1 := HB1.out
      rw [← HZ.out, lcells_eq] at b1
      have b0 := HB0.out
      have d0 := b1.cell 0 rfl
      have d1 := b1.cell 1 rfl
      have d2 := b1.cell 2 rfl
      have d3 := b1.cell 3 rfl
      have e0 := b0.cell 0 rfl
      have e1 := b0.cell 1 rfl
      have e2 := b0.cell 2 rfl
      have e3 := b0.cell 3 rfl
      have g0 := b0.frozen 0
      have g1 := b0.frozen 1
      have g2 := b0.frozen 2
      have g3 := b0.frozen 3
      clear b0 b1
      go_wp2_with fail
      refine bodyPost_ret (by simp [results, Try.results79, go_sem, *]; try rfl) rfl ?_
      exact ⟨rfl, by (repeat' (first | (with_reducible exact Below.refl _ _) | (with_reducible assumption) | (with_reducible refine Below.drew ?_) | (with_reducible refine below_drewN ?_ _) | ((with_reducible refine Below.alloc ?_ ?_ _); rotate_left; focus (go_size; done)) | ((with_reducible refine Below.setCell ?_ ?_ _); rotate_left; focus (go_size; done)) | ((with_reducible refine Below.trans ?_ (Below.mono (by with_reducible assumption) ?_)); rotate_left; focus (go_size; done))))⟩
end Go.Proofs.Ythkgjodidkpaeaa

set_option linter.unusedSimpArgs false
set_option linter.unusedVariables false
namespace Go.Proofs.Ythkgjodidkpaeaa
open Go.RowKit

set_option maxHeartbeats 2000000 in
theorem turned_any (b : Bool) (c : Nat) (s : Int) (hc : c < 2 ^ 128) (w : World) : Calls Try.prog 50 #[.agg #[.bool b, .int .u64 (wd (c) 1), .int .u64 (wd (c) 0), .int .i64 s]] w fun e w' => e = .returned (.agg #[.bool (sg (!b) c), .int .u64 (wd (c) 1), .int .u64 (wd (c) 0), .int .i64 s]) ∧ Below w.heap.size w w' := by
  have HZ := Lib.hid (fun W => zero_any b c s hc W)
  obtain ⟨z, hz⟩ : ∃ z, z = decide (c = 0) := ⟨_, rfl⟩
  obtain ⟨r, hr⟩ : ∃ r, r = sg (!b) c := ⟨_, rfl⟩
  have HR := Lib.hid (show r = (!b && !z) by rw [hr, hz]; unfold sg; simp)
  rw [← hz] at HZ
  rw [← hr]
  generalize wd c 0 = x0 at *
  generalize wd c 1 = x1 at *
  clear hc hz hr
  cases b
  · go_enter Try.func50, Try.ntmps50
    go_wp2_with fail
    refine (HZ.out _).mono ?_
    rintro _ w1 ⟨rfl, hb1⟩; have hb1s := hb1.size; (try simp only [World.size_alloc, World.size_setCell, World.size_drew, World.heap_drewN] at hb1s); obtain ⟨hb1c, hb1f⟩ := bcell hb1; (try have : w.heap.size < w1.heap.size := by omega); (try have : w.heap.size + 1 < w1.heap.size := by omega); (try have : w.heap.size + 1 + 1 < w1.heap.size := by omega); (try have : w.heap.size + 1 + 1 + 1 < w1.heap.size := by omega)
    have k : Bk w1 (w.heap.size) 26 [.bool false, .int .u64 x1, .int .u64 x0, .int .i64 s] := by (repeat (first | (with_reducible assumption) | ((with_reducible refine Bk.new_ ?_); (first | rfl | (simp only [World.size_alloc, World.size_setCell, World.size_drew, World.heap_drewN]; done))) | (with_reducible refine Bk.alloc ?_ _) | (with_reducible refine Bk.drew ?_) | (with_reducible refine Bk.drewN ?_ _) | ((with_reducible refine Bk.far ?_ ?_ _); rotate_left; focus (simp only []; omega)) | ((with_reducible refine Bk.below ?_ (by with_reducible assumption) ?_); rotate_left; focus (go_size; done))))
    have k_0 := k.cell 0 rfl
    have k_1 := k.cell 1 rfl
    have k_2 := k.cell 2 rfl
    have k_3 := k.cell 3 rfl
    have k_4 := k.frozen 0
    have k_5 := k.frozen 1
    have k_6 := k.frozen 2
    have k_7 := k.frozen 3
    have kl := k.lt
    have r0 : Bk w1 (w.heap.size + 1) 26 [.bool false, .int .u64 0, .int .u64 0, .int .i64 0] := by (repeat (first | (with_reducible assumption) | ((with_reducible refine Bk.new_ ?_); (first | rfl | (simp only [World.size_alloc, World.size_setCell, World.size_drew, World.heap_drewN]; done))) | (with_reducible refine Bk.alloc ?_ _) | (with_reducible refine Bk.drew ?_) | (with_reducible refine Bk.drewN ?_ _) | ((with_reducible refine Bk.far ?_ ?_ _); rotate_left; focus (simp only []; omega)) | ((with_reducible refine Bk.below ?_ (by with_reducible assumption) ?_); rotate_left; focus (go_size; done))))
    have r0_0 := r0.cell 0 rfl
    have r0_1 := r0.cell 1 rfl
    have r0_2 := r0.cell 2 rfl
    have r0_3 := r0.cell 3 rfl
    have r0_4 := r0.frozen 0
    have r0_5 := r0.frozen 1
    have r0_6 := r0.frozen 2
    have r0_7 := r0.frozen 3
    have r0l := r0.lt
    clear hb1c hb1f k r0
    go_wp2_with fail
    refine bodyPost_ret (by simp [results, Try.results50, go_sem, *]; try rfl) rfl ?_
    exact ⟨by rw [HR.out]; rfl, by (repeat' (first | (with_reducible exact Below.refl _ _) | (with_reducible assumption) | (with_reducible refine Below.drew ?_) | (with_reducible refine below_drewN ?_ _) | ((with_reducible refine Below.alloc ?_ ?_ _); rotate_left; focus (go_size; done)) | ((with_reducible refine Below.setCell ?_ ?_ _); rotate_left; focus (go_size; done)) | ((with_reducible refine Below.trans ?_ (Below.mono (by with_reducible assumption) ?_)); rotate_left; focus (go_size; done))))⟩
  · go_enter Try.func50, Try.ntmps50
    go_wp2_with fail
    refine bodyPost_ret (by simp [results, Try.results50, go_sem, *]; try rfl) rfl ?_
    exact ⟨by rw [HR.out]; rfl, by (repeat' (first | (with_reducible exact Below.refl _ _) | (with_reducible assumption) | (with_reducible refine Below.drew ?_) | (with_reducible refine below_drewN ?_ _) | ((with_reducible refine Below.alloc ?_ ?_ _); rotate_left; focus (go_size; done)) | ((with_reducible refine Below.setCell ?_ ?_ _); rotate_left; focus (go_size; done)) | ((with_reducible refine Below.trans ?_ (Below.mono (by with_reducible assumption) ?_)); rotate_left; focus (go_size; done))))⟩
set_option maxHeartbeats 2000000 in
theorem neg_bad (b : Bool) (c : Nat) (s : Int) (hc : c < 2 ^ 128) (h : dform b c s = false) (w : World) : Calls Try.prog 14 #[.agg #[.bool b, .int .u64 (wd (c) 1), .int .u64 (wd (c) 0), .int .i64 s]] w fun e w' => e = .returned (.tuple #[.agg #[.bool false, .int .u64 0, .int .u64 0, .int .i64 0], .int .i64 2]) ∧ Below w.heap.size w w' := by
  have HF := Lib.hid (fun g W hg => formed_one b c s hc g W hg)
  rw [h] at HF
  simp only [ferr, if_pos, if_neg, Bool.false_eq_true, if_true, if_false] at HF
  generalize wd c 0 = x0 at *
  generalize wd c 1 = x1 at *
  clear hc h
  go_enter Try.func14, Try.ntmps14
  go_wp2_with fail
  (with_reducible refine (HF.out _ _ ?hg).mono ?_)
  case hg => ((repeat (first | (with_reducible assumption) | ((with_reducible refine Bk.new_ ?_); (first | rfl | (simp only [World.size_alloc, World.size_setCell, World.size_drew, World.heap_drewN]; done))) | (with_reducible refine Bk.alloc ?_ _) | (with_reducible refine Bk.drew ?_) | (with_reducible refine Bk.drewN ?_ _) | ((with_reducible refine Bk.far ?_ ?_ _); rotate_left; focus (simp only []; omega)) | ((with_reducible refine Bk.below ?_ (by with_reducible assumption) ?_); rotate_left; focus (go_size; done)))); done)
  rintro _ w1 ⟨rfl, hb1⟩; have hb1s := hb1.size; (try simp only [World.size_alloc, World.size_setCell, World.size_drew, World.heap_drewN] at hb1s); obtain ⟨hb1c, hb1f⟩ := bcell hb1; (try have : w.heap.size < w1.heap.size := by omega); (try have : w.heap.size + 1 < w1.heap.size := by omega); (try have : w.heap.size + 1 + 1 < w1.heap.size := by omega); (try have : w.heap.size + 1 + 1 + 1 < w1.heap.size := by omega)
  have k : Bk w1 (w.heap.size) 26 [.bool b, .int .u64 x1, .int .u64 x0, .int .i64 s] := by (repeat (first | (with_reducible assumption) | ((with_reducible refine Bk.new_ ?_); (first | rfl | (simp only [World.size_alloc, World.size_setCell, World.size_drew, World.heap_drewN]; done))) | (with_reducible refine Bk.alloc ?_ _) | (with_reducible refine Bk.drew ?_) | (with_reducible refine Bk.drewN ?_ _) | ((with_reducible refine Bk.far ?_ ?_ _); rotate_left; focus (simp only []; omega)) | ((with_reducible refine Bk.below ?_ (by with_reducible assumption) ?_); rotate_left; focus (go_size; done))))
  have k_0 := k.cell 0 rfl
  have k_1 := k.cell 1 rfl
  have k_2 := k.cell 2 rfl
  have k_3 := k.cell 3 rfl
  have k_4 := k.frozen 0
  have k_5 := k.frozen 1
  have k_6 := k.frozen 2
  have k_7 := k.frozen 3
  have kl := k.lt
  have r0 : Bk w1 (w.heap.size + 1) 26 [.bool false, .int .u64 0, .int .u64 0, .int .i64 0] := by (repeat (first | (with_reducible assumption) | ((with_reducible refine Bk.new_ ?_); (first | rfl | (simp only [World.size_alloc, World.size_setCell, World.size_drew, World.heap_drewN]; done))) | (with_reducible refine Bk.alloc ?_ _) | (with_reducible refine Bk.drew ?_) | (with_reducible refine Bk.drewN ?_ _) | ((with_reducible refine Bk.far ?_ ?_ _); rotate_left; focus (simp only []; omega)) | ((with_reducible refine Bk.below ?_ (by with_reducible assumption) ?_); rotate_left; focus (go_size; done))))
  have r0_0 := r0.cell 0 rfl
  have r0_1 := r0.cell 1 rfl
  have r0_2 := r0.cell 2 rfl
  have r0_3 := r0.cell 3 rfl
  have r0_4 := r0.frozen 0
  have r0_5 := r0.frozen 1
  have r0_6 := r0.frozen 2
  have r0_7 := r0.frozen 3
  have r0l := r0.lt
  clear hb1c hb1f k r0
  go_wp2_with fail
  refine bodyPost_ret (by simp [results, Try.results14, go_sem, *]; try rfl) rfl ?_
  exact ⟨rfl, by (repeat' (first | (with_reducible exact Below.refl _ _) | (with_reducible assumption) | (with_reducible refine Below.drew ?_) | (with_reducible refine below_drewN ?_ _) | ((with_reducible refine Below.alloc ?_ ?_ _); rotate_left; focus (go_size; done)) | ((with_reducible refine Below.setCell ?_ ?_ _); rotate_left; focus (go_size; done)) | ((with_reducible refine Below.trans ?_ (Below.mono (by with_reducible assumption) ?_)); rotate_left; focus (go_size; done))))⟩
set_option maxHeartbeats 2000000 in
theorem neg_ok (b : Bool) (c : Nat) (s : Int) (hc : c < 2 ^ 128) (h : dform b c s = true) (w : World) : Calls Try.prog 14 #[.agg #[.bool b, .int .u64 (wd (c) 1), .int .u64 (wd (c) 0), .int .i64 s]] w fun e w' => e = .returned (.tuple #[.agg #[.bool (sg (!b) c), .int .u64 (wd (c) 1), .int .u64 (wd (c) 0), .int .i64 s], .int .i64 0]) ∧ Below w.heap.size w w' := by
  have HF := Lib.hid (fun g W hg => formed_one b c s hc g W hg)
  have HT := Lib.hid (fun W => turned_any b c s hc W)
  rw [h] at HF
  simp only [ferr, if_pos, if_neg, Bool.false_eq_true, if_true, if_false] at HF
  generalize sg (!b) c = r at *
  generalize wd c 0 = x0 at *
  generalize wd c 1 = x1 at *
  clear hc h
  go_enter Try.func14, Try.ntmps14
  go_wp2_with fail
  (with_reducible refine (HF.out _ _ ?hg).mono ?_)
  case hg => ((repeat (first | (with_reducible assumption) | ((with_reducible refine Bk.new_ ?_); (first | rfl | (simp only [World.size_alloc, World.size_setCell, World.size_drew, World.heap_drewN]; done))) | (with_reducible refine Bk.alloc ?_ _) | (with_reducible refine Bk.drew ?_) | (with_reducible refine Bk.drewN ?_ _) | ((with_reducible refine Bk.far ?_ ?_ _); rotate_left; focus (simp only []; omega)) | ((with_reducible refine Bk.below ?_ (by with_reducible assumption) ?_); rotate_left; focus (go_size; done)))); done)
  rintro _ w1 ⟨rfl, hb1⟩; have hb1s := hb1.size; (try simp only [World.size_alloc, World.size_setCell, World.size_drew, World.heap_drewN] at hb1s); obtain ⟨hb1c, hb1f⟩ := bcell hb1; (try have : w.heap.size < w1.heap.size := by omega); (try have : w.heap.size + 1 < w1.heap.size := by omega); (try have : w.heap.size + 1 + 1 < w1.heap.size := by omega); (try have : w.heap.size + 1 + 1 + 1 < w1.heap.size := by omega)
  have k : Bk w1 (w.heap.size) 26 [.bool b, .int .u64 x1, .int .u64 x0, .int .i64 s] := by (repeat (first | (with_reducible assumption) | ((with_reducible refine Bk.new_ ?_); (first | rfl | (simp only [World.size_alloc, World.size_setCell, World.size_drew, World.heap_drewN]; done))) | (with_reducible refine Bk.alloc ?_ _) | (with_reducible refine Bk.drew ?_) | (with_reducible refine Bk.drewN ?_ _) | ((with_reducible refine Bk.far ?_ ?_ _); rotate_left; focus (simp only []; omega)) | ((with_reducible refine Bk.below ?_ (by with_reducible assumption) ?_); rotate_left; focus (go_size; done))))
  have k_0 := k.cell 0 rfl
  have k_1 := k.cell 1 rfl
  have k_2 := k.cell 2 rfl
  have k_3 := k.cell 3 rfl
  have k_4 := k.frozen 0
  have k_5 := k.frozen 1
  have k_6 := k.frozen 2
  have k_7 := k.frozen 3
  have kl := k.lt
  clear hb1c hb1f
  go_wp2_with fail
  refine (HT.out _).mono ?_
  rintro _ w2 ⟨rfl, hb2⟩; have hb2s := hb2.size; (try simp only [World.size_alloc, World.size_setCell, World.size_drew, World.heap_drewN] at hb2s); obtain ⟨hb2c, hb2f⟩ := bcell hb2; (try have : w.heap.size < w2.heap.size := by omega); (try have : w.heap.size + 1 < w2.heap.size := by omega); (try have : w.heap.size + 1 + 1 < w2.heap.size := by omega); (try have : w.heap.size + 1 + 1 + 1 < w2.heap.size := by omega)
  have r0 : Bk w2 (w.heap.size + 1) 26 [.bool false, .int .u64 0, .int .u64 0, .int .i64 0] := by (repeat (first | (with_reducible assumption) | ((with_reducible refine Bk.new_ ?_); (first | rfl | (simp only [World.size_alloc, World.size_setCell, World.size_drew, World.heap_drewN]; done))) | (with_reducible refine Bk.alloc ?_ _) | (with_reducible refine Bk.drew ?_) | (with_reducible refine Bk.drewN ?_ _) | ((with_reducible refine Bk.far ?_ ?_ _); rotate_left; focus (simp only []; omega)) | ((with_reducible refine Bk.below ?_ (by with_reducible assumption) ?_); rotate_left; focus (go_size; done))))
  have r0_0 := r0.cell 0 rfl
  have r0_1 := r0.cell 1 rfl
  have r0_2 := r0.cell 2 rfl
  have r0_3 := r0.cell 3 rfl
  have r0_4 := r0.frozen 0
  have r0_5 := r0.frozen 1
  have r0_6 := r0.frozen 2
  have r0_7 := r0.frozen 3
  have r0l := r0.lt
  clear hb2c hb2f r0 k
  go_wp2_with fail
  refine bodyPost_ret (by simp [results, Try.results14, go_sem, *]; try rfl) rfl ?_
  exact ⟨rfl, by (repeat' (first | (with_reducible exact Below.refl _ _) | (with_reducible assumption) | (with_reducible refine Below.drew ?_) | (with_reducible refine below_drewN ?_ _) | ((with_reducible refine Below.alloc ?_ ?_ _); rotate_left; focus (go_size; done)) | ((with_reducible refine Below.setCell ?_ ?_ _); rotate_left; focus (go_size; done)) | ((with_reducible refine Below.trans ?_ (Below.mono (by with_reducible assumption) ?_)); rotate_left; focus (go_size; done))))⟩
set_option maxHeartbeats 2000000 in
theorem abs_bad (b : Bool) (c : Nat) (s : Int) (hc : c < 2 ^ 128) (h : dform b c s = false) (w : World) : Calls Try.prog 26 #[.agg #[.bool b, .int .u64 (wd (c) 1), .int .u64 (wd (c) 0), .int .i64 s]] w fun e w' => e = .returned (.tuple #[.agg #[.bool false, .int .u64 0, .int .u64 0, .int .i64 0], .int .i64 2]) ∧ Below w.heap.size w w' := by
  have HF := Lib.hid (fun g W hg => formed_one b c s hc g W hg)
  rw [h] at HF
  simp only [ferr, if_pos, if_neg, Bool.false_eq_true, if_true, if_false] at HF
  generalize wd c 0 = x0 at *
  generalize wd c 1 = x1 at *
  clear hc h
  go_enter Try.func26, Try.ntmps26
  go_wp2_with fail
  (with_reducible refine (HF.out _ _ ?hg).mono ?_)
  case hg => ((repeat (first | (with_reducible assumption) | ((with_reducible refine Bk.new_ ?_); (first | rfl | (simp only [World.size_alloc, World.size_setCell, World.size_drew, World.heap_drewN]; done))) | (with_reducible refine Bk.alloc ?_ _) | (with_reducible refine Bk.drew ?_) | (with_reducible refine Bk.drewN ?_ _) | ((with_reducible refine Bk.far ?_ ?_ _); rotate_left; focus (simp only []; omega)) | ((with_reducible refine Bk.below ?_ (by with_reducible assumption) ?_); rotate_left; focus (go_size; done)))); done)
  rintro _ w1 ⟨rfl, hb1⟩; have hb1s := hb1.size; (try simp only [World.size_alloc, World.size_setCell, World.size_drew, World.heap_drewN] at hb1s); obtain ⟨hb1c, hb1f⟩ := bcell hb1; (try have : w.heap.size < w1.heap.size := by omega); (try have : w.heap.size + 1 < w1.heap.size := by omega); (try have : w.heap.size + 1 + 1 < w1.heap.size := by omega); (try have : w.heap.size + 1 + 1 + 1 < w1.heap.size := by omega)
  have k : Bk w1 (w.heap.size) 26 [.bool b, .int .u64 x1, .int .u64 x0, .int .i64 s] := by (repeat (first | (with_reducible assumption) | ((with_reducible refine Bk.new_ ?_); (first | rfl | (simp only [World.size_alloc, World.size_setCell, World.size_drew, World.heap_drewN]; done))) | (with_reducible refine Bk.alloc ?_ _) | (with_reducible refine Bk.drew ?_) | (with_reducible refine Bk.drewN ?_ _) | ((with_reducible refine Bk.far ?_ ?_ _); rotate_left; focus (simp only []; omega)) | ((with_reducible refine Bk.below ?_ (by with_reducible assumption) ?_); rotate_left; focus (go_size; done))))
  have k_0 := k.cell 0 rfl
  have k_1 := k.cell 1 rfl
  have k_2 := k.cell 2 rfl
  have k_3 := k.cell 3 rfl
  have k_4 := k.frozen 0
  have k_5 := k.frozen 1
  have k_6 := k.frozen 2
  have k_7 := k.frozen 3
  have kl := k.lt
  have r0 : Bk w1 (w.heap.size + 1) 26 [.bool false, .int .u64 0, .int .u64 0, .int .i64 0] := by (repeat (first | (with_reducible assumption) | ((with_reducible refine Bk.new_ ?_); (first | rfl | (simp only [World.size_alloc, World.size_setCell, World.size_drew, World.heap_drewN]; done))) | (with_reducible refine Bk.alloc ?_ _) | (with_reducible refine Bk.drew ?_) | (with_reducible refine Bk.drewN ?_ _) | ((with_reducible refine Bk.far ?_ ?_ _); rotate_left; focus (simp only []; omega)) | ((with_reducible refine Bk.below ?_ (by with_reducible assumption) ?_); rotate_left; focus (go_size; done))))
  have r0_0 := r0.cell 0 rfl
  have r0_1 := r0.cell 1 rfl
  have r0_2 := r0.cell 2 rfl
  have r0_3 := r0.cell 3 rfl
  have r0_4 := r0.frozen 0
  have r0_5 := r0.frozen 1
  have r0_6 := r0.frozen 2
  have r0_7 := r0.frozen 3
  have r0l := r0.lt
  clear hb1c hb1f k r0
  go_wp2_with fail
  refine bodyPost_ret (by simp [results, Try.results26, go_sem, *]; try rfl) rfl ?_
  exact ⟨rfl, by (repeat' (first | (with_reducible exact Below.refl _ _) | (with_reducible assumption) | (with_reducible refine Below.drew ?_) | (with_reducible refine below_drewN ?_ _) | ((with_reducible refine Below.alloc ?_ ?_ _); rotate_left; focus (go_size; done)) | ((with_reducible refine Below.setCell ?_ ?_ _); rotate_left; focus (go_size; done)) | ((with_reducible refine Below.trans ?_ (Below.mono (by with_reducible assumption) ?_)); rotate_left; focus (go_size; done))))⟩
set_option maxHeartbeats 2000000 in
theorem abs_ok (b : Bool) (c : Nat) (s : Int) (hc : c < 2 ^ 128) (h : dform b c s = true) (w : World) : Calls Try.prog 26 #[.agg #[.bool b, .int .u64 (wd (c) 1), .int .u64 (wd (c) 0), .int .i64 s]] w fun e w' => e = .returned (.tuple #[.agg #[.bool false, .int .u64 (wd (c) 1), .int .u64 (wd (c) 0), .int .i64 s], .int .i64 0]) ∧ Below w.heap.size w w' := by
  have HF := Lib.hid (fun g W hg => formed_one b c s hc g W hg)
  rw [h] at HF
  simp only [ferr, if_pos, if_neg, Bool.false_eq_true, if_true, if_false] at HF
  generalize wd c 0 = x0 at *
  generalize wd c 1 = x1 at *
  clear hc h
  go_enter Try.func26, Try.ntmps26
  go_wp2_with fail
  (with_reducible refine (HF.out _ _ ?hg).mono ?_)
  case hg => ((repeat (first | (with_reducible assumption) | ((with_reducible refine Bk.new_ ?_); (first | rfl | (simp only [World.size_alloc, World.size_setCell, World.size_drew, World.heap_drewN]; done))) | (with_reducible refine Bk.alloc ?_ _) | (with_reducible refine Bk.drew ?_) | (with_reducible refine Bk.drewN ?_ _) | ((with_reducible refine Bk.far ?_ ?_ _); rotate_left; focus (simp only []; omega)) | ((with_reducible refine Bk.below ?_ (by with_reducible assumption) ?_); rotate_left; focus (go_size; done)))); done)
  rintro _ w1 ⟨rfl, hb1⟩; have hb1s := hb1.size; (try simp only [World.size_alloc, World.size_setCell, World.size_drew, World.heap_drewN] at hb1s); obtain ⟨hb1c, hb1f⟩ := bcell hb1; (try have : w.heap.size < w1.heap.size := by omega); (try have : w.heap.size + 1 < w1.heap.size := by omega); (try have : w.heap.size + 1 + 1 < w1.heap.size := by omega); (try have : w.heap.size + 1 + 1 + 1 < w1.heap.size := by omega)
  have k : Bk w1 (w.heap.size) 26 [.bool b, .int .u64 x1, .int .u64 x0, .int .i64 s] := by (repeat (first | (with_reducible assumption) | ((with_reducible refine Bk.new_ ?_); (first | rfl | (simp only [World.size_alloc, World.size_setCell, World.size_drew, World.heap_drewN]; done))) | (with_reducible refine Bk.alloc ?_ _) | (with_reducible refine Bk.drew ?_) | (with_reducible refine Bk.drewN ?_ _) | ((with_reducible refine Bk.far ?_ ?_ _); rotate_left; focus (simp only []; omega)) | ((with_reducible refine Bk.below ?_ (by with_reducible assumption) ?_); rotate_left; focus (go_size; done))))
  have k_0 := k.cell 0 rfl
  have k_1 := k.cell 1 rfl
  have k_2 := k.cell 2 rfl
  have k_3 := k.cell 3 rfl
  have k_4 := k.frozen 0
  have k_5 := k.frozen 1
  have k_6 := k.frozen 2
  have k_7 := k.frozen 3
  have kl := k.lt
  have r0 : Bk w1 (w.heap.size + 1) 26 [.bool false, .int .u64 0, .int .u64 0, .int .i64 0] := by (repeat (first | (with_reducible assumption) | ((with_reducible refine Bk.new_ ?_); (first | rfl | (simp only [World.size_alloc, World.size_setCell, World.size_drew, World.heap_drewN]; done))) | (with_reducible refine Bk.alloc ?_ _) | (with_reducible refine Bk.drew ?_) | (with_reducible refine Bk.drewN ?_ _) | ((with_reducible refine Bk.far ?_ ?_ _); rotate_left; focus (simp only []; omega)) | ((with_reducible refine Bk.below ?_ (by with_reducible assumption) ?_); rotate_left; focus (go_size; done))))
  have r0_0 := r0.cell 0 rfl
  have r0_1 := r0.cell 1 rfl
  have r0_2 := r0.cell 2 rfl
  have r0_3 := r0.cell 3 rfl
  have r0_4 := r0.frozen 0
  have r0_5 := r0.frozen 1
  have r0_6 := r0.frozen 2
  have r0_7 := r0.frozen 3
  have r0l := r0.lt
  clear hb1c hb1f k r0
  go_wp2_with fail
  refine bodyPost_ret (by simp [results, Try.results26, go_sem, *]; try rfl) rfl ?_
  exact ⟨rfl, by (repeat' (first | (with_reducible exact Below.refl _ _) | (with_reducible assumption) | (with_reducible refine Below.drew ?_) | (with_reducible refine below_drewN ?_ _) | ((with_reducible refine Below.alloc ?_ ?_ _); rotate_left; focus (go_size; done)) | ((with_reducible refine Below.setCell ?_ ?_ _); rotate_left; focus (go_size; done)) | ((with_reducible refine Below.trans ?_ (Below.mono (by with_reducible assumption) ?_)); rotate_left; focus (go_size; done))))⟩
theorem times_sub (c m s : Nat) (hc : c < B34) (h : s ≤ m) (hm : m ≤ 18) (W : World) : Calls Try.prog 79 #[.agg #[.int .u64 (wd c 1), .int .u64 (wd c 0)], .int .i64 ((m : Int) - (s : Int))] W fun e w' => e = .returned (.agg #[.int .u64 (wd (c * 10 ^ (m - s)) 0), .int .u64 (wd (c * 10 ^ (m - s)) 1), .int .u64 (wd (c * 10 ^ (m - s)) 2), .int .u64 (wd (c * 10 ^ (m - s)) 3)]) ∧ Below W.heap.size W w' := by
  rw [show (m : Int) - (s : Int) = ((m - s : Nat) : Int) by omega]
  exact times_any4 c (m - s) (Nat.lt_trans hc B34_lt) (by omega) (Nat.lt_trans (scaled_lt hc hm) (by decide)) W
set_option maxHeartbeats 4000000 in
theorem both_any (b : Bool) (c s : Nat) (b' : Bool) (c' s' m : Nat) (hc : c < B34) (hc' : c' < B34) (hs : s ≤ 18) (hs' : s' ≤ 18) (hm : m = max s s') (w : World) :
    Calls Try.prog 47 #[.agg #[.bool b, .int .u64 (wd (c) 1), .int .u64 (wd (c) 0), .int .i64 s], .agg #[.bool b', .int .u64 (wd (c') 1), .int .u64 (wd (c') 0), .int .i64 s']] w fun e w' => e = .returned (.tuple #[.agg #[.int .u64 (wd (c * 10 ^ (m - s)) 0), .int .u64 (wd (c * 10 ^ (m - s)) 1), .int .u64 (wd (c * 10 ^ (m - s)) 2), .int .u64 (wd (c * 10 ^ (m - s)) 3)], .agg #[.int .u64 (wd (c' * 10 ^ (m - s')) 0), .int .u64 (wd (c' * 10 ^ (m - s')) 1), .int .u64 (wd (c' * 10 ^ (m - s')) 2), .int .u64 (wd (c' * 10 ^ (m - s')) 3)], .int .i64 m]) ∧ Below w.heap.size w w' := by
  have m18 : m ≤ 18 := by omega
  have sm : s ≤ m := by omega
  have sm' : s' ≤ m := by omega
  have HA := Lib.hid (fun W => times_sub c m s hc sm m18 W)
  have HB := Lib.hid (fun W => times_sub c' m s' hc' sm' m18 W)
  generalize c * 10 ^ (m - s) = X at *
  generalize c' * 10 ^ (m - s') = Y at *
  have ga : IntKind.i64.wrap ((m : Int) - (s : Int)) = (m : Int) - (s : Int) := IntWalk.i64_in _ (by omega)
  have gb : IntKind.i64.wrap ((m : Int) - (s' : Int)) = (m : Int) - (s' : Int) := IntWalk.i64_in _ (by omega)
  have GA := Lib.hid ga
  have GB := Lib.hid gb
  clear ga gb
  have hmi : max (s : Int) (s' : Int) = (m : Int) := by omega
  have HMI := Lib.hid hmi
  generalize wd c 0 = x0 at *
  generalize wd c 1 = x1 at *
  generalize wd c' 0 = y0 at *
  generalize wd c' 1 = y1 at *
  clear hmi hm hc hc'
  go_enter Try.func47, Try.ntmps47
  go_wp2_with fail
  rw [HMI.out]
  have ga := GA.out
  have gb := GB.out
  go_region_held3 (fun w' => (w'.cell? ⟨w.heap.size, 0, none⟩ = some (.bool b) ∧ w'.cell? ⟨w.heap.size, 1, none⟩ = some (.int .u64 x1) ∧ w'.cell? ⟨w.heap.size, 2, none⟩ = some (.int .u64 x0) ∧ w'.cell? ⟨w.heap.size, 3, none⟩ = some (.int .i64 ((s : Int)))) ∧ (w'.cell? ⟨(w.heap.size + 1), 0, none⟩ = some (.bool b') ∧ w'.cell? ⟨(w.heap.size + 1), 1, none⟩ = some (.int .u64 y1) ∧ w'.cell? ⟨(w.heap.size + 1), 2, none⟩ = some (.int .u64 y0) ∧ w'.cell? ⟨(w.heap.size + 1), 3, none⟩ = some (.int .i64 ((s' : Int))))) (first | (first | (go_keep; done) | (simp [go_sem]; done) | ((try dsimp only); (repeat' apply And.intro) <;> (first | (with_reducible assumption) | ((rw [World.cell?_alloc_lt _ _ _ (by show _ < _; omega)]); go_split_ands; (first | with_reducible assumption | (refine (World.cell?_alloc_lt _ _ _ (by show _ < _; omega)).symm.trans ?_; with_reducible assumption))) | ((rw [World.cell?_setCell_other _ _ _ _ (by intro e; injection e; omega)]); with_reducible assumption) | (go_keep; done) | (simp [go_sem]; done) | (simp (disch := go_size) [*, World.cell?_alloc_some, World.cell?_setCell_far]; done)))) | ((refine ⟨?_, ?_⟩) <;> (first | ((refine ⟨Bk.cell (t := 26) (cs := [.bool b, .int .u64 x1, .int .u64 x0, .int .i64 ((s : Int))]) ?_ 0 rfl, Bk.cell (t := 26) (cs := [.bool b, .int .u64 x1, .int .u64 x0, .int .i64 ((s : Int))]) ?_ 1 rfl, Bk.cell (t := 26) (cs := [.bool b, .int .u64 x1, .int .u64 x0, .int .i64 ((s : Int))]) ?_ 2 rfl, Bk.cell (t := 26) (cs := [.bool b, .int .u64 x1, .int .u64 x0, .int .i64 ((s : Int))]) ?_ 3 rfl⟩) <;> ((repeat (first | (with_reducible assumption) | ((with_reducible refine Bk.new_ ?_); (first | rfl | (simp only [World.size_alloc, World.size_setCell, World.size_drew, World.heap_drewN]; done))) | (with_reducible refine Bk.alloc ?_ _) | (with_reducible refine Bk.drew ?_) | (with_reducible refine Bk.drewN ?_ _) | ((with_reducible refine Bk.far ?_ ?_ _); rotate_left; focus (simp only []; omega)) | ((with_reducible refine Bk.below ?_ (by with_reducible assumption) ?_); rotate_left; focus (go_size; done)))); done)) | ((refine ⟨Bk.cell (t := 26) (cs := [.bool b', .int .u64 y1, .int .u64 y0, .int .i64 ((s' : Int))]) ?_ 0 rfl, Bk.cell (t := 26) (cs := [.bool b', .int .u64 y1, .int .u64 y0, .int .i64 ((s' : Int))]) ?_ 1 rfl, Bk.cell (t := 26) (cs := [.bool b', .int .u64 y1, .int .u64 y0, .int .i64 ((s' : Int))]) ?_ 2 rfl, Bk.cell (t := 26) (cs := [.bool b', .int .u64 y1, .int .u64 y0, .int .i64 ((s' : Int))]) ?_ 3 rfl⟩) <;> ((repeat (first | (with_reducible assumption) | ((with_reducible refine Bk.new_ ?_); (first | rfl | (simp only [World.size_alloc, World.size_setCell, World.size_drew, World.heap_drewN]; done))) | (with_reducible refine Bk.alloc ?_ _) | (with_reducible refine Bk.drew ?_) | (with_reducible refine Bk.drewN ?_ _) | ((with_reducible refine Bk.far ?_ ?_ _); rotate_left; focus (simp only []; omega)) | ((with_reducible refine Bk.below ?_ (by with_reducible assumption) ?_); rotate_left; focus (go_size; done)))); done))))) (first | (go_at_call 79; (with_reducible refine (HA.out _).mono ?_); rintro _ w1 ⟨rfl, hb1⟩; have hb1s := hb1.size; (try simp only [World.size_alloc, World.size_setCell, World.size_drew, World.heap_drewN] at hb1s); obtain ⟨hb1c, hb1f⟩ := bcell hb1; (try have : w.heap.size < w1.heap.size := by omega); (try have : w.heap.size + 1 < w1.heap.size := by omega); (try have : w.heap.size + 1 + 1 < w1.heap.size := by omega); (try have : w.heap.size + 1 + 1 + 1 < w1.heap.size := by omega); (try have : w2.heap.size < w1.heap.size := by omega); (try have : w2.heap.size + 1 < w1.heap.size := by omega); (try have : w2.heap.size + 1 + 1 < w1.heap.size := by omega); (try have : w2.heap.size + 1 + 1 + 1 < w1.heap.size := by omega)) | (go_at_call 79; (with_reducible refine (HB.out _).mono ?_); rintro _ w2 ⟨rfl, hb2⟩; have hb2s := hb2.size; (try simp only [World.size_alloc, World.size_setCell, World.size_drew, World.heap_drewN] at hb2s); obtain ⟨hb2c, hb2f⟩ := bcell hb2; (try have : w.heap.size < w2.heap.size := by omega); (try have : w.heap.size + 1 < w2.heap.size := by omega); (try have : w.heap.size + 1 + 1 < w2.heap.size := by omega); (try have : w.heap.size + 1 + 1 + 1 < w2.heap.size := by omega); (try have : w1.heap.size < w2.heap.size := by omega); (try have : w1.heap.size + 1 < w2.heap.size := by omega); (try have : w1.heap.size + 1 + 1 < w2.heap.size := by omega); (try have : w1.heap.size + 1 + 1 + 1 < w2.heap.size := by omega)))
  all_goals
    go_wp2_with fail
    refine bodyPost_ret (by simp [results, Try.results47, go_sem, *]; try rfl) rfl ?_
    exact ⟨rfl, by (repeat' (first | (with_reducible exact Below.refl _ _) | (with_reducible assumption) | (with_reducible refine Below.drew ?_) | (with_reducible refine below_drewN ?_ _) | ((with_reducible refine Below.alloc ?_ ?_ _); rotate_left; focus (go_size; done)) | ((with_reducible refine Below.setCell ?_ ?_ _); rotate_left; focus (go_size; done)) | ((with_reducible refine Below.trans ?_ (Below.mono (by with_reducible assumption) ?_)); rotate_left; focus (go_size; done))))⟩
end Go.Proofs.Ythkgjodidkpaeaa

set_option linter.unusedSimpArgs false
set_option linter.unusedVariables false
namespace Go.Proofs.Ythkgjodidkpaeaa
open Go.RowKit

theorem power_sub (k s : Nat) (h : s ≤ k) (hk : k ≤ 38) (W : World) : Calls Try.prog 88 #[.int .i64 ((k : Int) - (s : Int))] W fun e w' => e = .returned (.agg #[.int .u64 (wd (10 ^ (k - s)) 1), .int .u64 (wd (10 ^ (k - s)) 0)]) ∧ Below W.heap.size W w' := by
  rw [show (k : Int) - (s : Int) = ((k - s : Nat) : Int) by omega]
  exact power_any (k - s) (by omega) W
set_option maxHeartbeats 2000000 in
theorem canon_any (neg : Bool) (c s : Nat) (hc : c < B34) (hs : s ≤ 1000) (w : World) : Calls Try.prog 75 #[.bool neg, .agg #[.int .u64 (wd c 1), .int .u64 (wd c 0)], .int .i64 s] w fun e w' => e = .returned (.agg #[.bool (sg neg (stripC c s)), .int .u64 (wd ((stripC c s)) 1), .int .u64 (wd ((stripC c s)) 0), .int .i64 (stripS c s)]) ∧ Below w.heap.size w w' := by
  have hc2 : c < 2 ^ 128 := Nat.lt_trans hc B34_lt
  have s0 : (0 : Int) ≤ (s : Int) := by omega
  have s1 : (s : Int) ≤ 1000 := by omega
  have qz : ∀ W, (binOp .eql 24 (.agg #[.int .u64 (wd c 1), .int .u64 (wd c 0)]) (.agg #[.int .u64 0, .int .u64 0])).run Try.prog W = .ok (.bool (decide (c = 0))) W := fun W => by rw [eq_wide, eq_nil hc2]
  by_cases hz : c = 0
  · rw [decide_eq_true hz] at qz
    have e1 : stripC c s = 0 := stripC_zero.2 hz
    have e2 : stripS c s = 0 := by rw [hz]; exact (strip_nil s).2
    rw [e1, e2, wd_zero, wd_zero]
    rw [sg_zero]
    generalize wd c 0 = x0 at *
    generalize wd c 1 = x1 at *
    clear hc hz e1 e2 hc2
    go_enter Try.func75, Try.ntmps75
    go_wp2_with fail
    refine bodyPost_ret (by simp [results, Try.results75, go_sem, *]; try rfl) rfl ?_
    exact ⟨rfl, by (repeat' (first | (with_reducible exact Below.refl _ _) | (with_reducible assumption) | (with_reducible refine Below.drew ?_) | (with_reducible refine below_drewN ?_ _) | ((with_reducible refine Below.alloc ?_ ?_ _); rotate_left; focus (go_size; done)) | ((with_reducible refine Below.setCell ?_ ?_ _); rotate_left; focus (go_size; done)) | ((with_reducible refine Below.trans ?_ (Below.mono (by with_reducible assumption) ?_)); rotate_left; focus (go_size; done))))⟩
  · rw [decide_eq_false hz] at qz
    obtain ⟨T, k, ht⟩ := tz_upto c 34 hz hc
    have hk38 := ht.k_le hc2
    have HT := Lib.hid (fun W => trim_any c T k hc2 ht W)
    have hne : sg neg (stripC c s) = neg := sg_pos (fun e => hz (stripC_zero.1 e))
    rw [hne]
    have hT : T < 2 ^ 128 := by
      have h1 := ht.1
      have h2 : T ≤ c := by rw [h1]; exact Nat.le_mul_of_pos_right _ (Nat.pow_pos (by decide))
      omega
    obtain ⟨h1, h2⟩ := strip_trim T k s ht.2
    rw [← ht.1] at h1 h2
    have k0 : (0 : Int) ≤ (k : Int) := by omega
    have k1 : (k : Int) ≤ 38 := by omega
    by_cases hks : k ≤ s
    · rw [(h1 hks).1, (h1 hks).2]
      have g1 : (k : Int) ≤ (s : Int) := by omega
      rw [show ((s - k : Nat) : Int) = (s : Int) - (k : Int) by omega]
      generalize wd c 0 = x0 at *
      generalize wd c 1 = x1 at *
      generalize wd T 0 = y0 at *
      generalize wd T 1 = y1 at *
      clear h1 h2 hc hc2 hz ht hne hT
      go_enter Try.func75, Try.ntmps75
      go_wp2_with ((go_at_call 57; with_reducible refine (HT.out _).mono ?_); rintro _ w1 ⟨rfl, hb1⟩; have hb1s := hb1.size; (try simp only [World.size_alloc, World.size_setCell, World.size_drew, World.heap_drewN] at hb1s); obtain ⟨hb1c, hb1f⟩ := bcell hb1; (try have : w.heap.size < w1.heap.size := by omega); (try have : w.heap.size + 1 < w1.heap.size := by omega); (try have : w.heap.size + 1 + 1 < w1.heap.size := by omega); (try have : w.heap.size + 1 + 1 + 1 < w1.heap.size := by omega))
      refine bodyPost_ret (by simp [results, Try.results75, go_sem, *]; try rfl) rfl ?_
      exact ⟨rfl, by (repeat' (first | (with_reducible exact Below.refl _ _) | (with_reducible assumption) | (with_reducible refine Below.drew ?_) | (with_reducible refine below_drewN ?_ _) | ((with_reducible refine Below.alloc ?_ ?_ _); rotate_left; focus (go_size; done)) | ((with_reducible refine Below.setCell ?_ ?_ _); rotate_left; focus (go_size; done)) | ((with_reducible refine Below.trans ?_ (Below.mono (by with_reducible assumption) ?_)); rotate_left; focus (go_size; done))))⟩
    · rw [(h2 (by omega)).1, (h2 (by omega)).2]
      have g1 : ¬ (k : Int) ≤ (s : Int) := by omega
      have hle : T * 10 ^ (k - s) < 2 ^ 128 := by
        have e := ht.1
        rw [show k = k - s + s by omega, Nat.pow_add, ← Nat.mul_assoc] at e
        have : T * 10 ^ (k - s) ≤ c := by rw [e]; exact Nat.le_mul_of_pos_right _ (Nat.pow_pos (by decide))
        omega
      have HP := Lib.hid (fun W => power_sub k s (by omega) hk38 W)
      have HM := Lib.hid (fun W => mul_any T (10 ^ (k - s)) hT (ten_38 (by omega)) W)
      have HN := Lib.hid (fun W => narrow_any (T * 10 ^ (k - s)) (Nat.lt_trans hle (by decide)) W)
      rw [fit_id hle, over_id hle] at HN
      generalize T * 10 ^ (k - s) = P at *
      generalize 10 ^ (k - s) = Q at *
      generalize wd c 0 = x0 at *
      generalize wd c 1 = x1 at *
      generalize wd T 0 = y0 at *
      generalize wd T 1 = y1 at *
      generalize wd P 0 = z0 at *
      generalize wd P 1 = z1 at *
      generalize wd P 2 = z2 at *
      generalize wd P 3 = z3 at *
      generalize wd Q 0 = q0 at *
      generalize wd Q 1 = q1 at *
      clear h1 h2 hc hc2 hz ht hne hT hle
      go_enter Try.func75, Try.ntmps75
      have gs1 : IntKind.i64.wrap ((k : Int) - (s : Int)) = (k : Int) - (s : Int) := IntWalk.i64_in _ (by omega)
      go_wp2_with ((go_at_call 57; with_reducible refine (HT.out _).mono ?_); rintro _ w1 ⟨rfl, hb1⟩; have hb1s := hb1.size; (try simp only [World.size_alloc, World.size_setCell, World.size_drew, World.heap_drewN] at hb1s); obtain ⟨hb1c, hb1f⟩ := bcell hb1; (try have : w.heap.size < w1.heap.size := by omega); (try have : w.heap.size + 1 < w1.heap.size := by omega); (try have : w.heap.size + 1 + 1 < w1.heap.size := by omega); (try have : w.heap.size + 1 + 1 + 1 < w1.heap.size := by omega))
      go_region_held3 (fun w' => w'.cell? ⟨w1.heap.size, 0, none⟩ = some (.int .u64 y1) ∧ w'.cell? ⟨w1.heap.size, 1, none⟩ = some (.int .u64 y0)) (first | (first | (go_keep; done) | (simp [go_sem]; done) | ((try dsimp only); (repeat' apply And.intro) <;> (first | (with_reducible assumption) | ((rw [World.cell?_alloc_lt _ _ _ (by show _ < _; omega)]); go_split_ands; (first | with_reducible assumption | (refine (World.cell?_alloc_lt _ _ _ (by show _ < _; omega)).symm.trans ?_; with_reducible assumption))) | ((rw [World.cell?_setCell_other _ _ _ _ (by intro e; injection e; omega)]); with_reducible assumption) | (go_keep; done) | (simp [go_sem]; done) | (simp (disch := go_size) [*, World.cell?_alloc_some, World.cell?_setCell_far]; done)))) | ((refine ⟨Bk.cell (t := 24) (cs := [.int .u64 y1, .int .u64 y0]) ?_ 0 rfl, Bk.cell (t := 24) (cs := [.int .u64 y1, .int .u64 y0]) ?_ 1 rfl⟩) <;> ((repeat (first | (with_reducible assumption) | ((with_reducible refine Bk.new_ ?_); (first | rfl | (simp only [World.size_alloc, World.size_setCell, World.size_drew, World.heap_drewN]; done))) | (with_reducible refine Bk.alloc ?_ _) | (with_reducible refine Bk.drew ?_) | (with_reducible refine Bk.drewN ?_ _) | ((with_reducible refine Bk.far ?_ ?_ _); rotate_left; focus (simp only []; omega)) | ((with_reducible refine Bk.below ?_ (by with_reducible assumption) ?_); rotate_left; focus (go_size; done)))); done))) (first | ((go_at_call 88; with_reducible refine (HP.out _).mono ?_); rintro _ w2 ⟨rfl, hb2⟩; have hb2s := hb2.size; (try simp only [World.size_alloc, World.size_setCell, World.size_drew, World.heap_drewN] at hb2s); obtain ⟨hb2c, hb2f⟩ := bcell hb2; (try have : w.heap.size < w2.heap.size := by omega); (try have : w.heap.size + 1 < w2.heap.size := by omega); (try have : w.heap.size + 1 + 1 < w2.heap.size := by omega); (try have : w.heap.size + 1 + 1 + 1 < w2.heap.size := by omega); (try have : w1.heap.size < w2.heap.size := by omega); (try have : w1.heap.size + 1 < w2.heap.size := by omega); (try have : w1.heap.size + 1 + 1 < w2.heap.size := by omega); (try have : w1.heap.size + 1 + 1 + 1 < w2.heap.size := by omega)) | ((go_at_call 77; with_reducible refine (HM.out _).mono ?_); rintro _ w3 ⟨rfl, hb3⟩; have hb3s := hb3.size; (try simp only [World.size_alloc, World.size_setCell, World.size_drew, World.heap_drewN] at hb3s); obtain ⟨hb3c, hb3f⟩ := bcell hb3; (try have : w.heap.size < w3.heap.size := by omega); (try have : w.heap.size + 1 < w3.heap.size := by omega); (try have : w.heap.size + 1 + 1 < w3.heap.size := by omega); (try have : w.heap.size + 1 + 1 + 1 < w3.heap.size := by omega); (try have : w1.heap.size < w3.heap.size := by omega); (try have : w1.heap.size + 1 < w3.heap.size := by omega); (try have : w1.heap.size + 1 + 1 < w3.heap.size := by omega); (try have : w1.heap.size + 1 + 1 + 1 < w3.heap.size := by omega); (try have : w2.heap.size < w3.heap.size := by omega); (try have : w2.heap.size + 1 < w3.heap.size := by omega); (try have : w2.heap.size + 1 + 1 < w3.heap.size := by omega); (try have : w2.heap.size + 1 + 1 + 1 < w3.heap.size := by omega)) | ((go_at_call 94; with_reducible refine (HN.out _).mono ?_); rintro _ w4 ⟨rfl, hb4⟩; have hb4s := hb4.size; (try simp only [World.size_alloc, World.size_setCell, World.size_drew, World.heap_drewN] at hb4s); obtain ⟨hb4c, hb4f⟩ := bcell hb4; (try have : w.heap.size < w4.heap.size := by omega); (try have : w.heap.size + 1 < w4.heap.size := by omega); (try have : w.heap.size + 1 + 1 < w4.heap.size := by omega); (try have : w.heap.size + 1 + 1 + 1 < w4.heap.size := by omega); (try have : w1.heap.size < w4.heap.size := by omega); (try have : w1.heap.size + 1 < w4.heap.size := by omega); (try have : w1.heap.size + 1 + 1 < w4.heap.size := by omega); (try have : w1.heap.size + 1 + 1 + 1 < w4.heap.size := by omega); (try have : w2.heap.size < w4.heap.size := by omega); (try have : w2.heap.size + 1 < w4.heap.size := by omega); (try have : w2.heap.size + 1 + 1 < w4.heap.size := by omega); (try have : w2.heap.size + 1 + 1 + 1 < w4.heap.size := by omega); (try have : w3.heap.size < w4.heap.size := by omega); (try have : w3.heap.size + 1 < w4.heap.size := by omega); (try have : w3.heap.size + 1 + 1 < w4.heap.size := by omega); (try have : w3.heap.size + 1 + 1 + 1 < w4.heap.size := by omega)))
      all_goals
        first | (refine wp_named (fun W => Bk W (w1.heap.size + 1) 24 [.int .u64 z1, .int .u64 z0] ∧ Bk W (w.heap.size + 1) 26 [.bool false, .int .u64 0, .int .u64 0, .int .i64 0] ∧ Below w.heap.size w W) ⟨?h1, ?h2, ?h3⟩ ?_; (case h1 => (first | ((repeat (first | (with_reducible assumption) | ((with_reducible refine Bk.new_ ?_); (first | rfl | (simp only [World.size_alloc, World.size_setCell, World.size_drew, World.heap_drewN]; done))) | (with_reducible refine Bk.alloc ?_ _) | (with_reducible refine Bk.drew ?_) | (with_reducible refine Bk.drewN ?_ _) | ((with_reducible refine Bk.far ?_ ?_ _); rotate_left; focus (simp only []; omega)) | ((with_reducible refine Bk.below ?_ (by with_reducible assumption) ?_); rotate_left; focus (go_size; done)))); done) | ((repeat (first | (with_reducible refine Bk.alloc ?_ _) | (with_reducible refine Bk.drew ?_) | ((with_reducible refine Bk.far ?_ ?_ _); rotate_left; focus (simp only []; omega)))); (refine ((?_ : Bk _ _ _ [.int .u64 0, .int .u64 0]).set_ 0 _).set_ 1 _); (repeat (first | (with_reducible assumption) | ((with_reducible refine Bk.new_ ?_); (first | rfl | (simp only [World.size_alloc, World.size_setCell, World.size_drew, World.heap_drewN]; done))) | (with_reducible refine Bk.alloc ?_ _) | (with_reducible refine Bk.drew ?_) | (with_reducible refine Bk.drewN ?_ _) | ((with_reducible refine Bk.far ?_ ?_ _); rotate_left; focus (simp only []; omega)) | ((with_reducible refine Bk.below ?_ (by with_reducible assumption) ?_); rotate_left; focus (go_size; done))))); done)); (case h2 => ((repeat (first | (with_reducible assumption) | ((with_reducible refine Bk.new_ ?_); (first | rfl | (simp only [World.size_alloc, World.size_setCell, World.size_drew, World.heap_drewN]; done))) | (with_reducible refine Bk.alloc ?_ _) | (with_reducible refine Bk.drew ?_) | (with_reducible refine Bk.drewN ?_ _) | ((with_reducible refine Bk.far ?_ ?_ _); rotate_left; focus (simp only []; omega)) | ((with_reducible refine Bk.below ?_ (by with_reducible assumption) ?_); rotate_left; focus (go_size; done)))); done)); (case h3 => ((repeat' (first | (with_reducible exact Below.refl _ _) | (with_reducible assumption) | (with_reducible refine Below.drew ?_) | (with_reducible refine below_drewN ?_ _) | ((with_reducible refine Below.alloc ?_ ?_ _); rotate_left; focus (go_size; done)) | ((with_reducible refine Below.setCell ?_ ?_ _); rotate_left; focus (go_size; done)) | ((with_reducible refine Below.trans ?_ (Below.mono (by with_reducible assumption) ?_)); rotate_left; focus (go_size; done)))); done))) | (refine wp_named (fun W => Bk W (w2.heap.size) 24 [.int .u64 z1, .int .u64 z0] ∧ Bk W (w.heap.size + 1) 26 [.bool false, .int .u64 0, .int .u64 0, .int .i64 0] ∧ Below w.heap.size w W) ⟨?h1, ?h2, ?h3⟩ ?_; (case h1 => (first | ((repeat (first | (with_reducible assumption) | ((with_reducible refine Bk.new_ ?_); (first | rfl | (simp only [World.size_alloc, World.size_setCell, World.size_drew, World.heap_drewN]; done))) | (with_reducible refine Bk.alloc ?_ _) | (with_reducible refine Bk.drew ?_) | (with_reducible refine Bk.drewN ?_ _) | ((with_reducible refine Bk.far ?_ ?_ _); rotate_left; focus (simp only []; omega)) | ((with_reducible refine Bk.below ?_ (by with_reducible assumption) ?_); rotate_left; focus (go_size; done)))); done) | ((repeat (first | (with_reducible refine Bk.alloc ?_ _) | (with_reducible refine Bk.drew ?_) | ((with_reducible refine Bk.far ?_ ?_ _); rotate_left; focus (simp only []; omega)))); (refine ((?_ : Bk _ _ _ [.int .u64 0, .int .u64 0]).set_ 0 _).set_ 1 _); (repeat (first | (with_reducible assumption) | ((with_reducible refine Bk.new_ ?_); (first | rfl | (simp only [World.size_alloc, World.size_setCell, World.size_drew, World.heap_drewN]; done))) | (with_reducible refine Bk.alloc ?_ _) | (with_reducible refine Bk.drew ?_) | (with_reducible refine Bk.drewN ?_ _) | ((with_reducible refine Bk.far ?_ ?_ _); rotate_left; focus (simp only []; omega)) | ((with_reducible refine Bk.below ?_ (by with_reducible assumption) ?_); rotate_left; focus (go_size; done))))); done)); (case h2 => ((repeat (first | (with_reducible assumption) | ((with_reducible refine Bk.new_ ?_); (first | rfl | (simp only [World.size_alloc, World.size_setCell, World.size_drew, World.heap_drewN]; done))) | (with_reducible refine Bk.alloc ?_ _) | (with_reducible refine Bk.drew ?_) | (with_reducible refine Bk.drewN ?_ _) | ((with_reducible refine Bk.far ?_ ?_ _); rotate_left; focus (simp only []; omega)) | ((with_reducible refine Bk.below ?_ (by with_reducible assumption) ?_); rotate_left; focus (go_size; done)))); done)); (case h3 => ((repeat' (first | (with_reducible exact Below.refl _ _) | (with_reducible assumption) | (with_reducible refine Below.drew ?_) | (with_reducible refine below_drewN ?_ _) | ((with_reducible refine Below.alloc ?_ ?_ _); rotate_left; focus (go_size; done)) | ((with_reducible refine Below.setCell ?_ ?_ _); rotate_left; focus (go_size; done)) | ((with_reducible refine Below.trans ?_ (Below.mono (by with_reducible assumption) ?_)); rotate_left; focus (go_size; done)))); done))) | (refine wp_named (fun W => Bk W (w3.heap.size) 24 [.int .u64 z1, .int .u64 z0] ∧ Bk W (w.heap.size + 1) 26 [.bool false, .int .u64 0, .int .u64 0, .int .i64 0] ∧ Below w.heap.size w W) ⟨?h1, ?h2, ?h3⟩ ?_; (case h1 => (first | ((repeat (first | (with_reducible assumption) | ((with_reducible refine Bk.new_ ?_); (first | rfl | (simp only [World.size_alloc, World.size_setCell, World.size_drew, World.heap_drewN]; done))) | (with_reducible refine Bk.alloc ?_ _) | (with_reducible refine Bk.drew ?_) | (with_reducible refine Bk.drewN ?_ _) | ((with_reducible refine Bk.far ?_ ?_ _); rotate_left; focus (simp only []; omega)) | ((with_reducible refine Bk.below ?_ (by with_reducible assumption) ?_); rotate_left; focus (go_size; done)))); done) | ((repeat (first | (with_reducible refine Bk.alloc ?_ _) | (with_reducible refine Bk.drew ?_) | ((with_reducible refine Bk.far ?_ ?_ _); rotate_left; focus (simp only []; omega)))); (refine ((?_ : Bk _ _ _ [.int .u64 0, .int .u64 0]).set_ 0 _).set_ 1 _); (repeat (first | (with_reducible assumption) | ((with_reducible refine Bk.new_ ?_); (first | rfl | (simp only [World.size_alloc, World.size_setCell, World.size_drew, World.heap_drewN]; done))) | (with_reducible refine Bk.alloc ?_ _) | (with_reducible refine Bk.drew ?_) | (with_reducible refine Bk.drewN ?_ _) | ((with_reducible refine Bk.far ?_ ?_ _); rotate_left; focus (simp only []; omega)) | ((with_reducible refine Bk.below ?_ (by with_reducible assumption) ?_); rotate_left; focus (go_size; done))))); done)); (case h2 => ((repeat (first | (with_reducible assumption) | ((with_reducible refine Bk.new_ ?_); (first | rfl | (simp only [World.size_alloc, World.size_setCell, World.size_drew, World.heap_drewN]; done))) | (with_reducible refine Bk.alloc ?_ _) | (with_reducible refine Bk.drew ?_) | (with_reducible refine Bk.drewN ?_ _) | ((with_reducible refine Bk.far ?_ ?_ _); rotate_left; focus (simp only []; omega)) | ((with_reducible refine Bk.below ?_ (by with_reducible assumption) ?_); rotate_left; focus (go_size; done)))); done)); (case h3 => ((repeat' (first | (with_reducible exact Below.refl _ _) | (with_reducible assumption) | (with_reducible refine Below.drew ?_) | (with_reducible refine below_drewN ?_ _) | ((with_reducible refine Below.alloc ?_ ?_ _); rotate_left; focus (go_size; done)) | ((with_reducible refine Below.setCell ?_ ?_ _); rotate_left; focus (go_size; done)) | ((with_reducible refine Below.trans ?_ (Below.mono (by with_reducible assumption) ?_)); rotate_left; focus (go_size; done)))); done))) | (refine wp_named (fun W => Bk W (w4.heap.size) 24 [.int .u64 z1, .int .u64 z0] ∧ Bk W (w.heap.size + 1) 26 [.bool false, .int .u64 0, .int .u64 0, .int .i64 0] ∧ Below w.heap.size w W) ⟨?h1, ?h2, ?h3⟩ ?_; (case h1 => (first | ((repeat (first | (with_reducible assumption) | ((with_reducible refine Bk.new_ ?_); (first | rfl | (simp only [World.size_alloc, World.size_setCell, World.size_drew, World.heap_drewN]; done))) | (with_reducible refine Bk.alloc ?_ _) | (with_reducible refine Bk.drew ?_) | (with_reducible refine Bk.drewN ?_ _) | ((with_reducible refine Bk.far ?_ ?_ _); rotate_left; focus (simp only []; omega)) | ((with_reducible refine Bk.below ?_ (by with_reducible assumption) ?_); rotate_left; focus (go_size; done)))); done) | ((repeat (first | (with_reducible refine Bk.alloc ?_ _) | (with_reducible refine Bk.drew ?_) | ((with_reducible refine Bk.far ?_ ?_ _); rotate_left; focus (simp only []; omega)))); (refine ((?_ : Bk _ _ _ [.int .u64 0, .int .u64 0]).set_ 0 _).set_ 1 _); (repeat (first | (with_reducible assumption) | ((with_reducible refine Bk.new_ ?_); (first | rfl | (simp only [World.size_alloc, World.size_setCell, World.size_drew, World.heap_drewN]; done))) | (with_reducible refine Bk.alloc ?_ _) | (with_reducible refine Bk.drew ?_) | (with_reducible refine Bk.drewN ?_ _) | ((with_reducible refine Bk.far ?_ ?_ _); rotate_left; focus (simp only []; omega)) | ((with_reducible refine Bk.below ?_ (by with_reducible assumption) ?_); rotate_left; focus (go_size; done))))); done)); (case h2 => ((repeat (first | (with_reducible assumption) | ((with_reducible refine Bk.new_ ?_); (first | rfl | (simp only [World.size_alloc, World.size_setCell, World.size_drew, World.heap_drewN]; done))) | (with_reducible refine Bk.alloc ?_ _) | (with_reducible refine Bk.drew ?_) | (with_reducible refine Bk.drewN ?_ _) | ((with_reducible refine Bk.far ?_ ?_ _); rotate_left; focus (simp only []; omega)) | ((with_reducible refine Bk.below ?_ (by with_reducible assumption) ?_); rotate_left; focus (go_size; done)))); done)); (case h3 => ((repeat' (first | (with_reducible exact Below.refl _ _) | (with_reducible assumption) | (with_reducible refine Below.drew ?_) | (with_reducible refine below_drewN ?_ _) | ((with_reducible refine Below.alloc ?_ ?_ _); rotate_left; focus (go_size; done)) | ((with_reducible refine Below.setCell ?_ ?_ _); rotate_left; focus (go_size; done)) | ((with_reducible refine Below.trans ?_ (Below.mono (by with_reducible assumption) ?_)); rotate_left; focus (go_size; done)))); done)))
        rintro W ⟨k1, k2, mb⟩
        clear hb1 hb2 hb3 hb4 hb1c hb2c hb3c hb4c hb1f hb2f hb3f hb4f
        have c10 := k1.cell 0 rfl
        have c11 := k1.cell 1 rfl
        have c20 := k2.cell 0 rfl
        have c21 := k2.cell 1 rfl
        have c22 := k2.cell 2 rfl
        have c23 := k2.cell 3 rfl
        have f20 := k2.frozen 0
        have f21 := k2.frozen 1
        have f22 := k2.frozen 2
        have f23 := k2.frozen 3
        go_wp2_with fail
        refine bodyPost_ret (by simp [results, Try.results75, go_sem, *]; try rfl) rfl ?_
        exact ⟨rfl, by (repeat' (first | (with_reducible exact Below.refl _ _) | (with_reducible assumption) | (with_reducible refine Below.drew ?_) | (with_reducible refine below_drewN ?_ _) | ((with_reducible refine Below.alloc ?_ ?_ _); rotate_left; focus (go_size; done)) | ((with_reducible refine Below.setCell ?_ ?_ _); rotate_left; focus (go_size; done)) | ((with_reducible refine Below.trans ?_ (Below.mono (by with_reducible assumption) ?_)); rotate_left; focus (go_size; done))))⟩
end Go.Proofs.Ythkgjodidkpaeaa

set_option linter.unusedSimpArgs false
set_option linter.unusedVariables false
namespace Go.Proofs.Ythkgjodidkpaeaa
open Go.RowKit

theorem fit_step_yes {n t j : Nat} (hj : j ≤ t) (h : near n (10 ^ (t - j)) < B34) (e : fin (fitK n (10 ^ t) (K19 n)) = fin (fitK n (10 ^ t) (j + 1))) :
    FitC n (10 ^ t) = stripC (near n (10 ^ (t - j))) j ∧ FitS n (10 ^ t) = stripS (near n (10 ^ (t - j))) j ∧ FitE n (10 ^ t) = 0 := by
  have hp := near_pow n j t hj
  unfold FitC FitS FitE
  rw [e, fitK_yes (by rw [hp]; exact h), hp]
  exact ⟨rfl, rfl, rfl⟩
theorem fit_step_no {n t j : Nat} (hj : j ≤ t) (h : ¬ near n (10 ^ (t - j)) < B34) (e : fin (fitK n (10 ^ t) (K19 n)) = fin (fitK n (10 ^ t) (j + 1))) :
    fin (fitK n (10 ^ t) (K19 n)) = fin (fitK n (10 ^ t) j) := by
  have hp := near_pow n j t hj
  rw [e, fitK_no (by rw [hp]; exact h)]
theorem fit_step_end {n t : Nat} (e : fin (fitK n (10 ^ t) (K19 n)) = fin (fitK n (10 ^ t) 0)) : FitC n (10 ^ t) = 0 ∧ FitS n (10 ^ t) = 0 ∧ FitE n (10 ^ t) = 3 := by
  unfold FitC FitS FitE
  rw [e]
  exact ⟨rfl, rfl, rfl⟩
theorem fit_begin (n t : Nat) : ∃ k, k ≤ 19 ∧ k = min 18 t + 1 ∧ k ≤ t + 1 ∧ fin (fitK n (10 ^ t) (K19 n)) = fin (fitK n (10 ^ t) k) := by
  refine ⟨min 18 t + 1, by omega, rfl, by omega, ?_⟩
  by_cases h : t ≤ 18
  · rw [show min 18 t = t by omega]; exact fit_top n t h
  · rw [show min 18 t + 1 = K19 n by rw [K19_eq]; omega]
set_option maxHeartbeats 4000000 in
theorem fit_any (neg : Bool) (n t : Nat) (hn : n < 2 ^ 256) (ht : t ≤ 76) (w : World) : Calls Try.prog 51 #[.bool neg, .agg #[.int .u64 (wd n 0), .int .u64 (wd n 1), .int .u64 (wd n 2), .int .u64 (wd n 3)], .int .i64 t] w fun e w' => e = .returned (.tuple #[.agg #[.bool (sg neg (FitC (n) (10 ^ t))), .int .u64 (wd (FitC (n) (10 ^ t)) 1), .int .u64 (wd (FitC (n) (10 ^ t)) 0), .int .i64 (FitS (n) (10 ^ t))], .int .i64 (FitE n (10 ^ t))]) ∧ Below w.heap.size w w' := by
  obtain ⟨k, k19, hk, kt, he⟩ := fit_begin n t
  have HE := Far.mk he
  have HN := Far.mk hn
  have HBD := Lib.hid (fun W => bound_any W)
  obtain ⟨p0, hp0⟩ : ∃ p0, p0 = wd B34 0 := ⟨_, rfl⟩
  obtain ⟨p1, hp1⟩ : ∃ p1, p1 = wd B34 1 := ⟨_, rfl⟩
  rw [← hp0, ← hp1] at HBD
  have HPW : Hid (p0 = wd B34 0 ∧ p1 = wd B34 1) := Lib.hid ⟨hp0, hp1⟩
  clear hp0 hp1
  obtain ⟨C, hC⟩ : ∃ C, C = FitC n (10 ^ t) := ⟨_, rfl⟩
  obtain ⟨S, hS⟩ : ∃ S, S = FitS n (10 ^ t) := ⟨_, rfl⟩
  obtain ⟨E, hE⟩ : ∃ E, E = FitE n (10 ^ t) := ⟨_, rfl⟩
  rw [← hC, ← hS, ← hE]
  have EC := Far.mk hC
  have ES := Far.mk hS
  have EE := Far.mk hE
  clear hC hS hE he hn
  have t0 : (0 : Int) ≤ (t : Int) := by omega
  have t76 : (t : Int) ≤ 76 := by omega
  by_cases h18 : t ≤ 18
  · have g1 : (t : Int) ≤ 18 := by omega
    have hk2 : (t : Int) = (k : Int) - 1 := by omega
    have HK2 := Lib.hid hk2
    clear hk hk2
    go_enter Try.func51, Try.ntmps51
    go_wp2_with fail
    go_loopg [8] k (fun kk sv wr => kk ≤ t + 1 ∧ kk ≤ 19 ∧ sv = .int .i64 ((kk : Int) - 1) ∧ Far (fin (fitK n (10 ^ t) (K19 n)) = fin (fitK n (10 ^ t) kk)) ∧ Bk wr w.heap.size 45 (lcells n) ∧ Bk wr (w.heap.size + 1) 26 [.bool false, .int .u64 0, .int .u64 0, .int .i64 0] ∧ Below w.heap.size w wr)
    case atStart => exact ⟨kt, k19, congrArg (Value.int .i64) (by have := HK2.out; omega), HE, by rw [lcells_eq]; (repeat (first | (with_reducible assumption) | ((with_reducible refine Bk.new_ ?_); (first | rfl | (simp only [World.size_alloc, World.size_setCell, World.size_drew, World.heap_drewN]; done))) | (with_reducible refine Bk.alloc ?_ _) | (with_reducible refine Bk.drew ?_) | (with_reducible refine Bk.drewN ?_ _) | ((with_reducible refine Bk.far ?_ ?_ _); rotate_left; focus (simp only []; omega)) | ((with_reducible refine Bk.below ?_ (by with_reducible assumption) ?_); rotate_left; focus (go_size; done)))), by (repeat (first | (with_reducible assumption) | ((with_reducible refine Bk.new_ ?_); (first | rfl | (simp only [World.size_alloc, World.size_setCell, World.size_drew, World.heap_drewN]; done))) | (with_reducible refine Bk.alloc ?_ _) | (with_reducible refine Bk.drew ?_) | (with_reducible refine Bk.drewN ?_ _) | ((with_reducible refine Bk.far ?_ ?_ _); rotate_left; focus (simp only []; omega)) | ((with_reducible refine Bk.below ?_ (by with_reducible assumption) ?_); rotate_left; focus (go_size; done)))), by (repeat' (first | (with_reducible exact Below.refl _ _) | (with_reducible assumption) | (with_reducible refine Below.drew ?_) | (with_reducible refine below_drewN ?_ _) | ((with_reducible refine Below.alloc ?_ ?_ _); rotate_left; focus (go_size; done)) | ((with_reducible refine Below.setCell ?_ ?_ _); rotate_left; focus (go_size; done)) | ((with_reducible refine Below.trans ?_ (Below.mono (by with_reducible assumption) ?_)); rotate_left; focus (go_size; done))))⟩
    case round =>
      obtain ⟨hkt, hk19, rfl, he, b0, b1, hbel⟩ := hrel
      have HB0 := Lib.hid b0
      have HB1 := Lib.hid b1
      have hbs := hbel.size
      have l0 := b0.lt
      have l1 := b1.lt
      rw [lcells_eq] at b0
      have d0 := b0.cell 0 rfl
      have d1 := b0.cell 1 rfl
      have d2 := b0.cell 2 rfl
      have d3 := b0.cell 3 rfl
      clear b0
      by_cases hz : gk = 0
      · subst hz
        have h0 : ¬ (0 : Int) ≤ ((0 : Nat) : Int) - 1 := by omega
        have c0 := b1.cell 0 rfl
        have c1 := b1.cell 1 rfl
        have c2 := b1.cell 2 rfl
        have c3 := b1.cell 3 rfl
        have f0 := b1.frozen 0
        have f1 := b1.frozen 1
        have f2 := b1.frozen 2
        have f3 := b1.frozen 3
        clear b1
        go_wp2_with fail
        refine bodyPost_ret (by simp [results, Try.results51, go_sem, *]; try rfl) rfl ?_
        obtain ⟨e1, e2, e3⟩ := fit_step_end he.out
        exact ⟨by rw [EC.out, ES.out, EE.out, e1, e2, e3, wd_zero, wd_zero, sg_zero]; rfl, by (repeat' (first | (with_reducible exact Below.refl _ _) | (with_reducible assumption) | (with_reducible refine Below.drew ?_) | (with_reducible refine below_drewN ?_ _) | ((with_reducible refine Below.alloc ?_ ?_ _); rotate_left; focus (go_size; done)) | ((with_reducible refine Below.setCell ?_ ?_ _); rotate_left; focus (go_size; done)) | ((with_reducible refine Below.trans ?_ (Below.mono (by with_reducible assumption) ?_)); rotate_left; focus (go_size; done))))⟩
      · obtain ⟨j, rfl⟩ : ∃ j, gk = j + 1 := ⟨gk - 1, by omega⟩
        have hx : ((j + 1 : Nat) : Int) - 1 = (j : Int) := by omega
        rw [hx]
        have hjt : j ≤ t := by omega
        have j0 : (0 : Int) ≤ (j : Int) := by omega
        have j18 : (j : Int) ≤ 18 := by omega
        have gs : IntKind.i64.wrap ((t : Int) - (j : Int)) = (t : Int) - (j : Int) := IntWalk.i64_in _ (by omega)
        have HR : Hid (∀ W, Calls Try.prog 74 #[.agg #[.int .u64 (wd n 0), .int .u64 (wd n 1), .int .u64 (wd n 2), .int .u64 (wd n 3)], .int .i64 ((t : Int) - (j : Int))] W fun e w' => e = .returned (.tuple #[.agg #[.int .u64 (wd (fitW (near n (10 ^ (t - j)))) 1), .int .u64 (wd (fitW (near n (10 ^ (t - j)))) 0)], .int .i64 (over (near n (10 ^ (t - j))))]) ∧ Below W.heap.size W w') := Lib.hid (fun W => by
          rw [show (t : Int) - (j : Int) = ((t - j : Nat) : Int) by omega]
          exact round_any n HN.out (t - j) (by omega) W)
        have hyes := fit_step_yes (n := n) (t := t) (j := j) hjt
        have hno := fit_step_no (n := n) (t := t) (j := j) hjt
        have HYES := Far.mk hyes
        have HNO := Far.mk hno
        generalize near n (10 ^ (t - j)) = q at *
        clear hx hyes hno b1
        by_cases hq : q < B34
        · have hq2 : q < 2 ^ 128 := Nat.lt_trans hq B34_lt
          obtain ⟨e1, e2, e3⟩ := HYES.out hq he.out
          have HCM := Lib.hid (fun W => cmp_any q B34 hq2 B34_lt W)
          have hcc := cmp_bound hq
          have HCN := Lib.hid (fun W => canon_any neg q j hq (by omega) W)
          rw [fit_id hq2, over_id hq2] at HR
          rw [← e1, ← e2, ← EC.out, ← ES.out] at HCN
          have E3 := Far.mk e3
          have HP0 := HPW
          obtain ⟨hp0, hp1⟩ := HP0.out
          rw [← hp0, ← hp1] at HCM
          generalize cmpN q B34 = cc at *
          generalize wd q 0 = q0 at *
          generalize wd q 1 = q1 at *
          clear hq hq2 e1 e2 e3 HYES HNO he hp0 hp1
          go_wp2_with ((go_at_call 74; with_reducible refine (HR.out _).mono ?_); rintro _ w1 ⟨rfl, hb1⟩; have hb1s := hb1.size; (try simp only [World.size_alloc, World.size_setCell, World.size_drew, World.heap_drewN] at hb1s); obtain ⟨hb1c, hb1f⟩ := bcell hb1; (try have : w.heap.size < w1.heap.size := by omega); (try have : w.heap.size + 1 < w1.heap.size := by omega); (try have : w.heap.size + 1 + 1 < w1.heap.size := by omega); (try have : w.heap.size + 1 + 1 + 1 < w1.heap.size := by omega))
          go_region_held3 (fun w' => w'.cell? ⟨w1.heap.size, 0, none⟩ = some (.int .u64 q1) ∧ w'.cell? ⟨w1.heap.size, 1, none⟩ = some (.int .u64 q0)) (first | (first | (go_keep; done) | (simp [go_sem]; done) | ((try dsimp only); (repeat' apply And.intro) <;> (first | (with_reducible assumption) | ((rw [World.cell?_alloc_lt _ _ _ (by show _ < _; omega)]); go_split_ands; (first | with_reducible assumption | (refine (World.cell?_alloc_lt _ _ _ (by show _ < _; omega)).symm.trans ?_; with_reducible assumption))) | ((rw [World.cell?_setCell_other _ _ _ _ (by intro e; injection e; omega)]); with_reducible assumption) | (go_keep; done) | (simp [go_sem]; done) | (simp (disch := go_size) [*, World.cell?_alloc_some, World.cell?_setCell_far]; done)))) | ((refine ⟨Bk.cell (t := 24) (cs := [.int .u64 q1, .int .u64 q0]) ?_ 0 rfl, Bk.cell (t := 24) (cs := [.int .u64 q1, .int .u64 q0]) ?_ 1 rfl⟩) <;> ((repeat (first | (with_reducible assumption) | ((with_reducible refine Bk.new_ ?_); (first | rfl | (simp only [World.size_alloc, World.size_setCell, World.size_drew, World.heap_drewN]; done))) | (with_reducible refine Bk.alloc ?_ _) | (with_reducible refine Bk.drew ?_) | (with_reducible refine Bk.drewN ?_ _) | ((with_reducible refine Bk.far ?_ ?_ _); rotate_left; focus (simp only []; omega)) | ((with_reducible refine Bk.below ?_ (by with_reducible assumption) ?_); rotate_left; focus (go_size; done)))); done))) (first | ((go_at_call 55; with_reducible refine (HBD.out _).mono ?_); rintro _ w2 ⟨rfl, hb2⟩; have hb2s := hb2.size; (try simp only [World.size_alloc, World.size_setCell, World.size_drew, World.heap_drewN] at hb2s); obtain ⟨hb2c, hb2f⟩ := bcell hb2; (try have : w.heap.size < w2.heap.size := by omega); (try have : w.heap.size + 1 < w2.heap.size := by omega); (try have : w.heap.size + 1 + 1 < w2.heap.size := by omega); (try have : w.heap.size + 1 + 1 + 1 < w2.heap.size := by omega); (try have : w1.heap.size < w2.heap.size := by omega); (try have : w1.heap.size + 1 < w2.heap.size := by omega); (try have : w1.heap.size + 1 + 1 < w2.heap.size := by omega); (try have : w1.heap.size + 1 + 1 + 1 < w2.heap.size := by omega)) | ((go_at_call 54; with_reducible refine (HCM.out _).mono ?_); rintro _ w3 ⟨rfl, hb3⟩; have hb3s := hb3.size; (try simp only [World.size_alloc, World.size_setCell, World.size_drew, World.heap_drewN] at hb3s); obtain ⟨hb3c, hb3f⟩ := bcell hb3; (try have : w.heap.size < w3.heap.size := by omega); (try have : w.heap.size + 1 < w3.heap.size := by omega); (try have : w.heap.size + 1 + 1 < w3.heap.size := by omega); (try have : w.heap.size + 1 + 1 + 1 < w3.heap.size := by omega); (try have : w1.heap.size < w3.heap.size := by omega); (try have : w1.heap.size + 1 < w3.heap.size := by omega); (try have : w1.heap.size + 1 + 1 < w3.heap.size := by omega); (try have : w1.heap.size + 1 + 1 + 1 < w3.heap.size := by omega); (try have : w2.heap.size < w3.heap.size := by omega); (try have : w2.heap.size + 1 < w3.heap.size := by omega); (try have : w2.heap.size + 1 + 1 < w3.heap.size := by omega); (try have : w2.heap.size + 1 + 1 + 1 < w3.heap.size := by omega)))
          all_goals
            refine wp_named (fun W => Bk W w1.heap.size 24 [.int .u64 q1, .int .u64 q0] ∧ Bk W (w.heap.size + 1) 26 [.bool false, .int .u64 0, .int .u64 0, .int .i64 0] ∧ Below w.heap.size w W) ⟨?h1, ?h2, ?h3⟩ ?_
            case h1 => ((repeat (first | (with_reducible assumption) | ((with_reducible refine Bk.new_ ?_); (first | rfl | (simp only [World.size_alloc, World.size_setCell, World.size_drew, World.heap_drewN]; done))) | (with_reducible refine Bk.alloc ?_ _) | (with_reducible refine Bk.drew ?_) | (with_reducible refine Bk.drewN ?_ _) | ((with_reducible refine Bk.far ?_ ?_ _); rotate_left; focus (simp only []; omega)) | ((with_reducible refine Bk.below ?_ (by with_reducible assumption) ?_); rotate_left; focus (go_size; done)))); done)
            case h2 =>
              have b1 := HB1.out
              ((repeat (first | (with_reducible assumption) | ((with_reducible refine Bk.new_ ?_); (first | rfl | (simp only [World.size_alloc, World.size_setCell, World.size_drew, World.heap_drewN]; done))) | (with_reducible refine Bk.alloc ?_ _) | (with_reducible refine Bk.drew ?_) | (with_reducible refine Bk.drewN ?_ _) | ((with_reducible refine Bk.far ?_ ?_ _); rotate_left; focus (simp only []; omega)) | ((with_reducible refine Bk.below ?_ (by with_reducible assumption) ?_); rotate_left; focus (go_size; done)))); done)
            case h3 => ((repeat' (first | (with_reducible exact Below.refl _ _) | (with_reducible assumption) | (with_reducible refine Below.drew ?_) | (with_reducible refine below_drewN ?_ _) | ((with_reducible refine Below.alloc ?_ ?_ _); rotate_left; focus (go_size; done)) | ((with_reducible refine Below.setCell ?_ ?_ _); rotate_left; focus (go_size; done)) | ((with_reducible refine Below.trans ?_ (Below.mono (by with_reducible assumption) ?_)); rotate_left; focus (go_size; done)))); done)
            rintro W ⟨k1, k2, mb⟩
            have kl1 := k1.lt
            have kl2 := k2.lt
            have c10 := k1.cell 0 rfl
            have c11 := k1.cell 1 rfl
            have c20 := k2.cell 0 rfl
            have c21 := k2.cell 1 rfl
            have c22 := k2.cell 2 rfl
            have c23 := k2.cell 3 rfl
            have f20 := k2.frozen 0
            have f21 := k2.frozen 1
            have f22 := k2.frozen 2
            have f23 := k2.frozen 3
            clear hb1 hb2 hb3 hb1c hb2c hb3c hb1f hb2f hb3f d0 d1 d2 d3
            go_wp2_with ((go_at_call 75; with_reducible refine (HCN.out _).mono ?_); rintro _ w4 ⟨rfl, hb4⟩; have hb4s := hb4.size; (try simp only [World.size_alloc, World.size_setCell, World.size_drew, World.heap_drewN] at hb4s); obtain ⟨hb4c, hb4f⟩ := bcell hb4; (try have : w.heap.size < w4.heap.size := by omega); (try have : w.heap.size + 1 < w4.heap.size := by omega); (try have : w.heap.size + 1 + 1 < w4.heap.size := by omega); (try have : w.heap.size + 1 + 1 + 1 < w4.heap.size := by omega))
            refine bodyPost_ret (by simp [results, Try.results51, go_sem, *]; try rfl) rfl ?_
            exact ⟨by rw [EE.out, E3.out], by (repeat' (first | (with_reducible exact Below.refl _ _) | (with_reducible assumption) | (with_reducible refine Below.drew ?_) | (with_reducible refine below_drewN ?_ _) | ((with_reducible refine Below.alloc ?_ ?_ _); rotate_left; focus (go_size; done)) | ((with_reducible refine Below.setCell ?_ ?_ _); rotate_left; focus (go_size; done)) | ((with_reducible refine Below.trans ?_ (Below.mono (by with_reducible assumption) ?_)); rotate_left; focus (go_size; done))))⟩
        · by_cases hq2 : q < 2 ^ 128
          · have HCM := Lib.hid (fun W => cmp_any q B34 hq2 B34_lt W)
            have hcc := cmp_bound' hq
            have HNX := Far.mk (HNO.out hq he.out)
            have hcn : ¬ cmpN q B34 < 0 := by omega
            rw [fit_id hq2, over_id hq2] at HR
            have HP0 := HPW
            obtain ⟨hp0, hp1⟩ := HP0.out
            rw [← hp0, ← hp1] at HCM
            generalize cmpN q B34 = cc at *
            generalize wd q 0 = q0 at *
            generalize wd q 1 = q1 at *
            clear hq hq2 HYES HNO he hp0 hp1
            go_wp2_with ((go_at_call 74; with_reducible refine (HR.out _).mono ?_); rintro _ w1 ⟨rfl, hb1⟩; have hb1s := hb1.size; (try simp only [World.size_alloc, World.size_setCell, World.size_drew, World.heap_drewN] at hb1s); obtain ⟨hb1c, hb1f⟩ := bcell hb1; (try have : w.heap.size < w1.heap.size := by omega); (try have : w.heap.size + 1 < w1.heap.size := by omega); (try have : w.heap.size + 1 + 1 < w1.heap.size := by omega); (try have : w.heap.size + 1 + 1 + 1 < w1.heap.size := by omega))
            go_region_held3 (fun w' => w'.cell? ⟨w1.heap.size, 0, none⟩ = some (.int .u64 q1) ∧ w'.cell? ⟨w1.heap.size, 1, none⟩ = some (.int .u64 q0)) (first | (first | (go_keep; done) | (simp [go_sem]; done) | ((try dsimp only); (repeat' apply And.intro) <;> (first | (with_reducible assumption) | ((rw [World.cell?_alloc_lt _ _ _ (by show _ < _; omega)]); go_split_ands; (first | with_reducible assumption | (refine (World.cell?_alloc_lt _ _ _ (by show _ < _; omega)).symm.trans ?_; with_reducible assumption))) | ((rw [World.cell?_setCell_other _ _ _ _ (by intro e; injection e; omega)]); with_reducible assumption) | (go_keep; done) | (simp [go_sem]; done) | (simp (disch := go_size) [*, World.cell?_alloc_some, World.cell?_setCell_far]; done)))) | ((refine ⟨Bk.cell (t := 24) (cs := [.int .u64 q1, .int .u64 q0]) ?_ 0 rfl, Bk.cell (t := 24) (cs := [.int .u64 q1, .int .u64 q0]) ?_ 1 rfl⟩) <;> ((repeat (first | (with_reducible assumption) | ((with_reducible refine Bk.new_ ?_); (first | rfl | (simp only [World.size_alloc, World.size_setCell, World.size_drew, World.heap_drewN]; done))) | (with_reducible refine Bk.alloc ?_ _) | (with_reducible refine Bk.drew ?_) | (with_reducible refine Bk.drewN ?_ _) | ((with_reducible refine Bk.far ?_ ?_ _); rotate_left; focus (simp only []; omega)) | ((with_reducible refine Bk.below ?_ (by with_reducible assumption) ?_); rotate_left; focus (go_size; done)))); done))) (first | ((go_at_call 55; with_reducible refine (HBD.out _).mono ?_); rintro _ w2 ⟨rfl, hb2⟩; have hb2s := hb2.size; (try simp only [World.size_alloc, World.size_setCell, World.size_drew, World.heap_drewN] at hb2s); obtain ⟨hb2c, hb2f⟩ := bcell hb2; (try have : w.heap.size < w2.heap.size := by omega); (try have : w.heap.size + 1 < w2.heap.size := by omega); (try have : w.heap.size + 1 + 1 < w2.heap.size := by omega); (try have : w.heap.size + 1 + 1 + 1 < w2.heap.size := by omega); (try have : w1.heap.size < w2.heap.size := by omega); (try have : w1.heap.size + 1 < w2.heap.size := by omega); (try have : w1.heap.size + 1 + 1 < w2.heap.size := by omega); (try have : w1.heap.size + 1 + 1 + 1 < w2.heap.size := by omega)) | ((go_at_call 54; with_reducible refine (HCM.out _).mono ?_); rintro _ w3 ⟨rfl, hb3⟩; have hb3s := hb3.size; (try simp only [World.size_alloc, World.size_setCell, World.size_drew, World.heap_drewN] at hb3s); obtain ⟨hb3c, hb3f⟩ := bcell hb3; (try have : w.heap.size < w3.heap.size := by omega); (try have : w.heap.size + 1 < w3.heap.size := by omega); (try have : w.heap.size + 1 + 1 < w3.heap.size := by omega); (try have : w.heap.size + 1 + 1 + 1 < w3.heap.size := by omega); (try have : w1.heap.size < w3.heap.size := by omega); (try have : w1.heap.size + 1 < w3.heap.size := by omega); (try have : w1.heap.size + 1 + 1 < w3.heap.size := by omega); (try have : w1.heap.size + 1 + 1 + 1 < w3.heap.size := by omega); (try have : w2.heap.size < w3.heap.size := by omega); (try have : w2.heap.size + 1 < w3.heap.size := by omega); (try have : w2.heap.size + 1 + 1 < w3.heap.size := by omega); (try have : w2.heap.size + 1 + 1 + 1 < w3.heap.size := by omega)))
            all_goals
              refine wp_named (fun W => Bk W w.heap.size 45 (lcells n) ∧ Bk W (w.heap.size + 1) 26 [.bool false, .int .u64 0, .int .u64 0, .int .i64 0] ∧ Below w.heap.size w W) ⟨?h1, ?h2, ?h3⟩ ?_
              case h1 =>
                have b0 := HB0.out
                ((repeat (first | (with_reducible assumption) | ((with_reducible refine Bk.new_ ?_); (first | rfl | (simp only [World.size_alloc, World.size_setCell, World.size_drew, World.heap_drewN]; done))) | (with_reducible refine Bk.alloc ?_ _) | (with_reducible refine Bk.drew ?_) | (with_reducible refine Bk.drewN ?_ _) | ((with_reducible refine Bk.far ?_ ?_ _); rotate_left; focus (simp only []; omega)) | ((with_reducible refine Bk.below ?_ (by with_reducible assumption) ?_); rotate_left; focus (go_size; done)))); done)
              case h2 =>
                have b1 := HB1.out
                ((repeat (first | (with_reducible assumption) | ((with_reducible refine Bk.new_ ?_); (first | rfl | (simp only [World.size_alloc, World.size_setCell, World.size_drew, World.heap_drewN]; done))) | (with_reducible refine Bk.alloc ?_ _) | (with_reducible refine Bk.drew ?_) | (with_reducible refine Bk.drewN ?_ _) | ((with_reducible refine Bk.far ?_ ?_ _); rotate_left; focus (simp only []; omega)) | ((with_reducible refine Bk.below ?_ (by with_reducible assumption) ?_); rotate_left; focus (go_size; done)))); done)
              case h3 => ((repeat' (first | (with_reducible exact Below.refl _ _) | (with_reducible assumption) | (with_reducible refine Below.drew ?_) | (with_reducible refine below_drewN ?_ _) | ((with_reducible refine Below.alloc ?_ ?_ _); rotate_left; focus (go_size; done)) | ((with_reducible refine Below.setCell ?_ ?_ _); rotate_left; focus (go_size; done)) | ((with_reducible refine Below.trans ?_ (Below.mono (by with_reducible assumption) ?_)); rotate_left; focus (go_size; done)))); done)
              rintro W ⟨k1, k2, mb⟩
              go_wp2_with fail
              go_roundg j
              case measure => omega
              case rel => exact ⟨by omega, by omega, rfl, HNX, k1, k2, mb⟩
          · have HNX := Far.mk (HNO.out hq he.out)
            have eo : over q = 3 := by unfold over; rw [if_neg hq2]
            rw [eo] at HR
            generalize wd (fitW q) 0 = q0 at *
            generalize wd (fitW q) 1 = q1 at *
            clear hq hq2 HYES HNO he
            go_wp2_with ((go_at_call 74; with_reducible refine (HR.out _).mono ?_); rintro _ w1 ⟨rfl, hb1⟩; have hb1s := hb1.size; (try simp only [World.size_alloc, World.size_setCell, World.size_drew, World.heap_drewN] at hb1s); obtain ⟨hb1c, hb1f⟩ := bcell hb1; (try have : w.heap.size < w1.heap.size := by omega); (try have : w.heap.size + 1 < w1.heap.size := by omega); (try have : w.heap.size + 1 + 1 < w1.heap.size := by omega); (try have : w.heap.size + 1 + 1 + 1 < w1.heap.size := by omega))
            first | (go_region_with fail) | fail
            all_goals
              refine wp_named (fun W => Bk W w.heap.size 45 (lcells n) ∧ Bk W (w.heap.size + 1) 26 [.bool false, .int .u64 0, .int .u64 0, .int .i64 0] ∧ Below w.heap.size w W) ⟨?h1, ?h2, ?h3⟩ ?_
              case h1 =>
                have b0 := HB0.out
                ((repeat (first | (with_reducible assumption) | ((with_reducible refine Bk.new_ ?_); (first | rfl | (simp only [World.size_alloc, World.size_setCell, World.size_drew, World.heap_drewN]; done))) | (with_reducible refine Bk.alloc ?_ _) | (with_reducible refine Bk.drew ?_) | (with_reducible refine Bk.drewN ?_ _) | ((with_reducible refine Bk.far ?_ ?_ _); rotate_left; focus (simp only []; omega)) | ((with_reducible refine Bk.below ?_ (by with_reducible assumption) ?_); rotate_left; focus (go_size; done)))); done)
              case h2 =>
                have b1 := HB1.out
                ((repeat (first | (with_reducible assumption) | ((with_reducible refine Bk.new_ ?_); (first | rfl | (simp only [World.size_alloc, World.size_setCell, World.size_drew, World.heap_drewN]; done))) | (with_reducible refine Bk.alloc ?_ _) | (with_reducible refine Bk.drew ?_) | (with_reducible refine Bk.drewN ?_ _) | ((with_reducible refine Bk.far ?_ ?_ _); rotate_left; focus (simp only []; omega)) | ((with_reducible refine Bk.below ?_ (by with_reducible assumption) ?_); rotate_left; focus (go_size; done)))); done)
              case h3 => ((repeat' (first | (with_reducible exact Below.refl _ _) | (with_reducible assumption) | (with_reducible refine Below.drew ?_) | (with_reducible refine below_drewN ?_ _) | ((with_reducible refine Below.alloc ?_ ?_ _); rotate_left; focus (go_size; done)) | ((with_reducible refine Below.setCell ?_ ?_ _); rotate_left; focus (go_size; done)) | ((with_reducible refine Below.trans ?_ (Below.mono (by with_reducible assumption) ?_)); rotate_left; focus (go_size; done)))); done)
              rintro W ⟨k1, k2, mb⟩
              go_wp2_with fail
              go_roundg j
              case measure => omega
              case rel => exact ⟨by omega, by omega, rfl, HNX, k1, k2, mb⟩
  · have g1 : ¬ (t : Int) ≤ 18 := by omega
    have hk2 : (18 : Int) = (k : Int) - 1 := by omega
    have HK2 := Lib.hid hk2
    clear hk hk2
    go_enter Try.func51, Try.ntmps51
    go_wp2_with fail
    go_loopg [8] k (fun kk sv wr => kk ≤ t + 1 ∧ kk ≤ 19 ∧ sv = .int .i64 ((kk : Int) - 1) ∧ Far (fin (fitK n (10 ^ t) (K19 n)) = fin (fitK n (10 ^ t) kk)) ∧ Bk wr w.heap.size 45 (lcells n) ∧ Bk wr (w.heap.size + 1) 26 [.bool false, .int .u64 0, .int .u64 0, .int .i64 0] ∧ Below w.heap.size w wr)
    case atStart => exact ⟨kt, k19, congrArg (Value.int .i64) (by have := HK2.out; omega), HE, by rw [lcells_eq]; (repeat (first | (with_reducible assumption) | ((with_reducible refine Bk.new_ ?_); (first | rfl | (simp only [World.size_alloc, World.size_setCell, World.size_drew, World.heap_drewN]; done))) | (with_reducible refine Bk.alloc ?_ _) | (with_reducible refine Bk.drew ?_) | (with_reducible refine Bk.drewN ?_ _) | ((with_reducible refine Bk.far ?_ ?_ _); rotate_left; focus (simp only []; omega)) | ((with_reducible refine Bk.below ?_ (by with_reducible assumption) ?_); rotate_left; focus (go_size; done)))), by (repeat (first | (with_reducible assumption) | ((with_reducible refine Bk.new_ ?_); (first | rfl | (simp only [World.size_alloc, World.size_setCell, World.size_drew, World.heap_drewN]; done))) | (with_reducible refine Bk.alloc ?_ _) | (with_reducible refine Bk.drew ?_) | (with_reducible refine Bk.drewN ?_ _) | ((with_reducible refine Bk.far ?_ ?_ _); rotate_left; focus (simp only []; omega)) | ((with_reducible refine Bk.below ?_ (by with_reducible assumption) ?_); rotate_left; focus (go_size; done)))), by (repeat' (first | (with_reducible exact Below.refl _ _) | (with_reducible assumption) | (with_reducible refine Below.drew ?_) | (with_reducible refine below_drewN ?_ _) | ((with_reducible refine Below.alloc ?_ ?_ _); rotate_left; focus (go_size; done)) | ((with_reducible refine Below.setCell ?_ ?_ _); rotate_left; focus (go_size; done)) | ((with_reducible refine Below.trans ?_ (Below.mono (by with_reducible assumption) ?_)); rotate_left; focus (go_size; done))))⟩
    case round =>
      obtain ⟨hkt, hk19, rfl, he, b0, b1, hbel⟩ := hrel
      have HB0 := Lib.hid b0
      have HB1 := Lib.hid b1
      have hbs := hbel.size
      have l0 := b0.lt
      have l1 := b1.lt
      rw [lcells_eq] at b0
      have d0 := b0.cell 0 rfl
      have d1 := b0.cell 1 rfl
      have d2 := b0.cell 2 rfl
      have d3 := b0.cell 3 rfl
      clear b0
      by_cases hz : gk = 0
      · subst hz
        have h0 : ¬ (0 : Int) ≤ ((0 : Nat) : Int) - 1 := by omega
        have c0 := b1.cell 0 rfl
        have c1 := b1.cell 1 rfl
        have c2 := b1.cell 2 rfl
        have c3 := b1.cell 3 rfl
        have f0 := b1.frozen 0
        have f1 := b1.frozen 1
        have f2 := b1.frozen 2
        have f3 := b1.frozen 3
        clear b1
        go_wp2_with fail
        refine bodyPost_ret (by simp [results, Try.results51, go_sem, *]; try rfl) rfl ?_
        obtain ⟨e1, e2, e3⟩ := fit_step_end he.out
        exact ⟨by rw [EC.out, ES.out, EE.out, e1, e2, e3, wd_zero, wd_zero, sg_zero]; rfl, by (repeat' (first | (with_reducible exact Below.refl _ _) | (with_reducible assumption) | (with_reducible refine Below.drew ?_) | (with_reducible refine below_drewN ?_ _) | ((with_reducible refine Below.alloc ?_ ?_ _); rotate_left; focus (go_size; done)) | ((with_reducible refine Below.setCell ?_ ?_ _); rotate_left; focus (go_size; done)) | ((with_reducible refine Below.trans ?_ (Below.mono (by with_reducible assumption) ?_)); rotate_left; focus (go_size; done))))⟩
      · obtain ⟨j, rfl⟩ : ∃ j, gk = j + 1 := ⟨gk - 1, by omega⟩
        have hx : ((j + 1 : Nat) : Int) - 1 = (j : Int) := by omega
        rw [hx]
        have hjt : j ≤ t := by omega
        have j0 : (0 : Int) ≤ (j : Int) := by omega
        have j18 : (j : Int) ≤ 18 := by omega
        have gs : IntKind.i64.wrap ((t : Int) - (j : Int)) = (t : Int) - (j : Int) := IntWalk.i64_in _ (by omega)
        have HR : Hid (∀ W, Calls Try.prog 74 #[.agg #[.int .u64 (wd n 0), .int .u64 (wd n 1), .int .u64 (wd n 2), .int .u64 (wd n 3)], .int .i64 ((t : Int) - (j : Int))] W fun e w' => e = .returned (.tuple #[.agg #[.int .u64 (wd (fitW (near n (10 ^ (t - j)))) 1), .int .u64 (wd (fitW (near n (10 ^ (t - j)))) 0)], .int .i64 (over (near n (10 ^ (t - j))))]) ∧ Below W.heap.size W w') := Lib.hid (fun W => by
          rw [show (t : Int) - (j : Int) = ((t - j : Nat) : Int) by omega]
          exact round_any n HN.out (t - j) (by omega) W)
        have hyes := fit_step_yes (n := n) (t := t) (j := j) hjt
        have hno := fit_step_no (n := n) (t := t) (j := j) hjt
        have HYES := Far.mk hyes
        have HNO := Far.mk hno
        generalize near n (10 ^ (t - j)) = q at *
        clear hx hyes hno b1
        by_cases hq : q < B34
        · have hq2 : q < 2 ^ 128 := Nat.lt_trans hq B34_lt
          obtain ⟨e1, e2, e3⟩ := HYES.out hq he.out
          have HCM := Lib.hid (fun W => cmp_any q B34 hq2 B34_lt W)
          have hcc := cmp_bound hq
          have HCN := Lib.hid (fun W => canon_any neg q j hq (by omega) W)
          rw [fit_id hq2, over_id hq2] at HR
          rw [← e1, ← e2, ← EC.out, ← ES.out] at HCN
          have E3 := Far.mk e3
          have HP0 := HPW
          obtain ⟨hp0, hp1⟩ := HP0.out
          rw [← hp0, ← hp1] at HCM
          generalize cmpN q B34 = cc at *
          generalize wd q 0 = q0 at *
          generalize wd q 1 = q1 at *
          clear hq hq2 e1 e2 e3 HYES HNO he hp0 hp1
          go_wp2_with ((go_at_call 74; with_reducible refine (HR.out _).mono ?_); rintro _ w1 ⟨rfl, hb1⟩; have hb1s := hb1.size; (try simp only [World.size_alloc, World.size_setCell, World.size_drew, World.heap_drewN] at hb1s); obtain ⟨hb1c, hb1f⟩ := bcell hb1; (try have : w.heap.size < w1.heap.size := by omega); (try have : w.heap.size + 1 < w1.heap.size := by omega); (try have : w.heap.size + 1 + 1 < w1.heap.size := by omega); (try have : w.heap.size + 1 + 1 + 1 < w1.heap.size := by omega))
          go_region_held3 (fun w' => w'.cell? ⟨w1.heap.size, 0, none⟩ = some (.int .u64 q1) ∧ w'.cell? ⟨w1.heap.size, 1, none⟩ = some (.int .u64 q0)) (first | (first | (go_keep; done) | (simp [go_sem]; done) | ((try dsimp only); (repeat' apply And.intro) <;> (first | (with_reducible assumption) | ((rw [World.cell?_alloc_lt _ _ _ (by show _ < _; omega)]); go_split_ands; (first | with_reducible assumption | (refine (World.cell?_alloc_lt _ _ _ (by show _ < _; omega)).symm.trans ?_; with_reducible assumption))) | ((rw [World.cell?_setCell_other _ _ _ _ (by intro e; injection e; omega)]); with_reducible assumption) | (go_keep; done) | (simp [go_sem]; done) | (simp (disch := go_size) [*, World.cell?_alloc_some, World.cell?_setCell_far]; done)))) | ((refine ⟨Bk.cell (t := 24) (cs := [.int .u64 q1, .int .u64 q0]) ?_ 0 rfl, Bk.cell (t := 24) (cs := [.int .u64 q1, .int .u64 q0]) ?_ 1 rfl⟩) <;> ((repeat (first | (with_reducible assumption) | ((with_reducible refine Bk.new_ ?_); (first | rfl | (simp only [World.size_alloc, World.size_setCell, World.size_drew, World.heap_drewN]; done))) | (with_reducible refine Bk.alloc ?_ _) | (with_reducible refine Bk.drew ?_) | (with_reducible refine Bk.drewN ?_ _) | ((with_reducible refine Bk.far ?_ ?_ _); rotate_left; focus (simp only []; omega)) | ((with_reducible refine Bk.below ?_ (by with_reducible assumption) ?_); rotate_left; focus (go_size; done)))); done))) (first | ((go_at_call 55; with_reducible refine (HBD.out _).mono ?_); rintro _ w2 ⟨rfl, hb2⟩; have hb2s := hb2.size; (try simp only [World.size_alloc, World.size_setCell, World.size_drew, World.heap_drewN] at hb2s); obtain ⟨hb2c, hb2f⟩ := bcell hb2; (try have : w.heap.size < w2.heap.size := by omega); (try have : w.heap.size + 1 < w2.heap.size := by omega); (try have : w.heap.size + 1 + 1 < w2.heap.size := by omega); (try have : w.heap.size + 1 + 1 + 1 < w2.heap.size := by omega); (try have : w1.heap.size < w2.heap.size := by omega); (try have : w1.heap.size + 1 < w2.heap.size := by omega); (try have : w1.heap.size + 1 + 1 < w2.heap.size := by omega); (try have : w1.heap.size + 1 + 1 + 1 < w2.heap.size := by omega)) | ((go_at_call 54; with_reducible refine (HCM.out _).mono ?_); rintro _ w3 ⟨rfl, hb3⟩; have hb3s := hb3.size; (try simp only [World.size_alloc, World.size_setCell, World.size_drew, World.heap_drewN] at hb3s); obtain ⟨hb3c, hb3f⟩ := bcell hb3; (try have : w.heap.size < w3.heap.size := by omega); (try have : w.heap.size + 1 < w3.heap.size := by omega); (try have : w.heap.size + 1 + 1 < w3.heap.size := by omega); (try have : w.heap.size + 1 + 1 + 1 < w3.heap.size := by omega); (try have : w1.heap.size < w3.heap.size := by omega); (try have : w1.heap.size + 1 < w3.heap.size := by omega); (try have : w1.heap.size + 1 + 1 < w3.heap.size := by omega); (try have : w1.heap.size + 1 + 1 + 1 < w3.heap.size := by omega); (try have : w2.heap.size < w3.heap.size := by omega); (try have : w2.heap.size + 1 < w3.heap.size := by omega); (try have : w2.heap.size + 1 + 1 < w3.heap.size := by omega); (try have : w2.heap.size + 1 + 1 + 1 < w3.heap.size := by omega)))
          all_goals
            refine wp_named (fun W => Bk W w1.heap.size 24 [.int .u64 q1, .int .u64 q0] ∧ Bk W (w.heap.size + 1) 26 [.bool false, .int .u64 0, .int .u64 0, .int .i64 0] ∧ Below w.heap.size w W) ⟨?h1, ?h2, ?h3⟩ ?_
            case h1 => ((repeat (first | (with_reducible assumption) | ((with_reducible refine Bk.new_ ?_); (first | rfl | (simp only [World.size_alloc, World.size_setCell, World.size_drew, World.heap_drewN]; done))) | (with_reducible refine Bk.alloc ?_ _) | (with_reducible refine Bk.drew ?_) | (with_reducible refine Bk.drewN ?_ _) | ((with_reducible refine Bk.far ?_ ?_ _); rotate_left; focus (simp only []; omega)) | ((with_reducible refine Bk.below ?_ (by with_reducible assumption) ?_); rotate_left; focus (go_size; done)))); done)
            case h2 =>
              have b1 := HB1.out
              ((repeat (first | (with_reducible assumption) | ((with_reducible refine Bk.new_ ?_); (first | rfl | (simp only [World.size_alloc, World.size_setCell, World.size_drew, World.heap_drewN]; done))) | (with_reducible refine Bk.alloc ?_ _) | (with_reducible refine Bk.drew ?_) | (with_reducible refine Bk.drewN ?_ _) | ((with_reducible refine Bk.far ?_ ?_ _); rotate_left; focus (simp only []; omega)) | ((with_reducible refine Bk.below ?_ (by with_reducible assumption) ?_); rotate_left; focus (go_size; done)))); done)
            case h3 => ((repeat' (first | (with_reducible exact Below.refl _ _) | (with_reducible assumption) | (with_reducible refine Below.drew ?_) | (with_reducible refine below_drewN ?_ _) | ((with_reducible refine Below.alloc ?_ ?_ _); rotate_left; focus (go_size; done)) | ((with_reducible refine Below.setCell ?_ ?_ _); rotate_left; focus (go_size; done)) | ((with_reducible refine Below.trans ?_ (Below.mono (by with_reducible assumption) ?_)); rotate_left; focus (go_size; done)))); done)
            rintro W ⟨k1, k2, mb⟩
            have kl1 := k1.lt
            have kl2 := k2.lt
            have c10 := k1.cell 0 rfl
            have c11 := k1.cell 1 rfl
            have c20 := k2.cell 0 rfl
            have c21 := k2.cell 1 rfl
            have c22 := k2.cell 2 rfl
            have c23 := k2.cell 3 rfl
            have f20 := k2.frozen 0
            have f21 := k2.frozen 1
            have f22 := k2.frozen 2
            have f23 := k2.frozen 3
            clear hb1 hb2 hb3 hb1c hb2c hb3c hb1f hb2f hb3f d0 d1 d2 d3
            go_wp2_with ((go_at_call 75; with_reducible refine (HCN.out _).mono ?_); rintro _ w4 ⟨rfl, hb4⟩; have hb4s := hb4.size; (try simp only [World.size_alloc, World.size_setCell, World.size_drew, World.heap_drewN] at hb4s); obtain ⟨hb4c, hb4f⟩ := bcell hb4; (try have : w.heap.size < w4.heap.size := by omega); (try have : w.heap.size + 1 < w4.heap.size := by omega); (try have : w.heap.size + 1 + 1 < w4.heap.size := by omega); (try have : w.heap.size + 1 + 1 + 1 < w4.heap.size := by omega))
            refine bodyPost_ret (by simp [results, Try.results51, go_sem, *]; try rfl) rfl ?_
            exact ⟨by rw [EE.out, E3.out], by (repeat' (first | (with_reducible exact Below.refl _ _) | (with_reducible assumption) | (with_reducible refine Below.drew ?_) | (with_reducible refine below_drewN ?_ _) | ((with_reducible refine Below.alloc ?_ ?_ _); rotate_left; focus (go_size; done)) | ((with_reducible refine Below.setCell ?_ ?_ _); rotate_left; focus (go_size; done)) | ((with_reducible refine Below.trans ?_ (Below.mono (by with_reducible assumption) ?_)); rotate_left; focus (go_size; done))))⟩
        · by_cases hq2 : q < 2 ^ 128
          · have HCM := Lib.hid (fun W => cmp_any q B34 hq2 B34_lt W)
            have hcc := cmp_bound' hq
            have HNX := Far.mk (HNO.out hq he.out)
            have hcn : ¬ cmpN q B34 < 0 := by omega
            rw [fit_id hq2, over_id hq2] at HR
            have HP0 := HPW
            obtain ⟨hp0, hp1⟩ := HP0.out
            rw [← hp0, ← hp1] at HCM
            generalize cmpN q B34 = cc at *
            generalize wd q 0 = q0 at *
            generalize wd q 1 = q1 at *
            clear hq hq2 HYES HNO he hp0 hp1
            go_wp2_with ((go_at_call 74; with_reducible refine (HR.out _).mono ?_); rintro _ w1 ⟨rfl, hb1⟩; have hb1s := hb1.size; (try simp only [World.size_alloc, World.size_setCell, World.size_drew, World.heap_drewN] at hb1s); obtain ⟨hb1c, hb1f⟩ := bcell hb1; (try have : w.heap.size < w1.heap.size := by omega); (try have : w.heap.size + 1 < w1.heap.size := by omega); (try have : w.heap.size + 1 + 1 < w1.heap.size := by omega); (try have : w.heap.size + 1 + 1 + 1 < w1.heap.size := by omega))
            go_region_held3 (fun w' => w'.cell? ⟨w1.heap.size, 0, none⟩ = some (.int .u64 q1) ∧ w'.cell? ⟨w1.heap.size, 1, none⟩ = some (.int .u64 q0)) (first | (first | (go_keep; done) | (simp [go_sem]; done) | ((try dsimp only); (repeat' apply And.intro) <;> (first | (with_reducible assumption) | ((rw [World.cell?_alloc_lt _ _ _ (by show _ < _; omega)]); go_split_ands; (first | with_reducible assumption | (refine (World.cell?_alloc_lt _ _ _ (by show _ < _; omega)).symm.trans ?_; with_reducible assumption))) | ((rw [World.cell?_setCell_other _ _ _ _ (by intro e; injection e; omega)]); with_reducible assumption) | (go_keep; done) | (simp [go_sem]; done) | (simp (disch := go_size) [*, World.cell?_alloc_some, World.cell?_setCell_far]; done)))) | ((refine ⟨Bk.cell (t := 24) (cs := [.int .u64 q1, .int .u64 q0]) ?_ 0 rfl, Bk.cell (t := 24) (cs := [.int .u64 q1, .int .u64 q0]) ?_ 1 rfl⟩) <;> ((repeat (first | (with_reducible assumption) | ((with_reducible refine Bk.new_ ?_); (first | rfl | (simp only [World.size_alloc, World.size_setCell, World.size_drew, World.heap_drewN]; done))) | (with_reducible refine Bk.alloc ?_ _) | (with_reducible refine Bk.drew ?_) | (with_reducible refine Bk.drewN ?_ _) | ((with_reducible refine Bk.far ?_ ?_ _); rotate_left; focus (simp only []; omega)) | ((with_reducible refine Bk.below ?_ (by with_reducible assumption) ?_); rotate_left; focus (go_size; done)))); done))) (first | ((go_at_call 55; with_reducible refine (HBD.out _).mono ?_); rintro _ w2 ⟨rfl, hb2⟩; have hb2s := hb2.size; (try simp only [World.size_alloc, World.size_setCell, World.size_drew, World.heap_drewN] at hb2s); obtain ⟨hb2c, hb2f⟩ := bcell hb2; (try have : w.heap.size < w2.heap.size := by omega); (try have : w.heap.size + 1 < w2.heap.size := by omega); (try have : w.heap.size + 1 + 1 < w2.heap.size := by omega); (try have : w.heap.size + 1 + 1 + 1 < w2.heap.size := by omega); (try have : w1.heap.size < w2.heap.size := by omega); (try have : w1.heap.size + 1 < w2.heap.size := by omega); (try have : w1.heap.size + 1 + 1 < w2.heap.size := by omega); (try have : w1.heap.size + 1 + 1 + 1 < w2.heap.size := by omega)) | ((go_at_call 54; with_reducible refine (HCM.out _).mono ?_); rintro _ w3 ⟨rfl, hb3⟩; have hb3s := hb3.size; (try simp only [World.size_alloc, World.size_setCell, World.size_drew, World.heap_drewN] at hb3s); obtain ⟨hb3c, hb3f⟩ := bcell hb3; (try have : w.heap.size < w3.heap.size := by omega); (try have : w.heap.size + 1 < w3.heap.size := by omega); (try have : w.heap.size + 1 + 1 < w3.heap.size := by omega); (try have : w.heap.size + 1 + 1 + 1 < w3.heap.size := by omega); (try have : w1.heap.size < w3.heap.size := by omega); (try have : w1.heap.size + 1 < w3.heap.size := by omega); (try have : w1.heap.size + 1 + 1 < w3.heap.size := by omega); (try have : w1.heap.size + 1 + 1 + 1 < w3.heap.size := by omega); (try have : w2.heap.size < w3.heap.size := by omega); (try have : w2.heap.size + 1 < w3.heap.size := by omega); (try have : w2.heap.size + 1 + 1 < w3.heap.size := by omega); (try have : w2.heap.size + 1 + 1 + 1 < w3.heap.size := by omega)))
            all_goals
              refine wp_named (fun W => Bk W w.heap.size 45 (lcells n) ∧ Bk W (w.heap.size + 1) 26 [.bool false, .int .u64 0, .int .u64 0, .int .i64 0] ∧ Below w.heap.size w W) ⟨?h1, ?h2, ?h3⟩ ?_
              case h1 =>
                have b0 := HB0.out
                ((repeat (first | (with_reducible assumption) | ((with_reducible refine Bk.new_ ?_); (first | rfl | (simp only [World.size_alloc, World.size_setCell, World.size_drew, World.heap_drewN]; done))) | (with_reducible refine Bk.alloc ?_ _) | (with_reducible refine Bk.drew ?_) | (with_reducible refine Bk.drewN ?_ _) | ((with_reducible refine Bk.far ?_ ?_ _); rotate_left; focus (simp only []; omega)) | ((with_reducible refine Bk.below ?_ (by with_reducible assumption) ?_); rotate_left; focus (go_size; done)))); done)
              case h2 =>
                have b1 := HB1.out
                ((repeat (first | (with_reducible assumption) | ((with_reducible refine Bk.new_ ?_); (first | rfl | (simp only [World.size_alloc, World.size_setCell, World.size_drew, World.heap_drewN]; done))) | (with_reducible refine Bk.alloc ?_ _) | (with_reducible refine Bk.drew ?_) | (with_reducible refine Bk.drewN ?_ _) | ((with_reducible refine Bk.far ?_ ?_ _); rotate_left; focus (simp only []; omega)) | ((with_reducible refine Bk.below ?_ (by with_reducible assumption) ?_); rotate_left; focus (go_size; done)))); done)
              case h3 => ((repeat' (first | (with_reducible exact Below.refl _ _) | (with_reducible assumption) | (with_reducible refine Below.drew ?_) | (with_reducible refine below_drewN ?_ _) | ((with_reducible refine Below.alloc ?_ ?_ _); rotate_left; focus (go_size; done)) | ((with_reducible refine Below.setCell ?_ ?_ _); rotate_left; focus (go_size; done)) | ((with_reducible refine Below.trans ?_ (Below.mono (by with_reducible assumption) ?_)); rotate_left; focus (go_size; done)))); done)
              rintro W ⟨k1, k2, mb⟩
              go_wp2_with fail
              go_roundg j
              case measure => omega
              case rel => exact ⟨by omega, by omega, rfl, HNX, k1, k2, mb⟩
          · have HNX := Far.mk (HNO.out hq he.out)
            have eo : over q = 3 := by unfold over; rw [if_neg hq2]
            rw [eo] at HR
            generalize wd (fitW q) 0 = q0 at *
            generalize wd (fitW q) 1 = q1 at *
            clear hq hq2 HYES HNO he
            go_wp2_with ((go_at_call 74; with_reducible refine (HR.out _).mono ?_); rintro _ w1 ⟨rfl, hb1⟩; have hb1s := hb1.size; (try simp only [World.size_alloc, World.size_setCell, World.size_drew, World.heap_drewN] at hb1s); obtain ⟨hb1c, hb1f⟩ := bcell hb1; (try have : w.heap.size < w1.heap.size := by omega); (try have : w.heap.size + 1 < w1.heap.size := by omega); (try have : w.heap.size + 1 + 1 < w1.heap.size := by omega); (try have : w.heap.size + 1 + 1 + 1 < w1.heap.size := by omega))
            first | (go_region_with fail) | fail
            all_goals
              refine wp_named (fun W => Bk W w.heap.size 45 (lcells n) ∧ Bk W (w.heap.size + 1) 26 [.bool false, .int .u64 0, .int .u64 0, .int .i64 0] ∧ Below w.heap.size w W) ⟨?h1, ?h2, ?h3⟩ ?_
              case h1 =>
                have b0 := HB0.out
                ((repeat (first | (with_reducible assumption) | ((with_reducible refine Bk.new_ ?_); (first | rfl | (simp only [World.size_alloc, World.size_setCell, World.size_drew, World.heap_drewN]; done))) | (with_reducible refine Bk.alloc ?_ _) | (with_reducible refine Bk.drew ?_) | (with_reducible refine Bk.drewN ?_ _) | ((with_reducible refine Bk.far ?_ ?_ _); rotate_left; focus (simp only []; omega)) | ((with_reducible refine Bk.below ?_ (by with_reducible assumption) ?_); rotate_left; focus (go_size; done)))); done)
              case h2 =>
                have b1 := HB1.out
                ((repeat (first | (with_reducible assumption) | ((with_reducible refine Bk.new_ ?_); (first | rfl | (simp only [World.size_alloc, World.size_setCell, World.size_drew, World.heap_drewN]; done))) | (with_reducible refine Bk.alloc ?_ _) | (with_reducible refine Bk.drew ?_) | (with_reducible refine Bk.drewN ?_ _) | ((with_reducible refine Bk.far ?_ ?_ _); rotate_left; focus (simp only []; omega)) | ((with_reducible refine Bk.below ?_ (by with_reducible assumption) ?_); rotate_left; focus (go_size; done)))); done)
              case h3 => ((repeat' (first | (with_reducible exact Below.refl _ _) | (with_reducible assumption) | (with_reducible refine Below.drew ?_) | (with_reducible refine below_drewN ?_ _) | ((with_reducible refine Below.alloc ?_ ?_ _); rotate_left; focus (go_size; done)) | ((with_reducible refine Below.setCell ?_ ?_ _); rotate_left; focus (go_size; done)) | ((with_reducible refine Below.trans ?_ (Below.mono (by with_reducible assumption) ?_)); rotate_left; focus (go_size; done)))); done)
              rintro W ⟨k1, k2, mb⟩
              go_wp2_with fail
              go_roundg j
              case measure => omega
              case rel => exact ⟨by omega, by omega, rfl, HNX, k1, k2, mb⟩
end Go.Proofs.Ythkgjodidkpaeaa

set_option linter.unusedSimpArgs false
set_option linter.unusedVariables false
namespace Go.Proofs.Ythkgjodidkpaeaa
open Go.RowKit

set_option maxHeartbeats 4000000 in
theorem order_any (n m : Nat) (hn : n < 2 ^ 256) (hm : m < 2 ^ 256) (w : World) : Calls Try.prog 48 #[.agg #[.int .u64 (wd n 0), .int .u64 (wd n 1), .int .u64 (wd n 2), .int .u64 (wd n 3)], .agg #[.int .u64 (wd m 0), .int .u64 (wd m 1), .int .u64 (wd m 2), .int .u64 (wd m 3)]] w fun e w' => e = .returned (.int .i64 (cmpN n m)) ∧ Below w.heap.size w w' := by
  have H0 := Far.mk (top_none hn hm)
  obtain ⟨cc, hcc⟩ : ∃ cc, cc = cmpN n m := ⟨_, rfl⟩
  rw [← hcc]
  have HC := Lib.hid hcc
  clear hn hm hcc
  go_enter Try.func48, Try.ntmps48
  go_wp2_with fail
  go_loopg [5] 4 (fun k i wr => k ≤ 4 ∧ i = .int .i64 ((k : Int) - 1) ∧ Far (n / 2 ^ (64 * k) = m / 2 ^ (64 * k)) ∧ Bk wr w.heap.size 45 (lcells n) ∧ Bk wr (w.heap.size + 1) 45 (lcells m) ∧ Below w.heap.size w wr)
  case atStart => exact ⟨Nat.le_refl _, rfl, H0, by rw [lcells_eq]; (repeat (first | (with_reducible assumption) | ((with_reducible refine Bk.new_ ?_); (first | rfl | (simp only [World.size_alloc, World.size_setCell, World.size_drew, World.heap_drewN]; done))) | (with_reducible refine Bk.alloc ?_ _) | (with_reducible refine Bk.drew ?_) | (with_reducible refine Bk.drewN ?_ _) | ((with_reducible refine Bk.far ?_ ?_ _); rotate_left; focus (simp only []; omega)) | ((with_reducible refine Bk.below ?_ (by with_reducible assumption) ?_); rotate_left; focus (go_size; done)))), by rw [lcells_eq]; (repeat (first | (with_reducible assumption) | ((with_reducible refine Bk.new_ ?_); (first | rfl | (simp only [World.size_alloc, World.size_setCell, World.size_drew, World.heap_drewN]; done))) | (with_reducible refine Bk.alloc ?_ _) | (with_reducible refine Bk.drew ?_) | (with_reducible refine Bk.drewN ?_ _) | ((with_reducible refine Bk.far ?_ ?_ _); rotate_left; focus (simp only []; omega)) | ((with_reducible refine Bk.below ?_ (by with_reducible assumption) ?_); rotate_left; focus (go_size; done)))), by (repeat' (first | (with_reducible exact Below.refl _ _) | (with_reducible assumption) | (with_reducible refine Below.drew ?_) | (with_reducible refine below_drewN ?_ _) | ((with_reducible refine Below.alloc ?_ ?_ _); rotate_left; focus (go_size; done)) | ((with_reducible refine Below.setCell ?_ ?_ _); rotate_left; focus (go_size; done)) | ((with_reducible refine Below.trans ?_ (Below.mono (by with_reducible assumption) ?_)); rotate_left; focus (go_size; done))))⟩
  case round =>
    obtain ⟨hk, rfl, hd, b0, b1, hbel⟩ := hrel
    have HB0 := Lib.hid b0
    have HB1 := Lib.hid b1
    clear b0 b1 H0
    by_cases hz : gk = 0
    · subst hz
      have e : n = m := by have := hd.out; rwa [Nat.mul_zero, Nat.pow_zero, Nat.div_one, Nat.div_one] at this
      have hc : cmpN n m = 0 := by unfold cmpN; rw [if_pos e]
      have HD := Lib.hid hc
      have h0 : ¬ (0 : Int) ≤ ((0 : Nat) : Int) - 1 := by omega
      clear e hc hd
      go_wp2_with fail
      go_ret
      exact ⟨ret_int (by rw [HC.out, HD.out]), by (repeat' (first | (with_reducible exact Below.refl _ _) | (with_reducible assumption) | (with_reducible refine Below.drew ?_) | (with_reducible refine below_drewN ?_ _) | ((with_reducible refine Below.alloc ?_ ?_ _); rotate_left; focus (go_size; done)) | ((with_reducible refine Below.setCell ?_ ?_ _); rotate_left; focus (go_size; done)) | ((with_reducible refine Below.trans ?_ (Below.mono (by with_reducible assumption) ?_)); rotate_left; focus (go_size; done))))⟩
    · obtain ⟨j, rfl⟩ : ∃ j, gk = j + 1 := ⟨gk - 1, by omega⟩
      have j4 : j < 4 := by omega
      have hx : ((j + 1 : Nat) : Int) - 1 = (j : Int) := by omega
      have c0 : wr.cell? ⟨w.heap.size, j, none⟩ = some (.int .u64 (wd n j)) := HB0.out.cell j (lcells_at n j j4)
      have c1 : wr.cell? ⟨w.heap.size + 1, j, none⟩ = some (.int .u64 (wd m j)) := HB1.out.cell j (lcells_at m j j4)
      obtain ⟨x, ex⟩ : ∃ x, x = wd n j := ⟨_, rfl⟩
      obtain ⟨y, ey⟩ : ∃ y, y = wd m j := ⟨_, rfl⟩
      rw [← ex] at c0
      rw [← ey] at c1
      have HX := Lib.hid ex
      have HY := Lib.hid ey
      clear ex ey hz
      rw [hx]
      have j0 : (0 : Int) ≤ (j : Int) := by omega
      have j3 : (j : Int) < 4 := by omega
      rcases Int.lt_trichotomy x y with hl | he | hg
      · have hlt : n < m := top_lt hd.out (by rw [← HX.out, ← HY.out]; exact hl)
        have hc : cmpN n m = -1 := by unfold cmpN; rw [if_neg (by omega), if_pos hlt]
        have HD := Lib.hid hc
        clear hc hlt hx
        go_wp2_with fail
        go_region
        all_goals
          go_wp2_with fail
          go_ret
          exact ⟨ret_int (by rw [HC.out, HD.out]), by (repeat' (first | (with_reducible exact Below.refl _ _) | (with_reducible assumption) | (with_reducible refine Below.drew ?_) | (with_reducible refine below_drewN ?_ _) | ((with_reducible refine Below.alloc ?_ ?_ _); rotate_left; focus (go_size; done)) | ((with_reducible refine Below.setCell ?_ ?_ _); rotate_left; focus (go_size; done)) | ((with_reducible refine Below.trans ?_ (Below.mono (by with_reducible assumption) ?_)); rotate_left; focus (go_size; done))))⟩
      · have heq : n / 2 ^ (64 * j) = m / 2 ^ (64 * j) := top_eq hd.out (by rw [← HX.out, ← HY.out]; exact he)
        have HE := Far.mk heq
        clear heq hx
        subst he
        go_wp2_with fail
        go_region
        all_goals
          go_wp2_with fail
          go_region
          all_goals
            go_wp2_with fail
            go_roundg j
            case measure => omega
            case rel =>
              have b0 := HB0.out
              have b1 := HB1.out
              exact ⟨by omega, rfl, HE, by (repeat (first | (with_reducible assumption) | ((with_reducible refine Bk.new_ ?_); (first | rfl | (simp only [World.size_alloc, World.size_setCell, World.size_drew, World.heap_drewN]; done))) | (with_reducible refine Bk.alloc ?_ _) | (with_reducible refine Bk.drew ?_) | (with_reducible refine Bk.drewN ?_ _) | ((with_reducible refine Bk.far ?_ ?_ _); rotate_left; focus (simp only []; omega)) | ((with_reducible refine Bk.below ?_ (by with_reducible assumption) ?_); rotate_left; focus (go_size; done)))), by (repeat (first | (with_reducible assumption) | ((with_reducible refine Bk.new_ ?_); (first | rfl | (simp only [World.size_alloc, World.size_setCell, World.size_drew, World.heap_drewN]; done))) | (with_reducible refine Bk.alloc ?_ _) | (with_reducible refine Bk.drew ?_) | (with_reducible refine Bk.drewN ?_ _) | ((with_reducible refine Bk.far ?_ ?_ _); rotate_left; focus (simp only []; omega)) | ((with_reducible refine Bk.below ?_ (by with_reducible assumption) ?_); rotate_left; focus (go_size; done)))), by (repeat' (first | (with_reducible exact Below.refl _ _) | (with_reducible assumption) | (with_reducible refine Below.drew ?_) | (with_reducible refine below_drewN ?_ _) | ((with_reducible refine Below.alloc ?_ ?_ _); rotate_left; focus (go_size; done)) | ((with_reducible refine Below.setCell ?_ ?_ _); rotate_left; focus (go_size; done)) | ((with_reducible refine Below.trans ?_ (Below.mono (by with_reducible assumption) ?_)); rotate_left; focus (go_size; done))))⟩
      · have hlt : m < n := top_lt hd.out.symm (by rw [← HX.out, ← HY.out]; exact hg)
        have hc : cmpN n m = 1 := by unfold cmpN; rw [if_neg (by omega), if_neg (by omega)]
        have HD := Lib.hid hc
        have hg2 : ¬ x < y := by omega
        clear hc hlt hx
        go_wp2_with fail
        go_region
        all_goals
          go_wp2_with fail
          go_region
          all_goals
            go_wp2_with fail
            go_ret
            exact ⟨ret_int (by rw [HC.out, HD.out]), by (repeat' (first | (with_reducible exact Below.refl _ _) | (with_reducible assumption) | (with_reducible refine Below.drew ?_) | (with_reducible refine below_drewN ?_ _) | ((with_reducible refine Below.alloc ?_ ?_ _); rotate_left; focus (go_size; done)) | ((with_reducible refine Below.setCell ?_ ?_ _); rotate_left; focus (go_size; done)) | ((with_reducible refine Below.trans ?_ (Below.mono (by with_reducible assumption) ?_)); rotate_left; focus (go_size; done))))⟩
end Go.Proofs.Ythkgjodidkpaeaa

set_option linter.unusedSimpArgs false
set_option linter.unusedVariables false
namespace Go.Proofs.Ythkgjodidkpaeaa
open Go.RowKit

set_option maxHeartbeats 4000000 in
theorem plus4_any (n m : Nat) (hs : n + m < 2 ^ 256) (w : World) : Calls Try.prog 52 #[.agg #[.int .u64 (wd n 0), .int .u64 (wd n 1), .int .u64 (wd n 2), .int .u64 (wd n 3)], .agg #[.int .u64 (wd m 0), .int .u64 (wd m 1), .int .u64 (wd m 2), .int .u64 (wd m 3)]] w fun e w' => e = .returned (.agg #[.int .u64 (wd (n + m) 0), .int .u64 (wd (n + m) 1), .int .u64 (wd (n + m) 2), .int .u64 (wd (n + m) 3)]) ∧ Below w.heap.size w w' := by
  have hn : n < 2 ^ 256 := by omega
  have HN := Far.mk hn
  have HS := Far.mk hs
  obtain ⟨z, hz⟩ : ∃ z, z = n + m := ⟨_, rfl⟩
  rw [← hz]
  have HZ := Lib.hid hz
  clear hn hs hz
  go_enter Try.func52, Try.ntmps52
  go_wp2_with fail
  go_loopg [5, 7] 4 (fun k c i wr => ∃ (t : Nat) (cc : Int) (V : Nat), k + t = 4 ∧ i = .int .i64 t ∧ c = .int .u64 cc ∧ 0 ≤ cc ∧ cc ≤ 1 ∧ Far (V < 2 ^ 256) ∧ Far ((V : Int) + cc * ((2 ^ (64 * t) : Nat) : Int) = n + ((m % 2 ^ (64 * t) : Nat) : Int)) ∧
    Bk wr w.heap.size 45 (lcells V) ∧ Bk wr (w.heap.size + 1) 45 (lcells m) ∧ Bk wr (w.heap.size + 1 + 1) 45 [.int .u64 0, .int .u64 0, .int .u64 0, .int .u64 0] ∧ Below w.heap.size w wr)
  case atStart =>
    refine ⟨0, 0, n, rfl, rfl, rfl, by decide, by decide, HN, Far.mk ?_, by rw [lcells_eq]; (repeat (first | (with_reducible assumption) | ((with_reducible refine Bk.new_ ?_); (first | rfl | (simp only [World.size_alloc, World.size_setCell, World.size_drew, World.heap_drewN]; done))) | (with_reducible refine Bk.alloc ?_ _) | (with_reducible refine Bk.drew ?_) | (with_reducible refine Bk.drewN ?_ _) | ((with_reducible refine Bk.far ?_ ?_ _); rotate_left; focus (simp only []; omega)) | ((with_reducible refine Bk.below ?_ (by with_reducible assumption) ?_); rotate_left; focus (go_size; done)))), by rw [lcells_eq]; (repeat (first | (with_reducible assumption) | ((with_reducible refine Bk.new_ ?_); (first | rfl | (simp only [World.size_alloc, World.size_setCell, World.size_drew, World.heap_drewN]; done))) | (with_reducible refine Bk.alloc ?_ _) | (with_reducible refine Bk.drew ?_) | (with_reducible refine Bk.drewN ?_ _) | ((with_reducible refine Bk.far ?_ ?_ _); rotate_left; focus (simp only []; omega)) | ((with_reducible refine Bk.below ?_ (by with_reducible assumption) ?_); rotate_left; focus (go_size; done)))), by (repeat (first | (with_reducible assumption) | ((with_reducible refine Bk.new_ ?_); (first | rfl | (simp only [World.size_alloc, World.size_setCell, World.size_drew, World.heap_drewN]; done))) | (with_reducible refine Bk.alloc ?_ _) | (with_reducible refine Bk.drew ?_) | (with_reducible refine Bk.drewN ?_ _) | ((with_reducible refine Bk.far ?_ ?_ _); rotate_left; focus (simp only []; omega)) | ((with_reducible refine Bk.below ?_ (by with_reducible assumption) ?_); rotate_left; focus (go_size; done)))), by (repeat' (first | (with_reducible exact Below.refl _ _) | (with_reducible assumption) | (with_reducible refine Below.drew ?_) | (with_reducible refine below_drewN ?_ _) | ((with_reducible refine Below.alloc ?_ ?_ _); rotate_left; focus (go_size; done)) | ((with_reducible refine Below.setCell ?_ ?_ _); rotate_left; focus (go_size; done)) | ((with_reducible refine Below.trans ?_ (Below.mono (by with_reducible assumption) ?_)); rotate_left; focus (go_size; done))))⟩
    rw [Nat.mul_zero, Nat.pow_zero, Nat.mod_one]; simp
  case round =>
    obtain ⟨t, cc, V, hk, rfl, rfl, c0, c1, hV, hE, b0, b1, b2, hbel⟩ := hrel
    have HK := Lib.hid hk
    have HB0 := Lib.hid b0
    have HB1 := Lib.hid b1
    have HB2 := Lib.hid b2
    have t4 : t ≤ 4 := by omega
    have l2 := b2.lt
    clear hk b0 b1 b2
    by_cases hlt : t < 4
    · have t0 : (0 : Int) ≤ (t : Int) := by omega
      have t3 : (t : Int) < 4 := by omega
      have d0 : wr.cell? ⟨w.heap.size, t, none⟩ = some (.int .u64 (wd V t)) := HB0.out.cell t (lcells_at V t hlt)
      have d1 : wr.cell? ⟨w.heap.size + 1, t, none⟩ = some (.int .u64 (wd m t)) := HB1.out.cell t (lcells_at m t hlt)
      have f0 := HB0.out.frozen t
      obtain ⟨s, k, f, hC⟩ := add64_ex (wd V t) (wd m t) cc (wd_nn V t) (wd_lt V t) (wd_nn m t) (wd_lt m t) c0 c1
      unfold Carry at hC
      obtain ⟨i3, s0, s1, k0, k1⟩ := hC
      obtain ⟨V', v1, v2, v3, v4, v5⟩ := lcells_set V t hlt hV.out s s0 s1
      have HNEW := Far.mk (plus_word hE.out rfl rfl v2 i3)
      have HV' := Far.mk v1
      have HL := Lib.hid v3
      clear i3 v1 v2 v3 v4 v5 hE hV
      generalize wd V t = x at *
      generalize wd m t = y at *
      go_wp2_with fail
      go_region
      all_goals
        go_wp2_with fail
        go_roundg (gk - 1)
        case measure => have := HK.out; omega
        case rel =>
          have b0 := HB0.out
          have b1 := HB1.out
          have b2 := HB2.out
          refine ⟨t + 1, k, V', by have := HK.out; omega, by go_num, rfl, k0, k1, HV', HNEW, ?_, by (repeat (first | (with_reducible assumption) | ((with_reducible refine Bk.new_ ?_); (first | rfl | (simp only [World.size_alloc, World.size_setCell, World.size_drew, World.heap_drewN]; done))) | (with_reducible refine Bk.alloc ?_ _) | (with_reducible refine Bk.drew ?_) | (with_reducible refine Bk.drewN ?_ _) | ((with_reducible refine Bk.far ?_ ?_ _); rotate_left; focus (simp only []; omega)) | ((with_reducible refine Bk.below ?_ (by with_reducible assumption) ?_); rotate_left; focus (go_size; done)))), by (repeat (first | (with_reducible assumption) | ((with_reducible refine Bk.new_ ?_); (first | rfl | (simp only [World.size_alloc, World.size_setCell, World.size_drew, World.heap_drewN]; done))) | (with_reducible refine Bk.alloc ?_ _) | (with_reducible refine Bk.drew ?_) | (with_reducible refine Bk.drewN ?_ _) | ((with_reducible refine Bk.far ?_ ?_ _); rotate_left; focus (simp only []; omega)) | ((with_reducible refine Bk.below ?_ (by with_reducible assumption) ?_); rotate_left; focus (go_size; done)))), by (repeat' (first | (with_reducible exact Below.refl _ _) | (with_reducible assumption) | (with_reducible refine Below.drew ?_) | (with_reducible refine below_drewN ?_ _) | ((with_reducible refine Below.alloc ?_ ?_ _); rotate_left; focus (go_size; done)) | ((with_reducible refine Below.setCell ?_ ?_ _); rotate_left; focus (go_size; done)) | ((with_reducible refine Below.trans ?_ (Below.mono (by with_reducible assumption) ?_)); rotate_left; focus (go_size; done))))⟩
          rw [← HL.out]
          repeat (first | refine Bk.drew ?_ | refine Bk.drewN ?_ _)
          exact b0.set_ _ _
    · obtain rfl : t = 4 := by omega
      have e := plus_end hV.out HS.out c0 hE.out
      rw [← HZ.out] at e
      subst e
      have b0 := HB0.out
      have b2 := HB2.out
      rw [lcells_eq] at b0
      have d0 := b0.cell 0 rfl
      have d1 := b0.cell 1 rfl
      have d2 := b0.cell 2 rfl
      have d3 := b0.cell 3 rfl
      have e0 := b2.cell 0 rfl
      have e1 := b2.cell 1 rfl
      have e2 := b2.cell 2 rfl
      have e3 := b2.cell 3 rfl
      have g0 := b2.frozen 0
      have g1 := b2.frozen 1
      have g2 := b2.frozen 2
      have g3 := b2.frozen 3
      clear b0 b2 hE hV HS
      go_wp2_with fail
      refine bodyPost_ret (by simp [results, Try.results52, go_sem, *]; try rfl) rfl ?_
      exact ⟨rfl, by (repeat' (first | (with_reducible exact Below.refl _ _) | (with_reducible assumption) | (with_reducible refine Below.drew ?_) | (with_reducible refine below_drewN ?_ _) | ((with_reducible refine Below.alloc ?_ ?_ _); rotate_left; focus (go_size; done)) | ((with_reducible refine Below.setCell ?_ ?_ _); rotate_left; focus (go_size; done)) | ((with_reducible refine Below.trans ?_ (Below.mono (by with_reducible assumption) ?_)); rotate_left; focus (go_size; done))))⟩
end Go.Proofs.Ythkgjodidkpaeaa

set_option linter.unusedSimpArgs false
set_option linter.unusedVariables false
namespace Go.Proofs.Ythkgjodidkpaeaa
open Go.RowKit

set_option maxHeartbeats 4000000 in
theorem minus4_any (n m : Nat) (hn : n < 2 ^ 256) (hs : m ≤ n) (w : World) : Calls Try.prog 53 #[.agg #[.int .u64 (wd n 0), .int .u64 (wd n 1), .int .u64 (wd n 2), .int .u64 (wd n 3)], .agg #[.int .u64 (wd m 0), .int .u64 (wd m 1), .int .u64 (wd m 2), .int .u64 (wd m 3)]] w fun e w' => e = .returned (.agg #[.int .u64 (wd (n - m) 0), .int .u64 (wd (n - m) 1), .int .u64 (wd (n - m) 2), .int .u64 (wd (n - m) 3)]) ∧ Below w.heap.size w w' := by
  have HN := Far.mk hn
  have HS := Far.mk hs
  obtain ⟨z, hz⟩ : ∃ z, z = n - m := ⟨_, rfl⟩
  rw [← hz]
  have HZ := Lib.hid hz
  clear hn hs hz
  go_enter Try.func53, Try.ntmps53
  go_wp2_with fail
  go_loopg [5, 7] 4 (fun k c i wr => ∃ (t : Nat) (cc : Int) (V : Nat), k + t = 4 ∧ i = .int .i64 t ∧ c = .int .u64 cc ∧ 0 ≤ cc ∧ cc ≤ 1 ∧ Far (V < 2 ^ 256) ∧ Far ((V : Int) - cc * ((2 ^ (64 * t) : Nat) : Int) = n - ((m % 2 ^ (64 * t) : Nat) : Int)) ∧
    Bk wr w.heap.size 45 (lcells V) ∧ Bk wr (w.heap.size + 1) 45 (lcells m) ∧ Bk wr (w.heap.size + 1 + 1) 45 [.int .u64 0, .int .u64 0, .int .u64 0, .int .u64 0] ∧ Below w.heap.size w wr)
  case atStart =>
    refine ⟨0, 0, n, rfl, rfl, rfl, by decide, by decide, HN, Far.mk ?_, by rw [lcells_eq]; (repeat (first | (with_reducible assumption) | ((with_reducible refine Bk.new_ ?_); (first | rfl | (simp only [World.size_alloc, World.size_setCell, World.size_drew, World.heap_drewN]; done))) | (with_reducible refine Bk.alloc ?_ _) | (with_reducible refine Bk.drew ?_) | (with_reducible refine Bk.drewN ?_ _) | ((with_reducible refine Bk.far ?_ ?_ _); rotate_left; focus (simp only []; omega)) | ((with_reducible refine Bk.below ?_ (by with_reducible assumption) ?_); rotate_left; focus (go_size; done)))), by rw [lcells_eq]; (repeat (first | (with_reducible assumption) | ((with_reducible refine Bk.new_ ?_); (first | rfl | (simp only [World.size_alloc, World.size_setCell, World.size_drew, World.heap_drewN]; done))) | (with_reducible refine Bk.alloc ?_ _) | (with_reducible refine Bk.drew ?_) | (with_reducible refine Bk.drewN ?_ _) | ((with_reducible refine Bk.far ?_ ?_ _); rotate_left; focus (simp only []; omega)) | ((with_reducible refine Bk.below ?_ (by with_reducible assumption) ?_); rotate_left; focus (go_size; done)))), by (repeat (first | (with_reducible assumption) | ((with_reducible refine Bk.new_ ?_); (first | rfl | (simp only [World.size_alloc, World.size_setCell, World.size_drew, World.heap_drewN]; done))) | (with_reducible refine Bk.alloc ?_ _) | (with_reducible refine Bk.drew ?_) | (with_reducible refine Bk.drewN ?_ _) | ((with_reducible refine Bk.far ?_ ?_ _); rotate_left; focus (simp only []; omega)) | ((with_reducible refine Bk.below ?_ (by with_reducible assumption) ?_); rotate_left; focus (go_size; done)))), by (repeat' (first | (with_reducible exact Below.refl _ _) | (with_reducible assumption) | (with_reducible refine Below.drew ?_) | (with_reducible refine below_drewN ?_ _) | ((with_reducible refine Below.alloc ?_ ?_ _); rotate_left; focus (go_size; done)) | ((with_reducible refine Below.setCell ?_ ?_ _); rotate_left; focus (go_size; done)) | ((with_reducible refine Below.trans ?_ (Below.mono (by with_reducible assumption) ?_)); rotate_left; focus (go_size; done))))⟩
    rw [Nat.mul_zero, Nat.pow_zero, Nat.mod_one]; simp
  case round =>
    obtain ⟨t, cc, V, hk, rfl, rfl, c0, c1, hV, hE, b0, b1, b2, hbel⟩ := hrel
    have HK := Lib.hid hk
    have HB0 := Lib.hid b0
    have HB1 := Lib.hid b1
    have HB2 := Lib.hid b2
    have t4 : t ≤ 4 := by omega
    have l2 := b2.lt
    clear hk b0 b1 b2
    by_cases hlt : t < 4
    · have t0 : (0 : Int) ≤ (t : Int) := by omega
      have t3 : (t : Int) < 4 := by omega
      have d0 : wr.cell? ⟨w.heap.size, t, none⟩ = some (.int .u64 (wd V t)) := HB0.out.cell t (lcells_at V t hlt)
      have d1 : wr.cell? ⟨w.heap.size + 1, t, none⟩ = some (.int .u64 (wd m t)) := HB1.out.cell t (lcells_at m t hlt)
      have f0 := HB0.out.frozen t
      obtain ⟨s, k, f, hC⟩ := sub64_ex (wd V t) (wd m t) cc (wd_nn V t) (wd_lt V t) (wd_nn m t) (wd_lt m t) c0 c1
      unfold Borrow at hC
      obtain ⟨i3, s0, s1, k0, k1⟩ := hC
      obtain ⟨V', v1, v2, v3, v4, v5⟩ := lcells_set V t hlt hV.out s s0 s1
      have HNEW := Far.mk (minus_word hE.out rfl rfl v2 i3)
      have HV' := Far.mk v1
      have HL := Lib.hid v3
      clear i3 v1 v2 v3 v4 v5 hE hV
      generalize wd V t = x at *
      generalize wd m t = y at *
      go_wp2_with fail
      go_region
      all_goals
        go_wp2_with fail
        go_roundg (gk - 1)
        case measure => have := HK.out; omega
        case rel =>
          have b0 := HB0.out
          have b1 := HB1.out
          have b2 := HB2.out
          refine ⟨t + 1, k, V', by have := HK.out; omega, by go_num, rfl, k0, k1, HV', HNEW, ?_, by (repeat (first | (with_reducible assumption) | ((with_reducible refine Bk.new_ ?_); (first | rfl | (simp only [World.size_alloc, World.size_setCell, World.size_drew, World.heap_drewN]; done))) | (with_reducible refine Bk.alloc ?_ _) | (with_reducible refine Bk.drew ?_) | (with_reducible refine Bk.drewN ?_ _) | ((with_reducible refine Bk.far ?_ ?_ _); rotate_left; focus (simp only []; omega)) | ((with_reducible refine Bk.below ?_ (by with_reducible assumption) ?_); rotate_left; focus (go_size; done)))), by (repeat (first | (with_reducible assumption) | ((with_reducible refine Bk.new_ ?_); (first | rfl | (simp only [World.size_alloc, World.size_setCell, World.size_drew, World.heap_drewN]; done))) | (with_reducible refine Bk.alloc ?_ _) | (with_reducible refine Bk.drew ?_) | (with_reducible refine Bk.drewN ?_ _) | ((with_reducible refine Bk.far ?_ ?_ _); rotate_left; focus (simp only []; omega)) | ((with_reducible refine Bk.below ?_ (by with_reducible assumption) ?_); rotate_left; focus (go_size; done)))), by (repeat' (first | (with_reducible exact Below.refl _ _) | (with_reducible assumption) | (with_reducible refine Below.drew ?_) | (with_reducible refine below_drewN ?_ _) | ((with_reducible refine Below.alloc ?_ ?_ _); rotate_left; focus (go_size; done)) | ((with_reducible refine Below.setCell ?_ ?_ _); rotate_left; focus (go_size; done)) | ((with_reducible refine Below.trans ?_ (Below.mono (by with_reducible assumption) ?_)); rotate_left; focus (go_size; done))))⟩
          rw [← HL.out]
          repeat (first | refine Bk.drew ?_ | refine Bk.drewN ?_ _)
          exact b0.set_ _ _
    · obtain rfl : t = 4 := by omega
      have e := minus_end hV.out HN.out HS.out c0 hE.out
      rw [← HZ.out] at e
      subst e
      have b0 := HB0.out
      have b2 := HB2.out
      rw [lcells_eq] at b0
      have d0 := b0.cell 0 rfl
      have d1 := b0.cell 1 rfl
      have d2 := b0.cell 2 rfl
      have d3 := b0.cell 3 rfl
      have e0 := b2.cell 0 rfl
      have e1 := b2.cell 1 rfl
      have e2 := b2.cell 2 rfl
      have e3 := b2.cell 3 rfl
      have g0 := b2.frozen 0
      have g1 := b2.frozen 1
      have g2 := b2.frozen 2
      have g3 := b2.frozen 3
      clear b0 b2 hE hV HS
      go_wp2_with fail
      refine bodyPost_ret (by simp [results, Try.results53, go_sem, *]; try rfl) rfl ?_
      exact ⟨rfl, by (repeat' (first | (with_reducible exact Below.refl _ _) | (with_reducible assumption) | (with_reducible refine Below.drew ?_) | (with_reducible refine below_drewN ?_ _) | ((with_reducible refine Below.alloc ?_ ?_ _); rotate_left; focus (go_size; done)) | ((with_reducible refine Below.setCell ?_ ?_ _); rotate_left; focus (go_size; done)) | ((with_reducible refine Below.trans ?_ (Below.mono (by with_reducible assumption) ?_)); rotate_left; focus (go_size; done))))⟩
end Go.Proofs.Ythkgjodidkpaeaa
