/- The program: a number times a power of ten, a word at a time. -/
import Derived.Test.YthkgjodidkpaeaaFw
import Derived.Test.YthkgjodidkpaeaaFb
import Derived.Test.YthkgjodidkpaeaaWa
import Derived.Test.YthkgjodidkpaeaaNw
set_option linter.unusedSimpArgs false
set_option linter.unusedVariables false
namespace Go.Proofs.Ythkgjodidkpaeaa
open Go.RowKit

theorem ten_step (x c : Int) (hx0 : 0 ≤ x) (hx : x < 18446744073709551616) (hc0 : 0 ≤ c) (hc : c < 18446744073709551616) :
    ∃ h l s k : Int, Hid (∀ w : World, Calls Try.prog 96 #[.int .u64 x, .int .u64 10] w fun e w' => e = .returned (.tuple #[.int .u64 h, .int .u64 l]) ∧ ∃ nn, w' = w.drewN nn) ∧
      (∀ W : World, (callFunc 86 #[.int .u64 l, .int .u64 c, .int .u64 0]).run Try.prog W = .ok (.value (.tuple #[.int .u64 s, .int .u64 k])) W) ∧
      Hid (s + 18446744073709551616 * (h + k) = x * 10 + c) ∧ 0 ≤ h ∧ 0 ≤ k ∧ 0 ≤ s ∧ s < 18446744073709551616 ∧ h + k < 18446744073709551616 := by
  obtain ⟨h, l, f, H⟩ := mul64_ex x 10 hx0 hx (by decide) (by decide)
  unfold Two at H
  obtain ⟨s, k, g, K⟩ := add64_ex l c 0 (by omega) (by omega) hc0 hc (by decide) (by decide)
  unfold Carry at K
  exact ⟨h, l, s, k, f, g, by show s + 18446744073709551616 * (h + k) = x * 10 + c; omega, by omega, by omega, by omega, by omega, by omega⟩
set_option maxHeartbeats 4000000 in
theorem times_any4 (c k : Nat) (hc : c < 2 ^ 128) (hk : k ≤ 1000) (h : c * 10 ^ k < 2 ^ 256) (w : World) : Calls Try.prog 79 #[.agg #[.int .u64 (wd c 1), .int .u64 (wd c 0)], .int .i64 k] w fun e w' => e = .returned (.agg #[.int .u64 (wd (c * 10 ^ k) 0), .int .u64 (wd (c * 10 ^ k) 1), .int .u64 (wd (c * 10 ^ k) 2), .int .u64 (wd (c * 10 ^ k) 3)]) ∧ Below w.heap.size w w' := by
  have HL := Lib.hid (fun W => long_any c hc W)
  have H := Far.mk h
  have k0 : (0 : Int) ≤ (k : Int) := by omega
  have k1 : (k : Int) ≤ 1000 := by omega
  obtain ⟨z, hz⟩ : ∃ z, z = c * 10 ^ k := ⟨_, rfl⟩
  rw [← hz]
  have HZ := Far.mk hz
  clear hc h hz
  obtain ⟨x1, hx1⟩ : ∃ x1, x1 = wd c 1 := ⟨_, rfl⟩
  obtain ⟨x0, hx0⟩ : ∃ x0, x0 = wd c 0 := ⟨_, rfl⟩
  rw [← hx1, ← hx0]
  rw [← hx1, ← hx0] at HL
  have X1 := Lib.hid hx1
  have X0 := Lib.hid hx0
  clear hx1 hx0
  go_enter Try.func79, Try.ntmps79
  go_wp2_with fail
  refine (HL.out _).mono ?_
  rw [X1.out, X0.out]
  rintro _ w1 ⟨rfl, hb1⟩; have hb1s := hb1.size; (try simp only [World.size_alloc, World.size_setCell, World.size_drew, World.heap_drewN] at hb1s); obtain ⟨hb1c, hb1f⟩ := bcell hb1; (try have : w.heap.size < w1.heap.size := by omega); (try have : w.heap.size + 1 < w1.heap.size := by omega); (try have : w.heap.size + 1 + 1 < w1.heap.size := by omega); (try have : w.heap.size + 1 + 1 + 1 < w1.heap.size := by omega)
  go_wp2_with fail
  go_loopg [14] k (fun kk i wr => ∃ t : Nat, kk + t = k ∧ i = .int .i64 t ∧ Bk wr w1.heap.size 45 (lcells (c * 10 ^ t)) ∧ Bk wr (w.heap.size + 1) 45 [.int .u64 0, .int .u64 0, .int .u64 0, .int .u64 0] ∧ w1.heap.size < wr.heap.size ∧ Below w.heap.size w wr)
  case atStart =>
    refine ⟨0, by omega, rfl, ?_, by (repeat (first | (with_reducible assumption) | ((with_reducible refine Bk.new_ ?_); (first | rfl | (simp only [World.size_alloc, World.size_setCell, World.size_drew, World.heap_drewN]; done))) | (with_reducible refine Bk.alloc ?_ _) | (with_reducible refine Bk.drew ?_) | (with_reducible refine Bk.drewN ?_ _) | ((with_reducible refine Bk.far ?_ ?_ _); rotate_left; focus (simp only []; omega)) | ((with_reducible refine Bk.below ?_ (by with_reducible assumption) ?_); rotate_left; focus (go_size; done)))), by go_size, by (repeat' (first | (with_reducible exact Below.refl _ _) | (with_reducible assumption) | (with_reducible refine Below.drew ?_) | (with_reducible refine below_drewN ?_ _) | ((with_reducible refine Below.alloc ?_ ?_ _); rotate_left; focus (go_size; done)) | ((with_reducible refine Below.setCell ?_ ?_ _); rotate_left; focus (go_size; done)) | ((with_reducible refine Below.trans ?_ (Below.mono (by with_reducible assumption) ?_)); rotate_left; focus (go_size; done))))⟩
    rw [Nat.pow_zero, Nat.mul_one, lcells_eq]
    (repeat (first | (with_reducible assumption) | ((with_reducible refine Bk.new_ ?_); (first | rfl | (simp only [World.size_alloc, World.size_setCell, World.size_drew, World.heap_drewN]; done))) | (with_reducible refine Bk.alloc ?_ _) | (with_reducible refine Bk.drew ?_) | (with_reducible refine Bk.drewN ?_ _) | ((with_reducible refine Bk.far ?_ ?_ _); rotate_left; focus (simp only []; omega)) | ((with_reducible refine Bk.below ?_ (by with_reducible assumption) ?_); rotate_left; focus (go_size; done))))
  case round =>
    obtain ⟨t, hn, rfl, b1, b0, hsz, hbel⟩ := hrel
    have HK := Lib.hid hn
    have HB1 := Lib.hid b1
    have HB0 := Lib.hid b0
    have ht : t ≤ k := by omega
    clear hn b1 b0
    by_cases hlt : t < k
    · have hM : c * 10 ^ t * 10 < 2 ^ 256 := by
        have h1 := H.out
        have h2 : c * 10 ^ t * 10 ≤ c * 10 ^ k := by
          rw [Nat.mul_assoc, ← Nat.pow_succ]
          exact Nat.mul_le_mul_left _ (Nat.pow_le_pow_right (by decide) hlt)
        omega
      obtain ⟨M, eM⟩ : ∃ M, M = c * 10 ^ t := ⟨_, rfl⟩
      rw [← eM] at hM HB1
      have EM := Far.mk eM
      have HM := Far.mk hM
      have HM0 : Far (M < 2 ^ 256) := Far.mk (by omega)
      have tlt : (t : Int) < (k : Int) := by omega
      clear eM hM
      go_wp2_with fail
      obtain ⟨wo, hwo⟩ : ∃ wo : World, wo = wr := ⟨_, rfl⟩
      obtain ⟨go, hgo⟩ : ∃ go : Nat, go = gk := ⟨_, rfl⟩
      rw [← hgo] at HK
      have HGO := Lib.hid hgo
      clear hwo hgo
      go_loopg [6, 16] 4 (fun kk cv j wr => ∃ (s : Nat) (cc : Int) (V : Nat), kk + s = 4 ∧ j = .int .i64 s ∧ cv = .int .u64 cc ∧ 0 ≤ cc ∧ cc < 18446744073709551616 ∧ Far (V < 2 ^ 256) ∧ Far ((V : Int) + cc * ((2 ^ (64 * s) : Nat) : Int) = M + 9 * ((M % 2 ^ (64 * s) : Nat) : Int)) ∧ Hid (∀ i, s ≤ i → i < 4 → wd V i = wd M i) ∧
        Bk wr w1.heap.size 45 (lcells V) ∧ Bk wr (w.heap.size + 1) 45 [.int .u64 0, .int .u64 0, .int .u64 0, .int .u64 0] ∧ w1.heap.size < wr.heap.size ∧ Below w.heap.size w wr)
      case atStart =>
        refine ⟨0, 0, M, rfl, rfl, rfl, by decide, by decide, HM0, Far.mk ?_, Lib.hid (fun i _ _ => rfl), HB1.out, HB0.out, hsz, hbel⟩
        rw [Nat.mul_zero, Nat.pow_zero, Nat.mod_one]; simp
      case round =>
        obtain ⟨s, cc, V, hk2, rfl, rfl, c0, c1, hV, hE, hU, b1, b0, hsz, hbel⟩ := hrel
        have HK2 := Lib.hid hk2
        have HB1 := Lib.hid b1
        have HB0 := Lib.hid b0
        have s4 : s ≤ 4 := by omega
        clear hk2 b1 b0
        by_cases hls : s < 4
        · have s0' : (0 : Int) ≤ (s : Int) := by omega
          have s3' : (s : Int) < 4 := by omega
          have d0 : wr.cell? ⟨w1.heap.size, s, none⟩ = some (.int .u64 (wd V s)) := HB1.out.cell s (lcells_at V s hls)
          have f0 := HB1.out.frozen s
          obtain ⟨h, l, u, q, f, g, HS, h0, q0, u0, u1, hq⟩ := ten_step (wd V s) cc (wd_nn V s) (wd_lt V s) c0 c1
          obtain ⟨V', v1, v2, v3, v4, v5⟩ := lcells_set V s hls hV.out u u0 u1
          have HNEW := Far.mk (ten_word hE.out rfl (hU.out s (Nat.le_refl _) hls) v2 HS.out)
          have HV' := Far.mk v1
          have HL := Lib.hid v3
          have HU' : Hid (∀ i, s + 1 ≤ i → i < 4 → wd V' i = wd M i) := Lib.hid (fun i hi h4 => by rw [v4 i h4 (by omega)]; exact hU.out i (by omega) h4)
          have hq0 : 0 ≤ h + q := by omega
          clear v1 v2 v3 v4 v5 hE hV hU HS
          generalize wd V s = x at *
          go_wp2_with ((go_at_call 96; with_reducible refine (f.out _).mono ?_); rintro _ _ ⟨rfl, nn, rfl⟩)
          go_roundg (gk - 1)
          case measure => have := HK2.out; omega
          case rel =>
            have b0 := HB0.out
            have b1 := HB1.out
            refine ⟨s + 1, h + q, V', by have := HK2.out; omega, by go_num, rfl, hq0, hq, HV', HNEW, HU', ?_, by (repeat (first | (with_reducible assumption) | ((with_reducible refine Bk.new_ ?_); (first | rfl | (simp only [World.size_alloc, World.size_setCell, World.size_drew, World.heap_drewN]; done))) | (with_reducible refine Bk.alloc ?_ _) | (with_reducible refine Bk.drew ?_) | (with_reducible refine Bk.drewN ?_ _) | ((with_reducible refine Bk.far ?_ ?_ _); rotate_left; focus (simp only []; omega)) | ((with_reducible refine Bk.below ?_ (by with_reducible assumption) ?_); rotate_left; focus (go_size; done)))), by go_size, by (repeat' (first | (with_reducible exact Below.refl _ _) | (with_reducible assumption) | (with_reducible refine Below.drew ?_) | (with_reducible refine below_drewN ?_ _) | ((with_reducible refine Below.alloc ?_ ?_ _); rotate_left; focus (go_size; done)) | ((with_reducible refine Below.setCell ?_ ?_ _); rotate_left; focus (go_size; done)) | ((with_reducible refine Below.trans ?_ (Below.mono (by with_reducible assumption) ?_)); rotate_left; focus (go_size; done))))⟩
            rw [← HL.out]
            exact (b1.drewN _).set_ _ _
        · obtain rfl : s = 4 := by omega
          have e := ten_end hV.out HM.out c0 hE.out
          subst e
          clear hV hE
          go_wp2_with fail
          go_roundg (go - 1)
          case measure => have := HK.out; have := HGO.out; omega
          case rel =>
            refine ⟨t + 1, by have := HK.out; omega, by go_num, ?_, HB0.out, hsz, hbel⟩
            rw [Nat.pow_succ, ← Nat.mul_assoc, ← EM.out]
            exact HB1.out
    · obtain rfl : t = k := by omega
      have b1 := HB1.out
      rw [← HZ.out, lcells_eq] at b1
      have b0 := HB0.out
      have d0 := b1.cell 0 rfl
      have d1 := b1.cell 1 rfl
      have d2 := b1.cell 2 rfl
      have d3 := b1.cell 3 rfl
      have e0 := b0.cell 0 rfl
      have e1 := b0.cell 1 rfl
      have e2 := b0.cell 2 rfl
      have e3 := b0.cell 3 rfl
      have g0 := b0.frozen 0
      have g1 := b0.frozen 1
      have g2 := b0.frozen 2
      have g3 := b0.frozen 3
      clear b0 b1
      go_wp2_with fail
      refine bodyPost_ret (by simp [results, Try.results79, go_sem, *]; try rfl) rfl ?_
      exact ⟨rfl, by (repeat' (first | (with_reducible exact Below.refl _ _) | (with_reducible assumption) | (with_reducible refine Below.drew ?_) | (with_reducible refine below_drewN ?_ _) | ((with_reducible refine Below.alloc ?_ ?_ _); rotate_left; focus (go_size; done)) | ((with_reducible refine Below.setCell ?_ ?_ _); rotate_left; focus (go_size; done)) | ((with_reducible refine Below.trans ?_ (Below.mono (by with_reducible assumption) ?_)); rotate_left; focus (go_size; done))))⟩
end Go.Proofs.Ythkgjodidkpaeaa
