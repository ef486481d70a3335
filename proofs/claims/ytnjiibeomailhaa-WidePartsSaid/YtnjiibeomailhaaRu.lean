/- The document's answers of the layer: quotients, and the number in two words. -/
import Derived.Test.YtnjiibeomailhaaRs
import Derived.RegionTactic
set_option linter.unusedSimpArgs false
set_option linter.unusedVariables false
namespace Go.Proofs.Ytnjiibeomailhaa
open Go.RowKit

/-- the digits' slice: empty at nought alone -/
theorem dg_len {w : World} {v : Value} {n : Nat} (h : Dg w v n) : ∃ (A : Option Addr) (k c : Nat), v = .slice A k c ∧ (k = 0 ↔ n = 0) ∧ k ≤ c := by
  obtain ⟨xs, ⟨A, c, rfl, hc, hs⟩, hd⟩ := h
  exact ⟨A, xs.length, c, rfl, hd.zero_iff, hc⟩
set_option maxHeartbeats 2000000 in
theorem docnarrow_any (N : Nat) (hN : N < 2 ^ 256) (w : World) : Calls Try.prog 27 #[.agg #[.int .u64 (wd N 0), .int .u64 (wd N 1), .int .u64 (wd N 2), .int .u64 (wd N 3)]] w fun e w' => e = .returned (.tuple #[.agg #[.int .u64 (wd (fitW N) 1), .int .u64 (wd (fitW N) 0)], .int .i64 (over N)]) ∧ Below w.heap.size w w' := by
  have HO := Lib.hid (fun W => oflong_any N hN W)
  have HT := Lib.hid (fun W v h => told_any N v W h (lt_256_tiny hN).small)
  generalize fitW N = z at *
  generalize over N = e at *
  generalize wd z 0 = z0 at *
  generalize wd z 1 = z1 at *
  clear hN
  go_enter Try.func27, Try.ntmps27
  go_wp2_with fail
  refine (HO.out _).mono ?_
  rintro _ w1 ⟨v1, rfl, d1, hb1⟩; have hb1s := hb1.size; (try simp only [World.size_alloc, World.size_setCell, World.size_drew, World.heap_drewN] at hb1s); obtain ⟨hb1c, hb1f⟩ := bcell hb1; (try have : w.heap.size < w1.heap.size := by omega); (try have : w.heap.size + 1 < w1.heap.size := by omega); (try have : w.heap.size + 1 + 1 < w1.heap.size := by omega); (try have : w.heap.size + 1 + 1 + 1 < w1.heap.size := by omega); have Hd1 := Lib.hid d1; clear d1
  go_wp2_with fail
  refine (HT.out _ _ (by (first | exact Hid.out (by assumption) | exact Dg.below (Hid.out (by assumption)) (by (repeat' (first | (with_reducible exact Below.refl _ _) | (with_reducible assumption) | (with_reducible refine Below.drew ?_) | (with_reducible refine below_drewN ?_ _) | ((with_reducible refine Below.alloc ?_ ?_ _); rotate_left; focus (go_size; done)) | ((with_reducible refine Below.setCell ?_ ?_ _); rotate_left; focus (go_size; done)) | ((with_reducible refine Below.trans ?_ (Below.mono (by with_reducible assumption) ?_)); rotate_left; focus (go_size; done)))))))).mono ?_
  rintro _ w2 ⟨rfl, hb2⟩; have hb2s := hb2.size; (try simp only [World.size_alloc, World.size_setCell, World.size_drew, World.heap_drewN] at hb2s); obtain ⟨hb2c, hb2f⟩ := bcell hb2; (try have : w.heap.size < w2.heap.size := by omega); (try have : w.heap.size + 1 < w2.heap.size := by omega); (try have : w.heap.size + 1 + 1 < w2.heap.size := by omega); (try have : w.heap.size + 1 + 1 + 1 < w2.heap.size := by omega)
  go_wp2_with fail
  refine bodyPost_ret (by simp [results, Try.results27, go_sem, *]; try rfl) rfl ?_
  exact ⟨rfl, by (repeat' (first | (with_reducible exact Below.refl _ _) | (with_reducible assumption) | (with_reducible refine Below.drew ?_) | (with_reducible refine below_drewN ?_ _) | ((with_reducible refine Below.alloc ?_ ?_ _); rotate_left; focus (go_size; done)) | ((with_reducible refine Below.setCell ?_ ?_ _); rotate_left; focus (go_size; done)) | ((with_reducible refine Below.trans ?_ (Below.mono (by with_reducible assumption) ?_)); rotate_left; focus (go_size; done))))⟩
set_option maxHeartbeats 2000000 in
theorem docdiv_zero (N : Nat) (w : World) : Calls Try.prog 13 #[.agg #[.int .u64 (wd N 0), .int .u64 (wd N 1), .int .u64 (wd N 2), .int .u64 (wd N 3)], .agg #[.int .u64 0, .int .u64 0]] w fun e w' => e = .returned (.tuple #[.agg #[.int .u64 0, .int .u64 0, .int .u64 0, .int .u64 0], .agg #[.int .u64 0, .int .u64 0], .int .i64 4]) ∧ Below w.heap.size w w' := by
  have HO := Lib.hid (fun W => of_any 0 (by decide) W)
  rw [wd_zero, wd_zero] at HO
  generalize wd N 0 = x0 at *
  generalize wd N 1 = x1 at *
  generalize wd N 2 = x2 at *
  generalize wd N 3 = x3 at *
  go_enter Try.func13, Try.ntmps13
  go_wp2_with fail
  refine (HO.out _).mono ?_
  rintro _ w1 ⟨v1, rfl, d1, hb1⟩; have hb1s := hb1.size; (try simp only [World.size_alloc, World.size_setCell, World.size_drew, World.heap_drewN] at hb1s); obtain ⟨hb1c, hb1f⟩ := bcell hb1; (try have : w.heap.size < w1.heap.size := by omega); (try have : w.heap.size + 1 < w1.heap.size := by omega); (try have : w.heap.size + 1 + 1 < w1.heap.size := by omega); (try have : w.heap.size + 1 + 1 + 1 < w1.heap.size := by omega); have Hd1 := Lib.hid d1; clear d1
  have s3 : w.heap.size + 1 + 1 + 1 < w1.heap.size := by omega
  obtain ⟨A, k, c, rfl, hk, hkc⟩ := dg_len Hd1.out
  obtain rfl : k = 0 := hk.2 rfl
  clear hk
  go_wp2_with fail
  refine bodyPost_ret (by simp [results, Try.results13, go_sem, *]; try rfl) rfl ?_
  exact ⟨rfl, by (repeat' (first | (with_reducible exact Below.refl _ _) | (with_reducible assumption) | (with_reducible refine Below.drew ?_) | (with_reducible refine below_drewN ?_ _) | ((with_reducible refine Below.alloc ?_ ?_ _); rotate_left; focus (go_size; done)) | ((with_reducible refine Below.setCell ?_ ?_ _); rotate_left; focus (go_size; done)) | ((with_reducible refine Below.trans ?_ (Below.mono (by with_reducible assumption) ?_)); rotate_left; focus (go_size; done))))⟩
set_option maxHeartbeats 4000000 in
theorem docdiv_any (N D : Nat) (hN : N < 2 ^ 256) (hD : D < 2 ^ 128) (h0 : D ≠ 0) (w : World) :
    Calls Try.prog 13 #[.agg #[.int .u64 (wd N 0), .int .u64 (wd N 1), .int .u64 (wd N 2), .int .u64 (wd N 3)], .agg #[.int .u64 (wd D 1), .int .u64 (wd D 0)]] w fun e w' => e = .returned (.tuple #[.agg #[.int .u64 (wd (N / D) 0), .int .u64 (wd (N / D) 1), .int .u64 (wd (N / D) 2), .int .u64 (wd (N / D) 3)], .agg #[.int .u64 (wd (N % D) 1), .int .u64 (wd (N % D) 0)], .int .i64 0]) ∧ Below w.heap.size w w' := by
  have hq : N / D < 2 ^ 256 := Nat.lt_of_le_of_lt (Nat.div_le_self _ _) hN
  have hr : N % D < 2 ^ 128 := Nat.lt_trans (Nat.mod_lt _ (by omega)) hD
  have HO := Lib.hid (fun W => oflong_any N hN W)
  have HOD := Lib.hid (fun W => of_any D hD W)
  have HQ := Lib.hid (fun W u v (h1 : Dg W u N) (h2 : Dg W v D) => quo_any N D (by omega) u v W h1 h2 (lt_256_tiny hN).small (lt_128_tiny hD).small)
  have HL := Lib.hid (fun W v h => tolong_any (N / D) v W h (lt_256_tiny hq).small)
  have HT := Lib.hid (fun W v h => to_any (N % D) v W h (lt_128_tiny hr).small)
  unfold RetLong at HL
  unfold RetWide at HT
  rw [Nat.mod_eq_of_lt hq] at HL
  rw [Nat.mod_eq_of_lt (Nat.lt_trans hr (by decide))] at HT
  have H0 := Lib.hid h0
  clear hN hD h0 hq hr
  obtain ⟨Q, hQ⟩ : ∃ x, x = N / D := ⟨_, rfl⟩
  obtain ⟨R, hR⟩ : ∃ x, x = N % D := ⟨_, rfl⟩
  rw [← hQ] at HL HQ ⊢
  rw [← hR] at HT HQ ⊢
  generalize fitsL Q = fl at *
  generalize decide (R < 2 ^ 128) = fr at *
  generalize wd Q 0 = q0 at *
  generalize wd Q 1 = q1 at *
  generalize wd Q 2 = q2 at *
  generalize wd Q 3 = q3 at *
  generalize wd R 0 = r0 at *
  generalize wd R 1 = r1 at *
  generalize wd N 0 = x0 at *
  generalize wd N 1 = x1 at *
  generalize wd N 2 = x2 at *
  generalize wd N 3 = x3 at *
  generalize wd D 0 = d0 at *
  generalize wd D 1 = d1 at *
  clear hQ hR
  go_enter Try.func13, Try.ntmps13
  go_wp2_with fail
  refine (HOD.out _).mono ?_
  rintro _ w1 ⟨v1, rfl, d1, hb1⟩; have hb1s := hb1.size; (try simp only [World.size_alloc, World.size_setCell, World.size_drew, World.heap_drewN] at hb1s); obtain ⟨hb1c, hb1f⟩ := bcell hb1; (try have : w.heap.size < w1.heap.size := by omega); (try have : w.heap.size + 1 < w1.heap.size := by omega); (try have : w.heap.size + 1 + 1 < w1.heap.size := by omega); (try have : w.heap.size + 1 + 1 + 1 < w1.heap.size := by omega); have Hd1 := Lib.hid d1; clear d1
  have s3 : w.heap.size + 1 + 1 + 1 < w1.heap.size := by omega
  obtain ⟨A, k, c, rfl, hk, hkc⟩ := dg_len Hd1.out
  have g1 : ((k : Int) == 0) = false := by
    have h1 : k ≠ 0 := fun e => H0.out (hk.1 e)
    simp; omega
  clear hk
  go_wp2_with fail
  refine (HO.out _).mono ?_
  rintro _ w2 ⟨v2, rfl, d2, hb2⟩; have hb2s := hb2.size; (try simp only [World.size_alloc, World.size_setCell, World.size_drew, World.heap_drewN] at hb2s); obtain ⟨hb2c, hb2f⟩ := bcell hb2; (try have : w.heap.size < w2.heap.size := by omega); (try have : w.heap.size + 1 < w2.heap.size := by omega); (try have : w.heap.size + 1 + 1 < w2.heap.size := by omega); (try have : w.heap.size + 1 + 1 + 1 < w2.heap.size := by omega); have Hd2 := Lib.hid d2; clear d2
  go_wp2_with fail
  refine (HQ.out _ _ _ (by (first | exact Hid.out (by assumption) | exact Dg.below (Hid.out (by assumption)) (by (repeat' (first | (with_reducible exact Below.refl _ _) | (with_reducible assumption) | (with_reducible refine Below.drew ?_) | (with_reducible refine below_drewN ?_ _) | ((with_reducible refine Below.alloc ?_ ?_ _); rotate_left; focus (go_size; done)) | ((with_reducible refine Below.setCell ?_ ?_ _); rotate_left; focus (go_size; done)) | ((with_reducible refine Below.trans ?_ (Below.mono (by with_reducible assumption) ?_)); rotate_left; focus (go_size; done))))))) (by (first | exact Hid.out (by assumption) | exact Dg.below (Hid.out (by assumption)) (by (repeat' (first | (with_reducible exact Below.refl _ _) | (with_reducible assumption) | (with_reducible refine Below.drew ?_) | (with_reducible refine below_drewN ?_ _) | ((with_reducible refine Below.alloc ?_ ?_ _); rotate_left; focus (go_size; done)) | ((with_reducible refine Below.setCell ?_ ?_ _); rotate_left; focus (go_size; done)) | ((with_reducible refine Below.trans ?_ (Below.mono (by with_reducible assumption) ?_)); rotate_left; focus (go_size; done)))))))).mono ?_
  rintro _ w3 ⟨u3, v3, rfl, dq, dr, hb3⟩
  have hb3s := hb3.size
  obtain ⟨hb3c, hb3f⟩ := bcell hb3
  (try have : w.heap.size < w3.heap.size := by omega); (try have : w.heap.size + 1 < w3.heap.size := by omega); (try have : w.heap.size + 1 + 1 < w3.heap.size := by omega); (try have : w.heap.size + 1 + 1 + 1 < w3.heap.size := by omega)
  have HDQ := Lib.hid dq
  have HDR := Lib.hid dr
  clear dq dr
  go_wp2_with fail
  refine (HL.out _ _ (by (first | exact Hid.out (by assumption) | exact Dg.below (Hid.out (by assumption)) (by (repeat' (first | (with_reducible exact Below.refl _ _) | (with_reducible assumption) | (with_reducible refine Below.drew ?_) | (with_reducible refine below_drewN ?_ _) | ((with_reducible refine Below.alloc ?_ ?_ _); rotate_left; focus (go_size; done)) | ((with_reducible refine Below.setCell ?_ ?_ _); rotate_left; focus (go_size; done)) | ((with_reducible refine Below.trans ?_ (Below.mono (by with_reducible assumption) ?_)); rotate_left; focus (go_size; done)))))))).mono ?_
  rintro _ w4 ⟨rfl, hb4⟩; have hb4s := hb4.size; (try simp only [World.size_alloc, World.size_setCell, World.size_drew, World.heap_drewN] at hb4s); obtain ⟨hb4c, hb4f⟩ := bcell hb4; (try have : w.heap.size < w4.heap.size := by omega); (try have : w.heap.size + 1 < w4.heap.size := by omega); (try have : w.heap.size + 1 + 1 < w4.heap.size := by omega); (try have : w.heap.size + 1 + 1 + 1 < w4.heap.size := by omega)
  go_wp2_with fail
  refine (HT.out _ _ (by (first | exact Hid.out (by assumption) | exact Dg.below (Hid.out (by assumption)) (by (repeat' (first | (with_reducible exact Below.refl _ _) | (with_reducible assumption) | (with_reducible refine Below.drew ?_) | (with_reducible refine below_drewN ?_ _) | ((with_reducible refine Below.alloc ?_ ?_ _); rotate_left; focus (go_size; done)) | ((with_reducible refine Below.setCell ?_ ?_ _); rotate_left; focus (go_size; done)) | ((with_reducible refine Below.trans ?_ (Below.mono (by with_reducible assumption) ?_)); rotate_left; focus (go_size; done)))))))).mono ?_
  rintro _ w5 ⟨rfl, hb5⟩; have hb5s := hb5.size; (try simp only [World.size_alloc, World.size_setCell, World.size_drew, World.heap_drewN] at hb5s); obtain ⟨hb5c, hb5f⟩ := bcell hb5; (try have : w.heap.size < w5.heap.size := by omega); (try have : w.heap.size + 1 < w5.heap.size := by omega); (try have : w.heap.size + 1 + 1 < w5.heap.size := by omega); (try have : w.heap.size + 1 + 1 + 1 < w5.heap.size := by omega)
  (try have : w4.heap.size < w5.heap.size := by omega); (try have : w4.heap.size + 1 < w5.heap.size := by omega); (try have : w4.heap.size + 1 + 1 < w5.heap.size := by omega); (try have : w4.heap.size + 1 + 1 + 1 < w5.heap.size := by omega)
  go_wp2_with fail
  have m2 : Bk (w5.alloc (.cells #[.int .u64 r1, .int .u64 r0] 27)) (w.heap.size + 1 + 1) 24 [.int .u64 0, .int .u64 0, .int .u64 0, .int .u64 0] := by (repeat (first | (with_reducible assumption) | ((with_reducible refine Bk.new_ ?_); (first | rfl | (simp only [World.size_alloc, World.size_setCell, World.size_drew, World.heap_drewN]; done))) | (with_reducible refine Bk.alloc ?_ _) | (with_reducible refine Bk.drew ?_) | (with_reducible refine Bk.drewN ?_ _) | ((with_reducible refine Bk.far ?_ ?_ _); rotate_left; focus (simp only []; omega)) | ((with_reducible refine Bk.below ?_ (by with_reducible assumption) ?_); rotate_left; focus (go_size; done))))
  have m3 : Bk (w5.alloc (.cells #[.int .u64 r1, .int .u64 r0] 27)) (w.heap.size + 1 + 1 + 1) 27 [.int .u64 0, .int .u64 0] := by (repeat (first | (with_reducible assumption) | ((with_reducible refine Bk.new_ ?_); (first | rfl | (simp only [World.size_alloc, World.size_setCell, World.size_drew, World.heap_drewN]; done))) | (with_reducible refine Bk.alloc ?_ _) | (with_reducible refine Bk.drew ?_) | (with_reducible refine Bk.drewN ?_ _) | ((with_reducible refine Bk.far ?_ ?_ _); rotate_left; focus (simp only []; omega)) | ((with_reducible refine Bk.below ?_ (by with_reducible assumption) ?_); rotate_left; focus (go_size; done))))
  have m4 : Bk (w5.alloc (.cells #[.int .u64 r1, .int .u64 r0] 27)) w4.heap.size 24 [.int .u64 q0, .int .u64 q1, .int .u64 q2, .int .u64 q3] := by (repeat (first | (with_reducible assumption) | ((with_reducible refine Bk.new_ ?_); (first | rfl | (simp only [World.size_alloc, World.size_setCell, World.size_drew, World.heap_drewN]; done))) | (with_reducible refine Bk.alloc ?_ _) | (with_reducible refine Bk.drew ?_) | (with_reducible refine Bk.drewN ?_ _) | ((with_reducible refine Bk.far ?_ ?_ _); rotate_left; focus (simp only []; omega)) | ((with_reducible refine Bk.below ?_ (by with_reducible assumption) ?_); rotate_left; focus (go_size; done))))
  have m5 : Bk (w5.alloc (.cells #[.int .u64 r1, .int .u64 r0] 27)) w5.heap.size 27 [.int .u64 r1, .int .u64 r0] := Bk.new_ rfl
  have mb : Below w.heap.size w (w5.alloc (.cells #[.int .u64 r1, .int .u64 r0] 27)) := by (repeat' (first | (with_reducible exact Below.refl _ _) | (with_reducible assumption) | (with_reducible refine Below.drew ?_) | (with_reducible refine below_drewN ?_ _) | ((with_reducible refine Below.alloc ?_ ?_ _); rotate_left; focus (go_size; done)) | ((with_reducible refine Below.setCell ?_ ?_ _); rotate_left; focus (go_size; done)) | ((with_reducible refine Below.trans ?_ (Below.mono (by with_reducible assumption) ?_)); rotate_left; focus (go_size; done))))
  have ms : w.heap.size + 4 ≤ w4.heap.size := by omega
  have mt : w4.heap.size < w5.heap.size := by omega
  have mu : w5.heap.size < (w5.alloc (.cells #[.int .u64 r1, .int .u64 r0] 27)).heap.size := by simp
  generalize w5.alloc (.cells #[.int .u64 r1, .int .u64 r0] 27) = W at *
  generalize w5.heap.size = B5 at *
  generalize w4.heap.size = B4 at *
  clear hb1 hb2 hb3 hb4 hb5 hb1c hb2c hb3c hb4c hb5c hb1f hb2f hb3f hb4f hb5f
  have M2 := Lib.hid m2
  have M3 := Lib.hid m3
  have e0 := m2.cell 0 rfl
  have e1 := m2.cell 1 rfl
  have e2 := m2.cell 2 rfl
  have e3 := m2.cell 3 rfl
  have f0 := m2.frozen 0
  have f1 := m2.frozen 1
  have f2 := m2.frozen 2
  have f3 := m2.frozen 3
  have g2 := m3.cell 0 rfl
  have g3 := m3.cell 1 rfl
  have i0 := m3.frozen 0
  have i1 := m3.frozen 1
  have j0 := m4.cell 0 rfl
  have j1 := m4.cell 1 rfl
  have j2 := m4.cell 2 rfl
  have j3 := m4.cell 3 rfl
  have l0 := m5.cell 0 rfl
  have l1 := m5.cell 1 rfl
  clear m2 m3 m4 m5
  go_region
  go_wp2_with fail
  refine bodyPost_ret (by simp [results, Try.results13, go_sem, *]; try rfl) rfl ?_
  exact ⟨rfl, by (repeat' (first | (with_reducible exact Below.refl _ _) | (with_reducible assumption) | (with_reducible refine Below.drew ?_) | (with_reducible refine below_drewN ?_ _) | ((with_reducible refine Below.alloc ?_ ?_ _); rotate_left; focus (go_size; done)) | ((with_reducible refine Below.setCell ?_ ?_ _); rotate_left; focus (go_size; done)) | ((with_reducible refine Below.trans ?_ (Below.mono (by with_reducible assumption) ?_)); rotate_left; focus (go_size; done))))⟩
end Go.Proofs.Ytnjiibeomailhaa
