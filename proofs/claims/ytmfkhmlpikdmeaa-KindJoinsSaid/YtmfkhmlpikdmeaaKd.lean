/- The joins of types: the two calls, and that they are one. -/
import Derived.Test.YtmfkhmlpikdmeaaKc
namespace Go.Proofs.Ytmfkhmlpikdmeaa
open Go.RowKit

set_option maxHeartbeats 1000000 in
theorem rjoin_any (a1 a2 b1 b2 : Int) (ha : formB a1 a2 = true) (hb : formB b1 b2 = true) (w : World) :
    Calls Try.prog 25 #[.agg #[.int .i64 a1, .int .i64 a2], .agg #[.int .i64 b1, .int .i64 b2]] w fun e w' => e = .returned (.agg #[.int .i64 (joinT (a1, a2) (b1, b2) 10).1, .int .i64 (joinT (a1, a2) (b1, b2) 10).2]) ∧ Below w.heap.size w w' := by
  have HA := Lib.hid ha
  have HB := Lib.hid hb
  clear ha hb
  go_enter Try.func25, Try.ntmps25
  go_wp2
  go_loopg [6] 10 (fun k i wr => ∃ n : Nat, k + n = 10 ∧ i = .int .i64 n ∧ w.heap.size + 4 ≤ wr.heap.size ∧ Below w.heap.size w wr ∧
    Bk wr w.heap.size 23 [.int .i64 a1, .int .i64 a2] ∧ Bk wr (w.heap.size + 1) 23 [.int .i64 b1, .int .i64 b2] ∧ Bk wr (w.heap.size + 1 + 1) 23 [.int .i64 0, .int .i64 0] ∧
    Bk wr (w.heap.size + 1 + 1 + 1) 23 [.int .i64 (joinT (a1, a2) (b1, b2) n).1, .int .i64 (joinT (a1, a2) (b1, b2) n).2])
  case atStart =>
    refine ⟨0, rfl, rfl, by go_size, by (repeat' (first | (with_reducible exact Below.refl _ _) | (with_reducible assumption) | (with_reducible refine Below.drew ?_) | (with_reducible refine below_drewN ?_ _) | ((with_reducible refine Below.alloc ?_ ?_ _); rotate_left; focus (go_size; done)) | ((with_reducible refine Below.setCell ?_ ?_ _); rotate_left; focus (go_size; done)) | ((with_reducible refine Below.trans ?_ (Below.mono (by with_reducible assumption) ?_)); rotate_left; focus (go_size; done)))), ?_, ?_, ?_, ?_⟩
    · (repeat (first | (with_reducible assumption) | ((with_reducible refine Bk.new_ ?_); (first | rfl | (simp only [World.size_alloc, World.size_setCell, World.size_drew]; done))) | (with_reducible refine Bk.alloc ?_ _) | (with_reducible refine Bk.drew ?_) | ((with_reducible refine Bk.far ?_ ?_ _); rotate_left; focus (simp only []; omega)) | ((with_reducible refine Bk.below ?_ (by with_reducible assumption) ?_); rotate_left; focus (go_size; done))))
    · (repeat (first | (with_reducible assumption) | ((with_reducible refine Bk.new_ ?_); (first | rfl | (simp only [World.size_alloc, World.size_setCell, World.size_drew]; done))) | (with_reducible refine Bk.alloc ?_ _) | (with_reducible refine Bk.drew ?_) | ((with_reducible refine Bk.far ?_ ?_ _); rotate_left; focus (simp only []; omega)) | ((with_reducible refine Bk.below ?_ (by with_reducible assumption) ?_); rotate_left; focus (go_size; done))))
    · (repeat (first | (with_reducible assumption) | ((with_reducible refine Bk.new_ ?_); (first | rfl | (simp only [World.size_alloc, World.size_setCell, World.size_drew]; done))) | (with_reducible refine Bk.alloc ?_ _) | (with_reducible refine Bk.drew ?_) | ((with_reducible refine Bk.far ?_ ?_ _); rotate_left; focus (simp only []; omega)) | ((with_reducible refine Bk.below ?_ (by with_reducible assumption) ?_); rotate_left; focus (go_size; done))))
    · show Bk _ _ _ [.int .i64 0, .int .i64 0]
      (repeat (first | (with_reducible assumption) | ((with_reducible refine Bk.new_ ?_); (first | rfl | (simp only [World.size_alloc, World.size_setCell, World.size_drew]; done))) | (with_reducible refine Bk.alloc ?_ _) | (with_reducible refine Bk.drew ?_) | ((with_reducible refine Bk.far ?_ ?_ _); rotate_left; focus (simp only []; omega)) | ((with_reducible refine Bk.below ?_ (by with_reducible assumption) ?_); rotate_left; focus (go_size; done))))
  case round =>
    obtain ⟨n, hk, rfl, hsz, hbel, k0, k1, k2, k3⟩ := hrel
    have HK := Lib.hid hk
    have c00 := k0.cell 0 rfl
    have c01 := k0.cell 1 rfl
    have c10 := k1.cell 0 rfl
    have c11 := k1.cell 1 rfl
    have c20 := k2.cell 0 rfl
    have c21 := k2.cell 1 rfl
    have c30 := k3.cell 0 rfl
    have c31 := k3.cell 1 rfl
    have f20 := k2.frozen 0
    have f21 := k2.frozen 1
    have f30 := k3.frozen 0
    have f31 := k3.frozen 1
    have hn : n ≤ 10 := by omega
    clear hk
    (try have : w.heap.size < wr.heap.size := by omega); (try have : w.heap.size + 1 < wr.heap.size := by omega); (try have : w.heap.size + 1 + 1 < wr.heap.size := by omega); (try have : w.heap.size + 1 + 1 + 1 < wr.heap.size := by omega)
    by_cases hlt : n < 10
    · have h0 : (0 : Int) ≤ (n : Int) := by omega
      have h1 : (n : Int) < 10 := by omega
      have hfc := form_of n h0 h1
      have hfo := joinT_form (a1, a2) (b1, b2) n hn
      have hj : joinT (a1, a2) (b1, b2) (n + 1) = if refU a1 a2 (ofT n).1 (ofT n).2 = true ∧ refU b1 b2 (ofT n).1 (ofT n).2 = true ∧ refU (ofT n).1 (ofT n).2 (joinT (a1, a2) (b1, b2) n).1 (joinT (a1, a2) (b1, b2) n).2 = true then ofT n else joinT (a1, a2) (b1, b2) n := rfl
      have hof := fun W => of_any n h0 h1 W
      generalize ofT n = c at *
      generalize hjn : joinT (a1, a2) (b1, b2) n = o at *
      obtain ⟨cx, cy⟩ := c
      obtain ⟨ox, oy⟩ := o
      dsimp only at *
      have HC := Lib.hid hfc
      have HO := Lib.hid hfo
      have HJ := Lib.hid hj
      have HF := Lib.hid hof
      clear hfc hfo hj hjn hn hof
      go_wp2_with fail
      with_reducible refine (HF.out _).mono ?_
      rintro _ w1 ⟨rfl, hb1⟩; have hb1s := hb1.size; (try simp only [World.size_alloc, World.size_setCell, World.size_drew] at hb1s); obtain ⟨hb1c, hb1f⟩ := bcell hb1; (try have : w.heap.size < w1.heap.size := by omega); (try have : w.heap.size + 1 < w1.heap.size := by omega); (try have : w.heap.size + 1 + 1 < w1.heap.size := by omega); (try have : w.heap.size + 1 + 1 + 1 < w1.heap.size := by omega)
      go_wp2_with fail
      have hu1 := fun W => runder_any a1 a2 cx cy HA.out W
      have hu2 := fun W => runder_any b1 b2 cx cy HB.out W
      have hu3 := fun W => runder_any cx cy ox oy HC.out W
      have HU1 := Lib.hid hu1
      have HU2 := Lib.hid hu2
      have HU3 := Lib.hid hu3
      clear hu1 hu2 hu3
      go_wp2_with (first
        | (go_at_call 23; (with_reducible refine (HU1.out _).mono ?_); rintro _ w2 ⟨rfl, hb2⟩; have hb2s := hb2.size; (try simp only [World.size_alloc, World.size_setCell, World.size_drew] at hb2s); obtain ⟨hb2c, hb2f⟩ := bcell hb2; (try have : w.heap.size < w2.heap.size := by omega); (try have : w.heap.size + 1 < w2.heap.size := by omega); (try have : w.heap.size + 1 + 1 < w2.heap.size := by omega); (try have : w.heap.size + 1 + 1 + 1 < w2.heap.size := by omega); have s12 : w1.heap.size < w2.heap.size := by omega)
        | (go_at_call 23; (with_reducible refine (HU2.out _).mono ?_); rintro _ w3 ⟨rfl, hb3⟩; have hb3s := hb3.size; (try simp only [World.size_alloc, World.size_setCell, World.size_drew] at hb3s); obtain ⟨hb3c, hb3f⟩ := bcell hb3; (try have : w.heap.size < w3.heap.size := by omega); (try have : w.heap.size + 1 < w3.heap.size := by omega); (try have : w.heap.size + 1 + 1 < w3.heap.size := by omega); (try have : w.heap.size + 1 + 1 + 1 < w3.heap.size := by omega); have s13 : w1.heap.size < w3.heap.size := by omega)
        | (go_at_call 23; (with_reducible refine (HU3.out _).mono ?_); rintro _ w4 ⟨rfl, hb4⟩; have hb4s := hb4.size; (try simp only [World.size_alloc, World.size_setCell, World.size_drew] at hb4s); obtain ⟨hb4c, hb4f⟩ := bcell hb4; (try have : w.heap.size < w4.heap.size := by omega); (try have : w.heap.size + 1 < w4.heap.size := by omega); (try have : w.heap.size + 1 + 1 < w4.heap.size := by omega); (try have : w.heap.size + 1 + 1 + 1 < w4.heap.size := by omega)))
      all_goals go_roundg (gk - 1)
      all_goals first
        | (case measure => have := HK.out; omega)
        | skip
      all_goals refine ⟨n + 1, by have := HK.out; omega, by go_num, by go_size, by (repeat' (first | (with_reducible exact Below.refl _ _) | (with_reducible assumption) | (with_reducible refine Below.drew ?_) | (with_reducible refine below_drewN ?_ _) | ((with_reducible refine Below.alloc ?_ ?_ _); rotate_left; focus (go_size; done)) | ((with_reducible refine Below.setCell ?_ ?_ _); rotate_left; focus (go_size; done)) | ((with_reducible refine Below.trans ?_ (Below.mono (by with_reducible assumption) ?_)); rotate_left; focus (go_size; done)))), by (repeat (first | (with_reducible assumption) | ((with_reducible refine Bk.new_ ?_); (first | rfl | (simp only [World.size_alloc, World.size_setCell, World.size_drew]; done))) | (with_reducible refine Bk.alloc ?_ _) | (with_reducible refine Bk.drew ?_) | ((with_reducible refine Bk.far ?_ ?_ _); rotate_left; focus (simp only []; omega)) | ((with_reducible refine Bk.below ?_ (by with_reducible assumption) ?_); rotate_left; focus (go_size; done)))), by (repeat (first | (with_reducible assumption) | ((with_reducible refine Bk.new_ ?_); (first | rfl | (simp only [World.size_alloc, World.size_setCell, World.size_drew]; done))) | (with_reducible refine Bk.alloc ?_ _) | (with_reducible refine Bk.drew ?_) | ((with_reducible refine Bk.far ?_ ?_ _); rotate_left; focus (simp only []; omega)) | ((with_reducible refine Bk.below ?_ (by with_reducible assumption) ?_); rotate_left; focus (go_size; done)))), by (repeat (first | (with_reducible assumption) | ((with_reducible refine Bk.new_ ?_); (first | rfl | (simp only [World.size_alloc, World.size_setCell, World.size_drew]; done))) | (with_reducible refine Bk.alloc ?_ _) | (with_reducible refine Bk.drew ?_) | ((with_reducible refine Bk.far ?_ ?_ _); rotate_left; focus (simp only []; omega)) | ((with_reducible refine Bk.below ?_ (by with_reducible assumption) ?_); rotate_left; focus (go_size; done)))), ?_⟩
      all_goals first
        | (rw [HJ.out, if_pos ⟨by assumption, by assumption, by assumption⟩]
           refine ((?_ : Bk w4 _ _ [.int .i64 ox, .int .i64 oy]).set_ 0 _).set_ 1 _
           (repeat (first | (with_reducible assumption) | ((with_reducible refine Bk.new_ ?_); (first | rfl | (simp only [World.size_alloc, World.size_setCell, World.size_drew]; done))) | (with_reducible refine Bk.alloc ?_ _) | (with_reducible refine Bk.drew ?_) | ((with_reducible refine Bk.far ?_ ?_ _); rotate_left; focus (simp only []; omega)) | ((with_reducible refine Bk.below ?_ (by with_reducible assumption) ?_); rotate_left; focus (go_size; done)))))
        | (rw [HJ.out, if_neg (by simp [*])]
           (repeat (first | (with_reducible assumption) | ((with_reducible refine Bk.new_ ?_); (first | rfl | (simp only [World.size_alloc, World.size_setCell, World.size_drew]; done))) | (with_reducible refine Bk.alloc ?_ _) | (with_reducible refine Bk.drew ?_) | ((with_reducible refine Bk.far ?_ ?_ _); rotate_left; focus (simp only []; omega)) | ((with_reducible refine Bk.below ?_ (by with_reducible assumption) ?_); rotate_left; focus (go_size; done)))))
    · obtain rfl : n = 10 := by omega
      go_wp2
      refine bodyPost_ret (by simp [results, Try.results25, go_sem, *]; try rfl) rfl ?_
      exact ⟨rfl, by (repeat' (first | (with_reducible exact Below.refl _ _) | (with_reducible assumption) | (with_reducible refine Below.drew ?_) | (with_reducible refine below_drewN ?_ _) | ((with_reducible refine Below.alloc ?_ ?_ _); rotate_left; focus (go_size; done)) | ((with_reducible refine Below.setCell ?_ ?_ _); rotate_left; focus (go_size; done)) | ((with_reducible refine Below.trans ?_ (Below.mono (by with_reducible assumption) ?_)); rotate_left; focus (go_size; done))))⟩

def joinP (a b : Int × Int) : Int × Int :=
  if underB a.1 a.2 b.1 b.2 = true then b else if underB b.1 b.2 a.1 a.2 = true then a else if a.1 = 5 ∧ b.1 = 5 then (5, 0) else (0, 0)
theorem form_cases (k o : Int) (h : formB k o = true) : ∃ i : Fin 10, ofT (i.val : Int) = (k, o) := by
  have h1 : (k = 5 ∧ 0 ≤ o ∧ o < 5) ∨ (k ≠ 5 ∧ 0 ≤ k ∧ k < 5 ∧ o = 0) := by
    unfold formB at h; split at h <;> simp_all
  rcases h1 with ⟨rfl, h1, h2⟩ | ⟨_, h1, h2, rfl⟩
  · refine ⟨⟨(5 + o).toNat, by omega⟩, ?_⟩
    have e : (((5 + o).toNat : Nat) : Int) = 5 + o := by omega
    simp only [ofT, e]
    rw [if_neg (by omega)]
    congr 1
    omega
  · refine ⟨⟨k.toNat, by omega⟩, ?_⟩
    have e : ((k.toNat : Nat) : Int) = k := by omega
    simp only [ofT, e]
    rw [if_pos (by omega)]
theorem joins_agree : ∀ i j : Fin 10, joinT (ofT (i.val : Int)) (ofT (j.val : Int)) 10 = joinP (ofT (i.val : Int)) (ofT (j.val : Int)) := by decide +kernel
theorem join_eq (a1 a2 b1 b2 : Int) (ha : formB a1 a2 = true) (hb : formB b1 b2 = true) : joinT (a1, a2) (b1, b2) 10 = joinP (a1, a2) (b1, b2) := by
  obtain ⟨i, hi⟩ := form_cases a1 a2 ha
  obtain ⟨j, hj⟩ := form_cases b1 b2 hb
  rw [← hi, ← hj]
  exact joins_agree i j
end Go.Proofs.Ytmfkhmlpikdmeaa
