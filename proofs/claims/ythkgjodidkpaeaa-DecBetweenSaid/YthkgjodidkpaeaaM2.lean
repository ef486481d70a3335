/- The contracts of the functions that the law reaches, part 2: what each returns and what becomes of memory. -/
import Derived.IntWalk
import Derived.Deep.OwnRows
import Derived.Test.YthkgjodidkpaeaaM1
set_option linter.unusedSimpArgs false
set_option linter.unusedVariables false
namespace Go.Proofs.Ythkgjodidkpaeaa
open Go.RowKit

theorem power_sub (k s : Nat) (h : s ≤ k) (hk : k ≤ 38) (W : World) : Calls Try.prog 88 #[.int .i64 ((k : Int) - (s : Int))] W fun e w' => e = .returned (.agg #[.int .u64 (wd (10 ^ (k - s)) 1), .int .u64 (wd (10 ^ (k - s)) 0)]) ∧ Below W.heap.size W w' := by
  rw [show (k : Int) - (s : Int) = ((k - s : Nat) : Int) by omega]
  exact power_any (k - s) (by omega) W
set_option maxHeartbeats 2000000 in
theorem canon_any (neg : Bool) (c s : Nat) (hc : c < B34) (hs : s ≤ 1000) (w : World) : Calls Try.prog 75 #[.bool neg, .agg #[.int .u64 (wd c 1), .int .u64 (wd c 0)], .int .i64 s] w fun e w' => e = .returned (.agg #[.bool (sg neg (stripC c s)), .int .u64 (wd ((stripC c s)) 1), .int .u64 (wd ((stripC c s)) 0), .int .i64 (stripS c s)]) ∧ Below w.heap.size w w' := by
  have hc2 : c < 2 ^ 128 := Nat.lt_trans hc B34_lt
  have s0 : (0 : Int) ≤ (s : Int) := by omega
  have s1 : (s : Int) ≤ 1000 := by omega
  have qz : ∀ W, (binOp .eql 24 (.agg #[.int .u64 (wd c 1), .int .u64 (wd c 0)]) (.agg #[.int .u64 0, .int .u64 0])).run Try.prog W = .ok (.bool (decide (c = 0))) W := fun W => by rw [eq_wide, eq_nil hc2]
  by_cases hz : c = 0
  · rw [decide_eq_true hz] at qz
    have e1 : stripC c s = 0 := stripC_zero.2 hz
    have e2 : stripS c s = 0 := by rw [hz]; exact (strip_nil s).2
    rw [e1, e2, wd_zero, wd_zero]
    rw [sg_zero]
    generalize wd c 0 = x0 at *
    generalize wd c 1 = x1 at *
    clear hc hz e1 e2 hc2
    go_enter Try.func75, Try.ntmps75
    go_wp2_with fail
    refine bodyPost_ret (by simp [results, Try.results75, go_sem, *]; try rfl) rfl ?_
    exact ⟨rfl, by (repeat' (first | (with_reducible exact Below.refl _ _) | (with_reducible assumption) | (with_reducible refine Below.drew ?_) | (with_reducible refine below_drewN ?_ _) | ((with_reducible refine Below.alloc ?_ ?_ _); rotate_left; focus (go_size; done)) | ((with_reducible refine Below.setCell ?_ ?_ _); rotate_left; focus (go_size; done)) | ((with_reducible refine Below.trans ?_ (Below.mono (by with_reducible assumption) ?_)); rotate_left; focus (go_size; done))))⟩
  · rw [decide_eq_false hz] at qz
    obtain ⟨T, k, ht⟩ := tz_upto c 34 hz hc
    have hk38 := ht.k_le hc2
    have HT := Lib.hid (fun W => trim_any c T k hc2 ht W)
    have hne : sg neg (stripC c s) = neg := sg_pos (fun e => hz (stripC_zero.1 e))
    rw [hne]
    have hT : T < 2 ^ 128 := by
      have h1 := ht.1
      have h2 : T ≤ c := by rw [h1]; exact Nat.le_mul_of_pos_right _ (Nat.pow_pos (by decide))
      omega
    obtain ⟨h1, h2⟩ := strip_trim T k s ht.2
    rw [← ht.1] at h1 h2
    have k0 : (0 : Int) ≤ (k : Int) := by omega
    have k1 : (k : Int) ≤ 38 := by omega
    by_cases hks : k ≤ s
    · rw [(h1 hks).1, (h1 hks).2]
      have g1 : (k : Int) ≤ (s : Int) := by omega
      rw [show ((s - k : Nat) : Int) = (s : Int) - (k : Int) by omega]
      generalize wd c 0 = x0 at *
      generalize wd c 1 = x1 at *
      generalize wd T 0 = y0 at *
      generalize wd T 1 = y1 at *
      clear h1 h2 hc hc2 hz ht hne hT
      go_enter Try.func75, Try.ntmps75
      go_wp2_with ((go_at_call 57; with_reducible refine (HT.out _).mono ?_); rintro _ w1 ⟨rfl, hb1⟩; have hb1s := hb1.size; (try simp only [World.size_alloc, World.size_setCell, World.size_drew, World.heap_drewN] at hb1s); obtain ⟨hb1c, hb1f⟩ := bcell hb1; (try have : w.heap.size < w1.heap.size := by omega); (try have : w.heap.size + 1 < w1.heap.size := by omega); (try have : w.heap.size + 1 + 1 < w1.heap.size := by omega); (try have : w.heap.size + 1 + 1 + 1 < w1.heap.size := by omega))
      refine bodyPost_ret (by simp [results, Try.results75, go_sem, *]; try rfl) rfl ?_
      exact ⟨rfl, by (repeat' (first | (with_reducible exact Below.refl _ _) | (with_reducible assumption) | (with_reducible refine Below.drew ?_) | (with_reducible refine below_drewN ?_ _) | ((with_reducible refine Below.alloc ?_ ?_ _); rotate_left; focus (go_size; done)) | ((with_reducible refine Below.setCell ?_ ?_ _); rotate_left; focus (go_size; done)) | ((with_reducible refine Below.trans ?_ (Below.mono (by with_reducible assumption) ?_)); rotate_left; focus (go_size; done))))⟩
    · rw [(h2 (by omega)).1, (h2 (by omega)).2]
      have g1 : ¬ (k : Int) ≤ (s : Int) := by omega
      have hle : T * 10 ^ (k - s) < 2 ^ 128 := by
        have e := ht.1
        rw [show k = k - s + s by omega, Nat.pow_add, ← Nat.mul_assoc] at e
        have : T * 10 ^ (k - s) ≤ c := by rw [e]; exact Nat.le_mul_of_pos_right _ (Nat.pow_pos (by decide))
        omega
      have HP := Lib.hid (fun W => power_sub k s (by omega) hk38 W)
      have HM := Lib.hid (fun W => mul_any T (10 ^ (k - s)) hT (ten_38 (by omega)) W)
      have HN := Lib.hid (fun W => narrow_any (T * 10 ^ (k - s)) (Nat.lt_trans hle (by decide)) W)
      rw [fit_id hle, over_id hle] at HN
      generalize T * 10 ^ (k - s) = P at *
      generalize 10 ^ (k - s) = Q at *
      generalize wd c 0 = x0 at *
      generalize wd c 1 = x1 at *
      generalize wd T 0 = y0 at *
      generalize wd T 1 = y1 at *
      generalize wd P 0 = z0 at *
      generalize wd P 1 = z1 at *
      generalize wd P 2 = z2 at *
      generalize wd P 3 = z3 at *
      generalize wd Q 0 = q0 at *
      generalize wd Q 1 = q1 at *
      clear h1 h2 hc hc2 hz ht hne hT hle
      go_enter Try.func75, Try.ntmps75
      have gs1 : IntKind.i64.wrap ((k : Int) - (s : Int)) = (k : Int) - (s : Int) := IntWalk.i64_in _ (by omega)
      go_wp2_with ((go_at_call 57; with_reducible refine (HT.out _).mono ?_); rintro _ w1 ⟨rfl, hb1⟩; have hb1s := hb1.size; (try simp only [World.size_alloc, World.size_setCell, World.size_drew, World.heap_drewN] at hb1s); obtain ⟨hb1c, hb1f⟩ := bcell hb1; (try have : w.heap.size < w1.heap.size := by omega); (try have : w.heap.size + 1 < w1.heap.size := by omega); (try have : w.heap.size + 1 + 1 < w1.heap.size := by omega); (try have : w.heap.size + 1 + 1 + 1 < w1.heap.size := by omega))
      go_region_held3 (fun w' => w'.cell? ⟨w1.heap.size, 0, none⟩ = some (.int .u64 y1) ∧ w'.cell? ⟨w1.heap.size, 1, none⟩ = some (.int .u64 y0)) (first | (first | (go_keep; done) | (simp [go_sem]; done) | ((try dsimp only); (repeat' apply And.intro) <;> (first | (with_reducible assumption) | ((rw [World.cell?_alloc_lt _ _ _ (by show _ < _; omega)]); go_split_ands; (first | with_reducible assumption | (refine (World.cell?_alloc_lt _ _ _ (by show _ < _; omega)).symm.trans ?_; with_reducible assumption))) | ((rw [World.cell?_setCell_other _ _ _ _ (by intro e; injection e; omega)]); with_reducible assumption) | (go_keep; done) | (simp [go_sem]; done) | (simp (disch := go_size) [*, World.cell?_alloc_some, World.cell?_setCell_far]; done)))) | ((refine ⟨Bk.cell (t := 24) (cs := [.int .u64 y1, .int .u64 y0]) ?_ 0 rfl, Bk.cell (t := 24) (cs := [.int .u64 y1, .int .u64 y0]) ?_ 1 rfl⟩) <;> ((repeat (first | (with_reducible assumption) | ((with_reducible refine Bk.new_ ?_); (first | rfl | (simp only [World.size_alloc, World.size_setCell, World.size_drew, World.heap_drewN]; done))) | (with_reducible refine Bk.alloc ?_ _) | (with_reducible refine Bk.drew ?_) | (with_reducible refine Bk.drewN ?_ _) | ((with_reducible refine Bk.far ?_ ?_ _); rotate_left; focus (simp only []; omega)) | ((with_reducible refine Bk.below ?_ (by with_reducible assumption) ?_); rotate_left; focus (go_size; done)))); done))) (first | ((go_at_call 88; with_reducible refine (HP.out _).mono ?_); rintro _ w2 ⟨rfl, hb2⟩; have hb2s := hb2.size; (try simp only [World.size_alloc, World.size_setCell, World.size_drew, World.heap_drewN] at hb2s); obtain ⟨hb2c, hb2f⟩ := bcell hb2; (try have : w.heap.size < w2.heap.size := by omega); (try have : w.heap.size + 1 < w2.heap.size := by omega); (try have : w.heap.size + 1 + 1 < w2.heap.size := by omega); (try have : w.heap.size + 1 + 1 + 1 < w2.heap.size := by omega); (try have : w1.heap.size < w2.heap.size := by omega); (try have : w1.heap.size + 1 < w2.heap.size := by omega); (try have : w1.heap.size + 1 + 1 < w2.heap.size := by omega); (try have : w1.heap.size + 1 + 1 + 1 < w2.heap.size := by omega)) | ((go_at_call 77; with_reducible refine (HM.out _).mono ?_); rintro _ w3 ⟨rfl, hb3⟩; have hb3s := hb3.size; (try simp only [World.size_alloc, World.size_setCell, World.size_drew, World.heap_drewN] at hb3s); obtain ⟨hb3c, hb3f⟩ := bcell hb3; (try have : w.heap.size < w3.heap.size := by omega); (try have : w.heap.size + 1 < w3.heap.size := by omega); (try have : w.heap.size + 1 + 1 < w3.heap.size := by omega); (try have : w.heap.size + 1 + 1 + 1 < w3.heap.size := by omega); (try have : w1.heap.size < w3.heap.size := by omega); (try have : w1.heap.size + 1 < w3.heap.size := by omega); (try have : w1.heap.size + 1 + 1 < w3.heap.size := by omega); (try have : w1.heap.size + 1 + 1 + 1 < w3.heap.size := by omega); (try have : w2.heap.size < w3.heap.size := by omega); (try have : w2.heap.size + 1 < w3.heap.size := by omega); (try have : w2.heap.size + 1 + 1 < w3.heap.size := by omega); (try have : w2.heap.size + 1 + 1 + 1 < w3.heap.size := by omega)) | ((go_at_call 94; with_reducible refine (HN.out _).mono ?_); rintro _ w4 ⟨rfl, hb4⟩; have hb4s := hb4.size; (try simp only [World.size_alloc, World.size_setCell, World.size_drew, World.heap_drewN] at hb4s); obtain ⟨hb4c, hb4f⟩ := bcell hb4; (try have : w.heap.size < w4.heap.size := by omega); (try have : w.heap.size + 1 < w4.heap.size := by omega); (try have : w.heap.size + 1 + 1 < w4.heap.size := by omega); (try have : w.heap.size + 1 + 1 + 1 < w4.heap.size := by omega); (try have : w1.heap.size < w4.heap.size := by omega); (try have : w1.heap.size + 1 < w4.heap.size := by omega); (try have : w1.heap.size + 1 + 1 < w4.heap.size := by omega); (try have : w1.heap.size + 1 + 1 + 1 < w4.heap.size := by omega); (try have : w2.heap.size < w4.heap.size := by omega); (try have : w2.heap.size + 1 < w4.heap.size := by omega); (try have : w2.heap.size + 1 + 1 < w4.heap.size := by omega); (try have : w2.heap.size + 1 + 1 + 1 < w4.heap.size := by omega); (try have : w3.heap.size < w4.heap.size := by omega); (try have : w3.heap.size + 1 < w4.heap.size := by omega); (try have : w3.heap.size + 1 + 1 < w4.heap.size := by omega); (try have : w3.heap.size + 1 + 1 + 1 < w4.heap.size := by omega)))
      all_goals
        first | (refine wp_named (fun W => Bk W (w1.heap.size + 1) 24 [.int .u64 z1, .int .u64 z0] ∧ Bk W (w.heap.size + 1) 26 [.bool false, .int .u64 0, .int .u64 0, .int .i64 0] ∧ Below w.heap.size w W) ⟨?h1, ?h2, ?h3⟩ ?_; (case h1 => (first | ((repeat (first | (with_reducible assumption) | ((with_reducible refine Bk.new_ ?_); (first | rfl | (simp only [World.size_alloc, World.size_setCell, World.size_drew, World.heap_drewN]; done))) | (with_reducible refine Bk.alloc ?_ _) | (with_reducible refine Bk.drew ?_) | (with_reducible refine Bk.drewN ?_ _) | ((with_reducible refine Bk.far ?_ ?_ _); rotate_left; focus (simp only []; omega)) | ((with_reducible refine Bk.below ?_ (by with_reducible assumption) ?_); rotate_left; focus (go_size; done)))); done) | ((repeat (first | (with_reducible refine Bk.alloc ?_ _) | (with_reducible refine Bk.drew ?_) | ((with_reducible refine Bk.far ?_ ?_ _); rotate_left; focus (simp only []; omega)))); (refine ((?_ : Bk _ _ _ [.int .u64 0, .int .u64 0]).set_ 0 _).set_ 1 _); (repeat (first | (with_reducible assumption) | ((with_reducible refine Bk.new_ ?_); (first | rfl | (simp only [World.size_alloc, World.size_setCell, World.size_drew, World.heap_drewN]; done))) | (with_reducible refine Bk.alloc ?_ _) | (with_reducible refine Bk.drew ?_) | (with_reducible refine Bk.drewN ?_ _) | ((with_reducible refine Bk.far ?_ ?_ _); rotate_left; focus (simp only []; omega)) | ((with_reducible refine Bk.below ?_ (by with_reducible assumption) ?_); rotate_left; focus (go_size; done))))); done)); (case h2 => ((repeat (first | (with_reducible assumption) | ((with_reducible refine Bk.new_ ?_); (first | rfl | (simp only [World.size_alloc, World.size_setCell, World.size_drew, World.heap_drewN]; done))) | (with_reducible refine Bk.alloc ?_ _) | (with_reducible refine Bk.drew ?_) | (with_reducible refine Bk.drewN ?_ _) | ((with_reducible refine Bk.far ?_ ?_ _); rotate_left; focus (simp only []; omega)) | ((with_reducible refine Bk.below ?_ (by with_reducible assumption) ?_); rotate_left; focus (go_size; done)))); done)); (case h3 => ((repeat' (first | (with_reducible exact Below.refl _ _) | (with_reducible assumption) | (with_reducible refine Below.drew ?_) | (with_reducible refine below_drewN ?_ _) | ((with_reducible refine Below.alloc ?_ ?_ _); rotate_left; focus (go_size; done)) | ((with_reducible refine Below.setCell ?_ ?_ _); rotate_left; focus (go_size; done)) | ((with_reducible refine Below.trans ?_ (Below.mono (by with_reducible assumption) ?_)); rotate_left; focus (go_size; done)))); done))) | (refine wp_named (fun W => Bk W (w2.heap.size) 24 [.int .u64 z1, .int .u64 z0] ∧ Bk W (w.heap.size + 1) 26 [.bool false, .int .u64 0, .int .u64 0, .int .i64 0] ∧ Below w.heap.size w W) ⟨?h1, ?h2, ?h3⟩ ?_; (case h1 => (first | ((repeat (first | (with_reducible assumption) | ((with_reducible refine Bk.new_ ?_); (first | rfl | (simp only [World.size_alloc, World.size_setCell, World.size_drew, World.heap_drewN]; done))) | (with_reducible refine Bk.alloc ?_ _) | (with_reducible refine Bk.drew ?_) | (with_reducible refine Bk.drewN ?_ _) | ((with_reducible refine Bk.far ?_ ?_ _); rotate_left; focus (simp only []; omega)) | ((with_reducible refine Bk.below ?_ (by with_reducible assumption) ?_); rotate_left; focus (go_size; done)))); done) | ((repeat (first | (with_reducible refine Bk.alloc ?_ _) | (with_reducible refine Bk.drew ?_) | ((with_reducible refine Bk.far ?_ ?_ _); rotate_left; focus (simp only []; omega)))); (refine ((?_ : Bk _ _ _ [.int .u64 0, .int .u64 0]).set_ 0 _).set_ 1 _); (repeat (first | (with_reducible assumption) | ((with_reducible refine Bk.new_ ?_); (first | rfl | (simp only [World.size_alloc, World.size_setCell, World.size_drew, World.heap_drewN]; done))) | (with_reducible refine Bk.alloc ?_ _) | (with_reducible refine Bk.drew ?_) | (with_reducible refine Bk.drewN ?_ _) | ((with_reducible refine Bk.far ?_ ?_ _); rotate_left; focus (simp only []; omega)) | ((with_reducible refine Bk.below ?_ (by with_reducible assumption) ?_); rotate_left; focus (go_size; done))))); done)); (case h2 => ((repeat (first | (with_reducible assumption) | ((with_reducible refine Bk.new_ ?_); (first | rfl | (simp only [World.size_alloc, World.size_setCell, World.size_drew, World.heap_drewN]; done))) | (with_reducible refine Bk.alloc ?_ _) | (with_reducible refine Bk.drew ?_) | (with_reducible refine Bk.drewN ?_ _) | ((with_reducible refine Bk.far ?_ ?_ _); rotate_left; focus (simp only []; omega)) | ((with_reducible refine Bk.below ?_ (by with_reducible assumption) ?_); rotate_left; focus (go_size; done)))); done)); (case h3 => ((repeat' (first | (with_reducible exact Below.refl _ _) | (with_reducible assumption) | (with_reducible refine Below.drew ?_) | (with_reducible refine below_drewN ?_ _) | ((with_reducible refine Below.alloc ?_ ?_ _); rotate_left; focus (go_size; done)) | ((with_reducible refine Below.setCell ?_ ?_ _); rotate_left; focus (go_size; done)) | ((with_reducible refine Below.trans ?_ (Below.mono (by with_reducible assumption) ?_)); rotate_left; focus (go_size; done)))); done))) | (refine wp_named (fun W => Bk W (w3.heap.size) 24 [.int .u64 z1, .int .u64 z0] ∧ Bk W (w.heap.size + 1) 26 [.bool false, .int .u64 0, .int .u64 0, .int .i64 0] ∧ Below w.heap.size w W) ⟨?h1, ?h2, ?h3⟩ ?_; (case h1 => (first | ((repeat (first | (with_reducible assumption) | ((with_reducible refine Bk.new_ ?_); (first | rfl | (simp only [World.size_alloc, World.size_setCell, World.size_drew, World.heap_drewN]; done))) | (with_reducible refine Bk.alloc ?_ _) | (with_reducible refine Bk.drew ?_) | (with_reducible refine Bk.drewN ?_ _) | ((with_reducible refine Bk.far ?_ ?_ _); rotate_left; focus (simp only []; omega)) | ((with_reducible refine Bk.below ?_ (by with_reducible assumption) ?_); rotate_left; focus (go_size; done)))); done) | ((repeat (first | (with_reducible refine Bk.alloc ?_ _) | (with_reducible refine Bk.drew ?_) | ((with_reducible refine Bk.far ?_ ?_ _); rotate_left; focus (simp only []; omega)))); (refine ((?_ : Bk _ _ _ [.int .u64 0, .int .u64 0]).set_ 0 _).set_ 1 _); (repeat (first | (with_reducible assumption) | ((with_reducible refine Bk.new_ ?_); (first | rfl | (simp only [World.size_alloc, World.size_setCell, World.size_drew, World.heap_drewN]; done))) | (with_reducible refine Bk.alloc ?_ _) | (with_reducible refine Bk.drew ?_) | (with_reducible refine Bk.drewN ?_ _) | ((with_reducible refine Bk.far ?_ ?_ _); rotate_left; focus (simp only []; omega)) | ((with_reducible refine Bk.below ?_ (by with_reducible assumption) ?_); rotate_left; focus (go_size; done))))); done)); (case h2 => ((repeat (first | (with_reducible assumption) | ((with_reducible refine Bk.new_ ?_); (first | rfl | (simp only [World.size_alloc, World.size_setCell, World.size_drew, World.heap_drewN]; done))) | (with_reducible refine Bk.alloc ?_ _) | (with_reducible refine Bk.drew ?_) | (with_reducible refine Bk.drewN ?_ _) | ((with_reducible refine Bk.far ?_ ?_ _); rotate_left; focus (simp only []; omega)) | ((with_reducible refine Bk.below ?_ (by with_reducible assumption) ?_); rotate_left; focus (go_size; done)))); done)); (case h3 => ((repeat' (first | (with_reducible exact Below.refl _ _) | (with_reducible assumption) | (with_reducible refine Below.drew ?_) | (with_reducible refine below_drewN ?_ _) | ((with_reducible refine Below.alloc ?_ ?_ _); rotate_left; focus (go_size; done)) | ((with_reducible refine Below.setCell ?_ ?_ _); rotate_left; focus (go_size; done)) | ((with_reducible refine Below.trans ?_ (Below.mono (by with_reducible assumption) ?_)); rotate_left; focus (go_size; done)))); done))) | (refine wp_named (fun W => Bk W (w4.heap.size) 24 [.int .u64 z1, .int .u64 z0] ∧ Bk W (w.heap.size + 1) 26 [.bool false, .int .u64 0, .int .u64 0, .int .i64 0] ∧ Below w.heap.size w W) ⟨?h1, ?h2, ?h3⟩ ?_; (case h1 => (first | ((repeat (first | (with_reducible assumption) | ((with_reducible refine Bk.new_ ?_); (first | rfl | (simp only [World.size_alloc, World.size_setCell, World.size_drew, World.heap_drewN]; done))) | (with_reducible refine Bk.alloc ?_ _) | (with_reducible refine Bk.drew ?_) | (with_reducible refine Bk.drewN ?_ _) | ((with_reducible refine Bk.far ?_ ?_ _); rotate_left; focus (simp only []; omega)) | ((with_reducible refine Bk.below ?_ (by with_reducible assumption) ?_); rotate_left; focus (go_size; done)))); done) | ((repeat (first | (with_reducible refine Bk.alloc ?_ _) | (with_reducible refine Bk.drew ?_) | ((with_reducible refine Bk.far ?_ ?_ _); rotate_left; focus (simp only []; omega)))); (refine ((?_ : Bk _ _ _ [.int .u64 0, .int .u64 0]).set_ 0 _).set_ 1 _); (repeat (first | (with_reducible assumption) | ((with_reducible refine Bk.new_ ?_); (first | rfl | (simp only [World.size_alloc, World.size_setCell, World.size_drew, World.heap_drewN]; done))) | (with_reducible refine Bk.alloc ?_ _) | (with_reducible refine Bk.drew ?_) | (with_reducible refine Bk.drewN ?_ _) | ((with_reducible refine Bk.far ?_ ?_ _); rotate_left; focus (simp only []; omega)) | ((with_reducible refine Bk.below ?_ (by with_reducible assumption) ?_); rotate_left; focus (go_size; done))))); done)); (case h2 => ((repeat (first | (with_reducible assumption) | ((with_reducible refine Bk.new_ ?_); (first | rfl | (simp only [World.size_alloc, World.size_setCell, World.size_drew, World.heap_drewN]; done))) | (with_reducible refine Bk.alloc ?_ _) | (with_reducible refine Bk.drew ?_) | (with_reducible refine Bk.drewN ?_ _) | ((with_reducible refine Bk.far ?_ ?_ _); rotate_left; focus (simp only []; omega)) | ((with_reducible refine Bk.below ?_ (by with_reducible assumption) ?_); rotate_left; focus (go_size; done)))); done)); (case h3 => ((repeat' (first | (with_reducible exact Below.refl _ _) | (with_reducible assumption) | (with_reducible refine Below.drew ?_) | (with_reducible refine below_drewN ?_ _) | ((with_reducible refine Below.alloc ?_ ?_ _); rotate_left; focus (go_size; done)) | ((with_reducible refine Below.setCell ?_ ?_ _); rotate_left; focus (go_size; done)) | ((with_reducible refine Below.trans ?_ (Below.mono (by with_reducible assumption) ?_)); rotate_left; focus (go_size; done)))); done)))
        rintro W ⟨k1, k2, mb⟩
        clear hb1 hb2 hb3 hb4 hb1c hb2c hb3c hb4c hb1f hb2f hb3f hb4f
        have c10 := k1.cell 0 rfl
        have c11 := k1.cell 1 rfl
        have c20 := k2.cell 0 rfl
        have c21 := k2.cell 1 rfl
        have c22 := k2.cell 2 rfl
        have c23 := k2.cell 3 rfl
        have f20 := k2.frozen 0
        have f21 := k2.frozen 1
        have f22 := k2.frozen 2
        have f23 := k2.frozen 3
        go_wp2_with fail
        refine bodyPost_ret (by simp [results, Try.results75, go_sem, *]; try rfl) rfl ?_
        exact ⟨rfl, by (repeat' (first | (with_reducible exact Below.refl _ _) | (with_reducible assumption) | (with_reducible refine Below.drew ?_) | (with_reducible refine below_drewN ?_ _) | ((with_reducible refine Below.alloc ?_ ?_ _); rotate_left; focus (go_size; done)) | ((with_reducible refine Below.setCell ?_ ?_ _); rotate_left; focus (go_size; done)) | ((with_reducible refine Below.trans ?_ (Below.mono (by with_reducible assumption) ?_)); rotate_left; focus (go_size; done))))⟩
end Go.Proofs.Ythkgjodidkpaeaa

set_option linter.unusedSimpArgs false
set_option linter.unusedVariables false
namespace Go.Proofs.Ythkgjodidkpaeaa
open Go.RowKit

theorem fit_step_yes {n t j : Nat} (hj : j ≤ t) (h : near n (10 ^ (t - j)) < B34) (e : fin (fitK n (10 ^ t) (K19 n)) = fin (fitK n (10 ^ t) (j + 1))) :
    FitC n (10 ^ t) = stripC (near n (10 ^ (t - j))) j ∧ FitS n (10 ^ t) = stripS (near n (10 ^ (t - j))) j ∧ FitE n (10 ^ t) = 0 := by
  have hp := near_pow n j t hj
  unfold FitC FitS FitE
  rw [e, fitK_yes (by rw [hp]; exact h), hp]
  exact ⟨rfl, rfl, rfl⟩
theorem fit_step_no {n t j : Nat} (hj : j ≤ t) (h : ¬ near n (10 ^ (t - j)) < B34) (e : fin (fitK n (10 ^ t) (K19 n)) = fin (fitK n (10 ^ t) (j + 1))) :
    fin (fitK n (10 ^ t) (K19 n)) = fin (fitK n (10 ^ t) j) := by
  have hp := near_pow n j t hj
  rw [e, fitK_no (by rw [hp]; exact h)]
theorem fit_step_end {n t : Nat} (e : fin (fitK n (10 ^ t) (K19 n)) = fin (fitK n (10 ^ t) 0)) : FitC n (10 ^ t) = 0 ∧ FitS n (10 ^ t) = 0 ∧ FitE n (10 ^ t) = 3 := by
  unfold FitC FitS FitE
  rw [e]
  exact ⟨rfl, rfl, rfl⟩
theorem fit_begin (n t : Nat) : ∃ k, k ≤ 19 ∧ k = min 18 t + 1 ∧ k ≤ t + 1 ∧ fin (fitK n (10 ^ t) (K19 n)) = fin (fitK n (10 ^ t) k) := by
  refine ⟨min 18 t + 1, by omega, rfl, by omega, ?_⟩
  by_cases h : t ≤ 18
  · rw [show min 18 t = t by omega]; exact fit_top n t h
  · rw [show min 18 t + 1 = K19 n by rw [K19_eq]; omega]
set_option maxHeartbeats 4000000 in
theorem fit_any (neg : Bool) (n t : Nat) (hn : n < 2 ^ 256) (ht : t ≤ 76) (w : World) : Calls Try.prog 51 #[.bool neg, .agg #[.int .u64 (wd n 0), .int .u64 (wd n 1), .int .u64 (wd n 2), .int .u64 (wd n 3)], .int .i64 t] w fun e w' => e = .returned (.tuple #[.agg #[.bool (sg neg (FitC (n) (10 ^ t))), .int .u64 (wd (FitC (n) (10 ^ t)) 1), .int .u64 (wd (FitC (n) (10 ^ t)) 0), .int .i64 (FitS (n) (10 ^ t))], .int .i64 (FitE n (10 ^ t))]) ∧ Below w.heap.size w w' := by
  obtain ⟨k, k19, hk, kt, he⟩ := fit_begin n t
  have HE := Far.mk he
  have HN := Far.mk hn
  have HBD := Lib.hid (fun W => bound_any W)
  obtain ⟨p0, hp0⟩ : ∃ p0, p0 = wd B34 0 := ⟨_, rfl⟩
  obtain ⟨p1, hp1⟩ : ∃ p1, p1 = wd B34 1 := ⟨_, rfl⟩
  rw [← hp0, ← hp1] at HBD
  have HPW : Hid (p0 = wd B34 0 ∧ p1 = wd B34 1) := Lib.hid ⟨hp0, hp1⟩
  clear hp0 hp1
  obtain ⟨C, hC⟩ : ∃ C, C = FitC n (10 ^ t) := ⟨_, rfl⟩
  obtain ⟨S, hS⟩ : ∃ S, S = FitS n (10 ^ t) := ⟨_, rfl⟩
  obtain ⟨E, hE⟩ : ∃ E, E = FitE n (10 ^ t) := ⟨_, rfl⟩
  rw [← hC, ← hS, ← hE]
  have EC := Far.mk hC
  have ES := Far.mk hS
  have EE := Far.mk hE
  clear hC hS hE he hn
  have t0 : (0 : Int) ≤ (t : Int) := by omega
  have t76 : (t : Int) ≤ 76 := by omega
  by_cases h18 : t ≤ 18
  · have g1 : (t : Int) ≤ 18 := by omega
    have hk2 : (t : Int) = (k : Int) - 1 := by omega
    have HK2 := Lib.hid hk2
    clear hk hk2
    go_enter Try.func51, Try.ntmps51
    go_wp2_with fail
    go_loopg [8] k (fun kk sv wr => kk ≤ t + 1 ∧ kk ≤ 19 ∧ sv = .int .i64 ((kk : Int) - 1) ∧ Far (fin (fitK n (10 ^ t) (K19 n)) = fin (fitK n (10 ^ t) kk)) ∧ Bk wr w.heap.size 45 (lcells n) ∧ Bk wr (w.heap.size + 1) 26 [.bool false, .int .u64 0, .int .u64 0, .int .i64 0] ∧ Below w.heap.size w wr)
    case atStart => exact ⟨kt, k19, congrArg (Value.int .i64) (by have := HK2.out; omega), HE, by rw [lcells_eq]; (repeat (first | (with_reducible assumption) | ((with_reducible refine Bk.new_ ?_); (first | rfl | (simp only [World.size_alloc, World.size_setCell, World.size_drew, World.heap_drewN]; done))) | (with_reducible refine Bk.alloc ?_ _) | (with_reducible refine Bk.drew ?_) | (with_reducible refine Bk.drewN ?_ _) | ((with_reducible refine Bk.far ?_ ?_ _); rotate_left; focus (simp only []; omega)) | ((with_reducible refine Bk.below ?_ (by with_reducible assumption) ?_); rotate_left; focus (go_size; done)))), by (repeat (first | (with_reducible assumption) | ((with_reducible refine Bk.new_ ?_); (first | rfl | (simp only [World.size_alloc, World.size_setCell, World.size_drew, World.heap_drewN]; done))) | (with_reducible refine Bk.alloc ?_ _) | (with_reducible refine Bk.drew ?_) | (with_reducible refine Bk.drewN ?_ _) | ((with_reducible refine Bk.far ?_ ?_ _); rotate_left; focus (simp only []; omega)) | ((with_reducible refine Bk.below ?_ (by with_reducible assumption) ?_); rotate_left; focus (go_size; done)))), by (repeat' (first | (with_reducible exact Below.refl _ _) | (with_reducible assumption) | (with_reducible refine Below.drew ?_) | (with_reducible refine below_drewN ?_ _) | ((with_reducible refine Below.alloc ?_ ?_ _); rotate_left; focus (go_size; done)) | ((with_reducible refine Below.setCell ?_ ?_ _); rotate_left; focus (go_size; done)) | ((with_reducible refine Below.trans ?_ (Below.mono (by with_reducible assumption) ?_)); rotate_left; focus (go_size; done))))⟩
    case round =>
      obtain ⟨hkt, hk19, rfl, he, b0, b1, hbel⟩ := hrel
      have HB0 := Lib.hid b0
      have HB1 := Lib.hid b1
      have hbs := hbel.size
      have l0 := b0.lt
      have l1 := b1.lt
      rw [lcells_eq] at b0
      have d0 := b0.cell 0 rfl
      have d1 := b0.cell 1 rfl
      have d2 := b0.cell 2 rfl
      have d3 := b0.cell 3 rfl
      clear b0
      by_cases hz : gk = 0
      · subst hz
        have h0 : ¬ (0 : Int) ≤ ((0 : Nat) : Int) - 1 := by omega
        have c0 := b1.cell 0 rfl
        have c1 := b1.cell 1 rfl
        have c2 := b1.cell 2 rfl
        have c3 := b1.cell 3 rfl
        have f0 := b1.frozen 0
        have f1 := b1.frozen 1
        have f2 := b1.frozen 2
        have f3 := b1.frozen 3
        clear b1
        go_wp2_with fail
        refine bodyPost_ret (by simp [results, Try.results51, go_sem, *]; try rfl) rfl ?_
        obtain ⟨e1, e2, e3⟩ := fit_step_end he.out
        exact ⟨by rw [EC.out, ES.out, EE.out, e1, e2, e3, wd_zero, wd_zero, sg_zero]; rfl, by (repeat' (first | (with_reducible exact Below.refl _ _) | (with_reducible assumption) | (with_reducible refine Below.drew ?_) | (with_reducible refine below_drewN ?_ _) | ((with_reducible refine Below.alloc ?_ ?_ _); rotate_left; focus (go_size; done)) | ((with_reducible refine Below.setCell ?_ ?_ _); rotate_left; focus (go_size; done)) | ((with_reducible refine Below.trans ?_ (Below.mono (by with_reducible assumption) ?_)); rotate_left; focus (go_size; done))))⟩
      · obtain ⟨j, rfl⟩ : ∃ j, gk = j + 1 := ⟨gk - 1, by omega⟩
        have hx : ((j + 1 : Nat) : Int) - 1 = (j : Int) := by omega
        rw [hx]
        have hjt : j ≤ t := by omega
        have j0 : (0 : Int) ≤ (j : Int) := by omega
        have j18 : (j : Int) ≤ 18 := by omega
        have gs : IntKind.i64.wrap ((t : Int) - (j : Int)) = (t : Int) - (j : Int) := IntWalk.i64_in _ (by omega)
        have HR : Hid (∀ W, Calls Try.prog 74 #[.agg #[.int .u64 (wd n 0), .int .u64 (wd n 1), .int .u64 (wd n 2), .int .u64 (wd n 3)], .int .i64 ((t : Int) - (j : Int))] W fun e w' => e = .returned (.tuple #[.agg #[.int .u64 (wd (fitW (near n (10 ^ (t - j)))) 1), .int .u64 (wd (fitW (near n (10 ^ (t - j)))) 0)], .int .i64 (over (near n (10 ^ (t - j))))]) ∧ Below W.heap.size W w') := Lib.hid (fun W => by
          rw [show (t : Int) - (j : Int) = ((t - j : Nat) : Int) by omega]
          exact round_any n HN.out (t - j) (by omega) W)
        have hyes := fit_step_yes (n := n) (t := t) (j := j) hjt
        have hno := fit_step_no (n := n) (t := t) (j := j) hjt
        have HYES := Far.mk hyes
        have HNO := Far.mk hno
        generalize near n (10 ^ (t - j)) = q at *
        clear hx hyes hno b1
        by_cases hq : q < B34
        · have hq2 : q < 2 ^ 128 := Nat.lt_trans hq B34_lt
          obtain ⟨e1, e2, e3⟩ := HYES.out hq he.out
          have HCM := Lib.hid (fun W => cmp_any q B34 hq2 B34_lt W)
          have hcc := cmp_bound hq
          have HCN := Lib.hid (fun W => canon_any neg q j hq (by omega) W)
          rw [fit_id hq2, over_id hq2] at HR
          rw [← e1, ← e2, ← EC.out, ← ES.out] at HCN
          have E3 := Far.mk e3
          have HP0 := HPW
          obtain ⟨hp0, hp1⟩ := HP0.out
          rw [← hp0, ← hp1] at HCM
          generalize cmpN q B34 = cc at *
          generalize wd q 0 = q0 at *
          generalize wd q 1 = q1 at *
          clear hq hq2 e1 e2 e3 HYES HNO he hp0 hp1
          go_wp2_with ((go_at_call 74; with_reducible refine (HR.out _).mono ?_); rintro _ w1 ⟨rfl, hb1⟩; have hb1s := hb1.size; (try simp only [World.size_alloc, World.size_setCell, World.size_drew, World.heap_drewN] at hb1s); obtain ⟨hb1c, hb1f⟩ := bcell hb1; (try have : w.heap.size < w1.heap.size := by omega); (try have : w.heap.size + 1 < w1.heap.size := by omega); (try have : w.heap.size + 1 + 1 < w1.heap.size := by omega); (try have : w.heap.size + 1 + 1 + 1 < w1.heap.size := by omega))
          go_region_held3 (fun w' => w'.cell? ⟨w1.heap.size, 0, none⟩ = some (.int .u64 q1) ∧ w'.cell? ⟨w1.heap.size, 1, none⟩ = some (.int .u64 q0)) (first | (first | (go_keep; done) | (simp [go_sem]; done) | ((try dsimp only); (repeat' apply And.intro) <;> (first | (with_reducible assumption) | ((rw [World.cell?_alloc_lt _ _ _ (by show _ < _; omega)]); go_split_ands; (first | with_reducible assumption | (refine (World.cell?_alloc_lt _ _ _ (by show _ < _; omega)).symm.trans ?_; with_reducible assumption))) | ((rw [World.cell?_setCell_other _ _ _ _ (by intro e; injection e; omega)]); with_reducible assumption) | (go_keep; done) | (simp [go_sem]; done) | (simp (disch := go_size) [*, World.cell?_alloc_some, World.cell?_setCell_far]; done)))) | ((refine ⟨Bk.cell (t := 24) (cs := [.int .u64 q1, .int .u64 q0]) ?_ 0 rfl, Bk.cell (t := 24) (cs := [.int .u64 q1, .int .u64 q0]) ?_ 1 rfl⟩) <;> ((repeat (first | (with_reducible assumption) | ((with_reducible refine Bk.new_ ?_); (first | rfl | (simp only [World.size_alloc, World.size_setCell, World.size_drew, World.heap_drewN]; done))) | (with_reducible refine Bk.alloc ?_ _) | (with_reducible refine Bk.drew ?_) | (with_reducible refine Bk.drewN ?_ _) | ((with_reducible refine Bk.far ?_ ?_ _); rotate_left; focus (simp only []; omega)) | ((with_reducible refine Bk.below ?_ (by with_reducible assumption) ?_); rotate_left; focus (go_size; done)))); done))) (first | ((go_at_call 55; with_reducible refine (HBD.out _).mono ?_); rintro _ w2 ⟨rfl, hb2⟩; have hb2s := hb2.size; (try simp only [World.size_alloc, World.size_setCell, World.size_drew, World.heap_drewN] at hb2s); obtain ⟨hb2c, hb2f⟩ := bcell hb2; (try have : w.heap.size < w2.heap.size := by omega); (try have : w.heap.size + 1 < w2.heap.size := by omega); (try have : w.heap.size + 1 + 1 < w2.heap.size := by omega); (try have : w.heap.size + 1 + 1 + 1 < w2.heap.size := by omega); (try have : w1.heap.size < w2.heap.size := by omega); (try have : w1.heap.size + 1 < w2.heap.size := by omega); (try have : w1.heap.size + 1 + 1 < w2.heap.size := by omega); (try have : w1.heap.size + 1 + 1 + 1 < w2.heap.size := by omega)) | ((go_at_call 54; with_reducible refine (HCM.out _).mono ?_); rintro _ w3 ⟨rfl, hb3⟩; have hb3s := hb3.size; (try simp only [World.size_alloc, World.size_setCell, World.size_drew, World.heap_drewN] at hb3s); obtain ⟨hb3c, hb3f⟩ := bcell hb3; (try have : w.heap.size < w3.heap.size := by omega); (try have : w.heap.size + 1 < w3.heap.size := by omega); (try have : w.heap.size + 1 + 1 < w3.heap.size := by omega); (try have : w.heap.size + 1 + 1 + 1 < w3.heap.size := by omega); (try have : w1.heap.size < w3.heap.size := by omega); (try have : w1.heap.size + 1 < w3.heap.size := by omega); (try have : w1.heap.size + 1 + 1 < w3.heap.size := by omega); (try have : w1.heap.size + 1 + 1 + 1 < w3.heap.size := by omega); (try have : w2.heap.size < w3.heap.size := by omega); (try have : w2.heap.size + 1 < w3.heap.size := by omega); (try have : w2.heap.size + 1 + 1 < w3.heap.size := by omega); (try have : w2.heap.size + 1 + 1 + 1 < w3.heap.size := by omega)))
          all_goals
            refine wp_named (fun W => Bk W w1.heap.size 24 [.int .u64 q1, .int .u64 q0] ∧ Bk W (w.heap.size + 1) 26 [.bool false, .int .u64 0, .int .u64 0, .int .i64 0] ∧ Below w.heap.size w W) ⟨?h1, ?h2, ?h3⟩ ?_
            case h1 => ((repeat (first | (with_reducible assumption) | ((with_reducible refine Bk.new_ ?_); (first | rfl | (simp only [World.size_alloc, World.size_setCell, World.size_drew, World.heap_drewN]; done))) | (with_reducible refine Bk.alloc ?_ _) | (with_reducible refine Bk.drew ?_) | (with_reducible refine Bk.drewN ?_ _) | ((with_reducible refine Bk.far ?_ ?_ _); rotate_left; focus (simp only []; omega)) | ((with_reducible refine Bk.below ?_ (by with_reducible assumption) ?_); rotate_left; focus (go_size; done)))); done)
            case h2 =>
              have b1 := HB1.out
              ((repeat (first | (with_reducible assumption) | ((with_reducible refine Bk.new_ ?_); (first | rfl | (simp only [World.size_alloc, World.size_setCell, World.size_drew, World.heap_drewN]; done))) | (with_reducible refine Bk.alloc ?_ _) | (with_reducible refine Bk.drew ?_) | (with_reducible refine Bk.drewN ?_ _) | ((with_reducible refine Bk.far ?_ ?_ _); rotate_left; focus (simp only []; omega)) | ((with_reducible refine Bk.below ?_ (by with_reducible assumption) ?_); rotate_left; focus (go_size; done)))); done)
            case h3 => ((repeat' (first | (with_reducible exact Below.refl _ _) | (with_reducible assumption) | (with_reducible refine Below.drew ?_) | (with_reducible refine below_drewN ?_ _) | ((with_reducible refine Below.alloc ?_ ?_ _); rotate_left; focus (go_size; done)) | ((with_reducible refine Below.setCell ?_ ?_ _); rotate_left; focus (go_size; done)) | ((with_reducible refine Below.trans ?_ (Below.mono (by with_reducible assumption) ?_)); rotate_left; focus (go_size; done)))); done)
            rintro W ⟨k1, k2, mb⟩
            have kl1 := k1.lt
            have kl2 := k2.lt
            have c10 := k1.cell 0 rfl
            have c11 := k1.cell 1 rfl
            have c20 := k2.cell 0 rfl
            have c21 := k2.cell 1 rfl
            have c22 := k2.cell 2 rfl
            have c23 := k2.cell 3 rfl
            have f20 := k2.frozen 0
            have f21 := k2.frozen 1
            have f22 := k2.frozen 2
            have f23 := k2.frozen 3
            clear hb1 hb2 hb3 hb1c hb2c hb3c hb1f hb2f hb3f d0 d1 d2 d3
            go_wp2_with ((go_at_call 75; with_reducible refine (HCN.out _).mono ?_); rintro _ w4 ⟨rfl, hb4⟩; have hb4s := hb4.size; (try simp only [World.size_alloc, World.size_setCell, World.size_drew, World.heap_drewN] at hb4s); obtain ⟨hb4c, hb4f⟩ := bcell hb4; (try have : w.heap.size < w4.heap.size := by omega); (try have : w.heap.size + 1 < w4.heap.size := by omega); (try have : w.heap.size + 1 + 1 < w4.heap.size := by omega); (try have : w.heap.size + 1 + 1 + 1 < w4.heap.size := by omega))
            refine bodyPost_ret (by simp [results, Try.results51, go_sem, *]; try rfl) rfl ?_
            exact ⟨by rw [EE.out, E3.out], by (repeat' (first | (with_reducible exact Below.refl _ _) | (with_reducible assumption) | (with_reducible refine Below.drew ?_) | (with_reducible refine below_drewN ?_ _) | ((with_reducible refine Below.alloc ?_ ?_ _); rotate_left; focus (go_size; done)) | ((with_reducible refine Below.setCell ?_ ?_ _); rotate_left; focus (go_size; done)) | ((with_reducible refine Below.trans ?_ (Below.mono (by with_reducible assumption) ?_)); rotate_left; focus (go_size; done))))⟩
        · by_cases hq2 : q < 2 ^ 128
          · have HCM := Lib.hid (fun W => cmp_any q B34 hq2 B34_lt W)
            have hcc := cmp_bound' hq
            have HNX := Far.mk (HNO.out hq he.out)
            have hcn : ¬ cmpN q B34 < 0 := by omega
            rw [fit_id hq2, over_id hq2] at HR
            have HP0 := HPW
            obtain ⟨hp0, hp1⟩ := HP0.out
            rw [← hp0, ← hp1] at HCM
            generalize cmpN q B34 = cc at *
            generalize wd q 0 = q0 at *
            generalize wd q 1 = q1 at *
            clear hq hq2 HYES HNO he hp0 hp1
            go_wp2_with ((go_at_call 74; with_reducible refine (HR.out _).mono ?_); rintro _ w1 ⟨rfl, hb1⟩; have hb1s := hb1.size; (try simp only [World.size_alloc, World.size_setCell, World.size_drew, World.heap_drewN] at hb1s); obtain ⟨hb1c, hb1f⟩ := bcell hb1; (try have : w.heap.size < w1.heap.size := by omega); (try have : w.heap.size + 1 < w1.heap.size := by omega); (try have : w.heap.size + 1 + 1 < w1.heap.size := by omega); (try have : w.heap.size + 1 + 1 + 1 < w1.heap.size := by omega))
            go_region_held3 (fun w' => w'.cell? ⟨w1.heap.size, 0, none⟩ = some (.int .u64 q1) ∧ w'.cell? ⟨w1.heap.size, 1, none⟩ = some (.int .u64 q0)) (first | (first | (go_keep; done) | (simp [go_sem]; done) | ((try dsimp only); (repeat' apply And.intro) <;> (first | (with_reducible assumption) | ((rw [World.cell?_alloc_lt _ _ _ (by show _ < _; omega)]); go_split_ands; (first | with_reducible assumption | (refine (World.cell?_alloc_lt _ _ _ (by show _ < _; omega)).symm.trans ?_; with_reducible assumption))) | ((rw [World.cell?_setCell_other _ _ _ _ (by intro e; injection e; omega)]); with_reducible assumption) | (go_keep; done) | (simp [go_sem]; done) | (simp (disch := go_size) [*, World.cell?_alloc_some, World.cell?_setCell_far]; done)))) | ((refine ⟨Bk.cell (t := 24) (cs := [.int .u64 q1, .int .u64 q0]) ?_ 0 rfl, Bk.cell (t := 24) (cs := [.int .u64 q1, .int .u64 q0]) ?_ 1 rfl⟩) <;> ((repeat (first | (with_reducible assumption) | ((with_reducible refine Bk.new_ ?_); (first | rfl | (simp only [World.size_alloc, World.size_setCell, World.size_drew, World.heap_drewN]; done))) | (with_reducible refine Bk.alloc ?_ _) | (with_reducible refine Bk.drew ?_) | (with_reducible refine Bk.drewN ?_ _) | ((with_reducible refine Bk.far ?_ ?_ _); rotate_left; focus (simp only []; omega)) | ((with_reducible refine Bk.below ?_ (by with_reducible assumption) ?_); rotate_left; focus (go_size; done)))); done))) (first | ((go_at_call 55; with_reducible refine (HBD.out _).mono ?_); rintro _ w2 ⟨rfl, hb2⟩; have hb2s := hb2.size; (try simp only [World.size_alloc, World.size_setCell, World.size_drew, World.heap_drewN] at hb2s); obtain ⟨hb2c, hb2f⟩ := bcell hb2; (try have : w.heap.size < w2.heap.size := by omega); (try have : w.heap.size + 1 < w2.heap.size := by omega); (try have : w.heap.size + 1 + 1 < w2.heap.size := by omega); (try have : w.heap.size + 1 + 1 + 1 < w2.heap.size := by omega); (try have : w1.heap.size < w2.heap.size := by omega); (try have : w1.heap.size + 1 < w2.heap.size := by omega); (try have : w1.heap.size + 1 + 1 < w2.heap.size := by omega); (try have : w1.heap.size + 1 + 1 + 1 < w2.heap.size := by omega)) | ((go_at_call 54; with_reducible refine (HCM.out _).mono ?_); rintro _ w3 ⟨rfl, hb3⟩; have hb3s := hb3.size; (try simp only [World.size_alloc, World.size_setCell, World.size_drew, World.heap_drewN] at hb3s); obtain ⟨hb3c, hb3f⟩ := bcell hb3; (try have : w.heap.size < w3.heap.size := by omega); (try have : w.heap.size + 1 < w3.heap.size := by omega); (try have : w.heap.size + 1 + 1 < w3.heap.size := by omega); (try have : w.heap.size + 1 + 1 + 1 < w3.heap.size := by omega); (try have : w1.heap.size < w3.heap.size := by omega); (try have : w1.heap.size + 1 < w3.heap.size := by omega); (try have : w1.heap.size + 1 + 1 < w3.heap.size := by omega); (try have : w1.heap.size + 1 + 1 + 1 < w3.heap.size := by omega); (try have : w2.heap.size < w3.heap.size := by omega); (try have : w2.heap.size + 1 < w3.heap.size := by omega); (try have : w2.heap.size + 1 + 1 < w3.heap.size := by omega); (try have : w2.heap.size + 1 + 1 + 1 < w3.heap.size := by omega)))
            all_goals
              refine wp_named (fun W => Bk W w.heap.size 45 (lcells n) ∧ Bk W (w.heap.size + 1) 26 [.bool false, .int .u64 0, .int .u64 0, .int .i64 0] ∧ Below w.heap.size w W) ⟨?h1, ?h2, ?h3⟩ ?_
              case h1 =>
                have b0 := HB0.out
                ((repeat (first | (with_reducible assumption) | ((with_reducible refine Bk.new_ ?_); (first | rfl | (simp only [World.size_alloc, World.size_setCell, World.size_drew, World.heap_drewN]; done))) | (with_reducible refine Bk.alloc ?_ _) | (with_reducible refine Bk.drew ?_) | (with_reducible refine Bk.drewN ?_ _) | ((with_reducible refine Bk.far ?_ ?_ _); rotate_left; focus (simp only []; omega)) | ((with_reducible refine Bk.below ?_ (by with_reducible assumption) ?_); rotate_left; focus (go_size; done)))); done)
              case h2 =>
                have b1 := HB1.out
                ((repeat (first | (with_reducible assumption) | ((with_reducible refine Bk.new_ ?_); (first | rfl | (simp only [World.size_alloc, World.size_setCell, World.size_drew, World.heap_drewN]; done))) | (with_reducible refine Bk.alloc ?_ _) | (with_reducible refine Bk.drew ?_) | (with_reducible refine Bk.drewN ?_ _) | ((with_reducible refine Bk.far ?_ ?_ _); rotate_left; focus (simp only []; omega)) | ((with_reducible refine Bk.below ?_ (by with_reducible assumption) ?_); rotate_left; focus (go_size; done)))); done)
              case h3 => ((repeat' (first | (with_reducible exact Below.refl _ _) | (with_reducible assumption) | (with_reducible refine Below.drew ?_) | (with_reducible refine below_drewN ?_ _) | ((with_reducible refine Below.alloc ?_ ?_ _); rotate_left; focus (go_size; done)) | ((with_reducible refine Below.setCell ?_ ?_ _); rotate_left; focus (go_size; done)) | ((with_reducible refine Below.trans ?_ (Below.mono (by with_reducible assumption) ?_)); rotate_left; focus (go_size; done)))); done)
              rintro W ⟨k1, k2, mb⟩
              go_wp2_with fail
              go_roundg j
              case measure => omega
              case rel => exact ⟨by omega, by omega, rfl, HNX, k1, k2, mb⟩
          · have HNX := Far.mk (HNO.out hq he.out)
            have eo : over q = 3 := by unfold over; rw [if_neg hq2]
            rw [eo] at HR
            generalize wd (fitW q) 0 = q0 at *
            generalize wd (fitW q) 1 = q1 at *
            clear hq hq2 HYES HNO he
            go_wp2_with ((go_at_call 74; with_reducible refine (HR.out _).mono ?_); rintro _ w1 ⟨rfl, hb1⟩; have hb1s := hb1.size; (try simp only [World.size_alloc, World.size_setCell, World.size_drew, World.heap_drewN] at hb1s); obtain ⟨hb1c, hb1f⟩ := bcell hb1; (try have : w.heap.size < w1.heap.size := by omega); (try have : w.heap.size + 1 < w1.heap.size := by omega); (try have : w.heap.size + 1 + 1 < w1.heap.size := by omega); (try have : w.heap.size + 1 + 1 + 1 < w1.heap.size := by omega))
            first | (go_region_with fail) | fail
            all_goals
              refine wp_named (fun W => Bk W w.heap.size 45 (lcells n) ∧ Bk W (w.heap.size + 1) 26 [.bool false, .int .u64 0, .int .u64 0, .int .i64 0] ∧ Below w.heap.size w W) ⟨?h1, ?h2, ?h3⟩ ?_
              case h1 =>
                have b0 := HB0.out
                ((repeat (first | (with_reducible assumption) | ((with_reducible refine Bk.new_ ?_); (first | rfl | (simp only [World.size_alloc, World.size_setCell, World.size_drew, World.heap_drewN]; done))) | (with_reducible refine Bk.alloc ?_ _) | (with_reducible refine Bk.drew ?_) | (with_reducible refine Bk.drewN ?_ _) | ((with_reducible refine Bk.far ?_ ?_ _); rotate_left; focus (simp only []; omega)) | ((with_reducible refine Bk.below ?_ (by with_reducible assumption) ?_); rotate_left; focus (go_size; done)))); done)
              case h2 =>
                have b1 := HB1.out
                ((repeat (first | (with_reducible assumption) | ((with_reducible refine Bk.new_ ?_); (first | rfl | (simp only [World.size_alloc, World.size_setCell, World.size_drew, World.heap_drewN]; done))) | (with_reducible refine Bk.alloc ?_ _) | (with_reducible refine Bk.drew ?_) | (with_reducible refine Bk.drewN ?_ _) | ((with_reducible refine Bk.far ?_ ?_ _); rotate_left; focus (simp only []; omega)) | ((with_reducible refine Bk.below ?_ (by with_reducible assumption) ?_); rotate_left; focus (go_size; done)))); done)
              case h3 => ((repeat' (first | (with_reducible exact Below.refl _ _) | (with_reducible assumption) | (with_reducible refine Below.drew ?_) | (with_reducible refine below_drewN ?_ _) | ((with_reducible refine Below.alloc ?_ ?_ _); rotate_left; focus (go_size; done)) | ((with_reducible refine Below.setCell ?_ ?_ _); rotate_left; focus (go_size; done)) | ((with_reducible refine Below.trans ?_ (Below.mono (by with_reducible assumption) ?_)); rotate_left; focus (go_size; done)))); done)
              rintro W ⟨k1, k2, mb⟩
              go_wp2_with fail
              go_roundg j
              case measure => omega
              case rel => exact ⟨by omega, by omega, rfl, HNX, k1, k2, mb⟩
  · have g1 : ¬ (t : Int) ≤ 18 := by omega
    have hk2 : (18 : Int) = (k : Int) - 1 := by omega
    have HK2 := Lib.hid hk2
    clear hk hk2
    go_enter Try.func51, Try.ntmps51
    go_wp2_with fail
    go_loopg [8] k (fun kk sv wr => kk ≤ t + 1 ∧ kk ≤ 19 ∧ sv = .int .i64 ((kk : Int) - 1) ∧ Far (fin (fitK n (10 ^ t) (K19 n)) = fin (fitK n (10 ^ t) kk)) ∧ Bk wr w.heap.size 45 (lcells n) ∧ Bk wr (w.heap.size + 1) 26 [.bool false, .int .u64 0, .int .u64 0, .int .i64 0] ∧ Below w.heap.size w wr)
    case atStart => exact ⟨kt, k19, congrArg (Value.int .i64) (by have := HK2.out; omega), HE, by rw [lcells_eq]; (repeat (first | (with_reducible assumption) | ((with_reducible refine Bk.new_ ?_); (first | rfl | (simp only [World.size_alloc, World.size_setCell, World.size_drew, World.heap_drewN]; done))) | (with_reducible refine Bk.alloc ?_ _) | (with_reducible refine Bk.drew ?_) | (with_reducible refine Bk.drewN ?_ _) | ((with_reducible refine Bk.far ?_ ?_ _); rotate_left; focus (simp only []; omega)) | ((with_reducible refine Bk.below ?_ (by with_reducible assumption) ?_); rotate_left; focus (go_size; done)))), by (repeat (first | (with_reducible assumption) | ((with_reducible refine Bk.new_ ?_); (first | rfl | (simp only [World.size_alloc, World.size_setCell, World.size_drew, World.heap_drewN]; done))) | (with_reducible refine Bk.alloc ?_ _) | (with_reducible refine Bk.drew ?_) | (with_reducible refine Bk.drewN ?_ _) | ((with_reducible refine Bk.far ?_ ?_ _); rotate_left; focus (simp only []; omega)) | ((with_reducible refine Bk.below ?_ (by with_reducible assumption) ?_); rotate_left; focus (go_size; done)))), by (repeat' (first | (with_reducible exact Below.refl _ _) | (with_reducible assumption) | (with_reducible refine Below.drew ?_) | (with_reducible refine below_drewN ?_ _) | ((with_reducible refine Below.alloc ?_ ?_ _); rotate_left; focus (go_size; done)) | ((with_reducible refine Below.setCell ?_ ?_ _); rotate_left; focus (go_size; done)) | ((with_reducible refine Below.trans ?_ (Below.mono (by with_reducible assumption) ?_)); rotate_left; focus (go_size; done))))⟩
    case round =>
      obtain ⟨hkt, hk19, rfl, he, b0, b1, hbel⟩ := hrel
      have HB0 := Lib.hid b0
      have HB1 := Lib.hid b1
      have hbs := hbel.size
      have l0 := b0.lt
      have l1 := b1.lt
      rw [lcells_eq] at b0
      have d0 := b0.cell 0 rfl
      have d1 := b0.cell 1 rfl
      have d2 := b0.cell 2 rfl
      have d3 := b0.cell 3 rfl
      clear b0
      by_cases hz : gk = 0
      · subst hz
        have h0 : ¬ (0 : Int) ≤ ((0 : Nat) : Int) - 1 := by omega
        have c0 := b1.cell 0 rfl
        have c1 := b1.cell 1 rfl
        have c2 := b1.cell 2 rfl
        have c3 := b1.cell 3 rfl
        have f0 := b1.frozen 0
        have f1 := b1.frozen 1
        have f2 := b1.frozen 2
        have f3 := b1.frozen 3
        clear b1
        go_wp2_with fail
        refine bodyPost_ret (by simp [results, Try.results51, go_sem, *]; try rfl) rfl ?_
        obtain ⟨e1, e2, e3⟩ := fit_step_end he.out
        exact ⟨by rw [EC.out, ES.out, EE.out, e1, e2, e3, wd_zero, wd_zero, sg_zero]; rfl, by (repeat' (first | (with_reducible exact Below.refl _ _) | (with_reducible assumption) | (with_reducible refine Below.drew ?_) | (with_reducible refine below_drewN ?_ _) | ((with_reducible refine Below.alloc ?_ ?_ _); rotate_left; focus (go_size; done)) | ((with_reducible refine Below.setCell ?_ ?_ _); rotate_left; focus (go_size; done)) | ((with_reducible refine Below.trans ?_ (Below.mono (by with_reducible assumption) ?_)); rotate_left; focus (go_size; done))))⟩
      · obtain ⟨j, rfl⟩ : ∃ j, gk = j + 1 := ⟨gk - 1, by omega⟩
        have hx : ((j + 1 : Nat) : Int) - 1 = (j : Int) := by omega
        rw [hx]
        have hjt : j ≤ t := by omega
        have j0 : (0 : Int) ≤ (j : Int) := by omega
        have j18 : (j : Int) ≤ 18 := by omega
        have gs : IntKind.i64.wrap ((t : Int) - (j : Int)) = (t : Int) - (j : Int) := IntWalk.i64_in _ (by omega)
        have HR : Hid (∀ W, Calls Try.prog 74 #[.agg #[.int .u64 (wd n 0), .int .u64 (wd n 1), .int .u64 (wd n 2), .int .u64 (wd n 3)], .int .i64 ((t : Int) - (j : Int))] W fun e w' => e = .returned (.tuple #[.agg #[.int .u64 (wd (fitW (near n (10 ^ (t - j)))) 1), .int .u64 (wd (fitW (near n (10 ^ (t - j)))) 0)], .int .i64 (over (near n (10 ^ (t - j))))]) ∧ Below W.heap.size W w') := Lib.hid (fun W => by
          rw [show (t : Int) - (j : Int) = ((t - j : Nat) : Int) by omega]
          exact round_any n HN.out (t - j) (by omega) W)
        have hyes := fit_step_yes (n := n) (t := t) (j := j) hjt
        have hno := fit_step_no (n := n) (t := t) (j := j) hjt
        have HYES := Far.mk hyes
        have HNO := Far.mk hno
        generalize near n (10 ^ (t - j)) = q at *
        clear hx hyes hno b1
        by_cases hq : q < B34
        · have hq2 : q < 2 ^ 128 := Nat.lt_trans hq B34_lt
          obtain ⟨e1, e2, e3⟩ := HYES.out hq he.out
          have HCM := Lib.hid (fun W => cmp_any q B34 hq2 B34_lt W)
          have hcc := cmp_bound hq
          have HCN := Lib.hid (fun W => canon_any neg q j hq (by omega) W)
          rw [fit_id hq2, over_id hq2] at HR
          rw [← e1, ← e2, ← EC.out, ← ES.out] at HCN
          have E3 := Far.mk e3
          have HP0 := HPW
          obtain ⟨hp0, hp1⟩ := HP0.out
          rw [← hp0, ← hp1] at HCM
          generalize cmpN q B34 = cc at *
          generalize wd q 0 = q0 at *
          generalize wd q 1 = q1 at *
          clear hq hq2 e1 e2 e3 HYES HNO he hp0 hp1
          go_wp2_with ((go_at_call 74; with_reducible refine (HR.out _).mono ?_); rintro _ w1 ⟨rfl, hb1⟩; have hb1s := hb1.size; (try simp only [World.size_alloc, World.size_setCell, World.size_drew, World.heap_drewN] at hb1s); obtain ⟨hb1c, hb1f⟩ := bcell hb1; (try have : w.heap.size < w1.heap.size := by omega); (try have : w.heap.size + 1 < w1.heap.size := by omega); (try have : w.heap.size + 1 + 1 < w1.heap.size := by omega); (try have : w.heap.size + 1 + 1 + 1 < w1.heap.size := by omega))
          go_region_held3 (fun w' => w'.cell? ⟨w1.heap.size, 0, none⟩ = some (.int .u64 q1) ∧ w'.cell? ⟨w1.heap.size, 1, none⟩ = some (.int .u64 q0)) (first | (first | (go_keep; done) | (simp [go_sem]; done) | ((try dsimp only); (repeat' apply And.intro) <;> (first | (with_reducible assumption) | ((rw [World.cell?_alloc_lt _ _ _ (by show _ < _; omega)]); go_split_ands; (first | with_reducible assumption | (refine (World.cell?_alloc_lt _ _ _ (by show _ < _; omega)).symm.trans ?_; with_reducible assumption))) | ((rw [World.cell?_setCell_other _ _ _ _ (by intro e; injection e; omega)]); with_reducible assumption) | (go_keep; done) | (simp [go_sem]; done) | (simp (disch := go_size) [*, World.cell?_alloc_some, World.cell?_setCell_far]; done)))) | ((refine ⟨Bk.cell (t := 24) (cs := [.int .u64 q1, .int .u64 q0]) ?_ 0 rfl, Bk.cell (t := 24) (cs := [.int .u64 q1, .int .u64 q0]) ?_ 1 rfl⟩) <;> ((repeat (first | (with_reducible assumption) | ((with_reducible refine Bk.new_ ?_); (first | rfl | (simp only [World.size_alloc, World.size_setCell, World.size_drew, World.heap_drewN]; done))) | (with_reducible refine Bk.alloc ?_ _) | (with_reducible refine Bk.drew ?_) | (with_reducible refine Bk.drewN ?_ _) | ((with_reducible refine Bk.far ?_ ?_ _); rotate_left; focus (simp only []; omega)) | ((with_reducible refine Bk.below ?_ (by with_reducible assumption) ?_); rotate_left; focus (go_size; done)))); done))) (first | ((go_at_call 55; with_reducible refine (HBD.out _).mono ?_); rintro _ w2 ⟨rfl, hb2⟩; have hb2s := hb2.size; (try simp only [World.size_alloc, World.size_setCell, World.size_drew, World.heap_drewN] at hb2s); obtain ⟨hb2c, hb2f⟩ := bcell hb2; (try have : w.heap.size < w2.heap.size := by omega); (try have : w.heap.size + 1 < w2.heap.size := by omega); (try have : w.heap.size + 1 + 1 < w2.heap.size := by omega); (try have : w.heap.size + 1 + 1 + 1 < w2.heap.size := by omega); (try have : w1.heap.size < w2.heap.size := by omega); (try have : w1.heap.size + 1 < w2.heap.size := by omega); (try have : w1.heap.size + 1 + 1 < w2.heap.size := by omega); (try have : w1.heap.size + 1 + 1 + 1 < w2.heap.size := by omega)) | ((go_at_call 54; with_reducible refine (HCM.out _).mono ?_); rintro _ w3 ⟨rfl, hb3⟩; have hb3s := hb3.size; (try simp only [World.size_alloc, World.size_setCell, World.size_drew, World.heap_drewN] at hb3s); obtain ⟨hb3c, hb3f⟩ := bcell hb3; (try have : w.heap.size < w3.heap.size := by omega); (try have : w.heap.size + 1 < w3.heap.size := by omega); (try have : w.heap.size + 1 + 1 < w3.heap.size := by omega); (try have : w.heap.size + 1 + 1 + 1 < w3.heap.size := by omega); (try have : w1.heap.size < w3.heap.size := by omega); (try have : w1.heap.size + 1 < w3.heap.size := by omega); (try have : w1.heap.size + 1 + 1 < w3.heap.size := by omega); (try have : w1.heap.size + 1 + 1 + 1 < w3.heap.size := by omega); (try have : w2.heap.size < w3.heap.size := by omega); (try have : w2.heap.size + 1 < w3.heap.size := by omega); (try have : w2.heap.size + 1 + 1 < w3.heap.size := by omega); (try have : w2.heap.size + 1 + 1 + 1 < w3.heap.size := by omega)))
          all_goals
            refine wp_named (fun W => Bk W w1.heap.size 24 [.int .u64 q1, .int .u64 q0] ∧ Bk W (w.heap.size + 1) 26 [.bool false, .int .u64 0, .int .u64 0, .int .i64 0] ∧ Below w.heap.size w W) ⟨?h1, ?h2, ?h3⟩ ?_
            case h1 => ((repeat (first | (with_reducible assumption) | ((with_reducible refine Bk.new_ ?_); (first | rfl | (simp only [World.size_alloc, World.size_setCell, World.size_drew, World.heap_drewN]; done))) | (with_reducible refine Bk.alloc ?_ _) | (with_reducible refine Bk.drew ?_) | (with_reducible refine Bk.drewN ?_ _) | ((with_reducible refine Bk.far ?_ ?_ _); rotate_left; focus (simp only []; omega)) | ((with_reducible refine Bk.below ?_ (by with_reducible assumption) ?_); rotate_left; focus (go_size; done)))); done)
            case h2 =>
              have b1 := HB1.out
              ((repeat (first | (with_reducible assumption) | ((with_reducible refine Bk.new_ ?_); (first | rfl | (simp only [World.size_alloc, World.size_setCell, World.size_drew, World.heap_drewN]; done))) | (with_reducible refine Bk.alloc ?_ _) | (with_reducible refine Bk.drew ?_) | (with_reducible refine Bk.drewN ?_ _) | ((with_reducible refine Bk.far ?_ ?_ _); rotate_left; focus (simp only []; omega)) | ((with_reducible refine Bk.below ?_ (by with_reducible assumption) ?_); rotate_left; focus (go_size; done)))); done)
            case h3 => ((repeat' (first | (with_reducible exact Below.refl _ _) | (with_reducible assumption) | (with_reducible refine Below.drew ?_) | (with_reducible refine below_drewN ?_ _) | ((with_reducible refine Below.alloc ?_ ?_ _); rotate_left; focus (go_size; done)) | ((with_reducible refine Below.setCell ?_ ?_ _); rotate_left; focus (go_size; done)) | ((with_reducible refine Below.trans ?_ (Below.mono (by with_reducible assumption) ?_)); rotate_left; focus (go_size; done)))); done)
            rintro W ⟨k1, k2, mb⟩
            have kl1 := k1.lt
            have kl2 := k2.lt
            have c10 := k1.cell 0 rfl
            have c11 := k1.cell 1 rfl
            have c20 := k2.cell 0 rfl
            have c21 := k2.cell 1 rfl
            have c22 := k2.cell 2 rfl
            have c23 := k2.cell 3 rfl
            have f20 := k2.frozen 0
            have f21 := k2.frozen 1
            have f22 := k2.frozen 2
            have f23 := k2.frozen 3
            clear hb1 hb2 hb3 hb1c hb2c hb3c hb1f hb2f hb3f d0 d1 d2 d3
            go_wp2_with ((go_at_call 75; with_reducible refine (HCN.out _).mono ?_); rintro _ w4 ⟨rfl, hb4⟩; have hb4s := hb4.size; (try simp only [World.size_alloc, World.size_setCell, World.size_drew, World.heap_drewN] at hb4s); obtain ⟨hb4c, hb4f⟩ := bcell hb4; (try have : w.heap.size < w4.heap.size := by omega); (try have : w.heap.size + 1 < w4.heap.size := by omega); (try have : w.heap.size + 1 + 1 < w4.heap.size := by omega); (try have : w.heap.size + 1 + 1 + 1 < w4.heap.size := by omega))
            refine bodyPost_ret (by simp [results, Try.results51, go_sem, *]; try rfl) rfl ?_
            exact ⟨by rw [EE.out, E3.out], by (repeat' (first | (with_reducible exact Below.refl _ _) | (with_reducible assumption) | (with_reducible refine Below.drew ?_) | (with_reducible refine below_drewN ?_ _) | ((with_reducible refine Below.alloc ?_ ?_ _); rotate_left; focus (go_size; done)) | ((with_reducible refine Below.setCell ?_ ?_ _); rotate_left; focus (go_size; done)) | ((with_reducible refine Below.trans ?_ (Below.mono (by with_reducible assumption) ?_)); rotate_left; focus (go_size; done))))⟩
        · by_cases hq2 : q < 2 ^ 128
          · have HCM := Lib.hid (fun W => cmp_any q B34 hq2 B34_lt W)
            have hcc := cmp_bound' hq
            have HNX := Far.mk (HNO.out hq he.out)
            have hcn : ¬ cmpN q B34 < 0 := by omega
            rw [fit_id hq2, over_id hq2] at HR
            have HP0 := HPW
            obtain ⟨hp0, hp1⟩ := HP0.out
            rw [← hp0, ← hp1] at HCM
            generalize cmpN q B34 = cc at *
            generalize wd q 0 = q0 at *
            generalize wd q 1 = q1 at *
            clear hq hq2 HYES HNO he hp0 hp1
            go_wp2_with ((go_at_call 74; with_reducible refine (HR.out _).mono ?_); rintro _ w1 ⟨rfl, hb1⟩; have hb1s := hb1.size; (try simp only [World.size_alloc, World.size_setCell, World.size_drew, World.heap_drewN] at hb1s); obtain ⟨hb1c, hb1f⟩ := bcell hb1; (try have : w.heap.size < w1.heap.size := by omega); (try have : w.heap.size + 1 < w1.heap.size := by omega); (try have : w.heap.size + 1 + 1 < w1.heap.size := by omega); (try have : w.heap.size + 1 + 1 + 1 < w1.heap.size := by omega))
            go_region_held3 (fun w' => w'.cell? ⟨w1.heap.size, 0, none⟩ = some (.int .u64 q1) ∧ w'.cell? ⟨w1.heap.size, 1, none⟩ = some (.int .u64 q0)) (first | (first | (go_keep; done) | (simp [go_sem]; done) | ((try dsimp only); (repeat' apply And.intro) <;> (first | (with_reducible assumption) | ((rw [World.cell?_alloc_lt _ _ _ (by show _ < _; omega)]); go_split_ands; (first | with_reducible assumption | (refine (World.cell?_alloc_lt _ _ _ (by show _ < _; omega)).symm.trans ?_; with_reducible assumption))) | ((rw [World.cell?_setCell_other _ _ _ _ (by intro e; injection e; omega)]); with_reducible assumption) | (go_keep; done) | (simp [go_sem]; done) | (simp (disch := go_size) [*, World.cell?_alloc_some, World.cell?_setCell_far]; done)))) | ((refine ⟨Bk.cell (t := 24) (cs := [.int .u64 q1, .int .u64 q0]) ?_ 0 rfl, Bk.cell (t := 24) (cs := [.int .u64 q1, .int .u64 q0]) ?_ 1 rfl⟩) <;> ((repeat (first | (with_reducible assumption) | ((with_reducible refine Bk.new_ ?_); (first | rfl | (simp only [World.size_alloc, World.size_setCell, World.size_drew, World.heap_drewN]; done))) | (with_reducible refine Bk.alloc ?_ _) | (with_reducible refine Bk.drew ?_) | (with_reducible refine Bk.drewN ?_ _) | ((with_reducible refine Bk.far ?_ ?_ _); rotate_left; focus (simp only []; omega)) | ((with_reducible refine Bk.below ?_ (by with_reducible assumption) ?_); rotate_left; focus (go_size; done)))); done))) (first | ((go_at_call 55; with_reducible refine (HBD.out _).mono ?_); rintro _ w2 ⟨rfl, hb2⟩; have hb2s := hb2.size; (try simp only [World.size_alloc, World.size_setCell, World.size_drew, World.heap_drewN] at hb2s); obtain ⟨hb2c, hb2f⟩ := bcell hb2; (try have : w.heap.size < w2.heap.size := by omega); (try have : w.heap.size + 1 < w2.heap.size := by omega); (try have : w.heap.size + 1 + 1 < w2.heap.size := by omega); (try have : w.heap.size + 1 + 1 + 1 < w2.heap.size := by omega); (try have : w1.heap.size < w2.heap.size := by omega); (try have : w1.heap.size + 1 < w2.heap.size := by omega); (try have : w1.heap.size + 1 + 1 < w2.heap.size := by omega); (try have : w1.heap.size + 1 + 1 + 1 < w2.heap.size := by omega)) | ((go_at_call 54; with_reducible refine (HCM.out _).mono ?_); rintro _ w3 ⟨rfl, hb3⟩; have hb3s := hb3.size; (try simp only [World.size_alloc, World.size_setCell, World.size_drew, World.heap_drewN] at hb3s); obtain ⟨hb3c, hb3f⟩ := bcell hb3; (try have : w.heap.size < w3.heap.size := by omega); (try have : w.heap.size + 1 < w3.heap.size := by omega); (try have : w.heap.size + 1 + 1 < w3.heap.size := by omega); (try have : w.heap.size + 1 + 1 + 1 < w3.heap.size := by omega); (try have : w1.heap.size < w3.heap.size := by omega); (try have : w1.heap.size + 1 < w3.heap.size := by omega); (try have : w1.heap.size + 1 + 1 < w3.heap.size := by omega); (try have : w1.heap.size + 1 + 1 + 1 < w3.heap.size := by omega); (try have : w2.heap.size < w3.heap.size := by omega); (try have : w2.heap.size + 1 < w3.heap.size := by omega); (try have : w2.heap.size + 1 + 1 < w3.heap.size := by omega); (try have : w2.heap.size + 1 + 1 + 1 < w3.heap.size := by omega)))
            all_goals
              refine wp_named (fun W => Bk W w.heap.size 45 (lcells n) ∧ Bk W (w.heap.size + 1) 26 [.bool false, .int .u64 0, .int .u64 0, .int .i64 0] ∧ Below w.heap.size w W) ⟨?h1, ?h2, ?h3⟩ ?_
              case h1 =>
                have b0 := HB0.out
                ((repeat (first | (with_reducible assumption) | ((with_reducible refine Bk.new_ ?_); (first | rfl | (simp only [World.size_alloc, World.size_setCell, World.size_drew, World.heap_drewN]; done))) | (with_reducible refine Bk.alloc ?_ _) | (with_reducible refine Bk.drew ?_) | (with_reducible refine Bk.drewN ?_ _) | ((with_reducible refine Bk.far ?_ ?_ _); rotate_left; focus (simp only []; omega)) | ((with_reducible refine Bk.below ?_ (by with_reducible assumption) ?_); rotate_left; focus (go_size; done)))); done)
              case h2 =>
                have b1 := HB1.out
                ((repeat (first | (with_reducible assumption) | ((with_reducible refine Bk.new_ ?_); (first | rfl | (simp only [World.size_alloc, World.size_setCell, World.size_drew, World.heap_drewN]; done))) | (with_reducible refine Bk.alloc ?_ _) | (with_reducible refine Bk.drew ?_) | (with_reducible refine Bk.drewN ?_ _) | ((with_reducible refine Bk.far ?_ ?_ _); rotate_left; focus (simp only []; omega)) | ((with_reducible refine Bk.below ?_ (by with_reducible assumption) ?_); rotate_left; focus (go_size; done)))); done)
              case h3 => ((repeat' (first | (with_reducible exact Below.refl _ _) | (with_reducible assumption) | (with_reducible refine Below.drew ?_) | (with_reducible refine below_drewN ?_ _) | ((with_reducible refine Below.alloc ?_ ?_ _); rotate_left; focus (go_size; done)) | ((with_reducible refine Below.setCell ?_ ?_ _); rotate_left; focus (go_size; done)) | ((with_reducible refine Below.trans ?_ (Below.mono (by with_reducible assumption) ?_)); rotate_left; focus (go_size; done)))); done)
              rintro W ⟨k1, k2, mb⟩
              go_wp2_with fail
              go_roundg j
              case measure => omega
              case rel => exact ⟨by omega, by omega, rfl, HNX, k1, k2, mb⟩
          · have HNX := Far.mk (HNO.out hq he.out)
            have eo : over q = 3 := by unfold over; rw [if_neg hq2]
            rw [eo] at HR
            generalize wd (fitW q) 0 = q0 at *
            generalize wd (fitW q) 1 = q1 at *
            clear hq hq2 HYES HNO he
            go_wp2_with ((go_at_call 74; with_reducible refine (HR.out _).mono ?_); rintro _ w1 ⟨rfl, hb1⟩; have hb1s := hb1.size; (try simp only [World.size_alloc, World.size_setCell, World.size_drew, World.heap_drewN] at hb1s); obtain ⟨hb1c, hb1f⟩ := bcell hb1; (try have : w.heap.size < w1.heap.size := by omega); (try have : w.heap.size + 1 < w1.heap.size := by omega); (try have : w.heap.size + 1 + 1 < w1.heap.size := by omega); (try have : w.heap.size + 1 + 1 + 1 < w1.heap.size := by omega))
            first | (go_region_with fail) | fail
            all_goals
              refine wp_named (fun W => Bk W w.heap.size 45 (lcells n) ∧ Bk W (w.heap.size + 1) 26 [.bool false, .int .u64 0, .int .u64 0, .int .i64 0] ∧ Below w.heap.size w W) ⟨?h1, ?h2, ?h3⟩ ?_
              case h1 =>
                have b0 := HB0.out
                ((repeat (first | (with_reducible assumption) | ((with_reducible refine Bk.new_ ?_); (first | rfl | (simp only [World.size_alloc, World.size_setCell, World.size_drew, World.heap_drewN]; done))) | (with_reducible refine Bk.alloc ?_ _) | (with_reducible refine Bk.drew ?_) | (with_reducible refine Bk.drewN ?_ _) | ((with_reducible refine Bk.far ?_ ?_ _); rotate_left; focus (simp only []; omega)) | ((with_reducible refine Bk.below ?_ (by with_reducible assumption) ?_); rotate_left; focus (go_size; done)))); done)
              case h2 =>
                have b1 := HB1.out
                ((repeat (first | (with_reducible assumption) | ((with_reducible refine Bk.new_ ?_); (first | rfl | (simp only [World.size_alloc, World.size_setCell, World.size_drew, World.heap_drewN]; done))) | (with_reducible refine Bk.alloc ?_ _) | (with_reducible refine Bk.drew ?_) | (with_reducible refine Bk.drewN ?_ _) | ((with_reducible refine Bk.far ?_ ?_ _); rotate_left; focus (simp only []; omega)) | ((with_reducible refine Bk.below ?_ (by with_reducible assumption) ?_); rotate_left; focus (go_size; done)))); done)
              case h3 => ((repeat' (first | (with_reducible exact Below.refl _ _) | (with_reducible assumption) | (with_reducible refine Below.drew ?_) | (with_reducible refine below_drewN ?_ _) | ((with_reducible refine Below.alloc ?_ ?_ _); rotate_left; focus (go_size; done)) | ((with_reducible refine Below.setCell ?_ ?_ _); rotate_left; focus (go_size; done)) | ((with_reducible refine Below.trans ?_ (Below.mono (by with_reducible assumption) ?_)); rotate_left; focus (go_size; done)))); done)
              rintro W ⟨k1, k2, mb⟩
              go_wp2_with fail
              go_roundg j
              case measure => omega
              case rel => exact ⟨by omega, by omega, rfl, HNX, k1, k2, mb⟩
end Go.Proofs.Ythkgjodidkpaeaa

set_option linter.unusedSimpArgs false
set_option linter.unusedVariables false
namespace Go.Proofs.Ythkgjodidkpaeaa
open Go.RowKit

set_option maxHeartbeats 4000000 in
theorem order_any (n m : Nat) (hn : n < 2 ^ 256) (hm : m < 2 ^ 256) (w : World) : Calls Try.prog 48 #[.agg #[.int .u64 (wd n 0), .int .u64 (wd n 1), .int .u64 (wd n 2), .int .u64 (wd n 3)], .agg #[.int .u64 (wd m 0), .int .u64 (wd m 1), .int .u64 (wd m 2), .int .u64 (wd m 3)]] w fun e w' => e = .returned (.int .i64 (cmpN n m)) ∧ Below w.heap.size w w' := by
  have H0 := Far.mk (top_none hn hm)
  obtain ⟨cc, hcc⟩ : ∃ cc, cc = cmpN n m := ⟨_, rfl⟩
  rw [← hcc]
  have HC := Lib.hid hcc
  clear hn hm hcc
  go_enter Try.func48, Try.ntmps48
  go_wp2_with fail
  go_loopg [5] 4 (fun k i wr => k ≤ 4 ∧ i = .int .i64 ((k : Int) - 1) ∧ Far (n / 2 ^ (64 * k) = m / 2 ^ (64 * k)) ∧ Bk wr w.heap.size 45 (lcells n) ∧ Bk wr (w.heap.size + 1) 45 (lcells m) ∧ Below w.heap.size w wr)
  case atStart => exact ⟨Nat.le_refl _, rfl, H0, by rw [lcells_eq]; (repeat (first | (with_reducible assumption) | ((with_reducible refine Bk.new_ ?_); (first | rfl | (simp only [World.size_alloc, World.size_setCell, World.size_drew, World.heap_drewN]; done))) | (with_reducible refine Bk.alloc ?_ _) | (with_reducible refine Bk.drew ?_) | (with_reducible refine Bk.drewN ?_ _) | ((with_reducible refine Bk.far ?_ ?_ _); rotate_left; focus (simp only []; omega)) | ((with_reducible refine Bk.below ?_ (by with_reducible assumption) ?_); rotate_left; focus (go_size; done)))), by rw [lcells_eq]; (repeat (first | (with_reducible assumption) | ((with_reducible refine Bk.new_ ?_); (first | rfl | (simp only [World.size_alloc, World.size_setCell, World.size_drew, World.heap_drewN]; done))) | (with_reducible refine Bk.alloc ?_ _) | (with_reducible refine Bk.drew ?_) | (with_reducible refine Bk.drewN ?_ _) | ((with_reducible refine Bk.far ?_ ?_ _); rotate_left; focus (simp only []; omega)) | ((with_reducible refine Bk.below ?_ (by with_reducible assumption) ?_); rotate_left; focus (go_size; done)))), by (repeat' (first | (with_reducible exact Below.refl _ _) | (with_reducible assumption) | (with_reducible refine Below.drew ?_) | (with_reducible refine below_drewN ?_ _) | ((with_reducible refine Below.alloc ?_ ?_ _); rotate_left; focus (go_size; done)) | ((with_reducible refine Below.setCell ?_ ?_ _); rotate_left; focus (go_size; done)) | ((with_reducible refine Below.trans ?_ (Below.mono (by with_reducible assumption) ?_)); rotate_left; focus (go_size; done))))⟩
  case round =>
    obtain ⟨hk, rfl, hd, b0, b1, hbel⟩ := hrel
    have HB0 := Lib.hid b0
    have HB1 := Lib.hid b1
    clear b0 b1 H0
    by_cases hz : gk = 0
    · subst hz
      have e : n = m := by have := hd.out; rwa [Nat.mul_zero, Nat.pow_zero, Nat.div_one, Nat.div_one] at this
      have hc : cmpN n m = 0 := by unfold cmpN; rw [if_pos e]
      have HD := Lib.hid hc
      have h0 : ¬ (0 : Int) ≤ ((0 : Nat) : Int) - 1 := by omega
      clear e hc hd
      go_wp2_with fail
      go_ret
      exact ⟨ret_int (by rw [HC.out, HD.out]), by (repeat' (first | (with_reducible exact Below.refl _ _) | (with_reducible assumption) | (with_reducible refine Below.drew ?_) | (with_reducible refine below_drewN ?_ _) | ((with_reducible refine Below.alloc ?_ ?_ _); rotate_left; focus (go_size; done)) | ((with_reducible refine Below.setCell ?_ ?_ _); rotate_left; focus (go_size; done)) | ((with_reducible refine Below.trans ?_ (Below.mono (by with_reducible assumption) ?_)); rotate_left; focus (go_size; done))))⟩
    · obtain ⟨j, rfl⟩ : ∃ j, gk = j + 1 := ⟨gk - 1, by omega⟩
      have j4 : j < 4 := by omega
      have hx : ((j + 1 : Nat) : Int) - 1 = (j : Int) := by omega
      have c0 : wr.cell? ⟨w.heap.size, j, none⟩ = some (.int .u64 (wd n j)) := HB0.out.cell j (lcells_at n j j4)
      have c1 : wr.cell? ⟨w.heap.size + 1, j, none⟩ = some (.int .u64 (wd m j)) := HB1.out.cell j (lcells_at m j j4)
      obtain ⟨x, ex⟩ : ∃ x, x = wd n j := ⟨_, rfl⟩
      obtain ⟨y, ey⟩ : ∃ y, y = wd m j := ⟨_, rfl⟩
      rw [← ex] at c0
      rw [← ey] at c1
      have HX := Lib.hid ex
      have HY := Lib.hid ey
      clear ex ey hz
      rw [hx]
      have j0 : (0 : Int) ≤ (j : Int) := by omega
      have j3 : (j : Int) < 4 := by omega
      rcases Int.lt_trichotomy x y with hl | he | hg
      · have hlt : n < m := top_lt hd.out (by rw [← HX.out, ← HY.out]; exact hl)
        have hc : cmpN n m = -1 := by unfold cmpN; rw [if_neg (by omega), if_pos hlt]
        have HD := Lib.hid hc
        clear hc hlt hx
        go_wp2_with fail
        go_region
        all_goals
          go_wp2_with fail
          go_ret
          exact ⟨ret_int (by rw [HC.out, HD.out]), by (repeat' (first | (with_reducible exact Below.refl _ _) | (with_reducible assumption) | (with_reducible refine Below.drew ?_) | (with_reducible refine below_drewN ?_ _) | ((with_reducible refine Below.alloc ?_ ?_ _); rotate_left; focus (go_size; done)) | ((with_reducible refine Below.setCell ?_ ?_ _); rotate_left; focus (go_size; done)) | ((with_reducible refine Below.trans ?_ (Below.mono (by with_reducible assumption) ?_)); rotate_left; focus (go_size; done))))⟩
      · have heq : n / 2 ^ (64 * j) = m / 2 ^ (64 * j) := top_eq hd.out (by rw [← HX.out, ← HY.out]; exact he)
        have HE := Far.mk heq
        clear heq hx
        subst he
        go_wp2_with fail
        go_region
        all_goals
          go_wp2_with fail
          go_region
          all_goals
            go_wp2_with fail
            go_roundg j
            case measure => omega
            case rel =>
              have b0 := HB0.out
              have b1 := HB1.out
              exact ⟨by omega, rfl, HE, by (repeat (first | (with_reducible assumption) | ((with_reducible refine Bk.new_ ?_); (first | rfl | (simp only [World.size_alloc, World.size_setCell, World.size_drew, World.heap_drewN]; done))) | (with_reducible refine Bk.alloc ?_ _) | (with_reducible refine Bk.drew ?_) | (with_reducible refine Bk.drewN ?_ _) | ((with_reducible refine Bk.far ?_ ?_ _); rotate_left; focus (simp only []; omega)) | ((with_reducible refine Bk.below ?_ (by with_reducible assumption) ?_); rotate_left; focus (go_size; done)))), by (repeat (first | (with_reducible assumption) | ((with_reducible refine Bk.new_ ?_); (first | rfl | (simp only [World.size_alloc, World.size_setCell, World.size_drew, World.heap_drewN]; done))) | (with_reducible refine Bk.alloc ?_ _) | (with_reducible refine Bk.drew ?_) | (with_reducible refine Bk.drewN ?_ _) | ((with_reducible refine Bk.far ?_ ?_ _); rotate_left; focus (simp only []; omega)) | ((with_reducible refine Bk.below ?_ (by with_reducible assumption) ?_); rotate_left; focus (go_size; done)))), by (repeat' (first | (with_reducible exact Below.refl _ _) | (with_reducible assumption) | (with_reducible refine Below.drew ?_) | (with_reducible refine below_drewN ?_ _) | ((with_reducible refine Below.alloc ?_ ?_ _); rotate_left; focus (go_size; done)) | ((with_reducible refine Below.setCell ?_ ?_ _); rotate_left; focus (go_size; done)) | ((with_reducible refine Below.trans ?_ (Below.mono (by with_reducible assumption) ?_)); rotate_left; focus (go_size; done))))⟩
      · have hlt : m < n := top_lt hd.out.symm (by rw [← HX.out, ← HY.out]; exact hg)
        have hc : cmpN n m = 1 := by unfold cmpN; rw [if_neg (by omega), if_neg (by omega)]
        have HD := Lib.hid hc
        have hg2 : ¬ x < y := by omega
        clear hc hlt hx
        go_wp2_with fail
        go_region
        all_goals
          go_wp2_with fail
          go_region
          all_goals
            go_wp2_with fail
            go_ret
            exact ⟨ret_int (by rw [HC.out, HD.out]), by (repeat' (first | (with_reducible exact Below.refl _ _) | (with_reducible assumption) | (with_reducible refine Below.drew ?_) | (with_reducible refine below_drewN ?_ _) | ((with_reducible refine Below.alloc ?_ ?_ _); rotate_left; focus (go_size; done)) | ((with_reducible refine Below.setCell ?_ ?_ _); rotate_left; focus (go_size; done)) | ((with_reducible refine Below.trans ?_ (Below.mono (by with_reducible assumption) ?_)); rotate_left; focus (go_size; done))))⟩
end Go.Proofs.Ythkgjodidkpaeaa

set_option linter.unusedSimpArgs false
set_option linter.unusedVariables false
namespace Go.Proofs.Ythkgjodidkpaeaa
open Go.RowKit

set_option maxHeartbeats 4000000 in
theorem plus4_any (n m : Nat) (hs : n + m < 2 ^ 256) (w : World) : Calls Try.prog 52 #[.agg #[.int .u64 (wd n 0), .int .u64 (wd n 1), .int .u64 (wd n 2), .int .u64 (wd n 3)], .agg #[.int .u64 (wd m 0), .int .u64 (wd m 1), .int .u64 (wd m 2), .int .u64 (wd m 3)]] w fun e w' => e = .returned (.agg #[.int .u64 (wd (n + m) 0), .int .u64 (wd (n + m) 1), .int .u64 (wd (n + m) 2), .int .u64 (wd (n + m) 3)]) ∧ Below w.heap.size w w' := by
  have hn : n < 2 ^ 256 := by omega
  have HN := Far.mk hn
  have HS := Far.mk hs
  obtain ⟨z, hz⟩ : ∃ z, z = n + m := ⟨_, rfl⟩
  rw [← hz]
  have HZ := Lib.hid hz
  clear hn hs hz
  go_enter Try.func52, Try.ntmps52
  go_wp2_with fail
  go_loopg [5, 7] 4 (fun k c i wr => ∃ (t : Nat) (cc : Int) (V : Nat), k + t = 4 ∧ i = .int .i64 t ∧ c = .int .u64 cc ∧ 0 ≤ cc ∧ cc ≤ 1 ∧ Far (V < 2 ^ 256) ∧ Far ((V : Int) + cc * ((2 ^ (64 * t) : Nat) : Int) = n + ((m % 2 ^ (64 * t) : Nat) : Int)) ∧
    Bk wr w.heap.size 45 (lcells V) ∧ Bk wr (w.heap.size + 1) 45 (lcells m) ∧ Bk wr (w.heap.size + 1 + 1) 45 [.int .u64 0, .int .u64 0, .int .u64 0, .int .u64 0] ∧ Below w.heap.size w wr)
  case atStart =>
    refine ⟨0, 0, n, rfl, rfl, rfl, by decide, by decide, HN, Far.mk ?_, by rw [lcells_eq]; (repeat (first | (with_reducible assumption) | ((with_reducible refine Bk.new_ ?_); (first | rfl | (simp only [World.size_alloc, World.size_setCell, World.size_drew, World.heap_drewN]; done))) | (with_reducible refine Bk.alloc ?_ _) | (with_reducible refine Bk.drew ?_) | (with_reducible refine Bk.drewN ?_ _) | ((with_reducible refine Bk.far ?_ ?_ _); rotate_left; focus (simp only []; omega)) | ((with_reducible refine Bk.below ?_ (by with_reducible assumption) ?_); rotate_left; focus (go_size; done)))), by rw [lcells_eq]; (repeat (first | (with_reducible assumption) | ((with_reducible refine Bk.new_ ?_); (first | rfl | (simp only [World.size_alloc, World.size_setCell, World.size_drew, World.heap_drewN]; done))) | (with_reducible refine Bk.alloc ?_ _) | (with_reducible refine Bk.drew ?_) | (with_reducible refine Bk.drewN ?_ _) | ((with_reducible refine Bk.far ?_ ?_ _); rotate_left; focus (simp only []; omega)) | ((with_reducible refine Bk.below ?_ (by with_reducible assumption) ?_); rotate_left; focus (go_size; done)))), by (repeat (first | (with_reducible assumption) | ((with_reducible refine Bk.new_ ?_); (first | rfl | (simp only [World.size_alloc, World.size_setCell, World.size_drew, World.heap_drewN]; done))) | (with_reducible refine Bk.alloc ?_ _) | (with_reducible refine Bk.drew ?_) | (with_reducible refine Bk.drewN ?_ _) | ((with_reducible refine Bk.far ?_ ?_ _); rotate_left; focus (simp only []; omega)) | ((with_reducible refine Bk.below ?_ (by with_reducible assumption) ?_); rotate_left; focus (go_size; done)))), by (repeat' (first | (with_reducible exact Below.refl _ _) | (with_reducible assumption) | (with_reducible refine Below.drew ?_) | (with_reducible refine below_drewN ?_ _) | ((with_reducible refine Below.alloc ?_ ?_ _); rotate_left; focus (go_size; done)) | ((with_reducible refine Below.setCell ?_ ?_ _); rotate_left; focus (go_size; done)) | ((with_reducible refine Below.trans ?_ (Below.mono (by with_reducible assumption) ?_)); rotate_left; focus (go_size; done))))⟩
    rw [Nat.mul_zero, Nat.pow_zero, Nat.mod_one]; simp
  case round =>
    obtain ⟨t, cc, V, hk, rfl, rfl, c0, c1, hV, hE, b0, b1, b2, hbel⟩ := hrel
    have HK := Lib.hid hk
    have HB0 := Lib.hid b0
    have HB1 := Lib.hid b1
    have HB2 := Lib.hid b2
    have t4 : t ≤ 4 := by omega
    have l2 := b2.lt
    clear hk b0 b1 b2
    by_cases hlt : t < 4
    · have t0 : (0 : Int) ≤ (t : Int) := by omega
      have t3 : (t : Int) < 4 := by omega
      have d0 : wr.cell? ⟨w.heap.size, t, none⟩ = some (.int .u64 (wd V t)) := HB0.out.cell t (lcells_at V t hlt)
      have d1 : wr.cell? ⟨w.heap.size + 1, t, none⟩ = some (.int .u64 (wd m t)) := HB1.out.cell t (lcells_at m t hlt)
      have f0 := HB0.out.frozen t
      obtain ⟨s, k, f, hC⟩ := add64_ex (wd V t) (wd m t) cc (wd_nn V t) (wd_lt V t) (wd_nn m t) (wd_lt m t) c0 c1
      unfold Carry at hC
      obtain ⟨i3, s0, s1, k0, k1⟩ := hC
      obtain ⟨V', v1, v2, v3, v4, v5⟩ := lcells_set V t hlt hV.out s s0 s1
      have HNEW := Far.mk (plus_word hE.out rfl rfl v2 i3)
      have HV' := Far.mk v1
      have HL := Lib.hid v3
      clear i3 v1 v2 v3 v4 v5 hE hV
      generalize wd V t = x at *
      generalize wd m t = y at *
      go_wp2_with fail
      go_region
      all_goals
        go_wp2_with fail
        go_roundg (gk - 1)
        case measure => have := HK.out; omega
        case rel =>
          have b0 := HB0.out
          have b1 := HB1.out
          have b2 := HB2.out
          refine ⟨t + 1, k, V', by have := HK.out; omega, by go_num, rfl, k0, k1, HV', HNEW, ?_, by (repeat (first | (with_reducible assumption) | ((with_reducible refine Bk.new_ ?_); (first | rfl | (simp only [World.size_alloc, World.size_setCell, World.size_drew, World.heap_drewN]; done))) | (with_reducible refine Bk.alloc ?_ _) | (with_reducible refine Bk.drew ?_) | (with_reducible refine Bk.drewN ?_ _) | ((with_reducible refine Bk.far ?_ ?_ _); rotate_left; focus (simp only []; omega)) | ((with_reducible refine Bk.below ?_ (by with_reducible assumption) ?_); rotate_left; focus (go_size; done)))), by (repeat (first | (with_reducible assumption) | ((with_reducible refine Bk.new_ ?_); (first | rfl | (simp only [World.size_alloc, World.size_setCell, World.size_drew, World.heap_drewN]; done))) | (with_reducible refine Bk.alloc ?_ _) | (with_reducible refine Bk.drew ?_) | (with_reducible refine Bk.drewN ?_ _) | ((with_reducible refine Bk.far ?_ ?_ _); rotate_left; focus (simp only []; omega)) | ((with_reducible refine Bk.below ?_ (by with_reducible assumption) ?_); rotate_left; focus (go_size; done)))), by (repeat' (first | (with_reducible exact Below.refl _ _) | (with_reducible assumption) | (with_reducible refine Below.drew ?_) | (with_reducible refine below_drewN ?_ _) | ((with_reducible refine Below.alloc ?_ ?_ _); rotate_left; focus (go_size; done)) | ((with_reducible refine Below.setCell ?_ ?_ _); rotate_left; focus (go_size; done)) | ((with_reducible refine Below.trans ?_ (Below.mono (by with_reducible assumption) ?_)); rotate_left; focus (go_size; done))))⟩
          rw [← HL.out]
          repeat (first | refine Bk.drew ?_ | refine Bk.drewN ?_ _)
          exact b0.set_ _ _
    · obtain rfl : t = 4 := by omega
      have e := plus_end hV.out HS.out c0 hE.out
      rw [← HZ.out] at e
      subst e
      have b0 := HB0.out
      have b2 := HB2.out
      rw [lcells_eq] at b0
      have d0 := b0.cell 0 rfl
      have d1 := b0.cell 1 rfl
      have d2 := b0.cell 2 rfl
      have d3 := b0.cell 3 rfl
      have e0 := b2.cell 0 rfl
      have e1 := b2.cell 1 rfl
      have e2 := b2.cell 2 rfl
      have e3 := b2.cell 3 rfl
      have g0 := b2.frozen 0
      have g1 := b2.frozen 1
      have g2 := b2.frozen 2
      have g3 := b2.frozen 3
      clear b0 b2 hE hV HS
      go_wp2_with fail
      refine bodyPost_ret (by simp [results, Try.results52, go_sem, *]; try rfl) rfl ?_
      exact ⟨rfl, by (repeat' (first | (with_reducible exact Below.refl _ _) | (with_reducible assumption) | (with_reducible refine Below.drew ?_) | (with_reducible refine below_drewN ?_ _) | ((with_reducible refine Below.alloc ?_ ?_ _); rotate_left; focus (go_size; done)) | ((with_reducible refine Below.setCell ?_ ?_ _); rotate_left; focus (go_size; done)) | ((with_reducible refine Below.trans ?_ (Below.mono (by with_reducible assumption) ?_)); rotate_left; focus (go_size; done))))⟩
end Go.Proofs.Ythkgjodidkpaeaa

set_option linter.unusedSimpArgs false
set_option linter.unusedVariables false
namespace Go.Proofs.Ythkgjodidkpaeaa
open Go.RowKit

set_option maxHeartbeats 4000000 in
theorem minus4_any (n m : Nat) (hn : n < 2 ^ 256) (hs : m ≤ n) (w : World) : Calls Try.prog 53 #[.agg #[.int .u64 (wd n 0), .int .u64 (wd n 1), .int .u64 (wd n 2), .int .u64 (wd n 3)], .agg #[.int .u64 (wd m 0), .int .u64 (wd m 1), .int .u64 (wd m 2), .int .u64 (wd m 3)]] w fun e w' => e = .returned (.agg #[.int .u64 (wd (n - m) 0), .int .u64 (wd (n - m) 1), .int .u64 (wd (n - m) 2), .int .u64 (wd (n - m) 3)]) ∧ Below w.heap.size w w' := by
  have HN := Far.mk hn
  have HS := Far.mk hs
  obtain ⟨z, hz⟩ : ∃ z, z = n - m := ⟨_, rfl⟩
  rw [← hz]
  have HZ := Lib.hid hz
  clear hn hs hz
  go_enter Try.func53, Try.ntmps53
  go_wp2_with fail
  go_loopg [5, 7] 4 (fun k c i wr => ∃ (t : Nat) (cc : Int) (V : Nat), k + t = 4 ∧ i = .int .i64 t ∧ c = .int .u64 cc ∧ 0 ≤ cc ∧ cc ≤ 1 ∧ Far (V < 2 ^ 256) ∧ Far ((V : Int) - cc * ((2 ^ (64 * t) : Nat) : Int) = n - ((m % 2 ^ (64 * t) : Nat) : Int)) ∧
    Bk wr w.heap.size 45 (lcells V) ∧ Bk wr (w.heap.size + 1) 45 (lcells m) ∧ Bk wr (w.heap.size + 1 + 1) 45 [.int .u64 0, .int .u64 0, .int .u64 0, .int .u64 0] ∧ Below w.heap.size w wr)
  case atStart =>
    refine ⟨0, 0, n, rfl, rfl, rfl, by decide, by decide, HN, Far.mk ?_, by rw [lcells_eq]; (repeat (first | (with_reducible assumption) | ((with_reducible refine Bk.new_ ?_); (first | rfl | (simp only [World.size_alloc, World.size_setCell, World.size_drew, World.heap_drewN]; done))) | (with_reducible refine Bk.alloc ?_ _) | (with_reducible refine Bk.drew ?_) | (with_reducible refine Bk.drewN ?_ _) | ((with_reducible refine Bk.far ?_ ?_ _); rotate_left; focus (simp only []; omega)) | ((with_reducible refine Bk.below ?_ (by with_reducible assumption) ?_); rotate_left; focus (go_size; done)))), by rw [lcells_eq]; (repeat (first | (with_reducible assumption) | ((with_reducible refine Bk.new_ ?_); (first | rfl | (simp only [World.size_alloc, World.size_setCell, World.size_drew, World.heap_drewN]; done))) | (with_reducible refine Bk.alloc ?_ _) | (with_reducible refine Bk.drew ?_) | (with_reducible refine Bk.drewN ?_ _) | ((with_reducible refine Bk.far ?_ ?_ _); rotate_left; focus (simp only []; omega)) | ((with_reducible refine Bk.below ?_ (by with_reducible assumption) ?_); rotate_left; focus (go_size; done)))), by (repeat (first | (with_reducible assumption) | ((with_reducible refine Bk.new_ ?_); (first | rfl | (simp only [World.size_alloc, World.size_setCell, World.size_drew, World.heap_drewN]; done))) | (with_reducible refine Bk.alloc ?_ _) | (with_reducible refine Bk.drew ?_) | (with_reducible refine Bk.drewN ?_ _) | ((with_reducible refine Bk.far ?_ ?_ _); rotate_left; focus (simp only []; omega)) | ((with_reducible refine Bk.below ?_ (by with_reducible assumption) ?_); rotate_left; focus (go_size; done)))), by (repeat' (first | (with_reducible exact Below.refl _ _) | (with_reducible assumption) | (with_reducible refine Below.drew ?_) | (with_reducible refine below_drewN ?_ _) | ((with_reducible refine Below.alloc ?_ ?_ _); rotate_left; focus (go_size; done)) | ((with_reducible refine Below.setCell ?_ ?_ _); rotate_left; focus (go_size; done)) | ((with_reducible refine Below.trans ?_ (Below.mono (by with_reducible assumption) ?_)); rotate_left; focus (go_size; done))))⟩
    rw [Nat.mul_zero, Nat.pow_zero, Nat.mod_one]; simp
  case round =>
    obtain ⟨t, cc, V, hk, rfl, rfl, c0, c1, hV, hE, b0, b1, b2, hbel⟩ := hrel
    have HK := Lib.hid hk
    have HB0 := Lib.hid b0
    have HB1 := Lib.hid b1
    have HB2 := Lib.hid b2
    have t4 : t ≤ 4 := by omega
    have l2 := b2.lt
    clear hk b0 b1 b2
    by_cases hlt : t < 4
    · have t0 : (0 : Int) ≤ (t : Int) := by omega
      have t3 : (t : Int) < 4 := by omega
      have d0 : wr.cell? ⟨w.heap.size, t, none⟩ = some (.int .u64 (wd V t)) := HB0.out.cell t (lcells_at V t hlt)
      have d1 : wr.cell? ⟨w.heap.size + 1, t, none⟩ = some (.int .u64 (wd m t)) := HB1.out.cell t (lcells_at m t hlt)
      have f0 := HB0.out.frozen t
      obtain ⟨s, k, f, hC⟩ := sub64_ex (wd V t) (wd m t) cc (wd_nn V t) (wd_lt V t) (wd_nn m t) (wd_lt m t) c0 c1
      unfold Borrow at hC
      obtain ⟨i3, s0, s1, k0, k1⟩ := hC
      obtain ⟨V', v1, v2, v3, v4, v5⟩ := lcells_set V t hlt hV.out s s0 s1
      have HNEW := Far.mk (minus_word hE.out rfl rfl v2 i3)
      have HV' := Far.mk v1
      have HL := Lib.hid v3
      clear i3 v1 v2 v3 v4 v5 hE hV
      generalize wd V t = x at *
      generalize wd m t = y at *
      go_wp2_with fail
      go_region
      all_goals
        go_wp2_with fail
        go_roundg (gk - 1)
        case measure => have := HK.out; omega
        case rel =>
          have b0 := HB0.out
          have b1 := HB1.out
          have b2 := HB2.out
          refine ⟨t + 1, k, V', by have := HK.out; omega, by go_num, rfl, k0, k1, HV', HNEW, ?_, by (repeat (first | (with_reducible assumption) | ((with_reducible refine Bk.new_ ?_); (first | rfl | (simp only [World.size_alloc, World.size_setCell, World.size_drew, World.heap_drewN]; done))) | (with_reducible refine Bk.alloc ?_ _) | (with_reducible refine Bk.drew ?_) | (with_reducible refine Bk.drewN ?_ _) | ((with_reducible refine Bk.far ?_ ?_ _); rotate_left; focus (simp only []; omega)) | ((with_reducible refine Bk.below ?_ (by with_reducible assumption) ?_); rotate_left; focus (go_size; done)))), by (repeat (first | (with_reducible assumption) | ((with_reducible refine Bk.new_ ?_); (first | rfl | (simp only [World.size_alloc, World.size_setCell, World.size_drew, World.heap_drewN]; done))) | (with_reducible refine Bk.alloc ?_ _) | (with_reducible refine Bk.drew ?_) | (with_reducible refine Bk.drewN ?_ _) | ((with_reducible refine Bk.far ?_ ?_ _); rotate_left; focus (simp only []; omega)) | ((with_reducible refine Bk.below ?_ (by with_reducible assumption) ?_); rotate_left; focus (go_size; done)))), by (repeat' (first | (with_reducible exact Below.refl _ _) | (with_reducible assumption) | (with_reducible refine Below.drew ?_) | (with_reducible refine below_drewN ?_ _) | ((with_reducible refine Below.alloc ?_ ?_ _); rotate_left; focus (go_size; done)) | ((with_reducible refine Below.setCell ?_ ?_ _); rotate_left; focus (go_size; done)) | ((with_reducible refine Below.trans ?_ (Below.mono (by with_reducible assumption) ?_)); rotate_left; focus (go_size; done))))⟩
          rw [← HL.out]
          repeat (first | refine Bk.drew ?_ | refine Bk.drewN ?_ _)
          exact b0.set_ _ _
    · obtain rfl : t = 4 := by omega
      have e := minus_end hV.out HN.out HS.out c0 hE.out
      rw [← HZ.out] at e
      subst e
      have b0 := HB0.out
      have b2 := HB2.out
      rw [lcells_eq] at b0
      have d0 := b0.cell 0 rfl
      have d1 := b0.cell 1 rfl
      have d2 := b0.cell 2 rfl
      have d3 := b0.cell 3 rfl
      have e0 := b2.cell 0 rfl
      have e1 := b2.cell 1 rfl
      have e2 := b2.cell 2 rfl
      have e3 := b2.cell 3 rfl
      have g0 := b2.frozen 0
      have g1 := b2.frozen 1
      have g2 := b2.frozen 2
      have g3 := b2.frozen 3
      clear b0 b2 hE hV HS
      go_wp2_with fail
      refine bodyPost_ret (by simp [results, Try.results53, go_sem, *]; try rfl) rfl ?_
      exact ⟨rfl, by (repeat' (first | (with_reducible exact Below.refl _ _) | (with_reducible assumption) | (with_reducible refine Below.drew ?_) | (with_reducible refine below_drewN ?_ _) | ((with_reducible refine Below.alloc ?_ ?_ _); rotate_left; focus (go_size; done)) | ((with_reducible refine Below.setCell ?_ ?_ _); rotate_left; focus (go_size; done)) | ((with_reducible refine Below.trans ?_ (Below.mono (by with_reducible assumption) ?_)); rotate_left; focus (go_size; done))))⟩
end Go.Proofs.Ythkgjodidkpaeaa

set_option linter.unusedSimpArgs false
set_option linter.unusedVariables false
namespace Go.Proofs.Ythkgjodidkpaeaa
open Go.RowKit

set_option maxRecDepth 100000 in
set_option maxHeartbeats 4000000 in
theorem beside_any (b : Bool) (c s : Nat) (down : Bool) (hc : c < B34) (hs : s ≤ 18) (hd : down = true → c ≠ 0) (w : World) :
    Calls Try.prog 69 #[.agg #[.bool b, .int .u64 (wd (c) 1), .int .u64 (wd (c) 0), .int .i64 s], .bool down] w fun e w' => e = .returned (.tuple #[.agg #[.bool false, .int .u64 (wd ((NbC (nb c s down))) 1), .int .u64 (wd ((NbC (nb c s down))) 0), .int .i64 (NbS (nb c s down))], .int .i64 (NbE (nb c s down))]) ∧ Below w.heap.size w w' := by
  have hU : unit c s < 10 ^ 52 := unit_lt hc
  have hx0 : down = true → 0 < unit c s := fun h => Nat.mul_pos (Nat.pos_of_ne_zero (hd h)) (Nat.pow_pos (by decide))
  have HI : Hid (∀ W, Calls Try.prog 79 #[.agg #[.int .u64 (wd c 1), .int .u64 (wd c 0)], .int .i64 (18 - (s : Int))] W fun e w' => e = .returned (.agg #[.int .u64 (wd (unit c s) 0), .int .u64 (wd (unit c s) 1), .int .u64 (wd (unit c s) 2), .int .u64 (wd (unit c s) 3)]) ∧ Below W.heap.size W w') := Lib.hid (fun W => by
    have := times_sub c 18 s hc hs (Nat.le_refl _) W
    exact this)
  have gs0 : IntKind.i64.wrap (18 - (s : Int)) = 18 - (s : Int) := IntWalk.i64_in _ (by omega)
  have HBT := Lib.hid (fun (j : Nat) (hj : j ≤ 18) W => times_any4 B34 (18 - j) B34_lt (by omega) (Nat.lt_of_le_of_lt (bound_units j) (by decide)) W)
  have HB34 : Hid (∀ W, Calls Try.prog 88 #[.int .i64 34] W fun e w' => e = .returned (.agg #[.int .u64 (wd B34 1), .int .u64 (wd B34 0)]) ∧ Below W.heap.size W w') := Lib.hid (fun W => power_any 34 (by decide) W)
  obtain ⟨r, hr⟩ : ∃ r, r = nb c s down := ⟨_, rfl⟩
  have ER := Far.mk hr
  unfold nb at hr
  have HR := Far.mk hr
  obtain ⟨X, hX⟩ : ∃ X, X = unit c s := ⟨_, rfl⟩
  rw [← hX] at hU hx0 HI HR
  rw [← ER.out]
  obtain ⟨C, hC⟩ : ∃ C, C = NbC r := ⟨_, rfl⟩
  obtain ⟨S, hS⟩ : ∃ S, S = NbS r := ⟨_, rfl⟩
  obtain ⟨E, hE⟩ : ∃ E, E = NbE r := ⟨_, rfl⟩
  rw [← hC, ← hS, ← hE]
  have EC := Far.mk hC
  have ES := Far.mk hS
  have EE := Far.mk hE
  have HUU := Far.mk hU
  have HX0 := Lib.hid hx0
  have H19 := Far.mk (K19_eq c)
  generalize wd c 0 = x0 at *
  generalize wd c 1 = x1 at *
  clear hr hX hC hS hE hU hx0 hc hd ER
  obtain ⟨p0, hp0⟩ : ∃ p, p = wd B34 0 := ⟨_, rfl⟩
  obtain ⟨p1, hp1⟩ : ∃ p, p = wd B34 1 := ⟨_, rfl⟩
  rw [← hp0, ← hp1] at HBT HB34
  clear hp0 hp1
  go_enter Try.func69, Try.ntmps69
  go_wp2_with fail
  refine (HI.out _).mono ?_
  rintro _ w1 ⟨rfl, hb1⟩; have hb1s := hb1.size; (try simp only [World.size_alloc, World.size_setCell, World.size_drew, World.heap_drewN] at hb1s); obtain ⟨hb1c, hb1f⟩ := bcell hb1; (try have : w.heap.size < w1.heap.size := by omega); (try have : w.heap.size + 1 < w1.heap.size := by omega); (try have : w.heap.size + 1 + 1 < w1.heap.size := by omega); (try have : w.heap.size + 1 + 1 + 1 < w1.heap.size := by omega)
  go_wp2_with fail
  go_loopg [7] 19 (fun kk sv wr => kk ≤ 19 ∧ sv = .int .i64 ((kk : Int) - 1) ∧ Far (r = upK X down kk) ∧ Far (kk = 19 ∨ B34 * 10 ^ (18 - kk) < X ∨ down = false) ∧ Bk wr w1.heap.size 45 (lcells X) ∧ Bk wr (w.heap.size + 1) 26 [.bool false, .int .u64 0, .int .u64 0, .int .i64 0] ∧ w1.heap.size < wr.heap.size ∧ Below w.heap.size w wr)
  case atStart => exact ⟨Nat.le_refl _, rfl, Far.mk (by rw [HR.out, H19.out]), Far.mk (.inl rfl), by rw [lcells_eq]; (repeat (first | (with_reducible assumption) | ((with_reducible refine Bk.new_ ?_); (first | rfl | (simp only [World.size_alloc, World.size_setCell, World.size_drew, World.heap_drewN]; done))) | (with_reducible refine Bk.alloc ?_ _) | (with_reducible refine Bk.drew ?_) | (with_reducible refine Bk.drewN ?_ _) | ((with_reducible refine Bk.far ?_ ?_ _); rotate_left; focus (simp only []; omega)) | ((with_reducible refine Bk.below ?_ (by with_reducible assumption) ?_); rotate_left; focus (go_size; done)))), by (repeat (first | (with_reducible assumption) | ((with_reducible refine Bk.new_ ?_); (first | rfl | (simp only [World.size_alloc, World.size_setCell, World.size_drew, World.heap_drewN]; done))) | (with_reducible refine Bk.alloc ?_ _) | (with_reducible refine Bk.drew ?_) | (with_reducible refine Bk.drewN ?_ _) | ((with_reducible refine Bk.far ?_ ?_ _); rotate_left; focus (simp only []; omega)) | ((with_reducible refine Bk.below ?_ (by with_reducible assumption) ?_); rotate_left; focus (go_size; done)))), by go_size, by (repeat' (first | (with_reducible exact Below.refl _ _) | (with_reducible assumption) | (with_reducible refine Below.drew ?_) | (with_reducible refine below_drewN ?_ _) | ((with_reducible refine Below.alloc ?_ ?_ _); rotate_left; focus (go_size; done)) | ((with_reducible refine Below.setCell ?_ ?_ _); rotate_left; focus (go_size; done)) | ((with_reducible refine Below.trans ?_ (Below.mono (by with_reducible assumption) ?_)); rotate_left; focus (go_size; done))))⟩
  case round =>
    obtain ⟨hk19, rfl, hrr, hroom, b0, b1, hsz, hbel⟩ := hrel
    have HB0 := Lib.hid b0
    have HB1 := Lib.hid b1
    have hbs := hbel.size
    have l1 := b1.lt
    have w1l : w.heap.size + 1 < w1.heap.size := by omega
    by_cases hz : gk = 0
    · subst hz
      have hm : ¬ (0 : Int) ≤ ((0 : Nat) : Int) - 1 := by omega
      have b1_0 := b1.cell 0 rfl
      have b1_1 := b1.cell 1 rfl
      have b1_2 := b1.cell 2 rfl
      have b1_3 := b1.cell 3 rfl
      have b1_4 := b1.frozen 0
      have b1_5 := b1.frozen 1
      have b1_6 := b1.frozen 2
      have b1_7 := b1.frozen 3
      clear b0 b1
      go_wp2_with fail
      refine bodyPost_ret (by simp [results, Try.results69, go_sem, *]; try rfl) rfl ?_
      have e := hrr.out
      exact ⟨by rw [EC.out, ES.out, EE.out, e, show upK X down 0 = (0, false) from rfl, (nb_no 0).1, (nb_no 0).2.1, (nb_no 0).2.2, wd_zero, wd_zero]; rfl, by (repeat' (first | (with_reducible exact Below.refl _ _) | (with_reducible assumption) | (with_reducible refine Below.drew ?_) | (with_reducible refine below_drewN ?_ _) | ((with_reducible refine Below.alloc ?_ ?_ _); rotate_left; focus (go_size; done)) | ((with_reducible refine Below.setCell ?_ ?_ _); rotate_left; focus (go_size; done)) | ((with_reducible refine Below.trans ?_ (Below.mono (by with_reducible assumption) ?_)); rotate_left; focus (go_size; done))))⟩
    · obtain ⟨j, rfl⟩ : ∃ j, gk = j + 1 := ⟨gk - 1, by omega⟩
      have hx : ((j + 1 : Nat) : Int) - 1 = (j : Int) := by omega
      rw [hx]
      have j0 : (0 : Int) ≤ (j : Int) := by omega
      have j18 : (j : Int) ≤ 18 := by omega
      have jn : j ≤ 18 := by omega
      have gw : IntKind.i64.wrap (18 - (j : Int)) = 18 - (j : Int) := IntWalk.i64_in _ (by omega)
      have HT : Hid (∀ W, Calls Try.prog 79 #[.agg #[.int .u64 p1, .int .u64 p0], .int .i64 (18 - (j : Int))] W fun e w' => e = .returned (.agg #[.int .u64 (wd (B34 * 10 ^ (18 - j)) 0), .int .u64 (wd (B34 * 10 ^ (18 - j)) 1), .int .u64 (wd (B34 * 10 ^ (18 - j)) 2), .int .u64 (wd (B34 * 10 ^ (18 - j)) 3)]) ∧ Below W.heap.size W w') := Lib.hid (fun W => by
        rw [show (18 : Int) - (j : Int) = ((18 - j : Nat) : Int) by omega]
        exact HBT.out j jn W)
      have hBd : B34 * 10 ^ (18 - j) < 2 ^ 256 := Nat.lt_of_le_of_lt (bound_units j) (by decide)
      have hX2 : X < 2 ^ 256 := Nat.lt_trans HUU.out (by decide)
      have HO := Lib.hid (fun W => order_any X (B34 * 10 ^ (18 - j)) hX2 hBd W)
      have HP : Hid (∀ W, Calls Try.prog 88 #[.int .i64 (18 - (j : Int))] W fun e w' => e = .returned (.agg #[.int .u64 (wd (10 ^ (18 - j)) 1), .int .u64 (wd (10 ^ (18 - j)) 0)]) ∧ Below W.heap.size W w') := Lib.hid (fun W => by
        rw [show (18 : Int) - (j : Int) = ((18 - j : Nat) : Int) by omega]
        exact power_any (18 - j) (by omega) W)
      have HL := Lib.hid (fun W => long_any (10 ^ (18 - j)) (ten_38 (by omega)) W)
      obtain ⟨st, hst⟩ : ∃ st, st = 10 ^ (18 - j) := ⟨_, rfl⟩
      obtain ⟨Bd, hB⟩ : ∃ Bd, Bd = B34 * 10 ^ (18 - j) := ⟨_, rfl⟩
      rw [← hst] at HP HL
      rw [← hB] at HT HO hBd
      have HST := Far.mk hst
      have HBD := Far.mk hB
      have hstl : st < 2 ^ 250 := by rw [hst]; exact Nat.lt_of_le_of_lt (step_le j) (by decide)
      have hX3 : X < 2 ^ 250 := Nat.lt_trans HUU.out (by decide)
      clear hst hB hz
      cases down
      · have HRR : Far (r = upK X false (j + 1)) := hrr
        by_cases hlt : X < Bd
        · have hcc : cmpN X Bd < 0 := by unfold cmpN; rw [if_neg (by omega), if_pos hlt]; decide
          have hcn : ¬ 0 ≤ cmpN X Bd := by omega
          have hsum : X + st < 2 ^ 256 := by omega
          have HPL := Lib.hid (fun W => plus4_any X st hsum W)
          have HF : Hid (∀ W, Calls Try.prog 51 #[.bool false, .agg #[.int .u64 (wd (X + st) 0), .int .u64 (wd (X + st) 1), .int .u64 (wd (X + st) 2), .int .u64 (wd (X + st) 3)], .int .i64 18] W fun e w' => e = .returned (.tuple #[.agg #[.bool (sg false (FitC ((X + st)) (10 ^ 18))), .int .u64 (wd (FitC ((X + st)) (10 ^ 18)) 1), .int .u64 (wd (FitC ((X + st)) (10 ^ 18)) 0), .int .i64 (FitS ((X + st)) (10 ^ 18))], .int .i64 (FitE (X + st) (10 ^ 18))]) ∧ Below W.heap.size W w') := Lib.hid (fun W => fit_any false (X + st) 18 hsum (by decide) W)
          generalize cmpN X Bd = cc at *
          have HLT := Far.mk hlt
          by_cases hj : j = 0
          · subst hj
            have gz : IntKind.i64.wrap 18 = 18 := IntWalk.i64_in _ (by omega)
            have HTz : Hid (∀ W, Calls Try.prog 79 #[.agg #[.int .u64 p1, .int .u64 p0], .int .i64 18] W fun e w' => e = .returned (.agg #[.int .u64 (wd Bd 0), .int .u64 (wd Bd 1), .int .u64 (wd Bd 2), .int .u64 (wd Bd 3)]) ∧ Below W.heap.size W w') := Lib.hid (fun W => by
              have hh := HT.out W
              rwa [show (18 : Int) - ((0 : Nat) : Int) = 18 by decide] at hh)
            have HPz : Hid (∀ W, Calls Try.prog 88 #[.int .i64 18] W fun e w' => e = .returned (.agg #[.int .u64 (wd st 1), .int .u64 (wd st 0)]) ∧ Below W.heap.size W w') := Lib.hid (fun W => by
              have hh := HP.out W
              rwa [show (18 : Int) - ((0 : Nat) : Int) = 18 by decide] at hh)
            have HYO := Lib.hid (fun W => order_any (X + st) (B34 * 10 ^ 18) hsum (by have := bound_units 0; exact Nat.lt_of_le_of_lt this (by decide)) W)
            have HT0 : Hid (∀ W, Calls Try.prog 79 #[.agg #[.int .u64 p1, .int .u64 p0], .int .i64 18] W fun e w' => e = .returned (.agg #[.int .u64 (wd (B34 * 10 ^ 18) 0), .int .u64 (wd (B34 * 10 ^ 18) 1), .int .u64 (wd (B34 * 10 ^ 18) 2), .int .u64 (wd (B34 * 10 ^ 18) 3)]) ∧ Below W.heap.size W w') := Lib.hid (fun W => HBT.out 0 (by decide) W)
            by_cases hy : X + st < B34 * 10 ^ 18
            · have hyc : cmpN (X + st) (B34 * 10 ^ 18) < 0 := by unfold cmpN; rw [if_neg (by omega), if_pos hy]; decide
              have hyn : ¬ 0 ≤ cmpN (X + st) (B34 * 10 ^ 18) := by omega
              have hyd : decide (0 ≤ cmpN (X + st) (B34 * 10 ^ 18)) = false := decide_eq_false hyn
              have he := HRR.out
              rw [upK_up (by rw [← HBD.out]; exact HLT.out) (fun _ => by have hh := hy; rw [HST.out] at hh; exact hh), ← HST.out] at he
              have HE := Far.mk he
              clear hlt he hrr hroom HRR hBd hX2 hstl hX3 hsum b0 b1 hy
              generalize cmpN (X + st) (B34 * 10 ^ 18) = c2 at *
              generalize B34 * 10 ^ 18 = B18 at *
              have b0 := HB0.out
              have b1 := HB1.out
              rw [lcells_eq] at b0
              have b0_0 := b0.cell 0 rfl
              have b0_1 := b0.cell 1 rfl
              have b0_2 := b0.cell 2 rfl
              have b0_3 := b0.cell 3 rfl
              have b0_4 := b0.frozen 0
              have b0_5 := b0.frozen 1
              have b0_6 := b0.frozen 2
              have b0_7 := b0.frozen 3
              go_wp2_with fail
              go_region_held3 (fun w' => (w'.cell? ⟨w1.heap.size, 0, none⟩ = some (.int .u64 (wd X 0)) ∧ w'.cell? ⟨w1.heap.size, 1, none⟩ = some (.int .u64 (wd X 1)) ∧ w'.cell? ⟨w1.heap.size, 2, none⟩ = some (.int .u64 (wd X 2)) ∧ w'.cell? ⟨w1.heap.size, 3, none⟩ = some (.int .u64 (wd X 3)))) (first | (first | (go_keep; done) | (simp [go_sem]; done) | ((try dsimp only); (repeat' apply And.intro) <;> (first | (with_reducible assumption) | ((rw [World.cell?_alloc_lt _ _ _ (by show _ < _; omega)]); go_split_ands; (first | with_reducible assumption | (refine (World.cell?_alloc_lt _ _ _ (by show _ < _; omega)).symm.trans ?_; with_reducible assumption))) | ((rw [World.cell?_setCell_other _ _ _ _ (by intro e; injection e; omega)]); with_reducible assumption) | (go_keep; done) | (simp [go_sem]; done) | (simp (disch := go_size) [*, World.cell?_alloc_some, World.cell?_setCell_far]; done)))) | ((refine ⟨Bk.cell (t := 45) (cs := [.int .u64 (wd X 0), .int .u64 (wd X 1), .int .u64 (wd X 2), .int .u64 (wd X 3)]) ?_ 0 rfl, Bk.cell (t := 45) (cs := [.int .u64 (wd X 0), .int .u64 (wd X 1), .int .u64 (wd X 2), .int .u64 (wd X 3)]) ?_ 1 rfl, Bk.cell (t := 45) (cs := [.int .u64 (wd X 0), .int .u64 (wd X 1), .int .u64 (wd X 2), .int .u64 (wd X 3)]) ?_ 2 rfl, Bk.cell (t := 45) (cs := [.int .u64 (wd X 0), .int .u64 (wd X 1), .int .u64 (wd X 2), .int .u64 (wd X 3)]) ?_ 3 rfl⟩) <;> ((repeat (first | (with_reducible assumption) | ((with_reducible refine Bk.new_ ?_); (first | rfl | (simp only [World.size_alloc, World.size_setCell, World.size_drew, World.heap_drewN]; done))) | (with_reducible refine Bk.alloc ?_ _) | (with_reducible refine Bk.drew ?_) | (with_reducible refine Bk.drewN ?_ _) | ((with_reducible refine Bk.far ?_ ?_ _); rotate_left; focus (simp only []; omega)) | ((with_reducible refine Bk.below ?_ (by with_reducible assumption) ?_); rotate_left; focus (go_size; done)))); done))) (first | (go_at_call 88; (with_reducible refine (HB34.out _).mono ?_); rintro _ w2 ⟨rfl, hb2⟩; have hb2s := hb2.size; (try simp only [World.size_alloc, World.size_setCell, World.size_drew, World.heap_drewN] at hb2s); obtain ⟨hb2c, hb2f⟩ := bcell hb2; (try have : w.heap.size < w2.heap.size := by omega); (try have : w.heap.size + 1 < w2.heap.size := by omega); (try have : w.heap.size + 1 + 1 < w2.heap.size := by omega); (try have : w.heap.size + 1 + 1 + 1 < w2.heap.size := by omega); (try have : w1.heap.size < w2.heap.size := by omega); (try have : w1.heap.size + 1 < w2.heap.size := by omega); (try have : w1.heap.size + 1 + 1 < w2.heap.size := by omega); (try have : w1.heap.size + 1 + 1 + 1 < w2.heap.size := by omega)) | (go_at_call 79; (with_reducible refine (HT.out _).mono ?_); rintro _ w3 ⟨rfl, hb3⟩; have hb3s := hb3.size; (try simp only [World.size_alloc, World.size_setCell, World.size_drew, World.heap_drewN] at hb3s); obtain ⟨hb3c, hb3f⟩ := bcell hb3; (try have : w.heap.size < w3.heap.size := by omega); (try have : w.heap.size + 1 < w3.heap.size := by omega); (try have : w.heap.size + 1 + 1 < w3.heap.size := by omega); (try have : w.heap.size + 1 + 1 + 1 < w3.heap.size := by omega); (try have : w1.heap.size < w3.heap.size := by omega); (try have : w1.heap.size + 1 < w3.heap.size := by omega); (try have : w1.heap.size + 1 + 1 < w3.heap.size := by omega); (try have : w1.heap.size + 1 + 1 + 1 < w3.heap.size := by omega); (try have : w2.heap.size < w3.heap.size := by omega); (try have : w2.heap.size + 1 < w3.heap.size := by omega); (try have : w2.heap.size + 1 + 1 < w3.heap.size := by omega); (try have : w2.heap.size + 1 + 1 + 1 < w3.heap.size := by omega)) | (go_at_call 79; (with_reducible refine (HTz.out _).mono ?_); rintro _ w3 ⟨rfl, hb3⟩; have hb3s := hb3.size; (try simp only [World.size_alloc, World.size_setCell, World.size_drew, World.heap_drewN] at hb3s); obtain ⟨hb3c, hb3f⟩ := bcell hb3; (try have : w.heap.size < w3.heap.size := by omega); (try have : w.heap.size + 1 < w3.heap.size := by omega); (try have : w.heap.size + 1 + 1 < w3.heap.size := by omega); (try have : w.heap.size + 1 + 1 + 1 < w3.heap.size := by omega); (try have : w1.heap.size < w3.heap.size := by omega); (try have : w1.heap.size + 1 < w3.heap.size := by omega); (try have : w1.heap.size + 1 + 1 < w3.heap.size := by omega); (try have : w1.heap.size + 1 + 1 + 1 < w3.heap.size := by omega); (try have : w2.heap.size < w3.heap.size := by omega); (try have : w2.heap.size + 1 < w3.heap.size := by omega); (try have : w2.heap.size + 1 + 1 < w3.heap.size := by omega); (try have : w2.heap.size + 1 + 1 + 1 < w3.heap.size := by omega)) | (go_at_call 48; (with_reducible refine (HO.out _).mono ?_); rintro _ w4 ⟨rfl, hb4⟩; have hb4s := hb4.size; (try simp only [World.size_alloc, World.size_setCell, World.size_drew, World.heap_drewN] at hb4s); obtain ⟨hb4c, hb4f⟩ := bcell hb4; (try have : w.heap.size < w4.heap.size := by omega); (try have : w.heap.size + 1 < w4.heap.size := by omega); (try have : w.heap.size + 1 + 1 < w4.heap.size := by omega); (try have : w.heap.size + 1 + 1 + 1 < w4.heap.size := by omega); (try have : w1.heap.size < w4.heap.size := by omega); (try have : w1.heap.size + 1 < w4.heap.size := by omega); (try have : w1.heap.size + 1 + 1 < w4.heap.size := by omega); (try have : w1.heap.size + 1 + 1 + 1 < w4.heap.size := by omega); (try have : w3.heap.size < w4.heap.size := by omega); (try have : w3.heap.size + 1 < w4.heap.size := by omega); (try have : w3.heap.size + 1 + 1 < w4.heap.size := by omega); (try have : w3.heap.size + 1 + 1 + 1 < w4.heap.size := by omega)))
              all_goals
                refine wp_named (fun W => Bk W w1.heap.size 45 [.int .u64 (wd X 0), .int .u64 (wd X 1), .int .u64 (wd X 2), .int .u64 (wd X 3)] ∧ Bk W (w.heap.size + 1) 26 [.bool false, .int .u64 0, .int .u64 0, .int .i64 0] ∧ Below w.heap.size w W) ⟨?h1, ?h2, ?h3⟩ ?_
                case h1 => ((repeat (first | (with_reducible assumption) | ((with_reducible refine Bk.new_ ?_); (first | rfl | (simp only [World.size_alloc, World.size_setCell, World.size_drew, World.heap_drewN]; done))) | (with_reducible refine Bk.alloc ?_ _) | (with_reducible refine Bk.drew ?_) | (with_reducible refine Bk.drewN ?_ _) | ((with_reducible refine Bk.far ?_ ?_ _); rotate_left; focus (simp only []; omega)) | ((with_reducible refine Bk.below ?_ (by with_reducible assumption) ?_); rotate_left; focus (go_size; done)))); done)
                case h2 => ((repeat (first | (with_reducible assumption) | ((with_reducible refine Bk.new_ ?_); (first | rfl | (simp only [World.size_alloc, World.size_setCell, World.size_drew, World.heap_drewN]; done))) | (with_reducible refine Bk.alloc ?_ _) | (with_reducible refine Bk.drew ?_) | (with_reducible refine Bk.drewN ?_ _) | ((with_reducible refine Bk.far ?_ ?_ _); rotate_left; focus (simp only []; omega)) | ((with_reducible refine Bk.below ?_ (by with_reducible assumption) ?_); rotate_left; focus (go_size; done)))); done)
                case h3 => ((repeat' (first | (with_reducible exact Below.refl _ _) | (with_reducible assumption) | (with_reducible refine Below.drew ?_) | (with_reducible refine below_drewN ?_ _) | ((with_reducible refine Below.alloc ?_ ?_ _); rotate_left; focus (go_size; done)) | ((with_reducible refine Below.setCell ?_ ?_ _); rotate_left; focus (go_size; done)) | ((with_reducible refine Below.trans ?_ (Below.mono (by with_reducible assumption) ?_)); rotate_left; focus (go_size; done)))); done)
                rintro W1 ⟨k0, k1, kw⟩
                have k0l := k0.lt
                have k1l := k1.lt
                clear b0_0 b0_1 b0_2 b0_3 b0_4 b0_5 b0_6 b0_7
                clear hb2 hb3 hb4 hb2c hb3c hb4c hb2f hb3f hb4f
                go_wp2_with fail
                first | (with_reducible refine (HP.out _).mono ?_) | (with_reducible refine (HPz.out _).mono ?_)
                rintro _ w5 ⟨rfl, hb5⟩; have hb5s := hb5.size; (try simp only [World.size_alloc, World.size_setCell, World.size_drew, World.heap_drewN] at hb5s); obtain ⟨hb5c, hb5f⟩ := bcell hb5; (try have : w.heap.size < w5.heap.size := by omega); (try have : w.heap.size + 1 < w5.heap.size := by omega); (try have : w.heap.size + 1 + 1 < w5.heap.size := by omega); (try have : w.heap.size + 1 + 1 + 1 < w5.heap.size := by omega)
                have m0 : Bk w5 w1.heap.size 45 [.int .u64 (wd X 0), .int .u64 (wd X 1), .int .u64 (wd X 2), .int .u64 (wd X 3)] := by (repeat (first | (with_reducible assumption) | ((with_reducible refine Bk.new_ ?_); (first | rfl | (simp only [World.size_alloc, World.size_setCell, World.size_drew, World.heap_drewN]; done))) | (with_reducible refine Bk.alloc ?_ _) | (with_reducible refine Bk.drew ?_) | (with_reducible refine Bk.drewN ?_ _) | ((with_reducible refine Bk.far ?_ ?_ _); rotate_left; focus (simp only []; omega)) | ((with_reducible refine Bk.below ?_ (by with_reducible assumption) ?_); rotate_left; focus (go_size; done))))
                have m1 : Bk w5 (w.heap.size + 1) 26 [.bool false, .int .u64 0, .int .u64 0, .int .i64 0] := by (repeat (first | (with_reducible assumption) | ((with_reducible refine Bk.new_ ?_); (first | rfl | (simp only [World.size_alloc, World.size_setCell, World.size_drew, World.heap_drewN]; done))) | (with_reducible refine Bk.alloc ?_ _) | (with_reducible refine Bk.drew ?_) | (with_reducible refine Bk.drewN ?_ _) | ((with_reducible refine Bk.far ?_ ?_ _); rotate_left; focus (simp only []; omega)) | ((with_reducible refine Bk.below ?_ (by with_reducible assumption) ?_); rotate_left; focus (go_size; done))))
                have m0l := m0.lt
                have m1l := m1.lt
                clear hb5c hb5f
                go_wp2_with fail
                refine (HL.out _).mono ?_
                rintro _ w6 ⟨rfl, hb6⟩; have hb6s := hb6.size; (try simp only [World.size_alloc, World.size_setCell, World.size_drew, World.heap_drewN] at hb6s); obtain ⟨hb6c, hb6f⟩ := bcell hb6; (try have : w.heap.size < w6.heap.size := by omega); (try have : w.heap.size + 1 < w6.heap.size := by omega); (try have : w.heap.size + 1 + 1 < w6.heap.size := by omega); (try have : w.heap.size + 1 + 1 + 1 < w6.heap.size := by omega)
                have n0 : Bk w6 w1.heap.size 45 [.int .u64 (wd X 0), .int .u64 (wd X 1), .int .u64 (wd X 2), .int .u64 (wd X 3)] := by (repeat (first | (with_reducible assumption) | ((with_reducible refine Bk.new_ ?_); (first | rfl | (simp only [World.size_alloc, World.size_setCell, World.size_drew, World.heap_drewN]; done))) | (with_reducible refine Bk.alloc ?_ _) | (with_reducible refine Bk.drew ?_) | (with_reducible refine Bk.drewN ?_ _) | ((with_reducible refine Bk.far ?_ ?_ _); rotate_left; focus (simp only []; omega)) | ((with_reducible refine Bk.below ?_ (by with_reducible assumption) ?_); rotate_left; focus (go_size; done))))
                have n1 : Bk w6 (w.heap.size + 1) 26 [.bool false, .int .u64 0, .int .u64 0, .int .i64 0] := by (repeat (first | (with_reducible assumption) | ((with_reducible refine Bk.new_ ?_); (first | rfl | (simp only [World.size_alloc, World.size_setCell, World.size_drew, World.heap_drewN]; done))) | (with_reducible refine Bk.alloc ?_ _) | (with_reducible refine Bk.drew ?_) | (with_reducible refine Bk.drewN ?_ _) | ((with_reducible refine Bk.far ?_ ?_ _); rotate_left; focus (simp only []; omega)) | ((with_reducible refine Bk.below ?_ (by with_reducible assumption) ?_); rotate_left; focus (go_size; done))))
                have n0l := n0.lt
                have n1l := n1.lt
                have nw : Below w.heap.size w w6 := by (repeat' (first | (with_reducible exact Below.refl _ _) | (with_reducible assumption) | (with_reducible refine Below.drew ?_) | (with_reducible refine below_drewN ?_ _) | ((with_reducible refine Below.alloc ?_ ?_ _); rotate_left; focus (go_size; done)) | ((with_reducible refine Below.setCell ?_ ?_ _); rotate_left; focus (go_size; done)) | ((with_reducible refine Below.trans ?_ (Below.mono (by with_reducible assumption) ?_)); rotate_left; focus (go_size; done))))
                have n0_0 := n0.cell 0 rfl
                have n0_1 := n0.cell 1 rfl
                have n0_2 := n0.cell 2 rfl
                have n0_3 := n0.cell 3 rfl
                have n0_4 := n0.frozen 0
                have n0_5 := n0.frozen 1
                have n0_6 := n0.frozen 2
                have n0_7 := n0.frozen 3
                clear hb6c hb6f
              all_goals
                go_wp2_with fail
                refine (HPL.out _).mono ?_
                rintro _ w7 ⟨rfl, hb7⟩; have hb7s := hb7.size; (try simp only [World.size_alloc, World.size_setCell, World.size_drew, World.heap_drewN] at hb7s); obtain ⟨hb7c, hb7f⟩ := bcell hb7; (try have : w.heap.size < w7.heap.size := by omega); (try have : w.heap.size + 1 < w7.heap.size := by omega); (try have : w.heap.size + 1 + 1 < w7.heap.size := by omega); (try have : w.heap.size + 1 + 1 + 1 < w7.heap.size := by omega)
                have q1 : Bk w7 (w.heap.size + 1) 26 [.bool false, .int .u64 0, .int .u64 0, .int .i64 0] := by (repeat (first | (with_reducible assumption) | ((with_reducible refine Bk.new_ ?_); (first | rfl | (simp only [World.size_alloc, World.size_setCell, World.size_drew, World.heap_drewN]; done))) | (with_reducible refine Bk.alloc ?_ _) | (with_reducible refine Bk.drew ?_) | (with_reducible refine Bk.drewN ?_ _) | ((with_reducible refine Bk.far ?_ ?_ _); rotate_left; focus (simp only []; omega)) | ((with_reducible refine Bk.below ?_ (by with_reducible assumption) ?_); rotate_left; focus (go_size; done))))
                have q1l := q1.lt
                clear hb7c hb7f
                go_wp2_with fail
                refine wp_named (fun W => Bk W w7.heap.size 45 [.int .u64 (wd (X + st) 0), .int .u64 (wd (X + st) 1), .int .u64 (wd (X + st) 2), .int .u64 (wd (X + st) 3)] ∧ Bk W (w.heap.size + 1) 26 [.bool false, .int .u64 0, .int .u64 0, .int .i64 0] ∧ Below w.heap.size w W) ⟨?h1, ?h2, ?h3⟩ ?_
                case h1 => ((repeat (first | (with_reducible assumption) | ((with_reducible refine Bk.new_ ?_); (first | rfl | (simp only [World.size_alloc, World.size_setCell, World.size_drew, World.heap_drewN]; done))) | (with_reducible refine Bk.alloc ?_ _) | (with_reducible refine Bk.drew ?_) | (with_reducible refine Bk.drewN ?_ _) | ((with_reducible refine Bk.far ?_ ?_ _); rotate_left; focus (simp only []; omega)) | ((with_reducible refine Bk.below ?_ (by with_reducible assumption) ?_); rotate_left; focus (go_size; done)))); done)
                case h2 => ((repeat (first | (with_reducible assumption) | ((with_reducible refine Bk.new_ ?_); (first | rfl | (simp only [World.size_alloc, World.size_setCell, World.size_drew, World.heap_drewN]; done))) | (with_reducible refine Bk.alloc ?_ _) | (with_reducible refine Bk.drew ?_) | (with_reducible refine Bk.drewN ?_ _) | ((with_reducible refine Bk.far ?_ ?_ _); rotate_left; focus (simp only []; omega)) | ((with_reducible refine Bk.below ?_ (by with_reducible assumption) ?_); rotate_left; focus (go_size; done)))); done)
                case h3 => ((repeat' (first | (with_reducible exact Below.refl _ _) | (with_reducible assumption) | (with_reducible refine Below.drew ?_) | (with_reducible refine below_drewN ?_ _) | ((with_reducible refine Below.alloc ?_ ?_ _); rotate_left; focus (go_size; done)) | ((with_reducible refine Below.setCell ?_ ?_ _); rotate_left; focus (go_size; done)) | ((with_reducible refine Below.trans ?_ (Below.mono (by with_reducible assumption) ?_)); rotate_left; focus (go_size; done)))); done)
                rintro V1 ⟨y0, y1, yw⟩
                have y0l := y0.lt
                have y1l := y1.lt
                clear n0_0 n0_1 n0_2 n0_3 n0_4 n0_5 n0_6 n0_7
                have y0_0 := y0.cell 0 rfl
                have y0_1 := y0.cell 1 rfl
                have y0_2 := y0.cell 2 rfl
                have y0_3 := y0.cell 3 rfl
                have y0_4 := y0.frozen 0
                have y0_5 := y0.frozen 1
                have y0_6 := y0.frozen 2
                have y0_7 := y0.frozen 3
                first | (go_region_held3 (fun w' => (w'.cell? ⟨w7.heap.size, 0, none⟩ = some (.int .u64 (wd (X + st) 0)) ∧ w'.cell? ⟨w7.heap.size, 1, none⟩ = some (.int .u64 (wd (X + st) 1)) ∧ w'.cell? ⟨w7.heap.size, 2, none⟩ = some (.int .u64 (wd (X + st) 2)) ∧ w'.cell? ⟨w7.heap.size, 3, none⟩ = some (.int .u64 (wd (X + st) 3)))) (first | (first | (go_keep; done) | (simp [go_sem]; done) | ((try dsimp only); (repeat' apply And.intro) <;> (first | (with_reducible assumption) | ((rw [World.cell?_alloc_lt _ _ _ (by show _ < _; omega)]); go_split_ands; (first | with_reducible assumption | (refine (World.cell?_alloc_lt _ _ _ (by show _ < _; omega)).symm.trans ?_; with_reducible assumption))) | ((rw [World.cell?_setCell_other _ _ _ _ (by intro e; injection e; omega)]); with_reducible assumption) | (go_keep; done) | (simp [go_sem]; done) | (simp (disch := go_size) [*, World.cell?_alloc_some, World.cell?_setCell_far]; done)))) | ((refine ⟨Bk.cell (t := 45) (cs := [.int .u64 (wd (X + st) 0), .int .u64 (wd (X + st) 1), .int .u64 (wd (X + st) 2), .int .u64 (wd (X + st) 3)]) ?_ 0 rfl, Bk.cell (t := 45) (cs := [.int .u64 (wd (X + st) 0), .int .u64 (wd (X + st) 1), .int .u64 (wd (X + st) 2), .int .u64 (wd (X + st) 3)]) ?_ 1 rfl, Bk.cell (t := 45) (cs := [.int .u64 (wd (X + st) 0), .int .u64 (wd (X + st) 1), .int .u64 (wd (X + st) 2), .int .u64 (wd (X + st) 3)]) ?_ 2 rfl, Bk.cell (t := 45) (cs := [.int .u64 (wd (X + st) 0), .int .u64 (wd (X + st) 1), .int .u64 (wd (X + st) 2), .int .u64 (wd (X + st) 3)]) ?_ 3 rfl⟩) <;> ((repeat (first | (with_reducible assumption) | ((with_reducible refine Bk.new_ ?_); (first | rfl | (simp only [World.size_alloc, World.size_setCell, World.size_drew, World.heap_drewN]; done))) | (with_reducible refine Bk.alloc ?_ _) | (with_reducible refine Bk.drew ?_) | (with_reducible refine Bk.drewN ?_ _) | ((with_reducible refine Bk.far ?_ ?_ _); rotate_left; focus (simp only []; omega)) | ((with_reducible refine Bk.below ?_ (by with_reducible assumption) ?_); rotate_left; focus (go_size; done)))); done))) (first | (go_at_call 88; (with_reducible refine (HB34.out _).mono ?_); rintro _ w12 ⟨rfl, hb12⟩; have hb12s := hb12.size; (try simp only [World.size_alloc, World.size_setCell, World.size_drew, World.heap_drewN] at hb12s); obtain ⟨hb12c, hb12f⟩ := bcell hb12; (try have : w.heap.size < w12.heap.size := by omega); (try have : w.heap.size + 1 < w12.heap.size := by omega); (try have : w.heap.size + 1 + 1 < w12.heap.size := by omega); (try have : w.heap.size + 1 + 1 + 1 < w12.heap.size := by omega); (try have : w7.heap.size < w12.heap.size := by omega)) | (go_at_call 79; (with_reducible refine (HT0.out _).mono ?_); rintro _ w13 ⟨rfl, hb13⟩; have hb13s := hb13.size; (try simp only [World.size_alloc, World.size_setCell, World.size_drew, World.heap_drewN] at hb13s); obtain ⟨hb13c, hb13f⟩ := bcell hb13; (try have : w.heap.size < w13.heap.size := by omega); (try have : w.heap.size + 1 < w13.heap.size := by omega); (try have : w.heap.size + 1 + 1 < w13.heap.size := by omega); (try have : w.heap.size + 1 + 1 + 1 < w13.heap.size := by omega); (try have : w7.heap.size < w13.heap.size := by omega)) | (go_at_call 48; (with_reducible refine (HYO.out _).mono ?_); rintro _ w14 ⟨rfl, hb14⟩; have hb14s := hb14.size; (try simp only [World.size_alloc, World.size_setCell, World.size_drew, World.heap_drewN] at hb14s); obtain ⟨hb14c, hb14f⟩ := bcell hb14; (try have : w.heap.size < w14.heap.size := by omega); (try have : w.heap.size + 1 < w14.heap.size := by omega); (try have : w.heap.size + 1 + 1 < w14.heap.size := by omega); (try have : w.heap.size + 1 + 1 + 1 < w14.heap.size := by omega); (try have : w7.heap.size < w14.heap.size := by omega)))) | fail
                all_goals
                  refine wp_named (fun W => Bk W w7.heap.size 45 [.int .u64 (wd (X + st) 0), .int .u64 (wd (X + st) 1), .int .u64 (wd (X + st) 2), .int .u64 (wd (X + st) 3)] ∧ Bk W (w.heap.size + 1) 26 [.bool false, .int .u64 0, .int .u64 0, .int .i64 0] ∧ Below w.heap.size w W) ⟨?h1, ?h2, ?h3⟩ ?_
                  case h1 => ((repeat (first | (with_reducible assumption) | ((with_reducible refine Bk.new_ ?_); (first | rfl | (simp only [World.size_alloc, World.size_setCell, World.size_drew, World.heap_drewN]; done))) | (with_reducible refine Bk.alloc ?_ _) | (with_reducible refine Bk.drew ?_) | (with_reducible refine Bk.drewN ?_ _) | ((with_reducible refine Bk.far ?_ ?_ _); rotate_left; focus (simp only []; omega)) | ((with_reducible refine Bk.below ?_ (by with_reducible assumption) ?_); rotate_left; focus (go_size; done)))); done)
                  case h2 => ((repeat (first | (with_reducible assumption) | ((with_reducible refine Bk.new_ ?_); (first | rfl | (simp only [World.size_alloc, World.size_setCell, World.size_drew, World.heap_drewN]; done))) | (with_reducible refine Bk.alloc ?_ _) | (with_reducible refine Bk.drew ?_) | (with_reducible refine Bk.drewN ?_ _) | ((with_reducible refine Bk.far ?_ ?_ _); rotate_left; focus (simp only []; omega)) | ((with_reducible refine Bk.below ?_ (by with_reducible assumption) ?_); rotate_left; focus (go_size; done)))); done)
                  case h3 => ((repeat' (first | (with_reducible exact Below.refl _ _) | (with_reducible assumption) | (with_reducible refine Below.drew ?_) | (with_reducible refine below_drewN ?_ _) | ((with_reducible refine Below.alloc ?_ ?_ _); rotate_left; focus (go_size; done)) | ((with_reducible refine Below.setCell ?_ ?_ _); rotate_left; focus (go_size; done)) | ((with_reducible refine Below.trans ?_ (Below.mono (by with_reducible assumption) ?_)); rotate_left; focus (go_size; done)))); done)
                  rintro V2 ⟨z0, z1, zw⟩
                  have z0l := z0.lt
                  have z1l := z1.lt
                  clear y0_0 y0_1 y0_2 y0_3 y0_4 y0_5 y0_6 y0_7
                  have z0_0 := z0.cell 0 rfl
                  have z0_1 := z0.cell 1 rfl
                  have z0_2 := z0.cell 2 rfl
                  have z0_3 := z0.cell 3 rfl
                  have z0_4 := z0.frozen 0
                  have z0_5 := z0.frozen 1
                  have z0_6 := z0.frozen 2
                  have z0_7 := z0.frozen 3
                  clear hb12 hb13 hb14 hb12c hb13c hb14c hb12f hb13f hb14f
                  go_wp2_with fail
                  refine (HF.out _).mono ?_
                  rintro _ w8 ⟨rfl, hb8⟩; have hb8s := hb8.size; (try simp only [World.size_alloc, World.size_setCell, World.size_drew, World.heap_drewN] at hb8s); obtain ⟨hb8c, hb8f⟩ := bcell hb8; (try have : w.heap.size < w8.heap.size := by omega); (try have : w.heap.size + 1 < w8.heap.size := by omega); (try have : w.heap.size + 1 + 1 < w8.heap.size := by omega); (try have : w.heap.size + 1 + 1 + 1 < w8.heap.size := by omega)
                  have n8 : Bk w8 (w.heap.size + 1) 26 [.bool false, .int .u64 0, .int .u64 0, .int .i64 0] := by (repeat (first | (with_reducible assumption) | ((with_reducible refine Bk.new_ ?_); (first | rfl | (simp only [World.size_alloc, World.size_setCell, World.size_drew, World.heap_drewN]; done))) | (with_reducible refine Bk.alloc ?_ _) | (with_reducible refine Bk.drew ?_) | (with_reducible refine Bk.drewN ?_ _) | ((with_reducible refine Bk.far ?_ ?_ _); rotate_left; focus (simp only []; omega)) | ((with_reducible refine Bk.below ?_ (by with_reducible assumption) ?_); rotate_left; focus (go_size; done))))
                  have n8_0 := n8.cell 0 rfl
                  have n8_1 := n8.cell 1 rfl
                  have n8_2 := n8.cell 2 rfl
                  have n8_3 := n8.cell 3 rfl
                  have n8_4 := n8.frozen 0
                  have n8_5 := n8.frozen 1
                  have n8_6 := n8.frozen 2
                  have n8_7 := n8.frozen 3
                  clear hb8c hb8f
                  go_wp2_with fail
                  refine bodyPost_ret (by simp [results, Try.results69, go_sem, *]; try rfl) rfl ?_
                  exact ⟨by rw [EC.out, ES.out, EE.out, HE.out, (nb_yes _).1, (nb_yes _).2.1, (nb_yes _).2.2, show ∀ x, sg false x = false from fun x => rfl], by (repeat' (first | (with_reducible exact Below.refl _ _) | (with_reducible assumption) | (with_reducible refine Below.drew ?_) | (with_reducible refine below_drewN ?_ _) | ((with_reducible refine Below.alloc ?_ ?_ _); rotate_left; focus (go_size; done)) | ((with_reducible refine Below.setCell ?_ ?_ _); rotate_left; focus (go_size; done)) | ((with_reducible refine Below.trans ?_ (Below.mono (by with_reducible assumption) ?_)); rotate_left; focus (go_size; done))))⟩
            · have hyc : 0 ≤ cmpN (X + st) (B34 * 10 ^ 18) := by unfold cmpN; split <;> (try split) <;> omega
              have he := HRR.out
              rw [upK_up' (by rintro ⟨_, h⟩; refine hy ?_; rw [HST.out]; exact h rfl)] at he
              have HE := Far.mk he
              clear hlt he hrr hroom HRR hBd hX2 hstl hX3 hsum b0 b1 hy
              generalize cmpN (X + st) (B34 * 10 ^ 18) = c2 at *
              generalize B34 * 10 ^ 18 = B18 at *
              have b0 := HB0.out
              have b1 := HB1.out
              rw [lcells_eq] at b0
              have b0_0 := b0.cell 0 rfl
              have b0_1 := b0.cell 1 rfl
              have b0_2 := b0.cell 2 rfl
              have b0_3 := b0.cell 3 rfl
              have b0_4 := b0.frozen 0
              have b0_5 := b0.frozen 1
              have b0_6 := b0.frozen 2
              have b0_7 := b0.frozen 3
              go_wp2_with fail
              go_region_held3 (fun w' => (w'.cell? ⟨w1.heap.size, 0, none⟩ = some (.int .u64 (wd X 0)) ∧ w'.cell? ⟨w1.heap.size, 1, none⟩ = some (.int .u64 (wd X 1)) ∧ w'.cell? ⟨w1.heap.size, 2, none⟩ = some (.int .u64 (wd X 2)) ∧ w'.cell? ⟨w1.heap.size, 3, none⟩ = some (.int .u64 (wd X 3)))) (first | (first | (go_keep; done) | (simp [go_sem]; done) | ((try dsimp only); (repeat' apply And.intro) <;> (first | (with_reducible assumption) | ((rw [World.cell?_alloc_lt _ _ _ (by show _ < _; omega)]); go_split_ands; (first | with_reducible assumption | (refine (World.cell?_alloc_lt _ _ _ (by show _ < _; omega)).symm.trans ?_; with_reducible assumption))) | ((rw [World.cell?_setCell_other _ _ _ _ (by intro e; injection e; omega)]); with_reducible assumption) | (go_keep; done) | (simp [go_sem]; done) | (simp (disch := go_size) [*, World.cell?_alloc_some, World.cell?_setCell_far]; done)))) | ((refine ⟨Bk.cell (t := 45) (cs := [.int .u64 (wd X 0), .int .u64 (wd X 1), .int .u64 (wd X 2), .int .u64 (wd X 3)]) ?_ 0 rfl, Bk.cell (t := 45) (cs := [.int .u64 (wd X 0), .int .u64 (wd X 1), .int .u64 (wd X 2), .int .u64 (wd X 3)]) ?_ 1 rfl, Bk.cell (t := 45) (cs := [.int .u64 (wd X 0), .int .u64 (wd X 1), .int .u64 (wd X 2), .int .u64 (wd X 3)]) ?_ 2 rfl, Bk.cell (t := 45) (cs := [.int .u64 (wd X 0), .int .u64 (wd X 1), .int .u64 (wd X 2), .int .u64 (wd X 3)]) ?_ 3 rfl⟩) <;> ((repeat (first | (with_reducible assumption) | ((with_reducible refine Bk.new_ ?_); (first | rfl | (simp only [World.size_alloc, World.size_setCell, World.size_drew, World.heap_drewN]; done))) | (with_reducible refine Bk.alloc ?_ _) | (with_reducible refine Bk.drew ?_) | (with_reducible refine Bk.drewN ?_ _) | ((with_reducible refine Bk.far ?_ ?_ _); rotate_left; focus (simp only []; omega)) | ((with_reducible refine Bk.below ?_ (by with_reducible assumption) ?_); rotate_left; focus (go_size; done)))); done))) (first | (go_at_call 88; (with_reducible refine (HB34.out _).mono ?_); rintro _ w2 ⟨rfl, hb2⟩; have hb2s := hb2.size; (try simp only [World.size_alloc, World.size_setCell, World.size_drew, World.heap_drewN] at hb2s); obtain ⟨hb2c, hb2f⟩ := bcell hb2; (try have : w.heap.size < w2.heap.size := by omega); (try have : w.heap.size + 1 < w2.heap.size := by omega); (try have : w.heap.size + 1 + 1 < w2.heap.size := by omega); (try have : w.heap.size + 1 + 1 + 1 < w2.heap.size := by omega); (try have : w1.heap.size < w2.heap.size := by omega); (try have : w1.heap.size + 1 < w2.heap.size := by omega); (try have : w1.heap.size + 1 + 1 < w2.heap.size := by omega); (try have : w1.heap.size + 1 + 1 + 1 < w2.heap.size := by omega)) | (go_at_call 79; (with_reducible refine (HT.out _).mono ?_); rintro _ w3 ⟨rfl, hb3⟩; have hb3s := hb3.size; (try simp only [World.size_alloc, World.size_setCell, World.size_drew, World.heap_drewN] at hb3s); obtain ⟨hb3c, hb3f⟩ := bcell hb3; (try have : w.heap.size < w3.heap.size := by omega); (try have : w.heap.size + 1 < w3.heap.size := by omega); (try have : w.heap.size + 1 + 1 < w3.heap.size := by omega); (try have : w.heap.size + 1 + 1 + 1 < w3.heap.size := by omega); (try have : w1.heap.size < w3.heap.size := by omega); (try have : w1.heap.size + 1 < w3.heap.size := by omega); (try have : w1.heap.size + 1 + 1 < w3.heap.size := by omega); (try have : w1.heap.size + 1 + 1 + 1 < w3.heap.size := by omega); (try have : w2.heap.size < w3.heap.size := by omega); (try have : w2.heap.size + 1 < w3.heap.size := by omega); (try have : w2.heap.size + 1 + 1 < w3.heap.size := by omega); (try have : w2.heap.size + 1 + 1 + 1 < w3.heap.size := by omega)) | (go_at_call 79; (with_reducible refine (HTz.out _).mono ?_); rintro _ w3 ⟨rfl, hb3⟩; have hb3s := hb3.size; (try simp only [World.size_alloc, World.size_setCell, World.size_drew, World.heap_drewN] at hb3s); obtain ⟨hb3c, hb3f⟩ := bcell hb3; (try have : w.heap.size < w3.heap.size := by omega); (try have : w.heap.size + 1 < w3.heap.size := by omega); (try have : w.heap.size + 1 + 1 < w3.heap.size := by omega); (try have : w.heap.size + 1 + 1 + 1 < w3.heap.size := by omega); (try have : w1.heap.size < w3.heap.size := by omega); (try have : w1.heap.size + 1 < w3.heap.size := by omega); (try have : w1.heap.size + 1 + 1 < w3.heap.size := by omega); (try have : w1.heap.size + 1 + 1 + 1 < w3.heap.size := by omega); (try have : w2.heap.size < w3.heap.size := by omega); (try have : w2.heap.size + 1 < w3.heap.size := by omega); (try have : w2.heap.size + 1 + 1 < w3.heap.size := by omega); (try have : w2.heap.size + 1 + 1 + 1 < w3.heap.size := by omega)) | (go_at_call 48; (with_reducible refine (HO.out _).mono ?_); rintro _ w4 ⟨rfl, hb4⟩; have hb4s := hb4.size; (try simp only [World.size_alloc, World.size_setCell, World.size_drew, World.heap_drewN] at hb4s); obtain ⟨hb4c, hb4f⟩ := bcell hb4; (try have : w.heap.size < w4.heap.size := by omega); (try have : w.heap.size + 1 < w4.heap.size := by omega); (try have : w.heap.size + 1 + 1 < w4.heap.size := by omega); (try have : w.heap.size + 1 + 1 + 1 < w4.heap.size := by omega); (try have : w1.heap.size < w4.heap.size := by omega); (try have : w1.heap.size + 1 < w4.heap.size := by omega); (try have : w1.heap.size + 1 + 1 < w4.heap.size := by omega); (try have : w1.heap.size + 1 + 1 + 1 < w4.heap.size := by omega); (try have : w3.heap.size < w4.heap.size := by omega); (try have : w3.heap.size + 1 < w4.heap.size := by omega); (try have : w3.heap.size + 1 + 1 < w4.heap.size := by omega); (try have : w3.heap.size + 1 + 1 + 1 < w4.heap.size := by omega)))
              all_goals
                refine wp_named (fun W => Bk W w1.heap.size 45 [.int .u64 (wd X 0), .int .u64 (wd X 1), .int .u64 (wd X 2), .int .u64 (wd X 3)] ∧ Bk W (w.heap.size + 1) 26 [.bool false, .int .u64 0, .int .u64 0, .int .i64 0] ∧ Below w.heap.size w W) ⟨?h1, ?h2, ?h3⟩ ?_
                case h1 => ((repeat (first | (with_reducible assumption) | ((with_reducible refine Bk.new_ ?_); (first | rfl | (simp only [World.size_alloc, World.size_setCell, World.size_drew, World.heap_drewN]; done))) | (with_reducible refine Bk.alloc ?_ _) | (with_reducible refine Bk.drew ?_) | (with_reducible refine Bk.drewN ?_ _) | ((with_reducible refine Bk.far ?_ ?_ _); rotate_left; focus (simp only []; omega)) | ((with_reducible refine Bk.below ?_ (by with_reducible assumption) ?_); rotate_left; focus (go_size; done)))); done)
                case h2 => ((repeat (first | (with_reducible assumption) | ((with_reducible refine Bk.new_ ?_); (first | rfl | (simp only [World.size_alloc, World.size_setCell, World.size_drew, World.heap_drewN]; done))) | (with_reducible refine Bk.alloc ?_ _) | (with_reducible refine Bk.drew ?_) | (with_reducible refine Bk.drewN ?_ _) | ((with_reducible refine Bk.far ?_ ?_ _); rotate_left; focus (simp only []; omega)) | ((with_reducible refine Bk.below ?_ (by with_reducible assumption) ?_); rotate_left; focus (go_size; done)))); done)
                case h3 => ((repeat' (first | (with_reducible exact Below.refl _ _) | (with_reducible assumption) | (with_reducible refine Below.drew ?_) | (with_reducible refine below_drewN ?_ _) | ((with_reducible refine Below.alloc ?_ ?_ _); rotate_left; focus (go_size; done)) | ((with_reducible refine Below.setCell ?_ ?_ _); rotate_left; focus (go_size; done)) | ((with_reducible refine Below.trans ?_ (Below.mono (by with_reducible assumption) ?_)); rotate_left; focus (go_size; done)))); done)
                rintro W1 ⟨k0, k1, kw⟩
                have k0l := k0.lt
                have k1l := k1.lt
                clear b0_0 b0_1 b0_2 b0_3 b0_4 b0_5 b0_6 b0_7
                clear hb2 hb3 hb4 hb2c hb3c hb4c hb2f hb3f hb4f
                go_wp2_with fail
                first | (with_reducible refine (HP.out _).mono ?_) | (with_reducible refine (HPz.out _).mono ?_)
                rintro _ w5 ⟨rfl, hb5⟩; have hb5s := hb5.size; (try simp only [World.size_alloc, World.size_setCell, World.size_drew, World.heap_drewN] at hb5s); obtain ⟨hb5c, hb5f⟩ := bcell hb5; (try have : w.heap.size < w5.heap.size := by omega); (try have : w.heap.size + 1 < w5.heap.size := by omega); (try have : w.heap.size + 1 + 1 < w5.heap.size := by omega); (try have : w.heap.size + 1 + 1 + 1 < w5.heap.size := by omega)
                have m0 : Bk w5 w1.heap.size 45 [.int .u64 (wd X 0), .int .u64 (wd X 1), .int .u64 (wd X 2), .int .u64 (wd X 3)] := by (repeat (first | (with_reducible assumption) | ((with_reducible refine Bk.new_ ?_); (first | rfl | (simp only [World.size_alloc, World.size_setCell, World.size_drew, World.heap_drewN]; done))) | (with_reducible refine Bk.alloc ?_ _) | (with_reducible refine Bk.drew ?_) | (with_reducible refine Bk.drewN ?_ _) | ((with_reducible refine Bk.far ?_ ?_ _); rotate_left; focus (simp only []; omega)) | ((with_reducible refine Bk.below ?_ (by with_reducible assumption) ?_); rotate_left; focus (go_size; done))))
                have m1 : Bk w5 (w.heap.size + 1) 26 [.bool false, .int .u64 0, .int .u64 0, .int .i64 0] := by (repeat (first | (with_reducible assumption) | ((with_reducible refine Bk.new_ ?_); (first | rfl | (simp only [World.size_alloc, World.size_setCell, World.size_drew, World.heap_drewN]; done))) | (with_reducible refine Bk.alloc ?_ _) | (with_reducible refine Bk.drew ?_) | (with_reducible refine Bk.drewN ?_ _) | ((with_reducible refine Bk.far ?_ ?_ _); rotate_left; focus (simp only []; omega)) | ((with_reducible refine Bk.below ?_ (by with_reducible assumption) ?_); rotate_left; focus (go_size; done))))
                have m0l := m0.lt
                have m1l := m1.lt
                clear hb5c hb5f
                go_wp2_with fail
                refine (HL.out _).mono ?_
                rintro _ w6 ⟨rfl, hb6⟩; have hb6s := hb6.size; (try simp only [World.size_alloc, World.size_setCell, World.size_drew, World.heap_drewN] at hb6s); obtain ⟨hb6c, hb6f⟩ := bcell hb6; (try have : w.heap.size < w6.heap.size := by omega); (try have : w.heap.size + 1 < w6.heap.size := by omega); (try have : w.heap.size + 1 + 1 < w6.heap.size := by omega); (try have : w.heap.size + 1 + 1 + 1 < w6.heap.size := by omega)
                have n0 : Bk w6 w1.heap.size 45 [.int .u64 (wd X 0), .int .u64 (wd X 1), .int .u64 (wd X 2), .int .u64 (wd X 3)] := by (repeat (first | (with_reducible assumption) | ((with_reducible refine Bk.new_ ?_); (first | rfl | (simp only [World.size_alloc, World.size_setCell, World.size_drew, World.heap_drewN]; done))) | (with_reducible refine Bk.alloc ?_ _) | (with_reducible refine Bk.drew ?_) | (with_reducible refine Bk.drewN ?_ _) | ((with_reducible refine Bk.far ?_ ?_ _); rotate_left; focus (simp only []; omega)) | ((with_reducible refine Bk.below ?_ (by with_reducible assumption) ?_); rotate_left; focus (go_size; done))))
                have n1 : Bk w6 (w.heap.size + 1) 26 [.bool false, .int .u64 0, .int .u64 0, .int .i64 0] := by (repeat (first | (with_reducible assumption) | ((with_reducible refine Bk.new_ ?_); (first | rfl | (simp only [World.size_alloc, World.size_setCell, World.size_drew, World.heap_drewN]; done))) | (with_reducible refine Bk.alloc ?_ _) | (with_reducible refine Bk.drew ?_) | (with_reducible refine Bk.drewN ?_ _) | ((with_reducible refine Bk.far ?_ ?_ _); rotate_left; focus (simp only []; omega)) | ((with_reducible refine Bk.below ?_ (by with_reducible assumption) ?_); rotate_left; focus (go_size; done))))
                have n0l := n0.lt
                have n1l := n1.lt
                have nw : Below w.heap.size w w6 := by (repeat' (first | (with_reducible exact Below.refl _ _) | (with_reducible assumption) | (with_reducible refine Below.drew ?_) | (with_reducible refine below_drewN ?_ _) | ((with_reducible refine Below.alloc ?_ ?_ _); rotate_left; focus (go_size; done)) | ((with_reducible refine Below.setCell ?_ ?_ _); rotate_left; focus (go_size; done)) | ((with_reducible refine Below.trans ?_ (Below.mono (by with_reducible assumption) ?_)); rotate_left; focus (go_size; done))))
                have n0_0 := n0.cell 0 rfl
                have n0_1 := n0.cell 1 rfl
                have n0_2 := n0.cell 2 rfl
                have n0_3 := n0.cell 3 rfl
                have n0_4 := n0.frozen 0
                have n0_5 := n0.frozen 1
                have n0_6 := n0.frozen 2
                have n0_7 := n0.frozen 3
                clear hb6c hb6f
              all_goals
                go_wp2_with fail
                refine (HPL.out _).mono ?_
                rintro _ w7 ⟨rfl, hb7⟩; have hb7s := hb7.size; (try simp only [World.size_alloc, World.size_setCell, World.size_drew, World.heap_drewN] at hb7s); obtain ⟨hb7c, hb7f⟩ := bcell hb7; (try have : w.heap.size < w7.heap.size := by omega); (try have : w.heap.size + 1 < w7.heap.size := by omega); (try have : w.heap.size + 1 + 1 < w7.heap.size := by omega); (try have : w.heap.size + 1 + 1 + 1 < w7.heap.size := by omega)
                have q1 : Bk w7 (w.heap.size + 1) 26 [.bool false, .int .u64 0, .int .u64 0, .int .i64 0] := by (repeat (first | (with_reducible assumption) | ((with_reducible refine Bk.new_ ?_); (first | rfl | (simp only [World.size_alloc, World.size_setCell, World.size_drew, World.heap_drewN]; done))) | (with_reducible refine Bk.alloc ?_ _) | (with_reducible refine Bk.drew ?_) | (with_reducible refine Bk.drewN ?_ _) | ((with_reducible refine Bk.far ?_ ?_ _); rotate_left; focus (simp only []; omega)) | ((with_reducible refine Bk.below ?_ (by with_reducible assumption) ?_); rotate_left; focus (go_size; done))))
                have q1l := q1.lt
                clear hb7c hb7f
                go_wp2_with fail
                refine wp_named (fun W => Bk W w7.heap.size 45 [.int .u64 (wd (X + st) 0), .int .u64 (wd (X + st) 1), .int .u64 (wd (X + st) 2), .int .u64 (wd (X + st) 3)] ∧ Bk W (w.heap.size + 1) 26 [.bool false, .int .u64 0, .int .u64 0, .int .i64 0] ∧ Below w.heap.size w W) ⟨?h1, ?h2, ?h3⟩ ?_
                case h1 => ((repeat (first | (with_reducible assumption) | ((with_reducible refine Bk.new_ ?_); (first | rfl | (simp only [World.size_alloc, World.size_setCell, World.size_drew, World.heap_drewN]; done))) | (with_reducible refine Bk.alloc ?_ _) | (with_reducible refine Bk.drew ?_) | (with_reducible refine Bk.drewN ?_ _) | ((with_reducible refine Bk.far ?_ ?_ _); rotate_left; focus (simp only []; omega)) | ((with_reducible refine Bk.below ?_ (by with_reducible assumption) ?_); rotate_left; focus (go_size; done)))); done)
                case h2 => ((repeat (first | (with_reducible assumption) | ((with_reducible refine Bk.new_ ?_); (first | rfl | (simp only [World.size_alloc, World.size_setCell, World.size_drew, World.heap_drewN]; done))) | (with_reducible refine Bk.alloc ?_ _) | (with_reducible refine Bk.drew ?_) | (with_reducible refine Bk.drewN ?_ _) | ((with_reducible refine Bk.far ?_ ?_ _); rotate_left; focus (simp only []; omega)) | ((with_reducible refine Bk.below ?_ (by with_reducible assumption) ?_); rotate_left; focus (go_size; done)))); done)
                case h3 => ((repeat' (first | (with_reducible exact Below.refl _ _) | (with_reducible assumption) | (with_reducible refine Below.drew ?_) | (with_reducible refine below_drewN ?_ _) | ((with_reducible refine Below.alloc ?_ ?_ _); rotate_left; focus (go_size; done)) | ((with_reducible refine Below.setCell ?_ ?_ _); rotate_left; focus (go_size; done)) | ((with_reducible refine Below.trans ?_ (Below.mono (by with_reducible assumption) ?_)); rotate_left; focus (go_size; done)))); done)
                rintro V1 ⟨y0, y1, yw⟩
                have y0l := y0.lt
                have y1l := y1.lt
                clear n0_0 n0_1 n0_2 n0_3 n0_4 n0_5 n0_6 n0_7
                have y0_0 := y0.cell 0 rfl
                have y0_1 := y0.cell 1 rfl
                have y0_2 := y0.cell 2 rfl
                have y0_3 := y0.cell 3 rfl
                have y0_4 := y0.frozen 0
                have y0_5 := y0.frozen 1
                have y0_6 := y0.frozen 2
                have y0_7 := y0.frozen 3
                first | (go_region_held3 (fun w' => (w'.cell? ⟨w7.heap.size, 0, none⟩ = some (.int .u64 (wd (X + st) 0)) ∧ w'.cell? ⟨w7.heap.size, 1, none⟩ = some (.int .u64 (wd (X + st) 1)) ∧ w'.cell? ⟨w7.heap.size, 2, none⟩ = some (.int .u64 (wd (X + st) 2)) ∧ w'.cell? ⟨w7.heap.size, 3, none⟩ = some (.int .u64 (wd (X + st) 3)))) (first | (first | (go_keep; done) | (simp [go_sem]; done) | ((try dsimp only); (repeat' apply And.intro) <;> (first | (with_reducible assumption) | ((rw [World.cell?_alloc_lt _ _ _ (by show _ < _; omega)]); go_split_ands; (first | with_reducible assumption | (refine (World.cell?_alloc_lt _ _ _ (by show _ < _; omega)).symm.trans ?_; with_reducible assumption))) | ((rw [World.cell?_setCell_other _ _ _ _ (by intro e; injection e; omega)]); with_reducible assumption) | (go_keep; done) | (simp [go_sem]; done) | (simp (disch := go_size) [*, World.cell?_alloc_some, World.cell?_setCell_far]; done)))) | ((refine ⟨Bk.cell (t := 45) (cs := [.int .u64 (wd (X + st) 0), .int .u64 (wd (X + st) 1), .int .u64 (wd (X + st) 2), .int .u64 (wd (X + st) 3)]) ?_ 0 rfl, Bk.cell (t := 45) (cs := [.int .u64 (wd (X + st) 0), .int .u64 (wd (X + st) 1), .int .u64 (wd (X + st) 2), .int .u64 (wd (X + st) 3)]) ?_ 1 rfl, Bk.cell (t := 45) (cs := [.int .u64 (wd (X + st) 0), .int .u64 (wd (X + st) 1), .int .u64 (wd (X + st) 2), .int .u64 (wd (X + st) 3)]) ?_ 2 rfl, Bk.cell (t := 45) (cs := [.int .u64 (wd (X + st) 0), .int .u64 (wd (X + st) 1), .int .u64 (wd (X + st) 2), .int .u64 (wd (X + st) 3)]) ?_ 3 rfl⟩) <;> ((repeat (first | (with_reducible assumption) | ((with_reducible refine Bk.new_ ?_); (first | rfl | (simp only [World.size_alloc, World.size_setCell, World.size_drew, World.heap_drewN]; done))) | (with_reducible refine Bk.alloc ?_ _) | (with_reducible refine Bk.drew ?_) | (with_reducible refine Bk.drewN ?_ _) | ((with_reducible refine Bk.far ?_ ?_ _); rotate_left; focus (simp only []; omega)) | ((with_reducible refine Bk.below ?_ (by with_reducible assumption) ?_); rotate_left; focus (go_size; done)))); done))) (first | (go_at_call 88; (with_reducible refine (HB34.out _).mono ?_); rintro _ w12 ⟨rfl, hb12⟩; have hb12s := hb12.size; (try simp only [World.size_alloc, World.size_setCell, World.size_drew, World.heap_drewN] at hb12s); obtain ⟨hb12c, hb12f⟩ := bcell hb12; (try have : w.heap.size < w12.heap.size := by omega); (try have : w.heap.size + 1 < w12.heap.size := by omega); (try have : w.heap.size + 1 + 1 < w12.heap.size := by omega); (try have : w.heap.size + 1 + 1 + 1 < w12.heap.size := by omega); (try have : w7.heap.size < w12.heap.size := by omega)) | (go_at_call 79; (with_reducible refine (HT0.out _).mono ?_); rintro _ w13 ⟨rfl, hb13⟩; have hb13s := hb13.size; (try simp only [World.size_alloc, World.size_setCell, World.size_drew, World.heap_drewN] at hb13s); obtain ⟨hb13c, hb13f⟩ := bcell hb13; (try have : w.heap.size < w13.heap.size := by omega); (try have : w.heap.size + 1 < w13.heap.size := by omega); (try have : w.heap.size + 1 + 1 < w13.heap.size := by omega); (try have : w.heap.size + 1 + 1 + 1 < w13.heap.size := by omega); (try have : w7.heap.size < w13.heap.size := by omega)) | (go_at_call 48; (with_reducible refine (HYO.out _).mono ?_); rintro _ w14 ⟨rfl, hb14⟩; have hb14s := hb14.size; (try simp only [World.size_alloc, World.size_setCell, World.size_drew, World.heap_drewN] at hb14s); obtain ⟨hb14c, hb14f⟩ := bcell hb14; (try have : w.heap.size < w14.heap.size := by omega); (try have : w.heap.size + 1 < w14.heap.size := by omega); (try have : w.heap.size + 1 + 1 < w14.heap.size := by omega); (try have : w.heap.size + 1 + 1 + 1 < w14.heap.size := by omega); (try have : w7.heap.size < w14.heap.size := by omega)))) | fail
                all_goals
                  refine wp_named (fun W => Bk W w7.heap.size 45 [.int .u64 (wd (X + st) 0), .int .u64 (wd (X + st) 1), .int .u64 (wd (X + st) 2), .int .u64 (wd (X + st) 3)] ∧ Bk W (w.heap.size + 1) 26 [.bool false, .int .u64 0, .int .u64 0, .int .i64 0] ∧ Below w.heap.size w W) ⟨?h1, ?h2, ?h3⟩ ?_
                  case h1 => ((repeat (first | (with_reducible assumption) | ((with_reducible refine Bk.new_ ?_); (first | rfl | (simp only [World.size_alloc, World.size_setCell, World.size_drew, World.heap_drewN]; done))) | (with_reducible refine Bk.alloc ?_ _) | (with_reducible refine Bk.drew ?_) | (with_reducible refine Bk.drewN ?_ _) | ((with_reducible refine Bk.far ?_ ?_ _); rotate_left; focus (simp only []; omega)) | ((with_reducible refine Bk.below ?_ (by with_reducible assumption) ?_); rotate_left; focus (go_size; done)))); done)
                  case h2 => ((repeat (first | (with_reducible assumption) | ((with_reducible refine Bk.new_ ?_); (first | rfl | (simp only [World.size_alloc, World.size_setCell, World.size_drew, World.heap_drewN]; done))) | (with_reducible refine Bk.alloc ?_ _) | (with_reducible refine Bk.drew ?_) | (with_reducible refine Bk.drewN ?_ _) | ((with_reducible refine Bk.far ?_ ?_ _); rotate_left; focus (simp only []; omega)) | ((with_reducible refine Bk.below ?_ (by with_reducible assumption) ?_); rotate_left; focus (go_size; done)))); done)
                  case h3 => ((repeat' (first | (with_reducible exact Below.refl _ _) | (with_reducible assumption) | (with_reducible refine Below.drew ?_) | (with_reducible refine below_drewN ?_ _) | ((with_reducible refine Below.alloc ?_ ?_ _); rotate_left; focus (go_size; done)) | ((with_reducible refine Below.setCell ?_ ?_ _); rotate_left; focus (go_size; done)) | ((with_reducible refine Below.trans ?_ (Below.mono (by with_reducible assumption) ?_)); rotate_left; focus (go_size; done)))); done)
                  rintro V2 ⟨z0, z1, zw⟩
                  have z0l := z0.lt
                  have z1l := z1.lt
                  clear y0_0 y0_1 y0_2 y0_3 y0_4 y0_5 y0_6 y0_7
                  have z0_0 := z0.cell 0 rfl
                  have z0_1 := z0.cell 1 rfl
                  have z0_2 := z0.cell 2 rfl
                  have z0_3 := z0.cell 3 rfl
                  have z0_4 := z0.frozen 0
                  have z0_5 := z0.frozen 1
                  have z0_6 := z0.frozen 2
                  have z0_7 := z0.frozen 3
                  clear hb12 hb13 hb14 hb12c hb13c hb14c hb12f hb13f hb14f
                  have z1_0 := z1.cell 0 rfl
                  have z1_1 := z1.cell 1 rfl
                  have z1_2 := z1.cell 2 rfl
                  have z1_3 := z1.cell 3 rfl
                  have z1_4 := z1.frozen 0
                  have z1_5 := z1.frozen 1
                  have z1_6 := z1.frozen 2
                  have z1_7 := z1.frozen 3
                  go_wp2_with fail
                  refine bodyPost_ret (by simp [results, Try.results69, go_sem, *]; try rfl) rfl ?_
                  have e := HE.out
                  exact ⟨by rw [EC.out, ES.out, EE.out, e, show upK X false 0 = (0, false) from rfl, (nb_no 0).1, (nb_no 0).2.1, (nb_no 0).2.2, wd_zero, wd_zero]; rfl, by (repeat' (first | (with_reducible exact Below.refl _ _) | (with_reducible assumption) | (with_reducible refine Below.drew ?_) | (with_reducible refine below_drewN ?_ _) | ((with_reducible refine Below.alloc ?_ ?_ _); rotate_left; focus (go_size; done)) | ((with_reducible refine Below.setCell ?_ ?_ _); rotate_left; focus (go_size; done)) | ((with_reducible refine Below.trans ?_ (Below.mono (by with_reducible assumption) ?_)); rotate_left; focus (go_size; done))))⟩
          · have hjp : ((j : Int) == 0) = false := by rw [beq_eq_false_iff_ne]; omega
            have he := HRR.out
            rw [upK_up (by rw [← HBD.out]; exact HLT.out) (fun h => absurd h hj), ← HST.out] at he
            have HE := Far.mk he
            clear hlt hj he hrr hroom HRR hBd hX2 hstl hX3 hsum b0 b1
            have b0 := HB0.out
            have b1 := HB1.out
            rw [lcells_eq] at b0
            have b0_0 := b0.cell 0 rfl
            have b0_1 := b0.cell 1 rfl
            have b0_2 := b0.cell 2 rfl
            have b0_3 := b0.cell 3 rfl
            have b0_4 := b0.frozen 0
            have b0_5 := b0.frozen 1
            have b0_6 := b0.frozen 2
            have b0_7 := b0.frozen 3
            go_wp2_with fail
            go_region_held3 (fun w' => (w'.cell? ⟨w1.heap.size, 0, none⟩ = some (.int .u64 (wd X 0)) ∧ w'.cell? ⟨w1.heap.size, 1, none⟩ = some (.int .u64 (wd X 1)) ∧ w'.cell? ⟨w1.heap.size, 2, none⟩ = some (.int .u64 (wd X 2)) ∧ w'.cell? ⟨w1.heap.size, 3, none⟩ = some (.int .u64 (wd X 3)))) (first | (first | (go_keep; done) | (simp [go_sem]; done) | ((try dsimp only); (repeat' apply And.intro) <;> (first | (with_reducible assumption) | ((rw [World.cell?_alloc_lt _ _ _ (by show _ < _; omega)]); go_split_ands; (first | with_reducible assumption | (refine (World.cell?_alloc_lt _ _ _ (by show _ < _; omega)).symm.trans ?_; with_reducible assumption))) | ((rw [World.cell?_setCell_other _ _ _ _ (by intro e; injection e; omega)]); with_reducible assumption) | (go_keep; done) | (simp [go_sem]; done) | (simp (disch := go_size) [*, World.cell?_alloc_some, World.cell?_setCell_far]; done)))) | ((refine ⟨Bk.cell (t := 45) (cs := [.int .u64 (wd X 0), .int .u64 (wd X 1), .int .u64 (wd X 2), .int .u64 (wd X 3)]) ?_ 0 rfl, Bk.cell (t := 45) (cs := [.int .u64 (wd X 0), .int .u64 (wd X 1), .int .u64 (wd X 2), .int .u64 (wd X 3)]) ?_ 1 rfl, Bk.cell (t := 45) (cs := [.int .u64 (wd X 0), .int .u64 (wd X 1), .int .u64 (wd X 2), .int .u64 (wd X 3)]) ?_ 2 rfl, Bk.cell (t := 45) (cs := [.int .u64 (wd X 0), .int .u64 (wd X 1), .int .u64 (wd X 2), .int .u64 (wd X 3)]) ?_ 3 rfl⟩) <;> ((repeat (first | (with_reducible assumption) | ((with_reducible refine Bk.new_ ?_); (first | rfl | (simp only [World.size_alloc, World.size_setCell, World.size_drew, World.heap_drewN]; done))) | (with_reducible refine Bk.alloc ?_ _) | (with_reducible refine Bk.drew ?_) | (with_reducible refine Bk.drewN ?_ _) | ((with_reducible refine Bk.far ?_ ?_ _); rotate_left; focus (simp only []; omega)) | ((with_reducible refine Bk.below ?_ (by with_reducible assumption) ?_); rotate_left; focus (go_size; done)))); done))) (first | (go_at_call 88; (with_reducible refine (HB34.out _).mono ?_); rintro _ w2 ⟨rfl, hb2⟩; have hb2s := hb2.size; (try simp only [World.size_alloc, World.size_setCell, World.size_drew, World.heap_drewN] at hb2s); obtain ⟨hb2c, hb2f⟩ := bcell hb2; (try have : w.heap.size < w2.heap.size := by omega); (try have : w.heap.size + 1 < w2.heap.size := by omega); (try have : w.heap.size + 1 + 1 < w2.heap.size := by omega); (try have : w.heap.size + 1 + 1 + 1 < w2.heap.size := by omega); (try have : w1.heap.size < w2.heap.size := by omega); (try have : w1.heap.size + 1 < w2.heap.size := by omega); (try have : w1.heap.size + 1 + 1 < w2.heap.size := by omega); (try have : w1.heap.size + 1 + 1 + 1 < w2.heap.size := by omega)) | (go_at_call 79; (with_reducible refine (HT.out _).mono ?_); rintro _ w3 ⟨rfl, hb3⟩; have hb3s := hb3.size; (try simp only [World.size_alloc, World.size_setCell, World.size_drew, World.heap_drewN] at hb3s); obtain ⟨hb3c, hb3f⟩ := bcell hb3; (try have : w.heap.size < w3.heap.size := by omega); (try have : w.heap.size + 1 < w3.heap.size := by omega); (try have : w.heap.size + 1 + 1 < w3.heap.size := by omega); (try have : w.heap.size + 1 + 1 + 1 < w3.heap.size := by omega); (try have : w1.heap.size < w3.heap.size := by omega); (try have : w1.heap.size + 1 < w3.heap.size := by omega); (try have : w1.heap.size + 1 + 1 < w3.heap.size := by omega); (try have : w1.heap.size + 1 + 1 + 1 < w3.heap.size := by omega); (try have : w2.heap.size < w3.heap.size := by omega); (try have : w2.heap.size + 1 < w3.heap.size := by omega); (try have : w2.heap.size + 1 + 1 < w3.heap.size := by omega); (try have : w2.heap.size + 1 + 1 + 1 < w3.heap.size := by omega)) | (go_at_call 79; (with_reducible refine (HTz.out _).mono ?_); rintro _ w3 ⟨rfl, hb3⟩; have hb3s := hb3.size; (try simp only [World.size_alloc, World.size_setCell, World.size_drew, World.heap_drewN] at hb3s); obtain ⟨hb3c, hb3f⟩ := bcell hb3; (try have : w.heap.size < w3.heap.size := by omega); (try have : w.heap.size + 1 < w3.heap.size := by omega); (try have : w.heap.size + 1 + 1 < w3.heap.size := by omega); (try have : w.heap.size + 1 + 1 + 1 < w3.heap.size := by omega); (try have : w1.heap.size < w3.heap.size := by omega); (try have : w1.heap.size + 1 < w3.heap.size := by omega); (try have : w1.heap.size + 1 + 1 < w3.heap.size := by omega); (try have : w1.heap.size + 1 + 1 + 1 < w3.heap.size := by omega); (try have : w2.heap.size < w3.heap.size := by omega); (try have : w2.heap.size + 1 < w3.heap.size := by omega); (try have : w2.heap.size + 1 + 1 < w3.heap.size := by omega); (try have : w2.heap.size + 1 + 1 + 1 < w3.heap.size := by omega)) | (go_at_call 48; (with_reducible refine (HO.out _).mono ?_); rintro _ w4 ⟨rfl, hb4⟩; have hb4s := hb4.size; (try simp only [World.size_alloc, World.size_setCell, World.size_drew, World.heap_drewN] at hb4s); obtain ⟨hb4c, hb4f⟩ := bcell hb4; (try have : w.heap.size < w4.heap.size := by omega); (try have : w.heap.size + 1 < w4.heap.size := by omega); (try have : w.heap.size + 1 + 1 < w4.heap.size := by omega); (try have : w.heap.size + 1 + 1 + 1 < w4.heap.size := by omega); (try have : w1.heap.size < w4.heap.size := by omega); (try have : w1.heap.size + 1 < w4.heap.size := by omega); (try have : w1.heap.size + 1 + 1 < w4.heap.size := by omega); (try have : w1.heap.size + 1 + 1 + 1 < w4.heap.size := by omega); (try have : w3.heap.size < w4.heap.size := by omega); (try have : w3.heap.size + 1 < w4.heap.size := by omega); (try have : w3.heap.size + 1 + 1 < w4.heap.size := by omega); (try have : w3.heap.size + 1 + 1 + 1 < w4.heap.size := by omega)))
            all_goals
              refine wp_named (fun W => Bk W w1.heap.size 45 [.int .u64 (wd X 0), .int .u64 (wd X 1), .int .u64 (wd X 2), .int .u64 (wd X 3)] ∧ Bk W (w.heap.size + 1) 26 [.bool false, .int .u64 0, .int .u64 0, .int .i64 0] ∧ Below w.heap.size w W) ⟨?h1, ?h2, ?h3⟩ ?_
              case h1 => ((repeat (first | (with_reducible assumption) | ((with_reducible refine Bk.new_ ?_); (first | rfl | (simp only [World.size_alloc, World.size_setCell, World.size_drew, World.heap_drewN]; done))) | (with_reducible refine Bk.alloc ?_ _) | (with_reducible refine Bk.drew ?_) | (with_reducible refine Bk.drewN ?_ _) | ((with_reducible refine Bk.far ?_ ?_ _); rotate_left; focus (simp only []; omega)) | ((with_reducible refine Bk.below ?_ (by with_reducible assumption) ?_); rotate_left; focus (go_size; done)))); done)
              case h2 => ((repeat (first | (with_reducible assumption) | ((with_reducible refine Bk.new_ ?_); (first | rfl | (simp only [World.size_alloc, World.size_setCell, World.size_drew, World.heap_drewN]; done))) | (with_reducible refine Bk.alloc ?_ _) | (with_reducible refine Bk.drew ?_) | (with_reducible refine Bk.drewN ?_ _) | ((with_reducible refine Bk.far ?_ ?_ _); rotate_left; focus (simp only []; omega)) | ((with_reducible refine Bk.below ?_ (by with_reducible assumption) ?_); rotate_left; focus (go_size; done)))); done)
              case h3 => ((repeat' (first | (with_reducible exact Below.refl _ _) | (with_reducible assumption) | (with_reducible refine Below.drew ?_) | (with_reducible refine below_drewN ?_ _) | ((with_reducible refine Below.alloc ?_ ?_ _); rotate_left; focus (go_size; done)) | ((with_reducible refine Below.setCell ?_ ?_ _); rotate_left; focus (go_size; done)) | ((with_reducible refine Below.trans ?_ (Below.mono (by with_reducible assumption) ?_)); rotate_left; focus (go_size; done)))); done)
              rintro W1 ⟨k0, k1, kw⟩
              have k0l := k0.lt
              have k1l := k1.lt
              clear b0_0 b0_1 b0_2 b0_3 b0_4 b0_5 b0_6 b0_7
              clear hb2 hb3 hb4 hb2c hb3c hb4c hb2f hb3f hb4f
              go_wp2_with fail
              first | (with_reducible refine (HP.out _).mono ?_) | (with_reducible refine (HPz.out _).mono ?_)
              rintro _ w5 ⟨rfl, hb5⟩; have hb5s := hb5.size; (try simp only [World.size_alloc, World.size_setCell, World.size_drew, World.heap_drewN] at hb5s); obtain ⟨hb5c, hb5f⟩ := bcell hb5; (try have : w.heap.size < w5.heap.size := by omega); (try have : w.heap.size + 1 < w5.heap.size := by omega); (try have : w.heap.size + 1 + 1 < w5.heap.size := by omega); (try have : w.heap.size + 1 + 1 + 1 < w5.heap.size := by omega)
              have m0 : Bk w5 w1.heap.size 45 [.int .u64 (wd X 0), .int .u64 (wd X 1), .int .u64 (wd X 2), .int .u64 (wd X 3)] := by (repeat (first | (with_reducible assumption) | ((with_reducible refine Bk.new_ ?_); (first | rfl | (simp only [World.size_alloc, World.size_setCell, World.size_drew, World.heap_drewN]; done))) | (with_reducible refine Bk.alloc ?_ _) | (with_reducible refine Bk.drew ?_) | (with_reducible refine Bk.drewN ?_ _) | ((with_reducible refine Bk.far ?_ ?_ _); rotate_left; focus (simp only []; omega)) | ((with_reducible refine Bk.below ?_ (by with_reducible assumption) ?_); rotate_left; focus (go_size; done))))
              have m1 : Bk w5 (w.heap.size + 1) 26 [.bool false, .int .u64 0, .int .u64 0, .int .i64 0] := by (repeat (first | (with_reducible assumption) | ((with_reducible refine Bk.new_ ?_); (first | rfl | (simp only [World.size_alloc, World.size_setCell, World.size_drew, World.heap_drewN]; done))) | (with_reducible refine Bk.alloc ?_ _) | (with_reducible refine Bk.drew ?_) | (with_reducible refine Bk.drewN ?_ _) | ((with_reducible refine Bk.far ?_ ?_ _); rotate_left; focus (simp only []; omega)) | ((with_reducible refine Bk.below ?_ (by with_reducible assumption) ?_); rotate_left; focus (go_size; done))))
              have m0l := m0.lt
              have m1l := m1.lt
              clear hb5c hb5f
              go_wp2_with fail
              refine (HL.out _).mono ?_
              rintro _ w6 ⟨rfl, hb6⟩; have hb6s := hb6.size; (try simp only [World.size_alloc, World.size_setCell, World.size_drew, World.heap_drewN] at hb6s); obtain ⟨hb6c, hb6f⟩ := bcell hb6; (try have : w.heap.size < w6.heap.size := by omega); (try have : w.heap.size + 1 < w6.heap.size := by omega); (try have : w.heap.size + 1 + 1 < w6.heap.size := by omega); (try have : w.heap.size + 1 + 1 + 1 < w6.heap.size := by omega)
              have n0 : Bk w6 w1.heap.size 45 [.int .u64 (wd X 0), .int .u64 (wd X 1), .int .u64 (wd X 2), .int .u64 (wd X 3)] := by (repeat (first | (with_reducible assumption) | ((with_reducible refine Bk.new_ ?_); (first | rfl | (simp only [World.size_alloc, World.size_setCell, World.size_drew, World.heap_drewN]; done))) | (with_reducible refine Bk.alloc ?_ _) | (with_reducible refine Bk.drew ?_) | (with_reducible refine Bk.drewN ?_ _) | ((with_reducible refine Bk.far ?_ ?_ _); rotate_left; focus (simp only []; omega)) | ((with_reducible refine Bk.below ?_ (by with_reducible assumption) ?_); rotate_left; focus (go_size; done))))
              have n1 : Bk w6 (w.heap.size + 1) 26 [.bool false, .int .u64 0, .int .u64 0, .int .i64 0] := by (repeat (first | (with_reducible assumption) | ((with_reducible refine Bk.new_ ?_); (first | rfl | (simp only [World.size_alloc, World.size_setCell, World.size_drew, World.heap_drewN]; done))) | (with_reducible refine Bk.alloc ?_ _) | (with_reducible refine Bk.drew ?_) | (with_reducible refine Bk.drewN ?_ _) | ((with_reducible refine Bk.far ?_ ?_ _); rotate_left; focus (simp only []; omega)) | ((with_reducible refine Bk.below ?_ (by with_reducible assumption) ?_); rotate_left; focus (go_size; done))))
              have n0l := n0.lt
              have n1l := n1.lt
              have nw : Below w.heap.size w w6 := by (repeat' (first | (with_reducible exact Below.refl _ _) | (with_reducible assumption) | (with_reducible refine Below.drew ?_) | (with_reducible refine below_drewN ?_ _) | ((with_reducible refine Below.alloc ?_ ?_ _); rotate_left; focus (go_size; done)) | ((with_reducible refine Below.setCell ?_ ?_ _); rotate_left; focus (go_size; done)) | ((with_reducible refine Below.trans ?_ (Below.mono (by with_reducible assumption) ?_)); rotate_left; focus (go_size; done))))
              have n0_0 := n0.cell 0 rfl
              have n0_1 := n0.cell 1 rfl
              have n0_2 := n0.cell 2 rfl
              have n0_3 := n0.cell 3 rfl
              have n0_4 := n0.frozen 0
              have n0_5 := n0.frozen 1
              have n0_6 := n0.frozen 2
              have n0_7 := n0.frozen 3
              clear hb6c hb6f
            all_goals
              go_wp2_with fail
              refine (HPL.out _).mono ?_
              rintro _ w7 ⟨rfl, hb7⟩; have hb7s := hb7.size; (try simp only [World.size_alloc, World.size_setCell, World.size_drew, World.heap_drewN] at hb7s); obtain ⟨hb7c, hb7f⟩ := bcell hb7; (try have : w.heap.size < w7.heap.size := by omega); (try have : w.heap.size + 1 < w7.heap.size := by omega); (try have : w.heap.size + 1 + 1 < w7.heap.size := by omega); (try have : w.heap.size + 1 + 1 + 1 < w7.heap.size := by omega)
              have q1 : Bk w7 (w.heap.size + 1) 26 [.bool false, .int .u64 0, .int .u64 0, .int .i64 0] := by (repeat (first | (with_reducible assumption) | ((with_reducible refine Bk.new_ ?_); (first | rfl | (simp only [World.size_alloc, World.size_setCell, World.size_drew, World.heap_drewN]; done))) | (with_reducible refine Bk.alloc ?_ _) | (with_reducible refine Bk.drew ?_) | (with_reducible refine Bk.drewN ?_ _) | ((with_reducible refine Bk.far ?_ ?_ _); rotate_left; focus (simp only []; omega)) | ((with_reducible refine Bk.below ?_ (by with_reducible assumption) ?_); rotate_left; focus (go_size; done))))
              have q1l := q1.lt
              clear hb7c hb7f
              go_wp2_with fail
              first | (go_region_with fail) | fail
              all_goals
                go_wp2_with fail
                refine calls_named (fun W => Bk W (w.heap.size + 1) 26 [.bool false, .int .u64 0, .int .u64 0, .int .i64 0] ∧ Below w.heap.size w W) ⟨?h1, ?h2⟩ ?_
                case h1 => ((repeat (first | (with_reducible assumption) | ((with_reducible refine Bk.new_ ?_); (first | rfl | (simp only [World.size_alloc, World.size_setCell, World.size_drew, World.heap_drewN]; done))) | (with_reducible refine Bk.alloc ?_ _) | (with_reducible refine Bk.drew ?_) | (with_reducible refine Bk.drewN ?_ _) | ((with_reducible refine Bk.far ?_ ?_ _); rotate_left; focus (simp only []; omega)) | ((with_reducible refine Bk.below ?_ (by with_reducible assumption) ?_); rotate_left; focus (go_size; done)))); done)
                case h2 => ((repeat' (first | (with_reducible exact Below.refl _ _) | (with_reducible assumption) | (with_reducible refine Below.drew ?_) | (with_reducible refine below_drewN ?_ _) | ((with_reducible refine Below.alloc ?_ ?_ _); rotate_left; focus (go_size; done)) | ((with_reducible refine Below.setCell ?_ ?_ _); rotate_left; focus (go_size; done)) | ((with_reducible refine Below.trans ?_ (Below.mono (by with_reducible assumption) ?_)); rotate_left; focus (go_size; done)))); done)
                rintro V2 ⟨tr2, tw2⟩
                have tr2l := tr2.lt
                refine (HF.out _).mono ?_
                rintro _ w8 ⟨rfl, hb8⟩; have hb8s := hb8.size; (try simp only [World.size_alloc, World.size_setCell, World.size_drew, World.heap_drewN] at hb8s); obtain ⟨hb8c, hb8f⟩ := bcell hb8; (try have : w.heap.size < w8.heap.size := by omega); (try have : w.heap.size + 1 < w8.heap.size := by omega); (try have : w.heap.size + 1 + 1 < w8.heap.size := by omega); (try have : w.heap.size + 1 + 1 + 1 < w8.heap.size := by omega)
                have n8 : Bk w8 (w.heap.size + 1) 26 [.bool false, .int .u64 0, .int .u64 0, .int .i64 0] := by (repeat (first | (with_reducible assumption) | ((with_reducible refine Bk.new_ ?_); (first | rfl | (simp only [World.size_alloc, World.size_setCell, World.size_drew, World.heap_drewN]; done))) | (with_reducible refine Bk.alloc ?_ _) | (with_reducible refine Bk.drew ?_) | (with_reducible refine Bk.drewN ?_ _) | ((with_reducible refine Bk.far ?_ ?_ _); rotate_left; focus (simp only []; omega)) | ((with_reducible refine Bk.below ?_ (by with_reducible assumption) ?_); rotate_left; focus (go_size; done))))
                have n8_0 := n8.cell 0 rfl
                have n8_1 := n8.cell 1 rfl
                have n8_2 := n8.cell 2 rfl
                have n8_3 := n8.cell 3 rfl
                have n8_4 := n8.frozen 0
                have n8_5 := n8.frozen 1
                have n8_6 := n8.frozen 2
                have n8_7 := n8.frozen 3
                clear hb8c hb8f
                go_wp2_with fail
                refine bodyPost_ret (by simp [results, Try.results69, go_sem, *]; try rfl) rfl ?_
                exact ⟨by rw [EC.out, ES.out, EE.out, HE.out, (nb_yes _).1, (nb_yes _).2.1, (nb_yes _).2.2, show ∀ x, sg false x = false from fun x => rfl], by (repeat' (first | (with_reducible exact Below.refl _ _) | (with_reducible assumption) | (with_reducible refine Below.drew ?_) | (with_reducible refine below_drewN ?_ _) | ((with_reducible refine Below.alloc ?_ ?_ _); rotate_left; focus (go_size; done)) | ((with_reducible refine Below.setCell ?_ ?_ _); rotate_left; focus (go_size; done)) | ((with_reducible refine Below.trans ?_ (Below.mono (by with_reducible assumption) ?_)); rotate_left; focus (go_size; done))))⟩
        · have hcc : 0 ≤ cmpN X Bd := by unfold cmpN; split <;> (try split) <;> omega
          generalize cmpN X Bd = cc at *
          have he := HRR.out
          rw [upK_up' (by rw [← HBD.out]; rintro ⟨h, _⟩; exact hlt h)] at he
          have HE := Far.mk he
          clear hlt he hrr hroom HRR hBd hX2 hstl hX3 b0 b1
          have b0 := HB0.out
          have b1 := HB1.out
          rw [lcells_eq] at b0
          have b0_0 := b0.cell 0 rfl
          have b0_1 := b0.cell 1 rfl
          have b0_2 := b0.cell 2 rfl
          have b0_3 := b0.cell 3 rfl
          have b0_4 := b0.frozen 0
          have b0_5 := b0.frozen 1
          have b0_6 := b0.frozen 2
          have b0_7 := b0.frozen 3
          go_wp2_with fail
          go_region_held3 (fun w' => (w'.cell? ⟨w1.heap.size, 0, none⟩ = some (.int .u64 (wd X 0)) ∧ w'.cell? ⟨w1.heap.size, 1, none⟩ = some (.int .u64 (wd X 1)) ∧ w'.cell? ⟨w1.heap.size, 2, none⟩ = some (.int .u64 (wd X 2)) ∧ w'.cell? ⟨w1.heap.size, 3, none⟩ = some (.int .u64 (wd X 3)))) (first | (first | (go_keep; done) | (simp [go_sem]; done) | ((try dsimp only); (repeat' apply And.intro) <;> (first | (with_reducible assumption) | ((rw [World.cell?_alloc_lt _ _ _ (by show _ < _; omega)]); go_split_ands; (first | with_reducible assumption | (refine (World.cell?_alloc_lt _ _ _ (by show _ < _; omega)).symm.trans ?_; with_reducible assumption))) | ((rw [World.cell?_setCell_other _ _ _ _ (by intro e; injection e; omega)]); with_reducible assumption) | (go_keep; done) | (simp [go_sem]; done) | (simp (disch := go_size) [*, World.cell?_alloc_some, World.cell?_setCell_far]; done)))) | ((refine ⟨Bk.cell (t := 45) (cs := [.int .u64 (wd X 0), .int .u64 (wd X 1), .int .u64 (wd X 2), .int .u64 (wd X 3)]) ?_ 0 rfl, Bk.cell (t := 45) (cs := [.int .u64 (wd X 0), .int .u64 (wd X 1), .int .u64 (wd X 2), .int .u64 (wd X 3)]) ?_ 1 rfl, Bk.cell (t := 45) (cs := [.int .u64 (wd X 0), .int .u64 (wd X 1), .int .u64 (wd X 2), .int .u64 (wd X 3)]) ?_ 2 rfl, Bk.cell (t := 45) (cs := [.int .u64 (wd X 0), .int .u64 (wd X 1), .int .u64 (wd X 2), .int .u64 (wd X 3)]) ?_ 3 rfl⟩) <;> ((repeat (first | (with_reducible assumption) | ((with_reducible refine Bk.new_ ?_); (first | rfl | (simp only [World.size_alloc, World.size_setCell, World.size_drew, World.heap_drewN]; done))) | (with_reducible refine Bk.alloc ?_ _) | (with_reducible refine Bk.drew ?_) | (with_reducible refine Bk.drewN ?_ _) | ((with_reducible refine Bk.far ?_ ?_ _); rotate_left; focus (simp only []; omega)) | ((with_reducible refine Bk.below ?_ (by with_reducible assumption) ?_); rotate_left; focus (go_size; done)))); done))) (first | (go_at_call 88; (with_reducible refine (HB34.out _).mono ?_); rintro _ w2 ⟨rfl, hb2⟩; have hb2s := hb2.size; (try simp only [World.size_alloc, World.size_setCell, World.size_drew, World.heap_drewN] at hb2s); obtain ⟨hb2c, hb2f⟩ := bcell hb2; (try have : w.heap.size < w2.heap.size := by omega); (try have : w.heap.size + 1 < w2.heap.size := by omega); (try have : w.heap.size + 1 + 1 < w2.heap.size := by omega); (try have : w.heap.size + 1 + 1 + 1 < w2.heap.size := by omega); (try have : w1.heap.size < w2.heap.size := by omega); (try have : w1.heap.size + 1 < w2.heap.size := by omega); (try have : w1.heap.size + 1 + 1 < w2.heap.size := by omega); (try have : w1.heap.size + 1 + 1 + 1 < w2.heap.size := by omega)) | (go_at_call 79; (with_reducible refine (HT.out _).mono ?_); rintro _ w3 ⟨rfl, hb3⟩; have hb3s := hb3.size; (try simp only [World.size_alloc, World.size_setCell, World.size_drew, World.heap_drewN] at hb3s); obtain ⟨hb3c, hb3f⟩ := bcell hb3; (try have : w.heap.size < w3.heap.size := by omega); (try have : w.heap.size + 1 < w3.heap.size := by omega); (try have : w.heap.size + 1 + 1 < w3.heap.size := by omega); (try have : w.heap.size + 1 + 1 + 1 < w3.heap.size := by omega); (try have : w1.heap.size < w3.heap.size := by omega); (try have : w1.heap.size + 1 < w3.heap.size := by omega); (try have : w1.heap.size + 1 + 1 < w3.heap.size := by omega); (try have : w1.heap.size + 1 + 1 + 1 < w3.heap.size := by omega); (try have : w2.heap.size < w3.heap.size := by omega); (try have : w2.heap.size + 1 < w3.heap.size := by omega); (try have : w2.heap.size + 1 + 1 < w3.heap.size := by omega); (try have : w2.heap.size + 1 + 1 + 1 < w3.heap.size := by omega)) | (go_at_call 79; (with_reducible refine (HTz.out _).mono ?_); rintro _ w3 ⟨rfl, hb3⟩; have hb3s := hb3.size; (try simp only [World.size_alloc, World.size_setCell, World.size_drew, World.heap_drewN] at hb3s); obtain ⟨hb3c, hb3f⟩ := bcell hb3; (try have : w.heap.size < w3.heap.size := by omega); (try have : w.heap.size + 1 < w3.heap.size := by omega); (try have : w.heap.size + 1 + 1 < w3.heap.size := by omega); (try have : w.heap.size + 1 + 1 + 1 < w3.heap.size := by omega); (try have : w1.heap.size < w3.heap.size := by omega); (try have : w1.heap.size + 1 < w3.heap.size := by omega); (try have : w1.heap.size + 1 + 1 < w3.heap.size := by omega); (try have : w1.heap.size + 1 + 1 + 1 < w3.heap.size := by omega); (try have : w2.heap.size < w3.heap.size := by omega); (try have : w2.heap.size + 1 < w3.heap.size := by omega); (try have : w2.heap.size + 1 + 1 < w3.heap.size := by omega); (try have : w2.heap.size + 1 + 1 + 1 < w3.heap.size := by omega)) | (go_at_call 48; (with_reducible refine (HO.out _).mono ?_); rintro _ w4 ⟨rfl, hb4⟩; have hb4s := hb4.size; (try simp only [World.size_alloc, World.size_setCell, World.size_drew, World.heap_drewN] at hb4s); obtain ⟨hb4c, hb4f⟩ := bcell hb4; (try have : w.heap.size < w4.heap.size := by omega); (try have : w.heap.size + 1 < w4.heap.size := by omega); (try have : w.heap.size + 1 + 1 < w4.heap.size := by omega); (try have : w.heap.size + 1 + 1 + 1 < w4.heap.size := by omega); (try have : w1.heap.size < w4.heap.size := by omega); (try have : w1.heap.size + 1 < w4.heap.size := by omega); (try have : w1.heap.size + 1 + 1 < w4.heap.size := by omega); (try have : w1.heap.size + 1 + 1 + 1 < w4.heap.size := by omega); (try have : w3.heap.size < w4.heap.size := by omega); (try have : w3.heap.size + 1 < w4.heap.size := by omega); (try have : w3.heap.size + 1 + 1 < w4.heap.size := by omega); (try have : w3.heap.size + 1 + 1 + 1 < w4.heap.size := by omega)))
          all_goals
            refine wp_named (fun W => Bk W w1.heap.size 45 [.int .u64 (wd X 0), .int .u64 (wd X 1), .int .u64 (wd X 2), .int .u64 (wd X 3)] ∧ Bk W (w.heap.size + 1) 26 [.bool false, .int .u64 0, .int .u64 0, .int .i64 0] ∧ Below w.heap.size w W) ⟨?h1, ?h2, ?h3⟩ ?_
            case h1 => ((repeat (first | (with_reducible assumption) | ((with_reducible refine Bk.new_ ?_); (first | rfl | (simp only [World.size_alloc, World.size_setCell, World.size_drew, World.heap_drewN]; done))) | (with_reducible refine Bk.alloc ?_ _) | (with_reducible refine Bk.drew ?_) | (with_reducible refine Bk.drewN ?_ _) | ((with_reducible refine Bk.far ?_ ?_ _); rotate_left; focus (simp only []; omega)) | ((with_reducible refine Bk.below ?_ (by with_reducible assumption) ?_); rotate_left; focus (go_size; done)))); done)
            case h2 => ((repeat (first | (with_reducible assumption) | ((with_reducible refine Bk.new_ ?_); (first | rfl | (simp only [World.size_alloc, World.size_setCell, World.size_drew, World.heap_drewN]; done))) | (with_reducible refine Bk.alloc ?_ _) | (with_reducible refine Bk.drew ?_) | (with_reducible refine Bk.drewN ?_ _) | ((with_reducible refine Bk.far ?_ ?_ _); rotate_left; focus (simp only []; omega)) | ((with_reducible refine Bk.below ?_ (by with_reducible assumption) ?_); rotate_left; focus (go_size; done)))); done)
            case h3 => ((repeat' (first | (with_reducible exact Below.refl _ _) | (with_reducible assumption) | (with_reducible refine Below.drew ?_) | (with_reducible refine below_drewN ?_ _) | ((with_reducible refine Below.alloc ?_ ?_ _); rotate_left; focus (go_size; done)) | ((with_reducible refine Below.setCell ?_ ?_ _); rotate_left; focus (go_size; done)) | ((with_reducible refine Below.trans ?_ (Below.mono (by with_reducible assumption) ?_)); rotate_left; focus (go_size; done)))); done)
            rintro W1 ⟨k0, k1, kw⟩
            have k0l := k0.lt
            have k1l := k1.lt
            clear b0_0 b0_1 b0_2 b0_3 b0_4 b0_5 b0_6 b0_7
            clear hb2 hb3 hb4 hb2c hb3c hb4c hb2f hb3f hb4f
            go_wp2_with fail
            first | (with_reducible refine (HP.out _).mono ?_) | (with_reducible refine (HPz.out _).mono ?_)
            rintro _ w5 ⟨rfl, hb5⟩; have hb5s := hb5.size; (try simp only [World.size_alloc, World.size_setCell, World.size_drew, World.heap_drewN] at hb5s); obtain ⟨hb5c, hb5f⟩ := bcell hb5; (try have : w.heap.size < w5.heap.size := by omega); (try have : w.heap.size + 1 < w5.heap.size := by omega); (try have : w.heap.size + 1 + 1 < w5.heap.size := by omega); (try have : w.heap.size + 1 + 1 + 1 < w5.heap.size := by omega)
            have m0 : Bk w5 w1.heap.size 45 [.int .u64 (wd X 0), .int .u64 (wd X 1), .int .u64 (wd X 2), .int .u64 (wd X 3)] := by (repeat (first | (with_reducible assumption) | ((with_reducible refine Bk.new_ ?_); (first | rfl | (simp only [World.size_alloc, World.size_setCell, World.size_drew, World.heap_drewN]; done))) | (with_reducible refine Bk.alloc ?_ _) | (with_reducible refine Bk.drew ?_) | (with_reducible refine Bk.drewN ?_ _) | ((with_reducible refine Bk.far ?_ ?_ _); rotate_left; focus (simp only []; omega)) | ((with_reducible refine Bk.below ?_ (by with_reducible assumption) ?_); rotate_left; focus (go_size; done))))
            have m1 : Bk w5 (w.heap.size + 1) 26 [.bool false, .int .u64 0, .int .u64 0, .int .i64 0] := by (repeat (first | (with_reducible assumption) | ((with_reducible refine Bk.new_ ?_); (first | rfl | (simp only [World.size_alloc, World.size_setCell, World.size_drew, World.heap_drewN]; done))) | (with_reducible refine Bk.alloc ?_ _) | (with_reducible refine Bk.drew ?_) | (with_reducible refine Bk.drewN ?_ _) | ((with_reducible refine Bk.far ?_ ?_ _); rotate_left; focus (simp only []; omega)) | ((with_reducible refine Bk.below ?_ (by with_reducible assumption) ?_); rotate_left; focus (go_size; done))))
            have m0l := m0.lt
            have m1l := m1.lt
            clear hb5c hb5f
            go_wp2_with fail
            refine (HL.out _).mono ?_
            rintro _ w6 ⟨rfl, hb6⟩; have hb6s := hb6.size; (try simp only [World.size_alloc, World.size_setCell, World.size_drew, World.heap_drewN] at hb6s); obtain ⟨hb6c, hb6f⟩ := bcell hb6; (try have : w.heap.size < w6.heap.size := by omega); (try have : w.heap.size + 1 < w6.heap.size := by omega); (try have : w.heap.size + 1 + 1 < w6.heap.size := by omega); (try have : w.heap.size + 1 + 1 + 1 < w6.heap.size := by omega)
            have n0 : Bk w6 w1.heap.size 45 [.int .u64 (wd X 0), .int .u64 (wd X 1), .int .u64 (wd X 2), .int .u64 (wd X 3)] := by (repeat (first | (with_reducible assumption) | ((with_reducible refine Bk.new_ ?_); (first | rfl | (simp only [World.size_alloc, World.size_setCell, World.size_drew, World.heap_drewN]; done))) | (with_reducible refine Bk.alloc ?_ _) | (with_reducible refine Bk.drew ?_) | (with_reducible refine Bk.drewN ?_ _) | ((with_reducible refine Bk.far ?_ ?_ _); rotate_left; focus (simp only []; omega)) | ((with_reducible refine Bk.below ?_ (by with_reducible assumption) ?_); rotate_left; focus (go_size; done))))
            have n1 : Bk w6 (w.heap.size + 1) 26 [.bool false, .int .u64 0, .int .u64 0, .int .i64 0] := by (repeat (first | (with_reducible assumption) | ((with_reducible refine Bk.new_ ?_); (first | rfl | (simp only [World.size_alloc, World.size_setCell, World.size_drew, World.heap_drewN]; done))) | (with_reducible refine Bk.alloc ?_ _) | (with_reducible refine Bk.drew ?_) | (with_reducible refine Bk.drewN ?_ _) | ((with_reducible refine Bk.far ?_ ?_ _); rotate_left; focus (simp only []; omega)) | ((with_reducible refine Bk.below ?_ (by with_reducible assumption) ?_); rotate_left; focus (go_size; done))))
            have n0l := n0.lt
            have n1l := n1.lt
            have nw : Below w.heap.size w w6 := by (repeat' (first | (with_reducible exact Below.refl _ _) | (with_reducible assumption) | (with_reducible refine Below.drew ?_) | (with_reducible refine below_drewN ?_ _) | ((with_reducible refine Below.alloc ?_ ?_ _); rotate_left; focus (go_size; done)) | ((with_reducible refine Below.setCell ?_ ?_ _); rotate_left; focus (go_size; done)) | ((with_reducible refine Below.trans ?_ (Below.mono (by with_reducible assumption) ?_)); rotate_left; focus (go_size; done))))
            have n0_0 := n0.cell 0 rfl
            have n0_1 := n0.cell 1 rfl
            have n0_2 := n0.cell 2 rfl
            have n0_3 := n0.cell 3 rfl
            have n0_4 := n0.frozen 0
            have n0_5 := n0.frozen 1
            have n0_6 := n0.frozen 2
            have n0_7 := n0.frozen 3
            clear hb6c hb6f
          all_goals
            go_wp2_with fail
            go_roundg j
            case measure => omega
            case rel => exact ⟨by omega, rfl, HE, Far.mk (by simp), by rw [lcells_eq]; (repeat (first | (with_reducible assumption) | ((with_reducible refine Bk.new_ ?_); (first | rfl | (simp only [World.size_alloc, World.size_setCell, World.size_drew, World.heap_drewN]; done))) | (with_reducible refine Bk.alloc ?_ _) | (with_reducible refine Bk.drew ?_) | (with_reducible refine Bk.drewN ?_ _) | ((with_reducible refine Bk.far ?_ ?_ _); rotate_left; focus (simp only []; omega)) | ((with_reducible refine Bk.below ?_ (by with_reducible assumption) ?_); rotate_left; focus (go_size; done)))), by (repeat (first | (with_reducible assumption) | ((with_reducible refine Bk.new_ ?_); (first | rfl | (simp only [World.size_alloc, World.size_setCell, World.size_drew, World.heap_drewN]; done))) | (with_reducible refine Bk.alloc ?_ _) | (with_reducible refine Bk.drew ?_) | (with_reducible refine Bk.drewN ?_ _) | ((with_reducible refine Bk.far ?_ ?_ _); rotate_left; focus (simp only []; omega)) | ((with_reducible refine Bk.below ?_ (by with_reducible assumption) ?_); rotate_left; focus (go_size; done)))), by go_size, by (repeat' (first | (with_reducible exact Below.refl _ _) | (with_reducible assumption) | (with_reducible refine Below.drew ?_) | (with_reducible refine below_drewN ?_ _) | ((with_reducible refine Below.alloc ?_ ?_ _); rotate_left; focus (go_size; done)) | ((with_reducible refine Below.setCell ?_ ?_ _); rotate_left; focus (go_size; done)) | ((with_reducible refine Below.trans ?_ (Below.mono (by with_reducible assumption) ?_)); rotate_left; focus (go_size; done))))⟩
      · have HRR : Far (r = upK X true (j + 1)) := hrr
        by_cases hle : X ≤ Bd
        · have hcc : cmpN X Bd ≤ 0 := by unfold cmpN; split <;> (try split) <;> omega
          have hroom2 : st ≤ X := by
            rw [HST.out]
            refine down_room (HX0.out rfl) jn ?_
            rcases hroom.out with h | h | h
            · left; omega
            · right; exact h
            · cases h
          have HM := Lib.hid (fun W => minus4_any X st hX2 hroom2 W)
          have HF : Hid (∀ W, Calls Try.prog 51 #[.bool false, .agg #[.int .u64 (wd (X - st) 0), .int .u64 (wd (X - st) 1), .int .u64 (wd (X - st) 2), .int .u64 (wd (X - st) 3)], .int .i64 18] W fun e w' => e = .returned (.tuple #[.agg #[.bool (sg false (FitC ((X - st)) (10 ^ 18))), .int .u64 (wd (FitC ((X - st)) (10 ^ 18)) 1), .int .u64 (wd (FitC ((X - st)) (10 ^ 18)) 0), .int .i64 (FitS ((X - st)) (10 ^ 18))], .int .i64 (FitE (X - st) (10 ^ 18))]) ∧ Below W.heap.size W w') := Lib.hid (fun W => fit_any false (X - st) 18 (by omega) (by decide) W)
          generalize cmpN X Bd = cc at *
          have he := HRR.out
          rw [upK_down (by rw [← HBD.out]; exact hle), ← HST.out] at he
          have HE := Far.mk he
          clear hle he hrr hroom HRR hBd hX2 hstl hX3 hroom2 b0 b1
          have b0 := HB0.out
          have b1 := HB1.out
          rw [lcells_eq] at b0
          have b0_0 := b0.cell 0 rfl
          have b0_1 := b0.cell 1 rfl
          have b0_2 := b0.cell 2 rfl
          have b0_3 := b0.cell 3 rfl
          have b0_4 := b0.frozen 0
          have b0_5 := b0.frozen 1
          have b0_6 := b0.frozen 2
          have b0_7 := b0.frozen 3
          go_wp2_with fail
          go_region_held3 (fun w' => (w'.cell? ⟨w1.heap.size, 0, none⟩ = some (.int .u64 (wd X 0)) ∧ w'.cell? ⟨w1.heap.size, 1, none⟩ = some (.int .u64 (wd X 1)) ∧ w'.cell? ⟨w1.heap.size, 2, none⟩ = some (.int .u64 (wd X 2)) ∧ w'.cell? ⟨w1.heap.size, 3, none⟩ = some (.int .u64 (wd X 3)))) (first | (first | (go_keep; done) | (simp [go_sem]; done) | ((try dsimp only); (repeat' apply And.intro) <;> (first | (with_reducible assumption) | ((rw [World.cell?_alloc_lt _ _ _ (by show _ < _; omega)]); go_split_ands; (first | with_reducible assumption | (refine (World.cell?_alloc_lt _ _ _ (by show _ < _; omega)).symm.trans ?_; with_reducible assumption))) | ((rw [World.cell?_setCell_other _ _ _ _ (by intro e; injection e; omega)]); with_reducible assumption) | (go_keep; done) | (simp [go_sem]; done) | (simp (disch := go_size) [*, World.cell?_alloc_some, World.cell?_setCell_far]; done)))) | ((refine ⟨Bk.cell (t := 45) (cs := [.int .u64 (wd X 0), .int .u64 (wd X 1), .int .u64 (wd X 2), .int .u64 (wd X 3)]) ?_ 0 rfl, Bk.cell (t := 45) (cs := [.int .u64 (wd X 0), .int .u64 (wd X 1), .int .u64 (wd X 2), .int .u64 (wd X 3)]) ?_ 1 rfl, Bk.cell (t := 45) (cs := [.int .u64 (wd X 0), .int .u64 (wd X 1), .int .u64 (wd X 2), .int .u64 (wd X 3)]) ?_ 2 rfl, Bk.cell (t := 45) (cs := [.int .u64 (wd X 0), .int .u64 (wd X 1), .int .u64 (wd X 2), .int .u64 (wd X 3)]) ?_ 3 rfl⟩) <;> ((repeat (first | (with_reducible assumption) | ((with_reducible refine Bk.new_ ?_); (first | rfl | (simp only [World.size_alloc, World.size_setCell, World.size_drew, World.heap_drewN]; done))) | (with_reducible refine Bk.alloc ?_ _) | (with_reducible refine Bk.drew ?_) | (with_reducible refine Bk.drewN ?_ _) | ((with_reducible refine Bk.far ?_ ?_ _); rotate_left; focus (simp only []; omega)) | ((with_reducible refine Bk.below ?_ (by with_reducible assumption) ?_); rotate_left; focus (go_size; done)))); done))) (first | (go_at_call 88; (with_reducible refine (HB34.out _).mono ?_); rintro _ w2 ⟨rfl, hb2⟩; have hb2s := hb2.size; (try simp only [World.size_alloc, World.size_setCell, World.size_drew, World.heap_drewN] at hb2s); obtain ⟨hb2c, hb2f⟩ := bcell hb2; (try have : w.heap.size < w2.heap.size := by omega); (try have : w.heap.size + 1 < w2.heap.size := by omega); (try have : w.heap.size + 1 + 1 < w2.heap.size := by omega); (try have : w.heap.size + 1 + 1 + 1 < w2.heap.size := by omega); (try have : w1.heap.size < w2.heap.size := by omega); (try have : w1.heap.size + 1 < w2.heap.size := by omega); (try have : w1.heap.size + 1 + 1 < w2.heap.size := by omega); (try have : w1.heap.size + 1 + 1 + 1 < w2.heap.size := by omega)) | (go_at_call 79; (with_reducible refine (HT.out _).mono ?_); rintro _ w3 ⟨rfl, hb3⟩; have hb3s := hb3.size; (try simp only [World.size_alloc, World.size_setCell, World.size_drew, World.heap_drewN] at hb3s); obtain ⟨hb3c, hb3f⟩ := bcell hb3; (try have : w.heap.size < w3.heap.size := by omega); (try have : w.heap.size + 1 < w3.heap.size := by omega); (try have : w.heap.size + 1 + 1 < w3.heap.size := by omega); (try have : w.heap.size + 1 + 1 + 1 < w3.heap.size := by omega); (try have : w1.heap.size < w3.heap.size := by omega); (try have : w1.heap.size + 1 < w3.heap.size := by omega); (try have : w1.heap.size + 1 + 1 < w3.heap.size := by omega); (try have : w1.heap.size + 1 + 1 + 1 < w3.heap.size := by omega); (try have : w2.heap.size < w3.heap.size := by omega); (try have : w2.heap.size + 1 < w3.heap.size := by omega); (try have : w2.heap.size + 1 + 1 < w3.heap.size := by omega); (try have : w2.heap.size + 1 + 1 + 1 < w3.heap.size := by omega)) | (go_at_call 79; (with_reducible refine (HTz.out _).mono ?_); rintro _ w3 ⟨rfl, hb3⟩; have hb3s := hb3.size; (try simp only [World.size_alloc, World.size_setCell, World.size_drew, World.heap_drewN] at hb3s); obtain ⟨hb3c, hb3f⟩ := bcell hb3; (try have : w.heap.size < w3.heap.size := by omega); (try have : w.heap.size + 1 < w3.heap.size := by omega); (try have : w.heap.size + 1 + 1 < w3.heap.size := by omega); (try have : w.heap.size + 1 + 1 + 1 < w3.heap.size := by omega); (try have : w1.heap.size < w3.heap.size := by omega); (try have : w1.heap.size + 1 < w3.heap.size := by omega); (try have : w1.heap.size + 1 + 1 < w3.heap.size := by omega); (try have : w1.heap.size + 1 + 1 + 1 < w3.heap.size := by omega); (try have : w2.heap.size < w3.heap.size := by omega); (try have : w2.heap.size + 1 < w3.heap.size := by omega); (try have : w2.heap.size + 1 + 1 < w3.heap.size := by omega); (try have : w2.heap.size + 1 + 1 + 1 < w3.heap.size := by omega)) | (go_at_call 48; (with_reducible refine (HO.out _).mono ?_); rintro _ w4 ⟨rfl, hb4⟩; have hb4s := hb4.size; (try simp only [World.size_alloc, World.size_setCell, World.size_drew, World.heap_drewN] at hb4s); obtain ⟨hb4c, hb4f⟩ := bcell hb4; (try have : w.heap.size < w4.heap.size := by omega); (try have : w.heap.size + 1 < w4.heap.size := by omega); (try have : w.heap.size + 1 + 1 < w4.heap.size := by omega); (try have : w.heap.size + 1 + 1 + 1 < w4.heap.size := by omega); (try have : w1.heap.size < w4.heap.size := by omega); (try have : w1.heap.size + 1 < w4.heap.size := by omega); (try have : w1.heap.size + 1 + 1 < w4.heap.size := by omega); (try have : w1.heap.size + 1 + 1 + 1 < w4.heap.size := by omega); (try have : w3.heap.size < w4.heap.size := by omega); (try have : w3.heap.size + 1 < w4.heap.size := by omega); (try have : w3.heap.size + 1 + 1 < w4.heap.size := by omega); (try have : w3.heap.size + 1 + 1 + 1 < w4.heap.size := by omega)))
          all_goals
            refine wp_named (fun W => Bk W w1.heap.size 45 [.int .u64 (wd X 0), .int .u64 (wd X 1), .int .u64 (wd X 2), .int .u64 (wd X 3)] ∧ Bk W (w.heap.size + 1) 26 [.bool false, .int .u64 0, .int .u64 0, .int .i64 0] ∧ Below w.heap.size w W) ⟨?h1, ?h2, ?h3⟩ ?_
            case h1 => ((repeat (first | (with_reducible assumption) | ((with_reducible refine Bk.new_ ?_); (first | rfl | (simp only [World.size_alloc, World.size_setCell, World.size_drew, World.heap_drewN]; done))) | (with_reducible refine Bk.alloc ?_ _) | (with_reducible refine Bk.drew ?_) | (with_reducible refine Bk.drewN ?_ _) | ((with_reducible refine Bk.far ?_ ?_ _); rotate_left; focus (simp only []; omega)) | ((with_reducible refine Bk.below ?_ (by with_reducible assumption) ?_); rotate_left; focus (go_size; done)))); done)
            case h2 => ((repeat (first | (with_reducible assumption) | ((with_reducible refine Bk.new_ ?_); (first | rfl | (simp only [World.size_alloc, World.size_setCell, World.size_drew, World.heap_drewN]; done))) | (with_reducible refine Bk.alloc ?_ _) | (with_reducible refine Bk.drew ?_) | (with_reducible refine Bk.drewN ?_ _) | ((with_reducible refine Bk.far ?_ ?_ _); rotate_left; focus (simp only []; omega)) | ((with_reducible refine Bk.below ?_ (by with_reducible assumption) ?_); rotate_left; focus (go_size; done)))); done)
            case h3 => ((repeat' (first | (with_reducible exact Below.refl _ _) | (with_reducible assumption) | (with_reducible refine Below.drew ?_) | (with_reducible refine below_drewN ?_ _) | ((with_reducible refine Below.alloc ?_ ?_ _); rotate_left; focus (go_size; done)) | ((with_reducible refine Below.setCell ?_ ?_ _); rotate_left; focus (go_size; done)) | ((with_reducible refine Below.trans ?_ (Below.mono (by with_reducible assumption) ?_)); rotate_left; focus (go_size; done)))); done)
            rintro W1 ⟨k0, k1, kw⟩
            have k0l := k0.lt
            have k1l := k1.lt
            clear b0_0 b0_1 b0_2 b0_3 b0_4 b0_5 b0_6 b0_7
            clear hb2 hb3 hb4 hb2c hb3c hb4c hb2f hb3f hb4f
            go_wp2_with fail
            first | (with_reducible refine (HP.out _).mono ?_) | (with_reducible refine (HPz.out _).mono ?_)
            rintro _ w5 ⟨rfl, hb5⟩; have hb5s := hb5.size; (try simp only [World.size_alloc, World.size_setCell, World.size_drew, World.heap_drewN] at hb5s); obtain ⟨hb5c, hb5f⟩ := bcell hb5; (try have : w.heap.size < w5.heap.size := by omega); (try have : w.heap.size + 1 < w5.heap.size := by omega); (try have : w.heap.size + 1 + 1 < w5.heap.size := by omega); (try have : w.heap.size + 1 + 1 + 1 < w5.heap.size := by omega)
            have m0 : Bk w5 w1.heap.size 45 [.int .u64 (wd X 0), .int .u64 (wd X 1), .int .u64 (wd X 2), .int .u64 (wd X 3)] := by (repeat (first | (with_reducible assumption) | ((with_reducible refine Bk.new_ ?_); (first | rfl | (simp only [World.size_alloc, World.size_setCell, World.size_drew, World.heap_drewN]; done))) | (with_reducible refine Bk.alloc ?_ _) | (with_reducible refine Bk.drew ?_) | (with_reducible refine Bk.drewN ?_ _) | ((with_reducible refine Bk.far ?_ ?_ _); rotate_left; focus (simp only []; omega)) | ((with_reducible refine Bk.below ?_ (by with_reducible assumption) ?_); rotate_left; focus (go_size; done))))
            have m1 : Bk w5 (w.heap.size + 1) 26 [.bool false, .int .u64 0, .int .u64 0, .int .i64 0] := by (repeat (first | (with_reducible assumption) | ((with_reducible refine Bk.new_ ?_); (first | rfl | (simp only [World.size_alloc, World.size_setCell, World.size_drew, World.heap_drewN]; done))) | (with_reducible refine Bk.alloc ?_ _) | (with_reducible refine Bk.drew ?_) | (with_reducible refine Bk.drewN ?_ _) | ((with_reducible refine Bk.far ?_ ?_ _); rotate_left; focus (simp only []; omega)) | ((with_reducible refine Bk.below ?_ (by with_reducible assumption) ?_); rotate_left; focus (go_size; done))))
            have m0l := m0.lt
            have m1l := m1.lt
            clear hb5c hb5f
            go_wp2_with fail
            refine (HL.out _).mono ?_
            rintro _ w6 ⟨rfl, hb6⟩; have hb6s := hb6.size; (try simp only [World.size_alloc, World.size_setCell, World.size_drew, World.heap_drewN] at hb6s); obtain ⟨hb6c, hb6f⟩ := bcell hb6; (try have : w.heap.size < w6.heap.size := by omega); (try have : w.heap.size + 1 < w6.heap.size := by omega); (try have : w.heap.size + 1 + 1 < w6.heap.size := by omega); (try have : w.heap.size + 1 + 1 + 1 < w6.heap.size := by omega)
            have n0 : Bk w6 w1.heap.size 45 [.int .u64 (wd X 0), .int .u64 (wd X 1), .int .u64 (wd X 2), .int .u64 (wd X 3)] := by (repeat (first | (with_reducible assumption) | ((with_reducible refine Bk.new_ ?_); (first | rfl | (simp only [World.size_alloc, World.size_setCell, World.size_drew, World.heap_drewN]; done))) | (with_reducible refine Bk.alloc ?_ _) | (with_reducible refine Bk.drew ?_) | (with_reducible refine Bk.drewN ?_ _) | ((with_reducible refine Bk.far ?_ ?_ _); rotate_left; focus (simp only []; omega)) | ((with_reducible refine Bk.below ?_ (by with_reducible assumption) ?_); rotate_left; focus (go_size; done))))
            have n1 : Bk w6 (w.heap.size + 1) 26 [.bool false, .int .u64 0, .int .u64 0, .int .i64 0] := by (repeat (first | (with_reducible assumption) | ((with_reducible refine Bk.new_ ?_); (first | rfl | (simp only [World.size_alloc, World.size_setCell, World.size_drew, World.heap_drewN]; done))) | (with_reducible refine Bk.alloc ?_ _) | (with_reducible refine Bk.drew ?_) | (with_reducible refine Bk.drewN ?_ _) | ((with_reducible refine Bk.far ?_ ?_ _); rotate_left; focus (simp only []; omega)) | ((with_reducible refine Bk.below ?_ (by with_reducible assumption) ?_); rotate_left; focus (go_size; done))))
            have n0l := n0.lt
            have n1l := n1.lt
            have nw : Below w.heap.size w w6 := by (repeat' (first | (with_reducible exact Below.refl _ _) | (with_reducible assumption) | (with_reducible refine Below.drew ?_) | (with_reducible refine below_drewN ?_ _) | ((with_reducible refine Below.alloc ?_ ?_ _); rotate_left; focus (go_size; done)) | ((with_reducible refine Below.setCell ?_ ?_ _); rotate_left; focus (go_size; done)) | ((with_reducible refine Below.trans ?_ (Below.mono (by with_reducible assumption) ?_)); rotate_left; focus (go_size; done))))
            have n0_0 := n0.cell 0 rfl
            have n0_1 := n0.cell 1 rfl
            have n0_2 := n0.cell 2 rfl
            have n0_3 := n0.cell 3 rfl
            have n0_4 := n0.frozen 0
            have n0_5 := n0.frozen 1
            have n0_6 := n0.frozen 2
            have n0_7 := n0.frozen 3
            clear hb6c hb6f
          all_goals
            go_wp2_with fail
            refine (HM.out _).mono ?_
            rintro _ w7 ⟨rfl, hb7⟩; have hb7s := hb7.size; (try simp only [World.size_alloc, World.size_setCell, World.size_drew, World.heap_drewN] at hb7s); obtain ⟨hb7c, hb7f⟩ := bcell hb7; (try have : w.heap.size < w7.heap.size := by omega); (try have : w.heap.size + 1 < w7.heap.size := by omega); (try have : w.heap.size + 1 + 1 < w7.heap.size := by omega); (try have : w.heap.size + 1 + 1 + 1 < w7.heap.size := by omega)
            have q1 : Bk w7 (w.heap.size + 1) 26 [.bool false, .int .u64 0, .int .u64 0, .int .i64 0] := by (repeat (first | (with_reducible assumption) | ((with_reducible refine Bk.new_ ?_); (first | rfl | (simp only [World.size_alloc, World.size_setCell, World.size_drew, World.heap_drewN]; done))) | (with_reducible refine Bk.alloc ?_ _) | (with_reducible refine Bk.drew ?_) | (with_reducible refine Bk.drewN ?_ _) | ((with_reducible refine Bk.far ?_ ?_ _); rotate_left; focus (simp only []; omega)) | ((with_reducible refine Bk.below ?_ (by with_reducible assumption) ?_); rotate_left; focus (go_size; done))))
            have q1l := q1.lt
            clear hb7c hb7f
            go_wp2_with fail
            refine (HF.out _).mono ?_
            rintro _ w8 ⟨rfl, hb8⟩; have hb8s := hb8.size; (try simp only [World.size_alloc, World.size_setCell, World.size_drew, World.heap_drewN] at hb8s); obtain ⟨hb8c, hb8f⟩ := bcell hb8; (try have : w.heap.size < w8.heap.size := by omega); (try have : w.heap.size + 1 < w8.heap.size := by omega); (try have : w.heap.size + 1 + 1 < w8.heap.size := by omega); (try have : w.heap.size + 1 + 1 + 1 < w8.heap.size := by omega)
            have n8 : Bk w8 (w.heap.size + 1) 26 [.bool false, .int .u64 0, .int .u64 0, .int .i64 0] := by (repeat (first | (with_reducible assumption) | ((with_reducible refine Bk.new_ ?_); (first | rfl | (simp only [World.size_alloc, World.size_setCell, World.size_drew, World.heap_drewN]; done))) | (with_reducible refine Bk.alloc ?_ _) | (with_reducible refine Bk.drew ?_) | (with_reducible refine Bk.drewN ?_ _) | ((with_reducible refine Bk.far ?_ ?_ _); rotate_left; focus (simp only []; omega)) | ((with_reducible refine Bk.below ?_ (by with_reducible assumption) ?_); rotate_left; focus (go_size; done))))
            have n8_0 := n8.cell 0 rfl
            have n8_1 := n8.cell 1 rfl
            have n8_2 := n8.cell 2 rfl
            have n8_3 := n8.cell 3 rfl
            have n8_4 := n8.frozen 0
            have n8_5 := n8.frozen 1
            have n8_6 := n8.frozen 2
            have n8_7 := n8.frozen 3
            clear hb8c hb8f
            go_wp2_with fail
            refine bodyPost_ret (by simp [results, Try.results69, go_sem, *]; try rfl) rfl ?_
            exact ⟨by rw [EC.out, ES.out, EE.out, HE.out, (nb_yes _).1, (nb_yes _).2.1, (nb_yes _).2.2, show ∀ x, sg false x = false from fun x => rfl], by (repeat' (first | (with_reducible exact Below.refl _ _) | (with_reducible assumption) | (with_reducible refine Below.drew ?_) | (with_reducible refine below_drewN ?_ _) | ((with_reducible refine Below.alloc ?_ ?_ _); rotate_left; focus (go_size; done)) | ((with_reducible refine Below.setCell ?_ ?_ _); rotate_left; focus (go_size; done)) | ((with_reducible refine Below.trans ?_ (Below.mono (by with_reducible assumption) ?_)); rotate_left; focus (go_size; done))))⟩
        · have hcc : ¬ cmpN X Bd ≤ 0 := by unfold cmpN; rw [if_neg (by omega), if_neg (by omega)]; decide
          have hc2 : 0 ≤ cmpN X Bd := by omega
          generalize cmpN X Bd = cc at *
          have he := HRR.out
          rw [upK_down' (by rw [← HBD.out]; exact hle)] at he
          have HE := Far.mk he
          have hnr : Far (j = 19 ∨ B34 * 10 ^ (18 - j) < X ∨ true = false) := Far.mk (.inr (.inl (by rw [← HBD.out]; omega)))
          clear hle he hrr hroom HRR hBd hX2 hstl hX3 b0 b1
          have b0 := HB0.out
          have b1 := HB1.out
          rw [lcells_eq] at b0
          have b0_0 := b0.cell 0 rfl
          have b0_1 := b0.cell 1 rfl
          have b0_2 := b0.cell 2 rfl
          have b0_3 := b0.cell 3 rfl
          have b0_4 := b0.frozen 0
          have b0_5 := b0.frozen 1
          have b0_6 := b0.frozen 2
          have b0_7 := b0.frozen 3
          go_wp2_with fail
          go_region_held3 (fun w' => (w'.cell? ⟨w1.heap.size, 0, none⟩ = some (.int .u64 (wd X 0)) ∧ w'.cell? ⟨w1.heap.size, 1, none⟩ = some (.int .u64 (wd X 1)) ∧ w'.cell? ⟨w1.heap.size, 2, none⟩ = some (.int .u64 (wd X 2)) ∧ w'.cell? ⟨w1.heap.size, 3, none⟩ = some (.int .u64 (wd X 3)))) (first | (first | (go_keep; done) | (simp [go_sem]; done) | ((try dsimp only); (repeat' apply And.intro) <;> (first | (with_reducible assumption) | ((rw [World.cell?_alloc_lt _ _ _ (by show _ < _; omega)]); go_split_ands; (first | with_reducible assumption | (refine (World.cell?_alloc_lt _ _ _ (by show _ < _; omega)).symm.trans ?_; with_reducible assumption))) | ((rw [World.cell?_setCell_other _ _ _ _ (by intro e; injection e; omega)]); with_reducible assumption) | (go_keep; done) | (simp [go_sem]; done) | (simp (disch := go_size) [*, World.cell?_alloc_some, World.cell?_setCell_far]; done)))) | ((refine ⟨Bk.cell (t := 45) (cs := [.int .u64 (wd X 0), .int .u64 (wd X 1), .int .u64 (wd X 2), .int .u64 (wd X 3)]) ?_ 0 rfl, Bk.cell (t := 45) (cs := [.int .u64 (wd X 0), .int .u64 (wd X 1), .int .u64 (wd X 2), .int .u64 (wd X 3)]) ?_ 1 rfl, Bk.cell (t := 45) (cs := [.int .u64 (wd X 0), .int .u64 (wd X 1), .int .u64 (wd X 2), .int .u64 (wd X 3)]) ?_ 2 rfl, Bk.cell (t := 45) (cs := [.int .u64 (wd X 0), .int .u64 (wd X 1), .int .u64 (wd X 2), .int .u64 (wd X 3)]) ?_ 3 rfl⟩) <;> ((repeat (first | (with_reducible assumption) | ((with_reducible refine Bk.new_ ?_); (first | rfl | (simp only [World.size_alloc, World.size_setCell, World.size_drew, World.heap_drewN]; done))) | (with_reducible refine Bk.alloc ?_ _) | (with_reducible refine Bk.drew ?_) | (with_reducible refine Bk.drewN ?_ _) | ((with_reducible refine Bk.far ?_ ?_ _); rotate_left; focus (simp only []; omega)) | ((with_reducible refine Bk.below ?_ (by with_reducible assumption) ?_); rotate_left; focus (go_size; done)))); done))) (first | (go_at_call 88; (with_reducible refine (HB34.out _).mono ?_); rintro _ w2 ⟨rfl, hb2⟩; have hb2s := hb2.size; (try simp only [World.size_alloc, World.size_setCell, World.size_drew, World.heap_drewN] at hb2s); obtain ⟨hb2c, hb2f⟩ := bcell hb2; (try have : w.heap.size < w2.heap.size := by omega); (try have : w.heap.size + 1 < w2.heap.size := by omega); (try have : w.heap.size + 1 + 1 < w2.heap.size := by omega); (try have : w.heap.size + 1 + 1 + 1 < w2.heap.size := by omega); (try have : w1.heap.size < w2.heap.size := by omega); (try have : w1.heap.size + 1 < w2.heap.size := by omega); (try have : w1.heap.size + 1 + 1 < w2.heap.size := by omega); (try have : w1.heap.size + 1 + 1 + 1 < w2.heap.size := by omega)) | (go_at_call 79; (with_reducible refine (HT.out _).mono ?_); rintro _ w3 ⟨rfl, hb3⟩; have hb3s := hb3.size; (try simp only [World.size_alloc, World.size_setCell, World.size_drew, World.heap_drewN] at hb3s); obtain ⟨hb3c, hb3f⟩ := bcell hb3; (try have : w.heap.size < w3.heap.size := by omega); (try have : w.heap.size + 1 < w3.heap.size := by omega); (try have : w.heap.size + 1 + 1 < w3.heap.size := by omega); (try have : w.heap.size + 1 + 1 + 1 < w3.heap.size := by omega); (try have : w1.heap.size < w3.heap.size := by omega); (try have : w1.heap.size + 1 < w3.heap.size := by omega); (try have : w1.heap.size + 1 + 1 < w3.heap.size := by omega); (try have : w1.heap.size + 1 + 1 + 1 < w3.heap.size := by omega); (try have : w2.heap.size < w3.heap.size := by omega); (try have : w2.heap.size + 1 < w3.heap.size := by omega); (try have : w2.heap.size + 1 + 1 < w3.heap.size := by omega); (try have : w2.heap.size + 1 + 1 + 1 < w3.heap.size := by omega)) | (go_at_call 79; (with_reducible refine (HTz.out _).mono ?_); rintro _ w3 ⟨rfl, hb3⟩; have hb3s := hb3.size; (try simp only [World.size_alloc, World.size_setCell, World.size_drew, World.heap_drewN] at hb3s); obtain ⟨hb3c, hb3f⟩ := bcell hb3; (try have : w.heap.size < w3.heap.size := by omega); (try have : w.heap.size + 1 < w3.heap.size := by omega); (try have : w.heap.size + 1 + 1 < w3.heap.size := by omega); (try have : w.heap.size + 1 + 1 + 1 < w3.heap.size := by omega); (try have : w1.heap.size < w3.heap.size := by omega); (try have : w1.heap.size + 1 < w3.heap.size := by omega); (try have : w1.heap.size + 1 + 1 < w3.heap.size := by omega); (try have : w1.heap.size + 1 + 1 + 1 < w3.heap.size := by omega); (try have : w2.heap.size < w3.heap.size := by omega); (try have : w2.heap.size + 1 < w3.heap.size := by omega); (try have : w2.heap.size + 1 + 1 < w3.heap.size := by omega); (try have : w2.heap.size + 1 + 1 + 1 < w3.heap.size := by omega)) | (go_at_call 48; (with_reducible refine (HO.out _).mono ?_); rintro _ w4 ⟨rfl, hb4⟩; have hb4s := hb4.size; (try simp only [World.size_alloc, World.size_setCell, World.size_drew, World.heap_drewN] at hb4s); obtain ⟨hb4c, hb4f⟩ := bcell hb4; (try have : w.heap.size < w4.heap.size := by omega); (try have : w.heap.size + 1 < w4.heap.size := by omega); (try have : w.heap.size + 1 + 1 < w4.heap.size := by omega); (try have : w.heap.size + 1 + 1 + 1 < w4.heap.size := by omega); (try have : w1.heap.size < w4.heap.size := by omega); (try have : w1.heap.size + 1 < w4.heap.size := by omega); (try have : w1.heap.size + 1 + 1 < w4.heap.size := by omega); (try have : w1.heap.size + 1 + 1 + 1 < w4.heap.size := by omega); (try have : w3.heap.size < w4.heap.size := by omega); (try have : w3.heap.size + 1 < w4.heap.size := by omega); (try have : w3.heap.size + 1 + 1 < w4.heap.size := by omega); (try have : w3.heap.size + 1 + 1 + 1 < w4.heap.size := by omega)))
          all_goals
            refine wp_named (fun W => Bk W w1.heap.size 45 [.int .u64 (wd X 0), .int .u64 (wd X 1), .int .u64 (wd X 2), .int .u64 (wd X 3)] ∧ Bk W (w.heap.size + 1) 26 [.bool false, .int .u64 0, .int .u64 0, .int .i64 0] ∧ Below w.heap.size w W) ⟨?h1, ?h2, ?h3⟩ ?_
            case h1 => ((repeat (first | (with_reducible assumption) | ((with_reducible refine Bk.new_ ?_); (first | rfl | (simp only [World.size_alloc, World.size_setCell, World.size_drew, World.heap_drewN]; done))) | (with_reducible refine Bk.alloc ?_ _) | (with_reducible refine Bk.drew ?_) | (with_reducible refine Bk.drewN ?_ _) | ((with_reducible refine Bk.far ?_ ?_ _); rotate_left; focus (simp only []; omega)) | ((with_reducible refine Bk.below ?_ (by with_reducible assumption) ?_); rotate_left; focus (go_size; done)))); done)
            case h2 => ((repeat (first | (with_reducible assumption) | ((with_reducible refine Bk.new_ ?_); (first | rfl | (simp only [World.size_alloc, World.size_setCell, World.size_drew, World.heap_drewN]; done))) | (with_reducible refine Bk.alloc ?_ _) | (with_reducible refine Bk.drew ?_) | (with_reducible refine Bk.drewN ?_ _) | ((with_reducible refine Bk.far ?_ ?_ _); rotate_left; focus (simp only []; omega)) | ((with_reducible refine Bk.below ?_ (by with_reducible assumption) ?_); rotate_left; focus (go_size; done)))); done)
            case h3 => ((repeat' (first | (with_reducible exact Below.refl _ _) | (with_reducible assumption) | (with_reducible refine Below.drew ?_) | (with_reducible refine below_drewN ?_ _) | ((with_reducible refine Below.alloc ?_ ?_ _); rotate_left; focus (go_size; done)) | ((with_reducible refine Below.setCell ?_ ?_ _); rotate_left; focus (go_size; done)) | ((with_reducible refine Below.trans ?_ (Below.mono (by with_reducible assumption) ?_)); rotate_left; focus (go_size; done)))); done)
            rintro W1 ⟨k0, k1, kw⟩
            have k0l := k0.lt
            have k1l := k1.lt
            clear b0_0 b0_1 b0_2 b0_3 b0_4 b0_5 b0_6 b0_7
            clear hb2 hb3 hb4 hb2c hb3c hb4c hb2f hb3f hb4f
            go_wp2_with fail
            first | (with_reducible refine (HP.out _).mono ?_) | (with_reducible refine (HPz.out _).mono ?_)
            rintro _ w5 ⟨rfl, hb5⟩; have hb5s := hb5.size; (try simp only [World.size_alloc, World.size_setCell, World.size_drew, World.heap_drewN] at hb5s); obtain ⟨hb5c, hb5f⟩ := bcell hb5; (try have : w.heap.size < w5.heap.size := by omega); (try have : w.heap.size + 1 < w5.heap.size := by omega); (try have : w.heap.size + 1 + 1 < w5.heap.size := by omega); (try have : w.heap.size + 1 + 1 + 1 < w5.heap.size := by omega)
            have m0 : Bk w5 w1.heap.size 45 [.int .u64 (wd X 0), .int .u64 (wd X 1), .int .u64 (wd X 2), .int .u64 (wd X 3)] := by (repeat (first | (with_reducible assumption) | ((with_reducible refine Bk.new_ ?_); (first | rfl | (simp only [World.size_alloc, World.size_setCell, World.size_drew, World.heap_drewN]; done))) | (with_reducible refine Bk.alloc ?_ _) | (with_reducible refine Bk.drew ?_) | (with_reducible refine Bk.drewN ?_ _) | ((with_reducible refine Bk.far ?_ ?_ _); rotate_left; focus (simp only []; omega)) | ((with_reducible refine Bk.below ?_ (by with_reducible assumption) ?_); rotate_left; focus (go_size; done))))
            have m1 : Bk w5 (w.heap.size + 1) 26 [.bool false, .int .u64 0, .int .u64 0, .int .i64 0] := by (repeat (first | (with_reducible assumption) | ((with_reducible refine Bk.new_ ?_); (first | rfl | (simp only [World.size_alloc, World.size_setCell, World.size_drew, World.heap_drewN]; done))) | (with_reducible refine Bk.alloc ?_ _) | (with_reducible refine Bk.drew ?_) | (with_reducible refine Bk.drewN ?_ _) | ((with_reducible refine Bk.far ?_ ?_ _); rotate_left; focus (simp only []; omega)) | ((with_reducible refine Bk.below ?_ (by with_reducible assumption) ?_); rotate_left; focus (go_size; done))))
            have m0l := m0.lt
            have m1l := m1.lt
            clear hb5c hb5f
            go_wp2_with fail
            refine (HL.out _).mono ?_
            rintro _ w6 ⟨rfl, hb6⟩; have hb6s := hb6.size; (try simp only [World.size_alloc, World.size_setCell, World.size_drew, World.heap_drewN] at hb6s); obtain ⟨hb6c, hb6f⟩ := bcell hb6; (try have : w.heap.size < w6.heap.size := by omega); (try have : w.heap.size + 1 < w6.heap.size := by omega); (try have : w.heap.size + 1 + 1 < w6.heap.size := by omega); (try have : w.heap.size + 1 + 1 + 1 < w6.heap.size := by omega)
            have n0 : Bk w6 w1.heap.size 45 [.int .u64 (wd X 0), .int .u64 (wd X 1), .int .u64 (wd X 2), .int .u64 (wd X 3)] := by (repeat (first | (with_reducible assumption) | ((with_reducible refine Bk.new_ ?_); (first | rfl | (simp only [World.size_alloc, World.size_setCell, World.size_drew, World.heap_drewN]; done))) | (with_reducible refine Bk.alloc ?_ _) | (with_reducible refine Bk.drew ?_) | (with_reducible refine Bk.drewN ?_ _) | ((with_reducible refine Bk.far ?_ ?_ _); rotate_left; focus (simp only []; omega)) | ((with_reducible refine Bk.below ?_ (by with_reducible assumption) ?_); rotate_left; focus (go_size; done))))
            have n1 : Bk w6 (w.heap.size + 1) 26 [.bool false, .int .u64 0, .int .u64 0, .int .i64 0] := by (repeat (first | (with_reducible assumption) | ((with_reducible refine Bk.new_ ?_); (first | rfl | (simp only [World.size_alloc, World.size_setCell, World.size_drew, World.heap_drewN]; done))) | (with_reducible refine Bk.alloc ?_ _) | (with_reducible refine Bk.drew ?_) | (with_reducible refine Bk.drewN ?_ _) | ((with_reducible refine Bk.far ?_ ?_ _); rotate_left; focus (simp only []; omega)) | ((with_reducible refine Bk.below ?_ (by with_reducible assumption) ?_); rotate_left; focus (go_size; done))))
            have n0l := n0.lt
            have n1l := n1.lt
            have nw : Below w.heap.size w w6 := by (repeat' (first | (with_reducible exact Below.refl _ _) | (with_reducible assumption) | (with_reducible refine Below.drew ?_) | (with_reducible refine below_drewN ?_ _) | ((with_reducible refine Below.alloc ?_ ?_ _); rotate_left; focus (go_size; done)) | ((with_reducible refine Below.setCell ?_ ?_ _); rotate_left; focus (go_size; done)) | ((with_reducible refine Below.trans ?_ (Below.mono (by with_reducible assumption) ?_)); rotate_left; focus (go_size; done))))
            have n0_0 := n0.cell 0 rfl
            have n0_1 := n0.cell 1 rfl
            have n0_2 := n0.cell 2 rfl
            have n0_3 := n0.cell 3 rfl
            have n0_4 := n0.frozen 0
            have n0_5 := n0.frozen 1
            have n0_6 := n0.frozen 2
            have n0_7 := n0.frozen 3
            clear hb6c hb6f
          all_goals
            go_wp2_with fail
            go_roundg j
            case measure => omega
            case rel => exact ⟨by omega, rfl, HE, hnr, by rw [lcells_eq]; (repeat (first | (with_reducible assumption) | ((with_reducible refine Bk.new_ ?_); (first | rfl | (simp only [World.size_alloc, World.size_setCell, World.size_drew, World.heap_drewN]; done))) | (with_reducible refine Bk.alloc ?_ _) | (with_reducible refine Bk.drew ?_) | (with_reducible refine Bk.drewN ?_ _) | ((with_reducible refine Bk.far ?_ ?_ _); rotate_left; focus (simp only []; omega)) | ((with_reducible refine Bk.below ?_ (by with_reducible assumption) ?_); rotate_left; focus (go_size; done)))), by (repeat (first | (with_reducible assumption) | ((with_reducible refine Bk.new_ ?_); (first | rfl | (simp only [World.size_alloc, World.size_setCell, World.size_drew, World.heap_drewN]; done))) | (with_reducible refine Bk.alloc ?_ _) | (with_reducible refine Bk.drew ?_) | (with_reducible refine Bk.drewN ?_ _) | ((with_reducible refine Bk.far ?_ ?_ _); rotate_left; focus (simp only []; omega)) | ((with_reducible refine Bk.below ?_ (by with_reducible assumption) ?_); rotate_left; focus (go_size; done)))), by go_size, by (repeat' (first | (with_reducible exact Below.refl _ _) | (with_reducible assumption) | (with_reducible refine Below.drew ?_) | (with_reducible refine below_drewN ?_ _) | ((with_reducible refine Below.alloc ?_ ?_ _); rotate_left; focus (go_size; done)) | ((with_reducible refine Below.setCell ?_ ?_ _); rotate_left; focus (go_size; done)) | ((with_reducible refine Below.trans ?_ (Below.mono (by with_reducible assumption) ?_)); rotate_left; focus (go_size; done))))⟩
end Go.Proofs.Ythkgjodidkpaeaa

set_option linter.unusedSimpArgs false
set_option linter.unusedVariables false
namespace Go.Proofs.Ythkgjodidkpaeaa
open Go.RowKit

set_option maxHeartbeats 2000000 in
theorem next_bad (b : Bool) (c : Nat) (s : Int) (hc : c < 2 ^ 128) (h : dform b c s = false) (w : World) : Calls Try.prog 31 #[.agg #[.bool b, .int .u64 (wd (c) 1), .int .u64 (wd (c) 0), .int .i64 s]] w fun e w' => e = .returned (.tuple #[.agg #[.bool false, .int .u64 0, .int .u64 0, .int .i64 0], .int .i64 2]) ∧ Below w.heap.size w w' := by
  have HF := Lib.hid (fun g W hg => formed_one b c s hc g W hg)
  rw [h] at HF
  simp only [ferr, if_pos, if_neg, Bool.false_eq_true, if_true, if_false] at HF
  generalize wd c 0 = x0 at *
  generalize wd c 1 = x1 at *
  clear hc h
  go_enter Try.func31, Try.ntmps31
  go_wp2_with fail
  (with_reducible refine (HF.out _ _ ?hg).mono ?_)
  case hg => ((repeat (first | (with_reducible assumption) | ((with_reducible refine Bk.new_ ?_); (first | rfl | (simp only [World.size_alloc, World.size_setCell, World.size_drew, World.heap_drewN]; done))) | (with_reducible refine Bk.alloc ?_ _) | (with_reducible refine Bk.drew ?_) | (with_reducible refine Bk.drewN ?_ _) | ((with_reducible refine Bk.far ?_ ?_ _); rotate_left; focus (simp only []; omega)) | ((with_reducible refine Bk.below ?_ (by with_reducible assumption) ?_); rotate_left; focus (go_size; done)))); done)
  rintro _ w1 ⟨rfl, hb1⟩; have hb1s := hb1.size; (try simp only [World.size_alloc, World.size_setCell, World.size_drew, World.heap_drewN] at hb1s); obtain ⟨hb1c, hb1f⟩ := bcell hb1; (try have : w.heap.size < w1.heap.size := by omega); (try have : w.heap.size + 1 < w1.heap.size := by omega); (try have : w.heap.size + 1 + 1 < w1.heap.size := by omega); (try have : w.heap.size + 1 + 1 + 1 < w1.heap.size := by omega)
  have k : Bk w1 (w.heap.size) 26 [.bool b, .int .u64 x1, .int .u64 x0, .int .i64 s] := by (repeat (first | (with_reducible assumption) | ((with_reducible refine Bk.new_ ?_); (first | rfl | (simp only [World.size_alloc, World.size_setCell, World.size_drew, World.heap_drewN]; done))) | (with_reducible refine Bk.alloc ?_ _) | (with_reducible refine Bk.drew ?_) | (with_reducible refine Bk.drewN ?_ _) | ((with_reducible refine Bk.far ?_ ?_ _); rotate_left; focus (simp only []; omega)) | ((with_reducible refine Bk.below ?_ (by with_reducible assumption) ?_); rotate_left; focus (go_size; done))))
  have k_0 := k.cell 0 rfl
  have k_1 := k.cell 1 rfl
  have k_2 := k.cell 2 rfl
  have k_3 := k.cell 3 rfl
  have k_4 := k.frozen 0
  have k_5 := k.frozen 1
  have k_6 := k.frozen 2
  have k_7 := k.frozen 3
  have kl := k.lt
  have r0 : Bk w1 (w.heap.size + 1) 26 [.bool false, .int .u64 0, .int .u64 0, .int .i64 0] := by (repeat (first | (with_reducible assumption) | ((with_reducible refine Bk.new_ ?_); (first | rfl | (simp only [World.size_alloc, World.size_setCell, World.size_drew, World.heap_drewN]; done))) | (with_reducible refine Bk.alloc ?_ _) | (with_reducible refine Bk.drew ?_) | (with_reducible refine Bk.drewN ?_ _) | ((with_reducible refine Bk.far ?_ ?_ _); rotate_left; focus (simp only []; omega)) | ((with_reducible refine Bk.below ?_ (by with_reducible assumption) ?_); rotate_left; focus (go_size; done))))
  have r0_0 := r0.cell 0 rfl
  have r0_1 := r0.cell 1 rfl
  have r0_2 := r0.cell 2 rfl
  have r0_3 := r0.cell 3 rfl
  have r0_4 := r0.frozen 0
  have r0_5 := r0.frozen 1
  have r0_6 := r0.frozen 2
  have r0_7 := r0.frozen 3
  have r0l := r0.lt
  clear hb1c hb1f k r0
  go_wp2_with fail
  refine bodyPost_ret (by simp [results, Try.results31, go_sem, *]; try rfl) rfl ?_
  exact ⟨rfl, by (repeat' (first | (with_reducible exact Below.refl _ _) | (with_reducible assumption) | (with_reducible refine Below.drew ?_) | (with_reducible refine below_drewN ?_ _) | ((with_reducible refine Below.alloc ?_ ?_ _); rotate_left; focus (go_size; done)) | ((with_reducible refine Below.setCell ?_ ?_ _); rotate_left; focus (go_size; done)) | ((with_reducible refine Below.trans ?_ (Below.mono (by with_reducible assumption) ?_)); rotate_left; focus (go_size; done))))⟩
set_option maxHeartbeats 2000000 in
theorem prev_bad (b : Bool) (c : Nat) (s : Int) (hc : c < 2 ^ 128) (h : dform b c s = false) (w : World) : Calls Try.prog 33 #[.agg #[.bool b, .int .u64 (wd (c) 1), .int .u64 (wd (c) 0), .int .i64 s]] w fun e w' => e = .returned (.tuple #[.agg #[.bool false, .int .u64 0, .int .u64 0, .int .i64 0], .int .i64 2]) ∧ Below w.heap.size w w' := by
  have HF := Lib.hid (fun g W hg => formed_one b c s hc g W hg)
  rw [h] at HF
  simp only [ferr, if_pos, if_neg, Bool.false_eq_true, if_true, if_false] at HF
  generalize wd c 0 = x0 at *
  generalize wd c 1 = x1 at *
  clear hc h
  go_enter Try.func33, Try.ntmps33
  go_wp2_with fail
  (with_reducible refine (HF.out _ _ ?hg).mono ?_)
  case hg => ((repeat (first | (with_reducible assumption) | ((with_reducible refine Bk.new_ ?_); (first | rfl | (simp only [World.size_alloc, World.size_setCell, World.size_drew, World.heap_drewN]; done))) | (with_reducible refine Bk.alloc ?_ _) | (with_reducible refine Bk.drew ?_) | (with_reducible refine Bk.drewN ?_ _) | ((with_reducible refine Bk.far ?_ ?_ _); rotate_left; focus (simp only []; omega)) | ((with_reducible refine Bk.below ?_ (by with_reducible assumption) ?_); rotate_left; focus (go_size; done)))); done)
  rintro _ w1 ⟨rfl, hb1⟩; have hb1s := hb1.size; (try simp only [World.size_alloc, World.size_setCell, World.size_drew, World.heap_drewN] at hb1s); obtain ⟨hb1c, hb1f⟩ := bcell hb1; (try have : w.heap.size < w1.heap.size := by omega); (try have : w.heap.size + 1 < w1.heap.size := by omega); (try have : w.heap.size + 1 + 1 < w1.heap.size := by omega); (try have : w.heap.size + 1 + 1 + 1 < w1.heap.size := by omega)
  have k : Bk w1 (w.heap.size) 26 [.bool b, .int .u64 x1, .int .u64 x0, .int .i64 s] := by (repeat (first | (with_reducible assumption) | ((with_reducible refine Bk.new_ ?_); (first | rfl | (simp only [World.size_alloc, World.size_setCell, World.size_drew, World.heap_drewN]; done))) | (with_reducible refine Bk.alloc ?_ _) | (with_reducible refine Bk.drew ?_) | (with_reducible refine Bk.drewN ?_ _) | ((with_reducible refine Bk.far ?_ ?_ _); rotate_left; focus (simp only []; omega)) | ((with_reducible refine Bk.below ?_ (by with_reducible assumption) ?_); rotate_left; focus (go_size; done))))
  have k_0 := k.cell 0 rfl
  have k_1 := k.cell 1 rfl
  have k_2 := k.cell 2 rfl
  have k_3 := k.cell 3 rfl
  have k_4 := k.frozen 0
  have k_5 := k.frozen 1
  have k_6 := k.frozen 2
  have k_7 := k.frozen 3
  have kl := k.lt
  have r0 : Bk w1 (w.heap.size + 1) 26 [.bool false, .int .u64 0, .int .u64 0, .int .i64 0] := by (repeat (first | (with_reducible assumption) | ((with_reducible refine Bk.new_ ?_); (first | rfl | (simp only [World.size_alloc, World.size_setCell, World.size_drew, World.heap_drewN]; done))) | (with_reducible refine Bk.alloc ?_ _) | (with_reducible refine Bk.drew ?_) | (with_reducible refine Bk.drewN ?_ _) | ((with_reducible refine Bk.far ?_ ?_ _); rotate_left; focus (simp only []; omega)) | ((with_reducible refine Bk.below ?_ (by with_reducible assumption) ?_); rotate_left; focus (go_size; done))))
  have r0_0 := r0.cell 0 rfl
  have r0_1 := r0.cell 1 rfl
  have r0_2 := r0.cell 2 rfl
  have r0_3 := r0.cell 3 rfl
  have r0_4 := r0.frozen 0
  have r0_5 := r0.frozen 1
  have r0_6 := r0.frozen 2
  have r0_7 := r0.frozen 3
  have r0l := r0.lt
  clear hb1c hb1f k r0
  go_wp2_with fail
  refine bodyPost_ret (by simp [results, Try.results33, go_sem, *]; try rfl) rfl ?_
  exact ⟨rfl, by (repeat' (first | (with_reducible exact Below.refl _ _) | (with_reducible assumption) | (with_reducible refine Below.drew ?_) | (with_reducible refine below_drewN ?_ _) | ((with_reducible refine Below.alloc ?_ ?_ _); rotate_left; focus (go_size; done)) | ((with_reducible refine Below.setCell ?_ ?_ _); rotate_left; focus (go_size; done)) | ((with_reducible refine Below.trans ?_ (Below.mono (by with_reducible assumption) ?_)); rotate_left; focus (go_size; done))))⟩
/-- the next one above: its sign -/
def nextN (b : Bool) (c s : Nat) : Bool := if b = true then sg true (NbC (nb c s b)) else false
set_option maxRecDepth 100000 in
set_option maxHeartbeats 4000000 in
theorem next_ok (b : Bool) (c s : Nat) (hc : c < B34) (hs : s ≤ 18) (h : dform b c s = true) (hb : c = 0 → b = false) (w : World) : Calls Try.prog 31 #[.agg #[.bool b, .int .u64 (wd (c) 1), .int .u64 (wd (c) 0), .int .i64 s]] w fun e w' => e = .returned (.tuple #[.agg #[.bool (nextN b c s), .int .u64 (wd ((NbC (nb c s b))) 1), .int .u64 (wd ((NbC (nb c s b))) 0), .int .i64 (NbS (nb c s b))], .int .i64 (NbE (nb c s b))]) ∧ Below w.heap.size w w' := by
  have hc2 := Nat.lt_trans hc B34_lt
  have HF := Lib.hid (fun g W hg => formed_one b c s hc2 g W hg)
  rw [h] at HF
  simp only [ferr, if_pos, if_neg, Bool.false_eq_true, if_true, if_false] at HF
  have HB := Lib.hid (fun W => beside_any b c s b hc hs (fun h0 h1 => by have := hb h1; rw [this] at h0; cases h0) W)
  have hC : NbC (nb c s b) < 2 ^ 128 := by
    unfold NbC; split
    · exact Nat.lt_trans (fit_form false _ _).1 B34_lt
    · decide
  have HT := Lib.hid (fun W => turned_any false (NbC (nb c s b)) (NbS (nb c s b)) hC W)
  unfold nextN
  generalize NbS (nb c s b) = S at *
  generalize NbE (nb c s b) = E at *
  generalize NbC (nb c s b) = C at *
  have HT : Hid (∀ W, Calls Try.prog 50 #[.agg #[.bool false, .int .u64 (wd (C) 1), .int .u64 (wd (C) 0), .int .i64 (S : Int)]] W fun e w' => e = .returned (.agg #[.bool (sg true C), .int .u64 (wd (C) 1), .int .u64 (wd (C) 0), .int .i64 (S : Int)]) ∧ Below W.heap.size W w') := HT
  generalize wd c 0 = x0 at *
  generalize wd c 1 = x1 at *
  generalize wd C 0 = C0 at *
  generalize wd C 1 = C1 at *
  generalize sg true C = sc at *
  clear hc hc2 h hb hC
  cases b
  · rw [if_neg Bool.false_ne_true]
    go_enter Try.func31, Try.ntmps31
    go_wp2_with fail
    (with_reducible refine (HF.out _ _ ?hg).mono ?_)
    case hg => ((repeat (first | (with_reducible assumption) | ((with_reducible refine Bk.new_ ?_); (first | rfl | (simp only [World.size_alloc, World.size_setCell, World.size_drew, World.heap_drewN]; done))) | (with_reducible refine Bk.alloc ?_ _) | (with_reducible refine Bk.drew ?_) | (with_reducible refine Bk.drewN ?_ _) | ((with_reducible refine Bk.far ?_ ?_ _); rotate_left; focus (simp only []; omega)) | ((with_reducible refine Bk.below ?_ (by with_reducible assumption) ?_); rotate_left; focus (go_size; done)))); done)
    rintro _ w1 ⟨rfl, hb1⟩; have hb1s := hb1.size; (try simp only [World.size_alloc, World.size_setCell, World.size_drew, World.heap_drewN] at hb1s); obtain ⟨hb1c, hb1f⟩ := bcell hb1; (try have : w.heap.size < w1.heap.size := by omega); (try have : w.heap.size + 1 < w1.heap.size := by omega); (try have : w.heap.size + 1 + 1 < w1.heap.size := by omega); (try have : w.heap.size + 1 + 1 + 1 < w1.heap.size := by omega)
    have k : Bk w1 (w.heap.size) 26 [.bool false, .int .u64 x1, .int .u64 x0, .int .i64 (s : Int)] := by (repeat (first | (with_reducible assumption) | ((with_reducible refine Bk.new_ ?_); (first | rfl | (simp only [World.size_alloc, World.size_setCell, World.size_drew, World.heap_drewN]; done))) | (with_reducible refine Bk.alloc ?_ _) | (with_reducible refine Bk.drew ?_) | (with_reducible refine Bk.drewN ?_ _) | ((with_reducible refine Bk.far ?_ ?_ _); rotate_left; focus (simp only []; omega)) | ((with_reducible refine Bk.below ?_ (by with_reducible assumption) ?_); rotate_left; focus (go_size; done))))
    have k_0 := k.cell 0 rfl
    have k_1 := k.cell 1 rfl
    have k_2 := k.cell 2 rfl
    have k_3 := k.cell 3 rfl
    have k_4 := k.frozen 0
    have k_5 := k.frozen 1
    have k_6 := k.frozen 2
    have k_7 := k.frozen 3
    have kl := k.lt
    have r0 : Bk w1 (w.heap.size + 1) 26 [.bool false, .int .u64 0, .int .u64 0, .int .i64 0] := by (repeat (first | (with_reducible assumption) | ((with_reducible refine Bk.new_ ?_); (first | rfl | (simp only [World.size_alloc, World.size_setCell, World.size_drew, World.heap_drewN]; done))) | (with_reducible refine Bk.alloc ?_ _) | (with_reducible refine Bk.drew ?_) | (with_reducible refine Bk.drewN ?_ _) | ((with_reducible refine Bk.far ?_ ?_ _); rotate_left; focus (simp only []; omega)) | ((with_reducible refine Bk.below ?_ (by with_reducible assumption) ?_); rotate_left; focus (go_size; done))))
    have r0_0 := r0.cell 0 rfl
    have r0_1 := r0.cell 1 rfl
    have r0_2 := r0.cell 2 rfl
    have r0_3 := r0.cell 3 rfl
    have r0_4 := r0.frozen 0
    have r0_5 := r0.frozen 1
    have r0_6 := r0.frozen 2
    have r0_7 := r0.frozen 3
    have r0l := r0.lt
    clear hb1c hb1f
    go_wp2_with fail
    refine (HB.out _).mono ?_
    rintro _ w2 ⟨rfl, hb2⟩; have hb2s := hb2.size; (try simp only [World.size_alloc, World.size_setCell, World.size_drew, World.heap_drewN] at hb2s); obtain ⟨hb2c, hb2f⟩ := bcell hb2; (try have : w.heap.size < w2.heap.size := by omega); (try have : w.heap.size + 1 < w2.heap.size := by omega); (try have : w.heap.size + 1 + 1 < w2.heap.size := by omega); (try have : w.heap.size + 1 + 1 + 1 < w2.heap.size := by omega)
    have qa : Bk w2 w.heap.size 26 [.bool false, .int .u64 x1, .int .u64 x0, .int .i64 (s : Int)] := by (repeat (first | (with_reducible assumption) | ((with_reducible refine Bk.new_ ?_); (first | rfl | (simp only [World.size_alloc, World.size_setCell, World.size_drew, World.heap_drewN]; done))) | (with_reducible refine Bk.alloc ?_ _) | (with_reducible refine Bk.drew ?_) | (with_reducible refine Bk.drewN ?_ _) | ((with_reducible refine Bk.far ?_ ?_ _); rotate_left; focus (simp only []; omega)) | ((with_reducible refine Bk.below ?_ (by with_reducible assumption) ?_); rotate_left; focus (go_size; done))))
    have qr : Bk w2 (w.heap.size + 1) 26 [.bool false, .int .u64 0, .int .u64 0, .int .i64 0] := by (repeat (first | (with_reducible assumption) | ((with_reducible refine Bk.new_ ?_); (first | rfl | (simp only [World.size_alloc, World.size_setCell, World.size_drew, World.heap_drewN]; done))) | (with_reducible refine Bk.alloc ?_ _) | (with_reducible refine Bk.drew ?_) | (with_reducible refine Bk.drewN ?_ _) | ((with_reducible refine Bk.far ?_ ?_ _); rotate_left; focus (simp only []; omega)) | ((with_reducible refine Bk.below ?_ (by with_reducible assumption) ?_); rotate_left; focus (go_size; done))))
    have qal := qa.lt
    have qrl := qr.lt
    clear k_0 k_1 k_2 k_3 k_4 k_5 k_6 k_7
    clear r0_0 r0_1 r0_2 r0_3 r0_4 r0_5 r0_6 r0_7
    have qa_0 := qa.cell 0 rfl
    have qa_1 := qa.cell 1 rfl
    have qa_2 := qa.cell 2 rfl
    have qa_3 := qa.cell 3 rfl
    have qa_4 := qa.frozen 0
    have qa_5 := qa.frozen 1
    have qa_6 := qa.frozen 2
    have qa_7 := qa.frozen 3
    have qr_0 := qr.cell 0 rfl
    have qr_1 := qr.cell 1 rfl
    have qr_2 := qr.cell 2 rfl
    have qr_3 := qr.cell 3 rfl
    have qr_4 := qr.frozen 0
    have qr_5 := qr.frozen 1
    have qr_6 := qr.frozen 2
    have qr_7 := qr.frozen 3
    clear hb2c hb2f
    go_wp2_with fail
    refine bodyPost_ret (by simp [results, Try.results31, go_sem, *]; try rfl) rfl ?_
    exact ⟨rfl, by (repeat' (first | (with_reducible exact Below.refl _ _) | (with_reducible assumption) | (with_reducible refine Below.drew ?_) | (with_reducible refine below_drewN ?_ _) | ((with_reducible refine Below.alloc ?_ ?_ _); rotate_left; focus (go_size; done)) | ((with_reducible refine Below.setCell ?_ ?_ _); rotate_left; focus (go_size; done)) | ((with_reducible refine Below.trans ?_ (Below.mono (by with_reducible assumption) ?_)); rotate_left; focus (go_size; done))))⟩
  · rw [if_pos rfl]
    go_enter Try.func31, Try.ntmps31
    go_wp2_with fail
    (with_reducible refine (HF.out _ _ ?hg).mono ?_)
    case hg => ((repeat (first | (with_reducible assumption) | ((with_reducible refine Bk.new_ ?_); (first | rfl | (simp only [World.size_alloc, World.size_setCell, World.size_drew, World.heap_drewN]; done))) | (with_reducible refine Bk.alloc ?_ _) | (with_reducible refine Bk.drew ?_) | (with_reducible refine Bk.drewN ?_ _) | ((with_reducible refine Bk.far ?_ ?_ _); rotate_left; focus (simp only []; omega)) | ((with_reducible refine Bk.below ?_ (by with_reducible assumption) ?_); rotate_left; focus (go_size; done)))); done)
    rintro _ w1 ⟨rfl, hb1⟩; have hb1s := hb1.size; (try simp only [World.size_alloc, World.size_setCell, World.size_drew, World.heap_drewN] at hb1s); obtain ⟨hb1c, hb1f⟩ := bcell hb1; (try have : w.heap.size < w1.heap.size := by omega); (try have : w.heap.size + 1 < w1.heap.size := by omega); (try have : w.heap.size + 1 + 1 < w1.heap.size := by omega); (try have : w.heap.size + 1 + 1 + 1 < w1.heap.size := by omega)
    have k : Bk w1 (w.heap.size) 26 [.bool true, .int .u64 x1, .int .u64 x0, .int .i64 (s : Int)] := by (repeat (first | (with_reducible assumption) | ((with_reducible refine Bk.new_ ?_); (first | rfl | (simp only [World.size_alloc, World.size_setCell, World.size_drew, World.heap_drewN]; done))) | (with_reducible refine Bk.alloc ?_ _) | (with_reducible refine Bk.drew ?_) | (with_reducible refine Bk.drewN ?_ _) | ((with_reducible refine Bk.far ?_ ?_ _); rotate_left; focus (simp only []; omega)) | ((with_reducible refine Bk.below ?_ (by with_reducible assumption) ?_); rotate_left; focus (go_size; done))))
    have k_0 := k.cell 0 rfl
    have k_1 := k.cell 1 rfl
    have k_2 := k.cell 2 rfl
    have k_3 := k.cell 3 rfl
    have k_4 := k.frozen 0
    have k_5 := k.frozen 1
    have k_6 := k.frozen 2
    have k_7 := k.frozen 3
    have kl := k.lt
    have r0 : Bk w1 (w.heap.size + 1) 26 [.bool false, .int .u64 0, .int .u64 0, .int .i64 0] := by (repeat (first | (with_reducible assumption) | ((with_reducible refine Bk.new_ ?_); (first | rfl | (simp only [World.size_alloc, World.size_setCell, World.size_drew, World.heap_drewN]; done))) | (with_reducible refine Bk.alloc ?_ _) | (with_reducible refine Bk.drew ?_) | (with_reducible refine Bk.drewN ?_ _) | ((with_reducible refine Bk.far ?_ ?_ _); rotate_left; focus (simp only []; omega)) | ((with_reducible refine Bk.below ?_ (by with_reducible assumption) ?_); rotate_left; focus (go_size; done))))
    have r0_0 := r0.cell 0 rfl
    have r0_1 := r0.cell 1 rfl
    have r0_2 := r0.cell 2 rfl
    have r0_3 := r0.cell 3 rfl
    have r0_4 := r0.frozen 0
    have r0_5 := r0.frozen 1
    have r0_6 := r0.frozen 2
    have r0_7 := r0.frozen 3
    have r0l := r0.lt
    clear hb1c hb1f
    go_wp2_with fail
    refine (HB.out _).mono ?_
    rintro _ w2 ⟨rfl, hb2⟩; have hb2s := hb2.size; (try simp only [World.size_alloc, World.size_setCell, World.size_drew, World.heap_drewN] at hb2s); obtain ⟨hb2c, hb2f⟩ := bcell hb2; (try have : w.heap.size < w2.heap.size := by omega); (try have : w.heap.size + 1 < w2.heap.size := by omega); (try have : w.heap.size + 1 + 1 < w2.heap.size := by omega); (try have : w.heap.size + 1 + 1 + 1 < w2.heap.size := by omega)
    have qa : Bk w2 w.heap.size 26 [.bool true, .int .u64 x1, .int .u64 x0, .int .i64 (s : Int)] := by (repeat (first | (with_reducible assumption) | ((with_reducible refine Bk.new_ ?_); (first | rfl | (simp only [World.size_alloc, World.size_setCell, World.size_drew, World.heap_drewN]; done))) | (with_reducible refine Bk.alloc ?_ _) | (with_reducible refine Bk.drew ?_) | (with_reducible refine Bk.drewN ?_ _) | ((with_reducible refine Bk.far ?_ ?_ _); rotate_left; focus (simp only []; omega)) | ((with_reducible refine Bk.below ?_ (by with_reducible assumption) ?_); rotate_left; focus (go_size; done))))
    have qr : Bk w2 (w.heap.size + 1) 26 [.bool false, .int .u64 0, .int .u64 0, .int .i64 0] := by (repeat (first | (with_reducible assumption) | ((with_reducible refine Bk.new_ ?_); (first | rfl | (simp only [World.size_alloc, World.size_setCell, World.size_drew, World.heap_drewN]; done))) | (with_reducible refine Bk.alloc ?_ _) | (with_reducible refine Bk.drew ?_) | (with_reducible refine Bk.drewN ?_ _) | ((with_reducible refine Bk.far ?_ ?_ _); rotate_left; focus (simp only []; omega)) | ((with_reducible refine Bk.below ?_ (by with_reducible assumption) ?_); rotate_left; focus (go_size; done))))
    have qal := qa.lt
    have qrl := qr.lt
    clear k_0 k_1 k_2 k_3 k_4 k_5 k_6 k_7
    clear r0_0 r0_1 r0_2 r0_3 r0_4 r0_5 r0_6 r0_7
    have qa_0 := qa.cell 0 rfl
    have qa_1 := qa.cell 1 rfl
    have qa_2 := qa.cell 2 rfl
    have qa_3 := qa.cell 3 rfl
    have qa_4 := qa.frozen 0
    have qa_5 := qa.frozen 1
    have qa_6 := qa.frozen 2
    have qa_7 := qa.frozen 3
    have qr_0 := qr.cell 0 rfl
    have qr_1 := qr.cell 1 rfl
    have qr_2 := qr.cell 2 rfl
    have qr_3 := qr.cell 3 rfl
    have qr_4 := qr.frozen 0
    have qr_5 := qr.frozen 1
    have qr_6 := qr.frozen 2
    have qr_7 := qr.frozen 3
    clear hb2c hb2f
    go_wp2_with fail
    refine (HT.out _).mono ?_
    rintro _ w3 ⟨rfl, hb3⟩; have hb3s := hb3.size; (try simp only [World.size_alloc, World.size_setCell, World.size_drew, World.heap_drewN] at hb3s); obtain ⟨hb3c, hb3f⟩ := bcell hb3; (try have : w.heap.size < w3.heap.size := by omega); (try have : w.heap.size + 1 < w3.heap.size := by omega); (try have : w.heap.size + 1 + 1 < w3.heap.size := by omega); (try have : w.heap.size + 1 + 1 + 1 < w3.heap.size := by omega)
    have z5 : Bk w3 w2.heap.size 26 [.bool false, .int .u64 C1, .int .u64 C0, .int .i64 (S : Int)] := by (repeat (first | (with_reducible assumption) | ((with_reducible refine Bk.new_ ?_); (first | rfl | (simp only [World.size_alloc, World.size_setCell, World.size_drew, World.heap_drewN]; done))) | (with_reducible refine Bk.alloc ?_ _) | (with_reducible refine Bk.drew ?_) | (with_reducible refine Bk.drewN ?_ _) | ((with_reducible refine Bk.far ?_ ?_ _); rotate_left; focus (simp only []; omega)) | ((with_reducible refine Bk.below ?_ (by with_reducible assumption) ?_); rotate_left; focus (go_size; done))))
    have zr : Bk w3 (w.heap.size + 1) 26 [.bool false, .int .u64 0, .int .u64 0, .int .i64 0] := by (repeat (first | (with_reducible assumption) | ((with_reducible refine Bk.new_ ?_); (first | rfl | (simp only [World.size_alloc, World.size_setCell, World.size_drew, World.heap_drewN]; done))) | (with_reducible refine Bk.alloc ?_ _) | (with_reducible refine Bk.drew ?_) | (with_reducible refine Bk.drewN ?_ _) | ((with_reducible refine Bk.far ?_ ?_ _); rotate_left; focus (simp only []; omega)) | ((with_reducible refine Bk.below ?_ (by with_reducible assumption) ?_); rotate_left; focus (go_size; done))))
    have z5l := z5.lt
    have zrl := zr.lt
    have z5_0 := z5.cell 0 rfl
    have z5_1 := z5.cell 1 rfl
    have z5_2 := z5.cell 2 rfl
    have z5_3 := z5.cell 3 rfl
    have z5_4 := z5.frozen 0
    have z5_5 := z5.frozen 1
    have z5_6 := z5.frozen 2
    have z5_7 := z5.frozen 3
    have zr_0 := zr.cell 0 rfl
    have zr_1 := zr.cell 1 rfl
    have zr_2 := zr.cell 2 rfl
    have zr_3 := zr.cell 3 rfl
    have zr_4 := zr.frozen 0
    have zr_5 := zr.frozen 1
    have zr_6 := zr.frozen 2
    have zr_7 := zr.frozen 3
    clear qa_0 qa_1 qa_2 qa_3 qa_4 qa_5 qa_6 qa_7
    clear qr_0 qr_1 qr_2 qr_3 qr_4 qr_5 qr_6 qr_7
    clear hb3c hb3f
    go_wp2_with fail
    refine bodyPost_ret (by simp [results, Try.results31, go_sem, *]; try rfl) rfl ?_
    exact ⟨rfl, by (repeat' (first | (with_reducible exact Below.refl _ _) | (with_reducible assumption) | (with_reducible refine Below.drew ?_) | (with_reducible refine below_drewN ?_ _) | ((with_reducible refine Below.alloc ?_ ?_ _); rotate_left; focus (go_size; done)) | ((with_reducible refine Below.setCell ?_ ?_ _); rotate_left; focus (go_size; done)) | ((with_reducible refine Below.trans ?_ (Below.mono (by with_reducible assumption) ?_)); rotate_left; focus (go_size; done))))⟩
end Go.Proofs.Ythkgjodidkpaeaa

set_option linter.unusedSimpArgs false
set_option linter.unusedVariables false
namespace Go.Proofs.Ythkgjodidkpaeaa
open Go.RowKit

/-- from address A on lie, in a block of ints, the numbers xs (nothing is said where there are none) -/
def Sl (w : World) (A : Option Addr) (xs : List Int) : Prop :=
  xs ≠ [] → ∃ g o cs, A = some ⟨g, o, none⟩ ∧ Bk w g 3 cs ∧ ∀ j, j < xs.length → cs[o + j]? = some (.int .i64 (xs.getD j 0))
def IsSl (w : World) (v : Value) (xs : List Int) : Prop := ∃ A c, v = .slice A xs.length c ∧ xs.length ≤ c ∧ Sl w A xs
/-- v holds the digits of n, the least first -/
def Dg (w : World) (v : Value) (n : Nat) : Prop := ∃ xs, IsSl w v xs ∧ IsDg xs n
def RetDg (n : Nat) (w : World) (e : Ending) (w' : World) : Prop := ∃ v, e = .returned v ∧ Dg w' v n ∧ Below w.heap.size w w'

section
variable {w w' : World} {A : Option Addr} {xs : List Int} {v : Value} {n B : Nat}
theorem Sl.below (h : Sl w A xs) (hb : Below w.heap.size w w') : Sl w' A xs := fun hne => by
  obtain ⟨g, o, cs, e, hg, hc⟩ := h hne
  exact ⟨g, o, cs, e, hg.below hb hg.lt, hc⟩
theorem Sl.far (h : Sl w A xs) {b : Nat} {T : TypeId} {ds : List Value} (hb : Bk w b T ds) (hT : 3 ≠ T) (i : Nat) (u : Value) : Sl (w.setCell ⟨b, i, none⟩ u) A xs := fun hne => by
  obtain ⟨g, o, cs, e, hg, hc⟩ := h hne
  refine ⟨g, o, cs, e, hg.far ?_ u, hc⟩
  rintro rfl
  unfold Bk at hg hb
  rw [hg] at hb
  injection hb with hb
  injection hb with _ ht
  exact hT ht
theorem IsSl.below (h : IsSl w v xs) (hb : Below w.heap.size w w') : IsSl w' v xs := by
  obtain ⟨A, c, e, hc, hs⟩ := h
  exact ⟨A, c, e, hc, hs.below hb⟩
theorem Dg.below (h : Dg w v n) (hb : Below w.heap.size w w') : Dg w' v n := by
  obtain ⟨xs, hs, hd⟩ := h
  exact ⟨xs, hs.below hb, hd⟩
theorem Dg.far (h : Dg w v n) {b : Nat} {T : TypeId} {ds : List Value} (hb : Bk w b T ds) (hT : 3 ≠ T) (i : Nat) (u : Value) : Dg (w.setCell ⟨b, i, none⟩ u) v n := by
  obtain ⟨xs, ⟨A, c, e, hc, hs⟩, hd⟩ := h
  exact ⟨xs, ⟨A, c, e, hc, hs.far hb hT i u⟩, hd⟩
theorem Dg.drew (h : Dg w v n) : Dg w.drew v n := h
theorem Dg.drewN (h : Dg w v n) (k : Nat) : Dg (w.drewN k) v n := h
theorem Sl.take (h : Sl w A xs) (k : Nat) : Sl w A (xs.take k) := fun hne => by
  have hx : xs ≠ [] := fun e => hne (by rw [e]; simp)
  obtain ⟨g, o, cs, e, hg, hc⟩ := h hx
  refine ⟨g, o, cs, e, hg, fun j hj => ?_⟩
  rw [List.length_take] at hj
  rw [hc j (by omega), List.getD_eq_getElem?_getD, List.getD_eq_getElem?_getD, List.getElem?_take_of_lt (by omega)]
/-- the cell at a place -/
theorem Sl.at_ (h : Sl w A xs) {k : Nat} (hk : k < xs.length) : ∃ g o, A = some ⟨g, o, none⟩ ∧ g < w.heap.size ∧ w.cell? ⟨g, o + k, none⟩ = some (.int .i64 (xs.getD k 0)) := by
  obtain ⟨g, o, cs, e, hg, hc⟩ := h (by intro e; subst e; simp at hk)
  exact ⟨g, o, e, hg.lt, hg.cell _ (hc k hk)⟩
/-- a row of the call's own, read as a list of ints -/
theorem IsSl.of_own {base : Nat} (h : w.ownsRow base 3 1 v xs.length (xs.map (Value.int .i64))) : IsSl w v xs := by
  rcases h.2 with ⟨rfl, hn⟩ | ⟨g, cap, cur, rfl, hg, hh, r1, r2, r3, r4⟩
  · have : xs = [] := List.length_eq_zero_iff.1 hn
    subst this
    exact ⟨none, 0, rfl, Nat.le_refl _, fun hne => absurd rfl hne⟩
  · refine ⟨some ⟨g, 0, none⟩, cap, rfl, r1, fun hne => ⟨g, 0, cur.toList, rfl, by unfold Bk; simpa using hh, fun j hj => ?_⟩⟩
    have hu : (xs.map (Value.int .i64))[j]? = some (.int .i64 (xs.getD j 0)) := by
      rw [List.getElem?_map, List.getElem?_eq_getElem hj, getD_lt _ _ hj]; rfl
    rw [← r4, List.getElem?_take_of_lt (by omega)] at hu
    rw [Nat.zero_add]; exact hu
end

/-- where it has an address, it lies from block B on -/
def New (B : Nat) (v : Value) : Prop := ∀ g o p n c, v = .slice (some ⟨g, o, p⟩) n c → B ≤ g
theorem New.mono {B C : Nat} {v : Value} (h : New C v) (hb : B ≤ C) : New B v := fun g o p n c e => Nat.le_trans hb (h g o p n c e)
theorem New.nil (B n c : Nat) : New B (.slice none n c) := by intro g o p n c e; cases e
theorem New.same {B : Nat} {A : Option Addr} {n c : Nat} (h : New B (.slice A n c)) (k d : Nat) : New B (.slice A k d) := by
  intro g o p n' c' e; injection e with e1 e2 e3; subst e1; exact h g o p n c rfl
theorem New.at_ {B g : Nat} (h : B ≤ g) (o : Nat) (p : Option Nat) (n c : Nat) : New B (.slice (some ⟨g, o, p⟩) n c) := by
  intro g' o' p' n' c' e; injection e with e1 e2 e3; injection e1 with e1; injection e1 with e1; subst e1; exact h
theorem New.own {w : World} {B : Nat} {E : TypeId} {v : Value} {n : Nat} {xs : List Value} (h : w.ownsRow B E 1 v n xs) : New B v := by
  rcases h.2 with ⟨rfl, _⟩ | ⟨g, cap, cur, rfl, hg, _⟩
  · exact New.nil _ _ _
  · exact New.at_ hg _ _ _ _
theorem Dg.away {w : World} {v : Value} {n B b : Nat} (h : Dg w v n) (hn : New B v) (hb : b < B) (i : Nat) (u : Value) : Dg (w.setCell ⟨b, i, none⟩ u) v n := by
  obtain ⟨xs, ⟨A, c, e, hc, hs⟩, hd⟩ := h
  refine ⟨xs, ⟨A, c, e, hc, fun hne => ?_⟩, hd⟩
  obtain ⟨g, o, cs, e2, hg, hc2⟩ := hs hne
  have := hn g o none xs.length c (by rw [e, e2])
  exact ⟨g, o, cs, e2, hg.far (by show g ≠ b; omega) u, hc2⟩
/-- a block of ints, read as a list -/
theorem IsSl.of_bk {w : World} {g : Nat} {ds : List Int} {n c : Nat} (h : Bk w g 3 (ds.map (Value.int .i64))) (hn : ds.length = n) (hc : n ≤ c) : IsSl w (.slice (some ⟨g, 0, none⟩) n c) ds := by
  subst hn
  refine ⟨_, c, rfl, hc, fun hne => ⟨g, 0, _, rfl, h, fun j hj => ?_⟩⟩
  rw [Nat.zero_add, List.getElem?_map, List.getElem?_eq_getElem hj, getD_lt _ _ hj]; rfl
/-- a new row of noughts -/
def zrow (n : Nat) : List Value := (List.replicate n (0 : Int)).map (Value.int .i64)
theorem zrow_made (n : Nat) : madeCells #[.int .i64 0] n = (zrow n).toArray := by
  apply Array.ext
  · simp [madeCells, zrow]
  · intro i h1 h2
    simp [madeCells, zrow, Nat.mod_one]
theorem info_int : (Try.prog.info? 3).map (fun i => (i.zero, i.size, i.bytes)) = some (some (.int .i64 0), 1, 8) := by kernel_rfl
/-- one int is appended to a row of the call's own -/
theorem wpList_push {w : World} {ops : Array Oper} {rest : List Oper} {o : Oper} {a : Act} {Q : Exit → Act → World → Prop} (hgd : o.guard = none) (s x : Operand)
    (ho : o.op = .call { callee := .builtin .append, args := #[s, x], argTypes := #[49, 49] })
    (base : Nat) (v : Value) (ds : List Int) (hs : a.eval s = v) (hown : w.ownsRow base 3 1 v ds.length (ds.map (Value.int .i64)))
    (b : Nat) (d : Int) (hx : a.eval x = .slice (some ⟨b, 0, none⟩) 1 1) (hd : w.cell? ⟨b, 0, none⟩ = some (.int .i64 d)) (hlen : ds.length ≤ 1000000) (hbase : base ≤ w.heap.size)
    (h : ∀ v' w', w'.ownsRow base 3 1 v' (ds ++ [d]).length ((ds ++ [d]).map (Value.int .i64)) → w.grownBy w' v.ownBlock → wpList Try.prog ops Q rest (a.put o.dst v') w') : wpList Try.prog ops Q (o :: rest) a w := by
  obtain ⟨i0, hi0, hz0, hz1, hz2⟩ := info_parts info_int
  refine wpList_append_own w hgd s x 49 ho base 3 i0 (.int .i64 0) 1 8 Try.underlying49 hi0 hz0 hz1 hz2 rfl (by decide) v ds.length _ hs hown ⟨b, 0, none⟩ 1 1 [.int .i64 d] hx rfl ?_ ?_ (by unfold maxLen; omega) (by omega) hbase ?_
  · intro j u hj
    match j with
    | 0 => simp at hj; subst hj; exact hd
    | j + 1 => simp at hj
  · intro u hu
    rw [List.mem_singleton.1 hu]; rfl
  · intro v' w' h1 h2 _
    refine h v' w' ?_ h2
    rw [List.length_append, List.map_append]
    exact h1
theorem run_append_nil (w : World) (base : Nat) (i : TypeInfo) (hi : Try.prog.info? 3 = some i) (ty : TypeId)
    (v : Value) (n : Nat) (xs : List Value) (hown : w.ownsRow base 3 1 v n xs) (c : Nat) : (Builtin.append_ #[49, 49] ty #[v, .slice none 0 c]).run Try.prog w = .ok v w := by
  rcases hown.2 with ⟨rfl, rfl⟩ | ⟨g, cap, cur, rfl, _, _, hnc, _⟩
  · simp [Builtin.append_, run_underlying Try.underlying49, sizeOf, typeInfo, hi, Builtin.lenOf, Builtin.firstCells]
  · simp [Builtin.append_, run_underlying Try.underlying49, sizeOf, typeInfo, hi, Builtin.lenOf, Builtin.firstCells, hnc, storeCells]
set_option maxRecDepth 100000 in
/-- a list of ints is appended to a row of the call's own -/
theorem wpList_join {w : World} {ops : Array Oper} {rest : List Oper} {o : Oper} {a : Act} {Q : Exit → Act → World → Prop} (hgd : o.guard = none) (s x : Operand)
    (ho : o.op = .call { callee := .builtin .append, args := #[s, x], argTypes := #[49, 49] })
    (base : Nat) (v : Value) (ds : List Int) (hs : a.eval s = v) (hown : w.ownsRow base 3 1 v ds.length (ds.map (Value.int .i64)))
    (A : Option Addr) (c : Nat) (ys : List Int) (hx : a.eval x = .slice A ys.length c) (hd : Sl w A ys) (hlen : ds.length + ys.length ≤ 1000000) (hbase : base ≤ w.heap.size)
    (h : ∀ v' w', w'.ownsRow base 3 1 v' (ds ++ ys).length ((ds ++ ys).map (Value.int .i64)) → w.grownBy w' v.ownBlock → wpList Try.prog ops Q rest (a.put o.dst v') w') : wpList Try.prog ops Q (o :: rest) a w := by
  obtain ⟨i0, hi0, hz0, hz1, hz2⟩ := info_parts info_int
  rcases A with _ | ad
  · have hy : ys = [] := by
      by_cases hne : ys = []
      · exact hne
      · obtain ⟨g, o, cs, e, _⟩ := hd hne
        cases e
    subst hy
    refine wpList_plain hgd fun K hK => ?_
    have hrun := run_append_nil w base i0 hi0 o.type v ds.length _ hown c
    unfold Oper.wp execOp
    simp only [ho, resolve, invoke, builtin, Sem.run_bind, Sem.run_pure, Result.andThen_ok, List.map_toArray, List.map_cons, List.map_nil, hs, hx, List.length_nil, hrun]
    exact hK _ _ (h v w (by rw [List.append_nil]; exact hown) (World.grownBy.refl w _))
  · refine wpList_append_own w hgd s x 49 ho base 3 i0 (.int .i64 0) 1 8 Try.underlying49 hi0 hz0 hz1 hz2 rfl (by decide) v ds.length _ hs hown ad ys.length c (ys.map (Value.int .i64)) hx (by simp) ?_ ?_ (by unfold maxLen; omega) (by omega) hbase ?_
    · intro j u hj
      rw [List.getElem?_map] at hj
      by_cases hjl : j < ys.length
      · obtain ⟨g, o', e, _, hc⟩ := hd.at_ hjl
        injection e with e
        subst e
        rw [List.getElem?_eq_getElem hjl, ← getD_lt _ _ hjl] at hj
        simp only [Option.map_some, Option.some.injEq] at hj
        subst hj
        rw [← hc]
        congr 1
        unfold Addr.add
        split
        · subst_vars; rfl
        · rfl
      · rw [List.getElem?_eq_none (by omega)] at hj
        cases hj
    · intro u hu
      obtain ⟨x, _, rfl⟩ := List.mem_map.1 hu
      rfl
    · intro v' w' h1 h2 _
      refine h v' w' ?_ h2
      rw [List.length_append, List.map_append]
      exact h1
theorem make_ints (n : Nat) (hn : n ≤ 1000000) (W : World) : (Instr.makeSlice 49 (.int .i64 (n : Int)) (.int .i64 (n : Int))).run Try.prog W = .ok (.slice (some ⟨W.heap.size, 0, none⟩) n n) (W.alloc (.cells (zrow n).toArray 3)) := by
  rw [← zrow_made]
  exact run_make_row' 49 3 (.int .i64 0) 8 Try.underlying49 info_int rfl .i64 .i64 n (by omega) (by omega) W
theorem below_push {a w w' : World} {B : Nat} {E : TypeId} {v : Value} {n : Nat} {xs : List Value} (h : Below B a w) (hown : w.ownsRow B E 1 v n xs) (hg : w.grownBy w' v.ownBlock) (hB : B ≤ w.heap.size) : Below B a w' :=
  h.grown hg hB fun k hk => (hown.lt k hk).1
end Go.Proofs.Ythkgjodidkpaeaa

set_option linter.unusedSimpArgs false
set_option linter.unusedVariables false
namespace Go.Proofs.Ythkgjodidkpaeaa
open Go.RowKit

/-- the answer lies where the argument lay -/
def RetCut (A : Option Addr) (n : Nat) (w : World) (e : Ending) (w' : World) : Prop := ∃ k c, e = .returned (.slice A k c) ∧ Dg w' (.slice A k c) n ∧ Below w.heap.size w w'
set_option maxHeartbeats 1000000 in
theorem cut_at (xs : List Int) (A : Option Addr) (c : Nat) (w : World) (hc : xs.length ≤ c) (hs : Sl w A xs) (hd : Digs xs) (hl : xs.length ≤ 100000) :
    Calls Try.prog 93 #[.slice A xs.length c] w (RetCut A (dval xs).toNat w) := by
  have HD := Lib.hid hd
  have HS := Lib.hid hs
  clear hd hs
  go_enter Try.func93, Try.ntmps93
  go_wp2_with fail
  go_loopg [3] xs.length (fun k i wr => k ≤ xs.length ∧ i = .int .i64 k ∧ (∀ j, k ≤ j → j < xs.length → xs.getD j 0 = 0) ∧ ∃ nn, wr = w.drewN nn)
  case atStart => exact ⟨Nat.le_refl _, rfl, fun j h1 h2 => absurd h2 (by omega), 0, rfl⟩
  case round =>
    obtain ⟨hn, rfl, hz, nn, rfl⟩ := hrel
    have HZ := Lib.hid hz
    clear hz
    by_cases h0 : gk = 0
    · subst h0
      go_wp2_with fail
      go_ret
      refine ⟨0, c, rfl, ⟨xs.take 0, ⟨A, c, by simp, by simp, fun h => absurd rfl h⟩, ?_⟩, by (repeat' (first | (with_reducible exact Below.refl _ _) | (with_reducible assumption) | (with_reducible refine Below.drew ?_) | (with_reducible refine below_drewN ?_ _) | ((with_reducible refine Below.alloc ?_ ?_ _); rotate_left; focus (go_size; done)) | ((with_reducible refine Below.setCell ?_ ?_ _); rotate_left; focus (go_size; done)) | ((with_reducible refine Below.trans ?_ (Below.mono (by with_reducible assumption) ?_)); rotate_left; focus (go_size; done))))⟩
      have e := dval_take_zeros xs 0 HZ.out
      rw [← e]
      exact IsDg.nil
    · obtain ⟨m, rfl⟩ : ∃ m, gk = m + 1 := ⟨gk - 1, by omega⟩
      obtain ⟨g, o, rfl, hg, hcell⟩ := HS.out.at_ (k := m) (by omega)
      obtain ⟨d, hd⟩ : ∃ d, d = xs.getD m 0 := ⟨_, rfl⟩
      rw [← hd] at hcell
      have HE := Lib.hid hd
      have hp : (0 : Int) < ((m + 1 : Nat) : Int) := by omega
      have hx : ((m + 1 : Nat) : Int) - 1 = (m : Int) := by omega
      clear h0 hd
      go_wp2_with fail
      · go_roundg m
        case measure => omega
        case rel =>
          refine ⟨by omega, rfl, ?_, nn, rfl⟩
          intro j h1 h2
          by_cases hj : j = m
          · subst hj
            rw [← HE.out]
            simpa using (by assumption : (d == 0) = true)
          · exact HZ.out j (by omega) h2
      · have hne : d ≠ 0 := by simpa using (by assumption : (d == 0) = false)
        go_ret
        have hlen : (xs.take (m + 1)).length = m + 1 := by rw [List.length_take, Nat.min_eq_left hn]
        refine ⟨m + 1, c, rfl, ⟨xs.take (m + 1), ⟨some ⟨g, o, none⟩, c, by (first | (rw [hlen]; done) | (rw [hlen]; rfl)), by rw [hlen]; omega, (HS.out.take (m + 1)).below (by (repeat' (first | (with_reducible exact Below.refl _ _) | (with_reducible assumption) | (with_reducible refine Below.drew ?_) | (with_reducible refine below_drewN ?_ _) | ((with_reducible refine Below.alloc ?_ ?_ _); rotate_left; focus (go_size; done)) | ((with_reducible refine Below.setCell ?_ ?_ _); rotate_left; focus (go_size; done)) | ((with_reducible refine Below.trans ?_ (Below.mono (by with_reducible assumption) ?_)); rotate_left; focus (go_size; done)))))⟩, HD.out.take _, ?_, ?_⟩, by (repeat' (first | (with_reducible exact Below.refl _ _) | (with_reducible assumption) | (with_reducible refine Below.drew ?_) | (with_reducible refine below_drewN ?_ _) | ((with_reducible refine Below.alloc ?_ ?_ _); rotate_left; focus (go_size; done)) | ((with_reducible refine Below.setCell ?_ ?_ _); rotate_left; focus (go_size; done)) | ((with_reducible refine Below.trans ?_ (Below.mono (by with_reducible assumption) ?_)); rotate_left; focus (go_size; done))))⟩
        · exact top_take xs (m + 1) hn (.inr (by rw [Nat.add_sub_cancel, ← HE.out]; exact hne))
        · rw [dval_take_zeros xs (m + 1) HZ.out]
          have := (dval_bd HD.out).1
          omega
theorem cut_any (xs : List Int) (v : Value) (w : World) (hv : IsSl w v xs) (hd : Digs xs) (hl : xs.length ≤ 100000) :
    Calls Try.prog 93 #[v] w (RetDg (dval xs).toNat w) := by
  obtain ⟨A, c, rfl, hc, hs⟩ := hv
  exact (cut_at xs A c w hc hs hd hl).mono fun e w' ⟨k, c', he, hdg, hb⟩ => ⟨_, he, hdg, hb⟩

theorem cut_is (xs : List Int) (A : Option Addr) (n c : Nat) (w : World) (hv : IsSl w (.slice A n c) xs) (hd : Digs xs) (hl : xs.length ≤ 100000) :
    Calls Try.prog 93 #[.slice A n c] w (RetCut A (dval xs).toNat w) := by
  obtain ⟨A', c', e, hc, hs⟩ := hv
  injection e with e1 e2 e3
  subst e1 e2 e3
  exact cut_at xs A c w hc hs hd hl
theorem pow_big {n : Nat} (h : Small n) {l : List Int} (hl : IsDg l n) : l.length ≤ 1000 := hl.len_le (h trivial)
set_option maxHeartbeats 1000000 in
theorem twice_any (N : Nat) (b0 : Int) (hb0 : 0 ≤ b0) (hb1 : b0 ≤ 1) (v : Value) (w : World) (hv : Dg w v N) (hN : Small N) :
    Calls Try.prog 98 #[v, .int .i64 b0] w (RetDg (2 * N + b0.toNat) w) := by
  obtain ⟨xs, ⟨A, c, rfl, hc, hs⟩, hd⟩ := hv
  have hlen := pow_big hN hd
  have HD := Lib.hid hd
  have HS := Lib.hid hs
  clear hd hs hN
  go_enter Try.func98, Try.ntmps98
  go_wp2_with fail
  go_loopg [1, 5, 6] xs.length (fun k b out i wr => ∃ (n : Nat) (bb : Int) (ds : List Int), k + n = xs.length ∧ i = .int .i64 n ∧ b = .int .i64 bb ∧ 0 ≤ bb ∧ bb ≤ 1 ∧
    wr.ownsRow w.heap.size 3 1 out ds.length (ds.map (Value.int .i64)) ∧ ds.length = n ∧ Digs ds ∧ dval ds + 10 ^ n * bb = 2 * dval (xs.take n) + b0 ∧ Below w.heap.size w wr)
  case atStart =>
    exact ⟨0, b0, [], by omega, rfl, rfl, hb0, hb1, World.ownsRow_nil _ _ _ _, rfl, Digs.nil, by simp [dval], Below.refl _ _⟩
  case round =>
    obtain ⟨n, bb, ds, hk, rfl, rfl, hbb0, hbb1, hown, hdl, hdd, hval, hbel⟩ := hrel
    have HK := Lib.hid hk
    have HL := Lib.hid hdl
    have HDD := Lib.hid hdd
    have HV := Lib.hid hval
    have hn : n ≤ xs.length := by omega
    have hwr := hbel.size
    clear hk hdl hdd hval
    by_cases hlt : n < xs.length
    · obtain ⟨g, o, rfl, hg, hcell⟩ := HS.out.at_ hlt
      have hx := HD.out.get n
      have hcell2 := (hbel.cell (p := ⟨g, o + n, none⟩) hg).trans hcell
      obtain ⟨d, hd⟩ : ∃ d, d = xs.getD n 0 := ⟨_, rfl⟩
      rw [← hd] at hcell2 hx
      obtain ⟨hx0, hx9⟩ := hx
      have HE := Lib.hid hd
      clear hd hcell
      go_wp2_with (at_builtin; refine wpList_push rfl (.tmp 21) (.tmp 24) rfl w.heap.size u5 ds rfl (hown.alloc _) wr.heap.size ((2 * d + bb) % 10) rfl ?hc ?hl ?hb ?_; rotate_left 3; intro v1 w1 hown1 hg1)
      case hc => simp [go_sem]
      case hl => have := HL.out; omega
      case hb => go_size
      go_roundg (gk - 1)
      case measure => have := HK.out; omega
      case rel =>
        refine ⟨n + 1, (2 * d + bb) / 10, ds ++ [(2 * d + bb) % 10], by have := HK.out; omega, by go_num, rfl, by omega, by omega, hown1, by rw [List.length_append, HL.out]; rfl, HDD.out.snoc (by omega) (by omega), ?_, below_push (hbel.alloc (by go_size) _) (hown.alloc _) hg1 (by go_size)⟩
        rw [dval_snoc, HL.out, dval_take_succ xs n hlt, ← HE.out, Int.pow_succ]
        have e1 := carry_step (10 ^ n) (2 * d + bb)
        have e2 : (10 : Int) ^ n * (2 * d + bb) = 2 * (10 ^ n * d) + 10 ^ n * bb := by rw [Int.mul_add, Int.mul_left_comm]
        have e3 := HV.out
        omega
    · obtain rfl : n = xs.length := by omega
      have hbz : bb = 0 ∨ bb = 1 := by omega
      have hv : dval ds + 10 ^ ds.length * bb = 2 * N + b0.toNat := by
        have := HV.out
        rw [List.take_length, HD.out.2.2, ← HL.out] at this
        omega
      have HW := Lib.hid hv
      clear hv
      rcases hbz with rfl | rfl
      · go_wp2_with fail
        go_ret
        refine ⟨u5, rfl, ⟨ds, IsSl.of_own hown, HDD.out, ?_, ?_⟩, hbel⟩
        · refine top_of_val HDD.out ?_
          by_cases hne : xs = []
          · left
            have := HL.out
            subst hne
            exact List.length_eq_zero_iff.1 this
          · right
            have h1 := HD.out.le_of_ne hne
            have h2 := HW.out
            rw [Int.mul_zero, Int.add_zero] at h2
            rw [HL.out, h2]
            have h3 : ((10 ^ (xs.length - 1) : Nat) : Int) ≤ (N : Int) := by exact_mod_cast h1
            rw [Int.natCast_pow] at h3
            have h4 : ((10 : Nat) : Int) = 10 := rfl
            rw [h4] at h3
            omega
        · have h2 := HW.out
          rw [Int.mul_zero, Int.add_zero] at h2
          rw [h2]; omega
      · go_wp2_with (at_builtin; refine wpList_push rfl (.tmp 30) (.tmp 32) rfl w.heap.size u5 ds rfl (hown.alloc _) wr.heap.size 1 rfl ?hc ?hl ?hb ?_; rotate_left 3; intro v1 w1 hown1 hg1)
        case hc => simp [go_sem]
        case hl => have := HL.out; omega
        case hb => go_size
        go_ret
        have h2 := HW.out
        have h0 := (dval_bd HDD.out).1
        refine ⟨v1, rfl, ⟨ds ++ [1], IsSl.of_own hown1, HDD.out.snoc (by decide) (by decide), ?_, ?_⟩, below_push (hbel.alloc (by go_size) _) (hown.alloc _) hg1 (by go_size)⟩
        · simp [Top]
        · rw [dval_snoc, h2]; omega
end Go.Proofs.Ythkgjodidkpaeaa

set_option linter.unusedSimpArgs false
set_option linter.unusedVariables false
namespace Go.Proofs.Ythkgjodidkpaeaa
open Go.RowKit

def RetHalf (n : Nat) (w : World) (e : Ending) (w' : World) : Prop := ∃ v, e = .returned (.tuple #[v, .int .i64 ((n % 2 : Nat) : Int)]) ∧ Dg w' v (n / 2) ∧ Below w.heap.size w w'
set_option maxHeartbeats 1000000 in
theorem half_any (N : Nat) (v : Value) (w : World) (hv : Dg w v N) (hN : Small N) :
    Calls Try.prog 103 #[v] w (RetHalf N w) := by
  obtain ⟨xs, ⟨A, c, rfl, hc, hs⟩, hd⟩ := hv
  have hlen := pow_big hN hd
  have HD := Lib.hid hd
  have HS := Lib.hid hs
  have hmk := fun W => make_ints xs.length (by omega) W
  clear hd hs hN
  go_enter Try.func103, Try.ntmps103
  go_wp2_with fail
  clear hmk
  go_loopg [5, 6] xs.length (fun k l i wr => ∃ (ll : Int) (ds : List Int), k ≤ xs.length ∧ i = .int .i64 ((k : Int) - 1) ∧ l = .int .i64 ll ∧ 0 ≤ ll ∧ ll ≤ 1 ∧
    Bk wr w.heap.size 3 (ds.map (Value.int .i64)) ∧ ds.length = xs.length ∧ Digs ds ∧ 2 * dval (ds.drop k) + ll = dval (xs.drop k) ∧ w.heap.size < wr.heap.size ∧ Below w.heap.size w wr)
  case atStart =>
    refine ⟨0, List.replicate xs.length 0, Nat.le_refl _, rfl, rfl, by decide, by decide, Bk.new_ rfl, by simp, Digs.zeros _, ?_, by go_size, by (repeat' (first | (with_reducible exact Below.refl _ _) | (with_reducible assumption) | (with_reducible refine Below.drew ?_) | (with_reducible refine below_drewN ?_ _) | ((with_reducible refine Below.alloc ?_ ?_ _); rotate_left; focus (go_size; done)) | ((with_reducible refine Below.setCell ?_ ?_ _); rotate_left; focus (go_size; done)) | ((with_reducible refine Below.trans ?_ (Below.mono (by with_reducible assumption) ?_)); rotate_left; focus (go_size; done))))⟩
    rw [List.drop_of_length_le (by simp), List.drop_of_length_le (Nat.le_refl _)]
    rfl
  case round =>
    obtain ⟨ll, ds, hk, rfl, rfl, hl0, hl1, hbk, hdl, hdd, hval, hsz, hbel⟩ := hrel
    have HB := Lib.hid hbk
    have HL := Lib.hid hdl
    have HDD := Lib.hid hdd
    have HV := Lib.hid hval
    clear hbk hdl hdd hval
    by_cases h0 : gk = 0
    · subst h0
      have hm : ¬ (0 : Int) ≤ ((0 : Nat) : Int) - 1 := by omega
      go_wp2_with fail
      refine (cut_any ds _ _ (IsSl.of_bk HB.out HL.out (Nat.le_refl _)) HDD.out (by rw [HL.out]; omega)).mono ?_
      rintro _ w2 ⟨v2, rfl, hdg, hb2⟩
      go_wp2_with fail
      go_ret2
      have hv := HV.out
      rw [List.drop_zero, List.drop_zero, HD.out.2.2] at hv
      have h1 := (dval_bd HDD.out).1
      have e1 : (dval ds).toNat = N / 2 := by omega
      have e2 : ll = ((N % 2 : Nat) : Int) := by omega
      rw [e1] at hdg
      refine ⟨v2, ?_, hdg, by (repeat' (first | (with_reducible exact Below.refl _ _) | (with_reducible assumption) | (with_reducible refine Below.drew ?_) | (with_reducible refine below_drewN ?_ _) | ((with_reducible refine Below.alloc ?_ ?_ _); rotate_left; focus (go_size; done)) | ((with_reducible refine Below.setCell ?_ ?_ _); rotate_left; focus (go_size; done)) | ((with_reducible refine Below.trans ?_ (Below.mono (by with_reducible assumption) ?_)); rotate_left; focus (go_size; done))))⟩
      rw [← e2]
      rfl
    · obtain ⟨m, rfl⟩ : ∃ m, gk = m + 1 := ⟨gk - 1, by omega⟩
      obtain ⟨g, o, rfl, hg, hcell⟩ := HS.out.at_ (k := m) (by omega)
      have hcell2 := (hbel.cell (p := ⟨g, o + m, none⟩) hg).trans hcell
      have hx := HD.out.get m
      obtain ⟨d, hd⟩ : ∃ d, d = xs.getD m 0 := ⟨_, rfl⟩
      rw [← hd] at hcell2 hx
      obtain ⟨hx0, hx9⟩ := hx
      have HE := Lib.hid hd
      have hp : (0 : Int) < ((m + 1 : Nat) : Int) := by omega
      have hx : ((m + 1 : Nat) : Int) - 1 = (m : Int) := by omega
      have hmd : m < ds.length := by have := HL.out; omega
      have hst : wr.cell? ⟨w.heap.size, m, none⟩ = some (.int .i64 (ds.getD m 0)) := HB.out.cell _ (by rw [List.getElem?_map, List.getElem?_eq_getElem hmd, getD_lt _ _ hmd]; rfl)
      have hfz := HB.out.frozen m
      clear h0 hd hcell
      go_wp2_with fail
      go_roundg m
      case measure => omega
      case rel =>
        refine ⟨(10 * ll + d) % 2, ds.set m ((10 * ll + d) / 2), by omega, rfl, rfl, by omega, by omega, ?_, by rw [List.length_set]; exact HL.out, HDD.out.set_ m (by omega) (by omega), ?_, by go_size, by (repeat' (first | (with_reducible exact Below.refl _ _) | (with_reducible assumption) | (with_reducible refine Below.drew ?_) | (with_reducible refine below_drewN ?_ _) | ((with_reducible refine Below.alloc ?_ ?_ _); rotate_left; focus (go_size; done)) | ((with_reducible refine Below.setCell ?_ ?_ _); rotate_left; focus (go_size; done)) | ((with_reducible refine Below.trans ?_ (Below.mono (by with_reducible assumption) ?_)); rotate_left; focus (go_size; done))))⟩
        · have := HB.out.set_ m (.int .i64 ((10 * ll + d) / 2))
          rwa [← List.map_set] at this
        · rw [drop_set _ _ _ hmd, dval_drop xs m (by omega), ← HE.out]
          have hv := HV.out
          show 2 * ((10 * ll + d) / 2 + 10 * dval (ds.drop (m + 1))) + (10 * ll + d) % 2 = _
          omega
end Go.Proofs.Ythkgjodidkpaeaa

set_option linter.unusedSimpArgs false
set_option linter.unusedVariables false
namespace Go.Proofs.Ythkgjodidkpaeaa
open Go.RowKit

theorem bit_step (n m j : Nat) (hj : j < 64) : 2 * (n / 2 ^ (64 * m + (j + 1))) + (n / 2 ^ (64 * m) % 2 ^ 64 / 2 ^ j % 2) = n / 2 ^ (64 * m + j) := by
  have e1 : 2 ^ 64 = 2 ^ j * 2 ^ (64 - j) := by rw [← Nat.pow_add]; congr 1; omega
  have e2 : n / 2 ^ (64 * m) % 2 ^ 64 / 2 ^ j % 2 = n / 2 ^ (64 * m + j) % 2 := by
    rw [e1, Nat.mod_mul_right_div_self, Nat.div_div_eq_div_mul, ← Nat.pow_add]
    have hd : 2 ^ 1 ∣ 2 ^ (64 - j) := Nat.pow_dvd_pow 2 (by omega)
    exact Nat.mod_mod_of_dvd _ hd
  rw [e2, ← Nat.add_assoc, Nat.pow_succ, ← Nat.div_div_eq_div_mul]
  omega
theorem pow_le_gen (a b : Nat) (h : a ≤ b) : 2 ^ a ≤ 10 ^ b := Nat.le_trans (Nat.pow_le_pow_left (by decide) a) (Nat.pow_le_pow_right (by decide) h)
theorem lt_ten_1000 {n : Nat} (h : n < 2 ^ 256) : Small n := fun _ => Nat.lt_of_lt_of_le h (pow_le_gen 256 1000 (by decide))
theorem div_lt_1000 {n : Nat} (h : n < 2 ^ 256) (d : Nat) : Small (n / d) := lt_ten_1000 (Nat.lt_of_le_of_lt (Nat.div_le_self _ _) h)

theorem bit_val (n m j : Nat) : wrap64 (bits .and .u64 (wd n m / 2 ^ j) 1) = ((n / 2 ^ (64 * m) % 2 ^ 64 / 2 ^ j % 2 : Nat) : Int) := by
  unfold wd
  have hx : n / 2 ^ (64 * m) % 2 ^ 64 < 18446744073709551616 := Nat.mod_lt _ (by decide)
  generalize n / 2 ^ (64 * m) % 2 ^ 64 = x at *
  have e : ((x : Nat) : Int) / 2 ^ j = ((x / 2 ^ j : Nat) : Int) := by
    rw [Int.natCast_ediv, Int.natCast_pow]; rfl
  have hy : x / 2 ^ j ≤ x := Nat.div_le_self _ _
  rw [e]
  generalize x / 2 ^ j = y at *
  have h := bits_and_u64_nat y 1 (by omega) (by decide)
  rw [Nat.and_one_is_mod] at h
  have e1 : ((1 : Nat) : Int) = 1 := rfl
  rw [e1] at h
  rw [h]
  exact IntWalk.wrap64_in _ (by omega)

set_option maxHeartbeats 1000000 in
theorem words_any (n b L c : Nat) (w : World) (hn : n < 2 ^ 256) (hL : n < 2 ^ (64 * L)) (hL4 : L ≤ 4) (hb : b < w.heap.size) (hc : L ≤ c) (hw : ∀ i, i < L → w.cell? ⟨b, i, none⟩ = some (.int .u64 (wd n i))) :
    Calls Try.prog 85 #[.slice (some ⟨b, 0, none⟩) L c] w (RetDg n w) := by
  have HW := Lib.hid hw
  have HN := Lib.hid hn
  have HL := Lib.hid hL
  clear hw hn hL
  go_enter Try.func85, Try.ntmps85
  go_wp2_with fail
  go_loopg [3, 4] L (fun k v i wr => k ≤ L ∧ i = .int .i64 ((k : Int) - 1) ∧ Dg wr v (n / 2 ^ (64 * k)) ∧ Below w.heap.size w wr)
  case atStart =>
    refine ⟨Nat.le_refl _, rfl, ⟨[], ⟨none, 0, rfl, Nat.le_refl _, fun h => absurd rfl h⟩, ?_⟩, by (repeat' (first | (with_reducible exact Below.refl _ _) | (with_reducible assumption) | (with_reducible refine Below.drew ?_) | (with_reducible refine below_drewN ?_ _) | ((with_reducible refine Below.alloc ?_ ?_ _); rotate_left; focus (go_size; done)) | ((with_reducible refine Below.setCell ?_ ?_ _); rotate_left; focus (go_size; done)) | ((with_reducible refine Below.trans ?_ (Below.mono (by with_reducible assumption) ?_)); rotate_left; focus (go_size; done))))⟩
    rw [Nat.div_eq_of_lt HL.out]
    exact IsDg.nil
  case round =>
    obtain ⟨hk, rfl, hdg, hbel⟩ := hrel
    have HD := Lib.hid hdg
    clear hdg
    by_cases h0 : gk = 0
    · subst h0
      have hm : ¬ (0 : Int) ≤ ((0 : Nat) : Int) - 1 := by omega
      go_wp2_with fail
      go_ret
      refine ⟨u3, rfl, ?_, hbel⟩
      have := HD.out
      rwa [Nat.mul_zero, Nat.pow_zero, Nat.div_one] at this
    · obtain ⟨m, rfl⟩ : ∃ m, gk = m + 1 := ⟨gk - 1, by omega⟩
      have hp : (0 : Int) < ((m + 1 : Nat) : Int) := by omega
      have hx : ((m + 1 : Nat) : Int) - 1 = (m : Int) := by omega
      have hcw := HW.out m (by omega)
      clear h0
      go_wp2_with fail
      simp only [hx]
      clear hx hp
      obtain ⟨wo, rfl⟩ : ∃ wo : World, wo = wr := ⟨_, rfl⟩
      go_loopg [3, 5] 64 (fun k v i wr => k ≤ 64 ∧ i = .int .i64 ((k : Int) - 1) ∧ Dg wr v (n / 2 ^ (64 * m + k)) ∧ Below w.heap.size w wr)
      case atStart =>
        refine ⟨by decide, rfl, ?_, hbel⟩
        have := HD.out
        rwa [Nat.mul_add] at this
      case round =>
        obtain ⟨hk2, rfl, hdg2, hbel2⟩ := hrel
        have HD2 := Lib.hid hdg2
        clear hdg2
        by_cases h0 : gk = 0
        · subst h0
          have hm : ¬ (0 : Int) ≤ ((0 : Nat) : Int) - 1 := by omega
          go_wp2_with fail
          go_roundg m
          case measure => omega
          case rel =>
            refine ⟨by omega, rfl, ?_, hbel2⟩
            have := HD2.out
            rwa [Nat.add_zero] at this
        · obtain ⟨j, rfl⟩ : ∃ j, gk = j + 1 := ⟨gk - 1, by omega⟩
          have hp2 : (0 : Int) < ((j + 1 : Nat) : Int) := by omega
          have hx2 : ((j + 1 : Nat) : Int) - 1 = (j : Int) := by omega
          have hcw2 := (hbel2.cell (p := ⟨b, m, none⟩) hb).trans hcw
          go_wp2_with fail
          have hbv := bit_val n m j
          have hb2 : n / 2 ^ (64 * m) % 2 ^ 64 / 2 ^ j % 2 < 2 := Nat.mod_lt _ (by decide)
          have hst := bit_step n m j (by omega)
          obtain ⟨t, ht⟩ : ∃ t, t = n / 2 ^ (64 * m) % 2 ^ 64 / 2 ^ j % 2 := ⟨_, rfl⟩
          rw [← ht] at hbv hb2 hst
          rw [hbv]
          have HS := Lib.hid hst
          clear hbv hst ht
          refine (twice_any (n / 2 ^ (64 * m + (j + 1))) (t : Int) (by omega) (by omega) u3 _ HD2.out (div_lt_1000 HN.out _)).mono ?_
          rintro _ w2 ⟨v2, rfl, hdg3, hb3⟩
          have hb3s := hb3.size
          have hb2s := hbel2.size
          rw [Int.toNat_natCast, HS.out] at hdg3
          have HD3 := Lib.hid hdg3
          clear hdg3
          go_wp2_with fail
          go_roundg j
          case measure => omega
          case rel => exact ⟨by omega, rfl, HD3.out, by (repeat' (first | (with_reducible exact Below.refl _ _) | (with_reducible assumption) | (with_reducible refine Below.drew ?_) | (with_reducible refine below_drewN ?_ _) | ((with_reducible refine Below.alloc ?_ ?_ _); rotate_left; focus (go_size; done)) | ((with_reducible refine Below.setCell ?_ ?_ _); rotate_left; focus (go_size; done)) | ((with_reducible refine Below.trans ?_ (Below.mono (by with_reducible assumption) ?_)); rotate_left; focus (go_size; done))))⟩
end Go.Proofs.Ythkgjodidkpaeaa
