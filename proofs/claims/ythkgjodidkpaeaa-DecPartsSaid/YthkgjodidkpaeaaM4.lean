/- The contracts of the functions that the law reaches, part 4: what each returns and what becomes of memory. -/
import Derived.Deep.DeepCutAuto
import Derived.Deep.OwnRows
import Derived.RegionTactic
import Derived.ChangeAlike
import Derived.BigRegion
import Derived.Deep.RegionHeld3
import Derived.IntWalk
import Derived.Test.YthkgjodidkpaeaaM1
import Derived.Test.YthkgjodidkpaeaaM2
import Derived.Test.YthkgjodidkpaeaaM3
set_option linter.unusedSimpArgs false
set_option linter.unusedVariables false
namespace Go.Proofs.Ythkgjodidkpaeaa
open Go.RowKit

def wholeV (c s : Nat) (up : Bool) : Nat := c / 10 ^ s + if up = true ∧ c % 10 ^ s ≠ 0 then 1 else 0
theorem wholeV_lt {c s : Nat} (up : Bool) (h : c < B34) : wholeV c s up < B34 := by
  unfold wholeV
  rcases Nat.eq_zero_or_pos s with h0 | h0
  · subst h0
    rw [Nat.pow_zero, Nat.div_one, Nat.mod_one]; simp; exact h
  · have h1 : c / 10 ^ s ≤ c / 10 := by
      refine Nat.div_le_div_left ?_ (by decide)
      calc (10 : Nat) = 10 ^ 1 := rfl
        _ ≤ 10 ^ s := Nat.pow_le_pow_right (by decide) h0
    have h2 : 100 ≤ B34 := by unfold B34; decide
    split <;> omega
theorem wholeV_up {c s : Nat} (h : c % 10 ^ s ≠ 0) : wholeV c s true = c / 10 ^ s + 1 := by unfold wholeV; rw [if_pos ⟨rfl, h⟩]
theorem wholeV_flat {c s : Nat} {up : Bool} (h : up = false ∨ c % 10 ^ s = 0) : wholeV c s up = c / 10 ^ s := by
  unfold wholeV; rw [if_neg (by rintro ⟨h1, h2⟩; rcases h with h | h; (rw [h] at h1; cases h1); exact h2 h)]; rfl
theorem strip_0 (c : Nat) : stripC c 0 = c ∧ stripS c 0 = 0 := ⟨rfl, rfl⟩
theorem canon_0 (neg : Bool) (c : Nat) (hc : c < B34) (W : World) : Calls Try.prog 75 #[.bool neg, .agg #[.int .u64 (wd c 1), .int .u64 (wd c 0)], .int .i64 0] W fun e w' => e = .returned (.agg #[.bool (sg neg c), .int .u64 (wd (c) 1), .int .u64 (wd (c) 0), .int .i64 0]) ∧ Below W.heap.size W w' := canon_any neg c 0 hc (by decide) W
theorem wd_one : wd 1 0 = 1 ∧ wd 1 1 = 0 := ⟨by rw [wd0]; rfl, by rw [wd1]; rfl⟩
set_option maxRecDepth 100000 in
set_option maxHeartbeats 8000000 in
theorem whole_any (b : Bool) (c s : Nat) (up : Bool) (hc : c < B34) (hs : s ≤ 18) (w : World) :
    Calls Try.prog 72 #[.agg #[.bool b, .int .u64 (wd (c) 1), .int .u64 (wd (c) 0), .int .i64 s], .bool up] w fun e w' => e = .returned (.agg #[.bool (sg b (wholeV c s up)), .int .u64 (wd ((wholeV c s up)) 1), .int .u64 (wd ((wholeV c s up)) 0), .int .i64 0]) ∧ Below w.heap.size w w' := by
  have hc2 : c < 2 ^ 128 := Nat.lt_trans hc B34_lt
  have HL := Lib.hid (fun W => long_any c hc2 W)
  have HP := Lib.hid (fun W => power_any s (by omega) W)
  have HV := Lib.hid (fun W => div_any c (10 ^ s) (Nat.lt_trans hc2 (by decide)) (ten_38 (by omega)) (Nat.ne_of_gt (Nat.pow_pos (by decide))) W)
  have hq : c / 10 ^ s < 2 ^ 128 := Nat.lt_of_le_of_lt (Nat.div_le_self _ _) hc2
  have HN := Lib.hid (fun W => narrow_any (c / 10 ^ s) (Nat.lt_trans hq (by decide)) W)
  rw [fit_id hq, over_id hq] at HN
  have hr : c % 10 ^ s < 2 ^ 128 := Nat.lt_of_le_of_lt (Nat.mod_le _ _) hc2
  have qz : ∀ W, (binOp .neq 24 (.agg #[.int .u64 (wd (c % 10 ^ s) 1), .int .u64 (wd (c % 10 ^ s) 0)]) (.agg #[.int .u64 0, .int .u64 0])).run Try.prog W = .ok (.bool (!(decide (c % 10 ^ s = 0)))) W := fun W => by rw [neq_wide, eq_nil hr]
  have hV := wholeV_lt (s := s) up hc
  have HC := Lib.hid (fun W => canon_0 b (wholeV c s up) hV W)
  have HA := Lib.hid (fun W => add_any (c / 10 ^ s) 1 hq (by decide) W)
  have hup := wholeV_up (c := c) (s := s)
  have hfl := wholeV_flat (c := c) (s := s) (up := up)
  have hle : wholeV c s up < 2 ^ 128 := Nat.lt_trans hV B34_lt
  generalize c / 10 ^ s = q at *
  generalize c % 10 ^ s = r at *
  generalize 10 ^ s = D at *
  have hsum : up = true → r ≠ 0 → Hid (∀ W, Calls Try.prog 95 #[.agg #[.int .u64 (wd q 1), .int .u64 (wd q 0)], .agg #[.int .u64 0, .int .u64 1]] W fun e w' => e = .returned (.tuple #[.agg #[.int .u64 (wd (wholeV c s up) 1), .int .u64 (wd (wholeV c s up) 0)], .int .i64 0]) ∧ Below W.heap.size W w') := by
    intro h1 h2
    subst h1
    have e := hup h2
    rw [e] at hle
    rw [fit_id hle, over_id hle, wd_one.1, wd_one.2] at HA
    rw [e]
    exact HA
  have hflat : (up = false ∨ r = 0) → wholeV c s up = q := hfl
  have hz : ∃ z, z = decide (r = 0) := ⟨_, rfl⟩
  obtain ⟨z, hz⟩ := hz
  rw [← hz] at qz
  have HZ := Far.mk hz
  have HSUM := Far.mk hsum
  have HFLAT := Far.mk hflat
  clear hup hfl hV hr hq hc hc2 hle HA hsum hflat hz
  obtain ⟨V, eV⟩ : ∃ V, V = wholeV c s up := ⟨_, rfl⟩
  rw [← eV] at HC HSUM HFLAT
  rw [← eV]
  clear eV
  generalize sg b V = sb at *
  generalize wd c 0 = x0 at *
  generalize wd c 1 = x1 at *
  generalize wd c 2 = x2 at *
  generalize wd c 3 = x3 at *
  generalize wd D 0 = d0 at *
  generalize wd D 1 = d1 at *
  go_enter Try.func72, Try.ntmps72
  go_upto_region 1 with fail
  go_cut [5, 6] (fun s5 s6 wx => ∃ g5 g6 : Nat, s5 = .pointer (some ⟨g5, 0, none⟩) ∧ s6 = .pointer (some ⟨g6, 0, none⟩) ∧ Bk wx g5 45 [.int .u64 (wd q 0), .int .u64 (wd q 1), .int .u64 (wd q 2), .int .u64 (wd q 3)] ∧ Bk wx g6 24 [.int .u64 (wd r 1), .int .u64 (wd r 0)] ∧ Bk wx w.heap.size 26 [.bool b, .int .u64 x1, .int .u64 x0, .int .i64 s] ∧ Bk wx (w.heap.size + 1) 26 [.bool false, .int .u64 0, .int .u64 0, .int .i64 0] ∧ Below w.heap.size w wx)
  case first =>
    go_region_held3 (fun w' => (w'.cell? ⟨w.heap.size, 0, none⟩ = some (.bool b) ∧ w'.cell? ⟨w.heap.size, 1, none⟩ = some (.int .u64 x1) ∧ w'.cell? ⟨w.heap.size, 2, none⟩ = some (.int .u64 x0) ∧ w'.cell? ⟨w.heap.size, 3, none⟩ = some (.int .i64 ((s : Int))))) (first | (first | (go_keep; done) | (simp [go_sem]; done) | ((try dsimp only); (repeat' apply And.intro) <;> (first | (with_reducible assumption) | ((rw [World.cell?_alloc_lt _ _ _ (by show _ < _; omega)]); go_split_ands; (first | with_reducible assumption | (refine (World.cell?_alloc_lt _ _ _ (by show _ < _; omega)).symm.trans ?_; with_reducible assumption))) | ((rw [World.cell?_setCell_other _ _ _ _ (by intro e; injection e; omega)]); with_reducible assumption) | (go_keep; done) | (simp [go_sem]; done) | (simp (disch := go_size) [*, World.cell?_alloc_some, World.cell?_setCell_far]; done)))) | ((refine ⟨Bk.cell (t := 26) (cs := [.bool b, .int .u64 x1, .int .u64 x0, .int .i64 ((s : Int))]) ?_ 0 rfl, Bk.cell (t := 26) (cs := [.bool b, .int .u64 x1, .int .u64 x0, .int .i64 ((s : Int))]) ?_ 1 rfl, Bk.cell (t := 26) (cs := [.bool b, .int .u64 x1, .int .u64 x0, .int .i64 ((s : Int))]) ?_ 2 rfl, Bk.cell (t := 26) (cs := [.bool b, .int .u64 x1, .int .u64 x0, .int .i64 ((s : Int))]) ?_ 3 rfl⟩) <;> ((repeat (first | (with_reducible assumption) | ((with_reducible refine Bk.new_ ?_); (first | rfl | (simp only [World.size_alloc, World.size_setCell, World.size_drew, World.heap_drewN]; done))) | (with_reducible refine Bk.alloc ?_ _) | (with_reducible refine Bk.drew ?_) | (with_reducible refine Bk.drewN ?_ _) | ((with_reducible refine Bk.far ?_ ?_ _); rotate_left; focus (simp only []; omega)) | ((with_reducible refine Bk.below ?_ (by with_reducible assumption) ?_); rotate_left; focus (go_size; done)))); done))) (first | (go_at_call 62; (with_reducible refine (HL.out _).mono ?_); rintro _ w1 ⟨rfl, hb1⟩; have hb1s := hb1.size; (try simp only [World.size_alloc, World.size_setCell, World.size_drew, World.heap_drewN] at hb1s); obtain ⟨hb1c, hb1f⟩ := bcell hb1; (try have : w.heap.size < w1.heap.size := by omega); (try have : w.heap.size + 1 < w1.heap.size := by omega); (try have : w.heap.size + 1 + 1 < w1.heap.size := by omega); (try have : w.heap.size + 1 + 1 + 1 < w1.heap.size := by omega); (try have : w2.heap.size < w1.heap.size := by omega); (try have : w2.heap.size + 1 < w1.heap.size := by omega); (try have : w2.heap.size + 1 + 1 < w1.heap.size := by omega); (try have : w2.heap.size + 1 + 1 + 1 < w1.heap.size := by omega)) | (go_at_call 88; (with_reducible refine (HP.out _).mono ?_); rintro _ w2 ⟨rfl, hb2⟩; have hb2s := hb2.size; (try simp only [World.size_alloc, World.size_setCell, World.size_drew, World.heap_drewN] at hb2s); obtain ⟨hb2c, hb2f⟩ := bcell hb2; (try have : w.heap.size < w2.heap.size := by omega); (try have : w.heap.size + 1 < w2.heap.size := by omega); (try have : w.heap.size + 1 + 1 < w2.heap.size := by omega); (try have : w.heap.size + 1 + 1 + 1 < w2.heap.size := by omega); (try have : w1.heap.size < w2.heap.size := by omega); (try have : w1.heap.size + 1 < w2.heap.size := by omega); (try have : w1.heap.size + 1 + 1 < w2.heap.size := by omega); (try have : w1.heap.size + 1 + 1 + 1 < w2.heap.size := by omega)) | (go_at_call 78; (with_reducible refine (HV.out _).mono ?_); rintro _ w9 ⟨rfl, hb9⟩; have hb9s := hb9.size; (try simp only [World.size_alloc, World.size_setCell, World.size_drew, World.heap_drewN] at hb9s); obtain ⟨hb9c, hb9f⟩ := bcell hb9; (try have : w.heap.size < w9.heap.size := by omega); (try have : w.heap.size + 1 < w9.heap.size := by omega); (try have : w.heap.size + 1 + 1 < w9.heap.size := by omega); (try have : w.heap.size + 1 + 1 + 1 < w9.heap.size := by omega); (try have : w1.heap.size < w9.heap.size := by omega); (try have : w1.heap.size + 1 < w9.heap.size := by omega); (try have : w1.heap.size + 1 + 1 < w9.heap.size := by omega); (try have : w1.heap.size + 1 + 1 + 1 < w9.heap.size := by omega); (try have : w2.heap.size < w9.heap.size := by omega); (try have : w2.heap.size + 1 < w9.heap.size := by omega); (try have : w2.heap.size + 1 + 1 < w9.heap.size := by omega); (try have : w2.heap.size + 1 + 1 + 1 < w9.heap.size := by omega)))
    all_goals
      go_wp2_with fail
      go_meet
      exact ⟨_, _, rfl, rfl, by first | ((repeat (first | (with_reducible assumption) | ((with_reducible refine Bk.new_ ?_); (first | rfl | (simp only [World.size_alloc, World.size_setCell, World.size_drew, World.heap_drewN]; done))) | (with_reducible refine Bk.alloc ?_ _) | (with_reducible refine Bk.drew ?_) | (with_reducible refine Bk.drewN ?_ _) | ((with_reducible refine Bk.far ?_ ?_ _); rotate_left; focus (simp only []; omega)) | ((with_reducible refine Bk.below ?_ (by with_reducible assumption) ?_); rotate_left; focus (go_size; done)))); done) | ((repeat (first | (with_reducible refine Bk.alloc ?_ _) | (with_reducible refine Bk.drew ?_) | ((with_reducible refine Bk.far ?_ ?_ _); rotate_left; focus (simp only []; omega)))); (refine ((((?_ : Bk _ _ _ [.int .u64 0, .int .u64 0, .int .u64 0, .int .u64 0]).set_ 0 _).set_ 1 _).set_ 2 _).set_ 3 _); (repeat (first | (with_reducible assumption) | ((with_reducible refine Bk.new_ ?_); (first | rfl | (simp only [World.size_alloc, World.size_setCell, World.size_drew, World.heap_drewN]; done))) | (with_reducible refine Bk.alloc ?_ _) | (with_reducible refine Bk.drew ?_) | (with_reducible refine Bk.drewN ?_ _) | ((with_reducible refine Bk.far ?_ ?_ _); rotate_left; focus (simp only []; omega)) | ((with_reducible refine Bk.below ?_ (by with_reducible assumption) ?_); rotate_left; focus (go_size; done))))), by first | ((repeat (first | (with_reducible assumption) | ((with_reducible refine Bk.new_ ?_); (first | rfl | (simp only [World.size_alloc, World.size_setCell, World.size_drew, World.heap_drewN]; done))) | (with_reducible refine Bk.alloc ?_ _) | (with_reducible refine Bk.drew ?_) | (with_reducible refine Bk.drewN ?_ _) | ((with_reducible refine Bk.far ?_ ?_ _); rotate_left; focus (simp only []; omega)) | ((with_reducible refine Bk.below ?_ (by with_reducible assumption) ?_); rotate_left; focus (go_size; done)))); done) | ((repeat (first | (with_reducible refine Bk.alloc ?_ _) | (with_reducible refine Bk.drew ?_) | ((with_reducible refine Bk.far ?_ ?_ _); rotate_left; focus (simp only []; omega)))); (refine ((?_ : Bk _ _ _ [.int .u64 0, .int .u64 0]).set_ 0 _).set_ 1 _); (repeat (first | (with_reducible assumption) | ((with_reducible refine Bk.new_ ?_); (first | rfl | (simp only [World.size_alloc, World.size_setCell, World.size_drew, World.heap_drewN]; done))) | (with_reducible refine Bk.alloc ?_ _) | (with_reducible refine Bk.drew ?_) | (with_reducible refine Bk.drewN ?_ _) | ((with_reducible refine Bk.far ?_ ?_ _); rotate_left; focus (simp only []; omega)) | ((with_reducible refine Bk.below ?_ (by with_reducible assumption) ?_); rotate_left; focus (go_size; done))))), by (repeat (first | (with_reducible assumption) | ((with_reducible refine Bk.new_ ?_); (first | rfl | (simp only [World.size_alloc, World.size_setCell, World.size_drew, World.heap_drewN]; done))) | (with_reducible refine Bk.alloc ?_ _) | (with_reducible refine Bk.drew ?_) | (with_reducible refine Bk.drewN ?_ _) | ((with_reducible refine Bk.far ?_ ?_ _); rotate_left; focus (simp only []; omega)) | ((with_reducible refine Bk.below ?_ (by with_reducible assumption) ?_); rotate_left; focus (go_size; done)))), by (repeat (first | (with_reducible assumption) | ((with_reducible refine Bk.new_ ?_); (first | rfl | (simp only [World.size_alloc, World.size_setCell, World.size_drew, World.heap_drewN]; done))) | (with_reducible refine Bk.alloc ?_ _) | (with_reducible refine Bk.drew ?_) | (with_reducible refine Bk.drewN ?_ _) | ((with_reducible refine Bk.far ?_ ?_ _); rotate_left; focus (simp only []; omega)) | ((with_reducible refine Bk.below ?_ (by with_reducible assumption) ?_); rotate_left; focus (go_size; done)))), by (repeat' (first | (with_reducible exact Below.refl _ _) | (with_reducible assumption) | (with_reducible refine Below.drew ?_) | (with_reducible refine below_drewN ?_ _) | ((with_reducible refine Below.alloc ?_ ?_ _); rotate_left; focus (go_size; done)) | ((with_reducible refine Below.setCell ?_ ?_ _); rotate_left; focus (go_size; done)) | ((with_reducible refine Below.trans ?_ (Below.mono (by with_reducible assumption) ?_)); rotate_left; focus (go_size; done))))⟩
  case rest =>
    obtain ⟨g5, g6, rfl, rfl, k5, k6, ka, kr, kw⟩ := hcut
    have c50 := k5.cell 0 rfl
    have c51 := k5.cell 1 rfl
    have c52 := k5.cell 2 rfl
    have c53 := k5.cell 3 rfl
    have k5l := k5.lt
    have k6l := k6.lt
    have kal := ka.lt
    have krl := kr.lt
    clear k5 k5l
    cases z
    · cases up
      · have e : V = q := HFLAT.out (.inl rfl)
        subst e
        go_wp2_with fail
        refine (HN.out _).mono ?_
        rintro _ w3 ⟨rfl, hb3⟩; have hb3s := hb3.size; (try simp only [World.size_alloc, World.size_setCell, World.size_drew, World.heap_drewN] at hb3s); obtain ⟨hb3c, hb3f⟩ := bcell hb3; (try have : w.heap.size < w3.heap.size := by omega); (try have : w.heap.size + 1 < w3.heap.size := by omega); (try have : w.heap.size + 1 + 1 < w3.heap.size := by omega); (try have : w.heap.size + 1 + 1 + 1 < w3.heap.size := by omega)
        have j6 : Bk w3 g6 24 [.int .u64 (wd r 1), .int .u64 (wd r 0)] := by (repeat (first | (with_reducible assumption) | ((with_reducible refine Bk.new_ ?_); (first | rfl | (simp only [World.size_alloc, World.size_setCell, World.size_drew, World.heap_drewN]; done))) | (with_reducible refine Bk.alloc ?_ _) | (with_reducible refine Bk.drew ?_) | (with_reducible refine Bk.drewN ?_ _) | ((with_reducible refine Bk.far ?_ ?_ _); rotate_left; focus (simp only []; omega)) | ((with_reducible refine Bk.below ?_ (by with_reducible assumption) ?_); rotate_left; focus (go_size; done))))
        have ja : Bk w3 w.heap.size 26 [.bool b, .int .u64 x1, .int .u64 x0, .int .i64 s] := by (repeat (first | (with_reducible assumption) | ((with_reducible refine Bk.new_ ?_); (first | rfl | (simp only [World.size_alloc, World.size_setCell, World.size_drew, World.heap_drewN]; done))) | (with_reducible refine Bk.alloc ?_ _) | (with_reducible refine Bk.drew ?_) | (with_reducible refine Bk.drewN ?_ _) | ((with_reducible refine Bk.far ?_ ?_ _); rotate_left; focus (simp only []; omega)) | ((with_reducible refine Bk.below ?_ (by with_reducible assumption) ?_); rotate_left; focus (go_size; done))))
        have jr : Bk w3 (w.heap.size + 1) 26 [.bool false, .int .u64 0, .int .u64 0, .int .i64 0] := by (repeat (first | (with_reducible assumption) | ((with_reducible refine Bk.new_ ?_); (first | rfl | (simp only [World.size_alloc, World.size_setCell, World.size_drew, World.heap_drewN]; done))) | (with_reducible refine Bk.alloc ?_ _) | (with_reducible refine Bk.drew ?_) | (with_reducible refine Bk.drewN ?_ _) | ((with_reducible refine Bk.far ?_ ?_ _); rotate_left; focus (simp only []; omega)) | ((with_reducible refine Bk.below ?_ (by with_reducible assumption) ?_); rotate_left; focus (go_size; done))))
        have c60 := j6.cell 0 rfl
        have c61 := j6.cell 1 rfl
        have ja_0 := ja.cell 0 rfl
        have ja_1 := ja.cell 1 rfl
        have ja_2 := ja.cell 2 rfl
        have ja_3 := ja.cell 3 rfl
        have ja_4 := ja.frozen 0
        have ja_5 := ja.frozen 1
        have ja_6 := ja.frozen 2
        have ja_7 := ja.frozen 3
        have jal := ja.lt
        have j6l := j6.lt
        have jrl := jr.lt
        clear hb3c hb3f
        go_wp2_with fail
        refine calls_named (fun W => Bk W (w.heap.size + 1) 26 [.bool false, .int .u64 0, .int .u64 0, .int .i64 0] ∧ Below w.heap.size w W) ⟨?h1, ?h2⟩ ?_
        case h1 => ((repeat (first | (with_reducible assumption) | ((with_reducible refine Bk.new_ ?_); (first | rfl | (simp only [World.size_alloc, World.size_setCell, World.size_drew, World.heap_drewN]; done))) | (with_reducible refine Bk.alloc ?_ _) | (with_reducible refine Bk.drew ?_) | (with_reducible refine Bk.drewN ?_ _) | ((with_reducible refine Bk.far ?_ ?_ _); rotate_left; focus (simp only []; omega)) | ((with_reducible refine Bk.below ?_ (by with_reducible assumption) ?_); rotate_left; focus (go_size; done)))); done)
        case h2 => ((repeat' (first | (with_reducible exact Below.refl _ _) | (with_reducible assumption) | (with_reducible refine Below.drew ?_) | (with_reducible refine below_drewN ?_ _) | ((with_reducible refine Below.alloc ?_ ?_ _); rotate_left; focus (go_size; done)) | ((with_reducible refine Below.setCell ?_ ?_ _); rotate_left; focus (go_size; done)) | ((with_reducible refine Below.trans ?_ (Below.mono (by with_reducible assumption) ?_)); rotate_left; focus (go_size; done)))); done)
        rintro W5 ⟨kr5, kw5⟩
        have kr5l := kr5.lt
        refine (HC.out _).mono ?_
        rintro _ w6 ⟨rfl, hb6⟩; have hb6s := hb6.size; (try simp only [World.size_alloc, World.size_setCell, World.size_drew, World.heap_drewN] at hb6s); obtain ⟨hb6c, hb6f⟩ := bcell hb6; (try have : w.heap.size < w6.heap.size := by omega); (try have : w.heap.size + 1 < w6.heap.size := by omega); (try have : w.heap.size + 1 + 1 < w6.heap.size := by omega); (try have : w.heap.size + 1 + 1 + 1 < w6.heap.size := by omega)
        have m6 : Bk w6 (w.heap.size + 1) 26 [.bool false, .int .u64 0, .int .u64 0, .int .i64 0] := by (repeat (first | (with_reducible assumption) | ((with_reducible refine Bk.new_ ?_); (first | rfl | (simp only [World.size_alloc, World.size_setCell, World.size_drew, World.heap_drewN]; done))) | (with_reducible refine Bk.alloc ?_ _) | (with_reducible refine Bk.drew ?_) | (with_reducible refine Bk.drewN ?_ _) | ((with_reducible refine Bk.far ?_ ?_ _); rotate_left; focus (simp only []; omega)) | ((with_reducible refine Bk.below ?_ (by with_reducible assumption) ?_); rotate_left; focus (go_size; done))))
        have m6_0 := m6.cell 0 rfl
        have m6_1 := m6.cell 1 rfl
        have m6_2 := m6.cell 2 rfl
        have m6_3 := m6.cell 3 rfl
        have m6_4 := m6.frozen 0
        have m6_5 := m6.frozen 1
        have m6_6 := m6.frozen 2
        have m6_7 := m6.frozen 3
        clear hb6c hb6f
        go_wp2_with fail
        refine bodyPost_ret (by simp [results, Try.results72, go_sem, *]; try rfl) rfl ?_
        exact ⟨rfl, by (repeat' (first | (with_reducible exact Below.refl _ _) | (with_reducible assumption) | (with_reducible refine Below.drew ?_) | (with_reducible refine below_drewN ?_ _) | ((with_reducible refine Below.alloc ?_ ?_ _); rotate_left; focus (go_size; done)) | ((with_reducible refine Below.setCell ?_ ?_ _); rotate_left; focus (go_size; done)) | ((with_reducible refine Below.trans ?_ (Below.mono (by with_reducible assumption) ?_)); rotate_left; focus (go_size; done))))⟩
      · have hsum := HSUM.out rfl (by have := HZ.out; intro h; rw [decide_eq_true h] at this; cases this)
        clear HSUM HFLAT HZ
        go_wp2_with fail
        refine (HN.out _).mono ?_
        rintro _ w3 ⟨rfl, hb3⟩; have hb3s := hb3.size; (try simp only [World.size_alloc, World.size_setCell, World.size_drew, World.heap_drewN] at hb3s); obtain ⟨hb3c, hb3f⟩ := bcell hb3; (try have : w.heap.size < w3.heap.size := by omega); (try have : w.heap.size + 1 < w3.heap.size := by omega); (try have : w.heap.size + 1 + 1 < w3.heap.size := by omega); (try have : w.heap.size + 1 + 1 + 1 < w3.heap.size := by omega)
        have j6 : Bk w3 g6 24 [.int .u64 (wd r 1), .int .u64 (wd r 0)] := by (repeat (first | (with_reducible assumption) | ((with_reducible refine Bk.new_ ?_); (first | rfl | (simp only [World.size_alloc, World.size_setCell, World.size_drew, World.heap_drewN]; done))) | (with_reducible refine Bk.alloc ?_ _) | (with_reducible refine Bk.drew ?_) | (with_reducible refine Bk.drewN ?_ _) | ((with_reducible refine Bk.far ?_ ?_ _); rotate_left; focus (simp only []; omega)) | ((with_reducible refine Bk.below ?_ (by with_reducible assumption) ?_); rotate_left; focus (go_size; done))))
        have ja : Bk w3 w.heap.size 26 [.bool b, .int .u64 x1, .int .u64 x0, .int .i64 s] := by (repeat (first | (with_reducible assumption) | ((with_reducible refine Bk.new_ ?_); (first | rfl | (simp only [World.size_alloc, World.size_setCell, World.size_drew, World.heap_drewN]; done))) | (with_reducible refine Bk.alloc ?_ _) | (with_reducible refine Bk.drew ?_) | (with_reducible refine Bk.drewN ?_ _) | ((with_reducible refine Bk.far ?_ ?_ _); rotate_left; focus (simp only []; omega)) | ((with_reducible refine Bk.below ?_ (by with_reducible assumption) ?_); rotate_left; focus (go_size; done))))
        have jr : Bk w3 (w.heap.size + 1) 26 [.bool false, .int .u64 0, .int .u64 0, .int .i64 0] := by (repeat (first | (with_reducible assumption) | ((with_reducible refine Bk.new_ ?_); (first | rfl | (simp only [World.size_alloc, World.size_setCell, World.size_drew, World.heap_drewN]; done))) | (with_reducible refine Bk.alloc ?_ _) | (with_reducible refine Bk.drew ?_) | (with_reducible refine Bk.drewN ?_ _) | ((with_reducible refine Bk.far ?_ ?_ _); rotate_left; focus (simp only []; omega)) | ((with_reducible refine Bk.below ?_ (by with_reducible assumption) ?_); rotate_left; focus (go_size; done))))
        have c60 := j6.cell 0 rfl
        have c61 := j6.cell 1 rfl
        have jal := ja.lt
        have j6l := j6.lt
        have jrl := jr.lt
        clear hb3c hb3f
        go_wp2_with fail
        refine (hsum.out _).mono ?_
        rintro _ w4 ⟨rfl, hb4⟩; have hb4s := hb4.size; (try simp only [World.size_alloc, World.size_setCell, World.size_drew, World.heap_drewN] at hb4s); obtain ⟨hb4c, hb4f⟩ := bcell hb4; (try have : w.heap.size < w4.heap.size := by omega); (try have : w.heap.size + 1 < w4.heap.size := by omega); (try have : w.heap.size + 1 + 1 < w4.heap.size := by omega); (try have : w.heap.size + 1 + 1 + 1 < w4.heap.size := by omega)
        have la : Bk w4 w.heap.size 26 [.bool b, .int .u64 x1, .int .u64 x0, .int .i64 s] := by (repeat (first | (with_reducible assumption) | ((with_reducible refine Bk.new_ ?_); (first | rfl | (simp only [World.size_alloc, World.size_setCell, World.size_drew, World.heap_drewN]; done))) | (with_reducible refine Bk.alloc ?_ _) | (with_reducible refine Bk.drew ?_) | (with_reducible refine Bk.drewN ?_ _) | ((with_reducible refine Bk.far ?_ ?_ _); rotate_left; focus (simp only []; omega)) | ((with_reducible refine Bk.below ?_ (by with_reducible assumption) ?_); rotate_left; focus (go_size; done))))
        have lr : Bk w4 (w.heap.size + 1) 26 [.bool false, .int .u64 0, .int .u64 0, .int .i64 0] := by (repeat (first | (with_reducible assumption) | ((with_reducible refine Bk.new_ ?_); (first | rfl | (simp only [World.size_alloc, World.size_setCell, World.size_drew, World.heap_drewN]; done))) | (with_reducible refine Bk.alloc ?_ _) | (with_reducible refine Bk.drew ?_) | (with_reducible refine Bk.drewN ?_ _) | ((with_reducible refine Bk.far ?_ ?_ _); rotate_left; focus (simp only []; omega)) | ((with_reducible refine Bk.below ?_ (by with_reducible assumption) ?_); rotate_left; focus (go_size; done))))
        have l8 : Bk w4 w3.heap.size 24 [.int .u64 (wd q 1), .int .u64 (wd q 0)] := by (repeat (first | (with_reducible assumption) | ((with_reducible refine Bk.new_ ?_); (first | rfl | (simp only [World.size_alloc, World.size_setCell, World.size_drew, World.heap_drewN]; done))) | (with_reducible refine Bk.alloc ?_ _) | (with_reducible refine Bk.drew ?_) | (with_reducible refine Bk.drewN ?_ _) | ((with_reducible refine Bk.far ?_ ?_ _); rotate_left; focus (simp only []; omega)) | ((with_reducible refine Bk.below ?_ (by with_reducible assumption) ?_); rotate_left; focus (go_size; done))))
        have c80 := l8.cell 0 rfl
        have c81 := l8.cell 1 rfl
        have f80 := l8.frozen 0
        have f81 := l8.frozen 1
        have l8l := l8.lt
        have la_0 := la.cell 0 rfl
        have la_1 := la.cell 1 rfl
        have la_2 := la.cell 2 rfl
        have la_3 := la.cell 3 rfl
        have la_4 := la.frozen 0
        have la_5 := la.frozen 1
        have la_6 := la.frozen 2
        have la_7 := la.frozen 3
        clear hb4c hb4f c60 c61
        go_wp2_with fail
        refine calls_named (fun W => Bk W (w.heap.size + 1) 26 [.bool false, .int .u64 0, .int .u64 0, .int .i64 0] ∧ Below w.heap.size w W) ⟨?h1, ?h2⟩ ?_
        case h1 => ((repeat (first | (with_reducible assumption) | ((with_reducible refine Bk.new_ ?_); (first | rfl | (simp only [World.size_alloc, World.size_setCell, World.size_drew, World.heap_drewN]; done))) | (with_reducible refine Bk.alloc ?_ _) | (with_reducible refine Bk.drew ?_) | (with_reducible refine Bk.drewN ?_ _) | ((with_reducible refine Bk.far ?_ ?_ _); rotate_left; focus (simp only []; omega)) | ((with_reducible refine Bk.below ?_ (by with_reducible assumption) ?_); rotate_left; focus (go_size; done)))); done)
        case h2 => ((repeat' (first | (with_reducible exact Below.refl _ _) | (with_reducible assumption) | (with_reducible refine Below.drew ?_) | (with_reducible refine below_drewN ?_ _) | ((with_reducible refine Below.alloc ?_ ?_ _); rotate_left; focus (go_size; done)) | ((with_reducible refine Below.setCell ?_ ?_ _); rotate_left; focus (go_size; done)) | ((with_reducible refine Below.trans ?_ (Below.mono (by with_reducible assumption) ?_)); rotate_left; focus (go_size; done)))); done)
        rintro W5 ⟨kr5, kw5⟩
        have kr5l := kr5.lt
        refine (HC.out _).mono ?_
        rintro _ w6 ⟨rfl, hb6⟩; have hb6s := hb6.size; (try simp only [World.size_alloc, World.size_setCell, World.size_drew, World.heap_drewN] at hb6s); obtain ⟨hb6c, hb6f⟩ := bcell hb6; (try have : w.heap.size < w6.heap.size := by omega); (try have : w.heap.size + 1 < w6.heap.size := by omega); (try have : w.heap.size + 1 + 1 < w6.heap.size := by omega); (try have : w.heap.size + 1 + 1 + 1 < w6.heap.size := by omega)
        have m6 : Bk w6 (w.heap.size + 1) 26 [.bool false, .int .u64 0, .int .u64 0, .int .i64 0] := by (repeat (first | (with_reducible assumption) | ((with_reducible refine Bk.new_ ?_); (first | rfl | (simp only [World.size_alloc, World.size_setCell, World.size_drew, World.heap_drewN]; done))) | (with_reducible refine Bk.alloc ?_ _) | (with_reducible refine Bk.drew ?_) | (with_reducible refine Bk.drewN ?_ _) | ((with_reducible refine Bk.far ?_ ?_ _); rotate_left; focus (simp only []; omega)) | ((with_reducible refine Bk.below ?_ (by with_reducible assumption) ?_); rotate_left; focus (go_size; done))))
        have m6_0 := m6.cell 0 rfl
        have m6_1 := m6.cell 1 rfl
        have m6_2 := m6.cell 2 rfl
        have m6_3 := m6.cell 3 rfl
        have m6_4 := m6.frozen 0
        have m6_5 := m6.frozen 1
        have m6_6 := m6.frozen 2
        have m6_7 := m6.frozen 3
        clear hb6c hb6f
        go_wp2_with fail
        refine bodyPost_ret (by simp [results, Try.results72, go_sem, *]; try rfl) rfl ?_
        exact ⟨rfl, by (repeat' (first | (with_reducible exact Below.refl _ _) | (with_reducible assumption) | (with_reducible refine Below.drew ?_) | (with_reducible refine below_drewN ?_ _) | ((with_reducible refine Below.alloc ?_ ?_ _); rotate_left; focus (go_size; done)) | ((with_reducible refine Below.setCell ?_ ?_ _); rotate_left; focus (go_size; done)) | ((with_reducible refine Below.trans ?_ (Below.mono (by with_reducible assumption) ?_)); rotate_left; focus (go_size; done))))⟩
    · have hr0 : r = 0 := by have := HZ.out; exact of_decide_eq_true this.symm
      have e : V = q := HFLAT.out (.inr hr0)
      subst e
      clear HSUM HFLAT HZ
      cases up
      ·
        go_wp2_with fail
        refine (HN.out _).mono ?_
        rintro _ w3 ⟨rfl, hb3⟩; have hb3s := hb3.size; (try simp only [World.size_alloc, World.size_setCell, World.size_drew, World.heap_drewN] at hb3s); obtain ⟨hb3c, hb3f⟩ := bcell hb3; (try have : w.heap.size < w3.heap.size := by omega); (try have : w.heap.size + 1 < w3.heap.size := by omega); (try have : w.heap.size + 1 + 1 < w3.heap.size := by omega); (try have : w.heap.size + 1 + 1 + 1 < w3.heap.size := by omega)
        have j6 : Bk w3 g6 24 [.int .u64 (wd r 1), .int .u64 (wd r 0)] := by (repeat (first | (with_reducible assumption) | ((with_reducible refine Bk.new_ ?_); (first | rfl | (simp only [World.size_alloc, World.size_setCell, World.size_drew, World.heap_drewN]; done))) | (with_reducible refine Bk.alloc ?_ _) | (with_reducible refine Bk.drew ?_) | (with_reducible refine Bk.drewN ?_ _) | ((with_reducible refine Bk.far ?_ ?_ _); rotate_left; focus (simp only []; omega)) | ((with_reducible refine Bk.below ?_ (by with_reducible assumption) ?_); rotate_left; focus (go_size; done))))
        have ja : Bk w3 w.heap.size 26 [.bool b, .int .u64 x1, .int .u64 x0, .int .i64 s] := by (repeat (first | (with_reducible assumption) | ((with_reducible refine Bk.new_ ?_); (first | rfl | (simp only [World.size_alloc, World.size_setCell, World.size_drew, World.heap_drewN]; done))) | (with_reducible refine Bk.alloc ?_ _) | (with_reducible refine Bk.drew ?_) | (with_reducible refine Bk.drewN ?_ _) | ((with_reducible refine Bk.far ?_ ?_ _); rotate_left; focus (simp only []; omega)) | ((with_reducible refine Bk.below ?_ (by with_reducible assumption) ?_); rotate_left; focus (go_size; done))))
        have jr : Bk w3 (w.heap.size + 1) 26 [.bool false, .int .u64 0, .int .u64 0, .int .i64 0] := by (repeat (first | (with_reducible assumption) | ((with_reducible refine Bk.new_ ?_); (first | rfl | (simp only [World.size_alloc, World.size_setCell, World.size_drew, World.heap_drewN]; done))) | (with_reducible refine Bk.alloc ?_ _) | (with_reducible refine Bk.drew ?_) | (with_reducible refine Bk.drewN ?_ _) | ((with_reducible refine Bk.far ?_ ?_ _); rotate_left; focus (simp only []; omega)) | ((with_reducible refine Bk.below ?_ (by with_reducible assumption) ?_); rotate_left; focus (go_size; done))))
        have c60 := j6.cell 0 rfl
        have c61 := j6.cell 1 rfl
        have ja_0 := ja.cell 0 rfl
        have ja_1 := ja.cell 1 rfl
        have ja_2 := ja.cell 2 rfl
        have ja_3 := ja.cell 3 rfl
        have ja_4 := ja.frozen 0
        have ja_5 := ja.frozen 1
        have ja_6 := ja.frozen 2
        have ja_7 := ja.frozen 3
        have jal := ja.lt
        have j6l := j6.lt
        have jrl := jr.lt
        clear hb3c hb3f
        go_wp2_with fail
        refine calls_named (fun W => Bk W (w.heap.size + 1) 26 [.bool false, .int .u64 0, .int .u64 0, .int .i64 0] ∧ Below w.heap.size w W) ⟨?h1, ?h2⟩ ?_
        case h1 => ((repeat (first | (with_reducible assumption) | ((with_reducible refine Bk.new_ ?_); (first | rfl | (simp only [World.size_alloc, World.size_setCell, World.size_drew, World.heap_drewN]; done))) | (with_reducible refine Bk.alloc ?_ _) | (with_reducible refine Bk.drew ?_) | (with_reducible refine Bk.drewN ?_ _) | ((with_reducible refine Bk.far ?_ ?_ _); rotate_left; focus (simp only []; omega)) | ((with_reducible refine Bk.below ?_ (by with_reducible assumption) ?_); rotate_left; focus (go_size; done)))); done)
        case h2 => ((repeat' (first | (with_reducible exact Below.refl _ _) | (with_reducible assumption) | (with_reducible refine Below.drew ?_) | (with_reducible refine below_drewN ?_ _) | ((with_reducible refine Below.alloc ?_ ?_ _); rotate_left; focus (go_size; done)) | ((with_reducible refine Below.setCell ?_ ?_ _); rotate_left; focus (go_size; done)) | ((with_reducible refine Below.trans ?_ (Below.mono (by with_reducible assumption) ?_)); rotate_left; focus (go_size; done)))); done)
        rintro W5 ⟨kr5, kw5⟩
        have kr5l := kr5.lt
        refine (HC.out _).mono ?_
        rintro _ w6 ⟨rfl, hb6⟩; have hb6s := hb6.size; (try simp only [World.size_alloc, World.size_setCell, World.size_drew, World.heap_drewN] at hb6s); obtain ⟨hb6c, hb6f⟩ := bcell hb6; (try have : w.heap.size < w6.heap.size := by omega); (try have : w.heap.size + 1 < w6.heap.size := by omega); (try have : w.heap.size + 1 + 1 < w6.heap.size := by omega); (try have : w.heap.size + 1 + 1 + 1 < w6.heap.size := by omega)
        have m6 : Bk w6 (w.heap.size + 1) 26 [.bool false, .int .u64 0, .int .u64 0, .int .i64 0] := by (repeat (first | (with_reducible assumption) | ((with_reducible refine Bk.new_ ?_); (first | rfl | (simp only [World.size_alloc, World.size_setCell, World.size_drew, World.heap_drewN]; done))) | (with_reducible refine Bk.alloc ?_ _) | (with_reducible refine Bk.drew ?_) | (with_reducible refine Bk.drewN ?_ _) | ((with_reducible refine Bk.far ?_ ?_ _); rotate_left; focus (simp only []; omega)) | ((with_reducible refine Bk.below ?_ (by with_reducible assumption) ?_); rotate_left; focus (go_size; done))))
        have m6_0 := m6.cell 0 rfl
        have m6_1 := m6.cell 1 rfl
        have m6_2 := m6.cell 2 rfl
        have m6_3 := m6.cell 3 rfl
        have m6_4 := m6.frozen 0
        have m6_5 := m6.frozen 1
        have m6_6 := m6.frozen 2
        have m6_7 := m6.frozen 3
        clear hb6c hb6f
        go_wp2_with fail
        refine bodyPost_ret (by simp [results, Try.results72, go_sem, *]; try rfl) rfl ?_
        exact ⟨rfl, by (repeat' (first | (with_reducible exact Below.refl _ _) | (with_reducible assumption) | (with_reducible refine Below.drew ?_) | (with_reducible refine below_drewN ?_ _) | ((with_reducible refine Below.alloc ?_ ?_ _); rotate_left; focus (go_size; done)) | ((with_reducible refine Below.setCell ?_ ?_ _); rotate_left; focus (go_size; done)) | ((with_reducible refine Below.trans ?_ (Below.mono (by with_reducible assumption) ?_)); rotate_left; focus (go_size; done))))⟩
      ·
        go_wp2_with fail
        refine (HN.out _).mono ?_
        rintro _ w3 ⟨rfl, hb3⟩; have hb3s := hb3.size; (try simp only [World.size_alloc, World.size_setCell, World.size_drew, World.heap_drewN] at hb3s); obtain ⟨hb3c, hb3f⟩ := bcell hb3; (try have : w.heap.size < w3.heap.size := by omega); (try have : w.heap.size + 1 < w3.heap.size := by omega); (try have : w.heap.size + 1 + 1 < w3.heap.size := by omega); (try have : w.heap.size + 1 + 1 + 1 < w3.heap.size := by omega)
        have j6 : Bk w3 g6 24 [.int .u64 (wd r 1), .int .u64 (wd r 0)] := by (repeat (first | (with_reducible assumption) | ((with_reducible refine Bk.new_ ?_); (first | rfl | (simp only [World.size_alloc, World.size_setCell, World.size_drew, World.heap_drewN]; done))) | (with_reducible refine Bk.alloc ?_ _) | (with_reducible refine Bk.drew ?_) | (with_reducible refine Bk.drewN ?_ _) | ((with_reducible refine Bk.far ?_ ?_ _); rotate_left; focus (simp only []; omega)) | ((with_reducible refine Bk.below ?_ (by with_reducible assumption) ?_); rotate_left; focus (go_size; done))))
        have ja : Bk w3 w.heap.size 26 [.bool b, .int .u64 x1, .int .u64 x0, .int .i64 s] := by (repeat (first | (with_reducible assumption) | ((with_reducible refine Bk.new_ ?_); (first | rfl | (simp only [World.size_alloc, World.size_setCell, World.size_drew, World.heap_drewN]; done))) | (with_reducible refine Bk.alloc ?_ _) | (with_reducible refine Bk.drew ?_) | (with_reducible refine Bk.drewN ?_ _) | ((with_reducible refine Bk.far ?_ ?_ _); rotate_left; focus (simp only []; omega)) | ((with_reducible refine Bk.below ?_ (by with_reducible assumption) ?_); rotate_left; focus (go_size; done))))
        have jr : Bk w3 (w.heap.size + 1) 26 [.bool false, .int .u64 0, .int .u64 0, .int .i64 0] := by (repeat (first | (with_reducible assumption) | ((with_reducible refine Bk.new_ ?_); (first | rfl | (simp only [World.size_alloc, World.size_setCell, World.size_drew, World.heap_drewN]; done))) | (with_reducible refine Bk.alloc ?_ _) | (with_reducible refine Bk.drew ?_) | (with_reducible refine Bk.drewN ?_ _) | ((with_reducible refine Bk.far ?_ ?_ _); rotate_left; focus (simp only []; omega)) | ((with_reducible refine Bk.below ?_ (by with_reducible assumption) ?_); rotate_left; focus (go_size; done))))
        have c60 := j6.cell 0 rfl
        have c61 := j6.cell 1 rfl
        have ja_0 := ja.cell 0 rfl
        have ja_1 := ja.cell 1 rfl
        have ja_2 := ja.cell 2 rfl
        have ja_3 := ja.cell 3 rfl
        have ja_4 := ja.frozen 0
        have ja_5 := ja.frozen 1
        have ja_6 := ja.frozen 2
        have ja_7 := ja.frozen 3
        have jal := ja.lt
        have j6l := j6.lt
        have jrl := jr.lt
        clear hb3c hb3f
        go_wp2_with fail
        refine calls_named (fun W => Bk W (w.heap.size + 1) 26 [.bool false, .int .u64 0, .int .u64 0, .int .i64 0] ∧ Below w.heap.size w W) ⟨?h1, ?h2⟩ ?_
        case h1 => ((repeat (first | (with_reducible assumption) | ((with_reducible refine Bk.new_ ?_); (first | rfl | (simp only [World.size_alloc, World.size_setCell, World.size_drew, World.heap_drewN]; done))) | (with_reducible refine Bk.alloc ?_ _) | (with_reducible refine Bk.drew ?_) | (with_reducible refine Bk.drewN ?_ _) | ((with_reducible refine Bk.far ?_ ?_ _); rotate_left; focus (simp only []; omega)) | ((with_reducible refine Bk.below ?_ (by with_reducible assumption) ?_); rotate_left; focus (go_size; done)))); done)
        case h2 => ((repeat' (first | (with_reducible exact Below.refl _ _) | (with_reducible assumption) | (with_reducible refine Below.drew ?_) | (with_reducible refine below_drewN ?_ _) | ((with_reducible refine Below.alloc ?_ ?_ _); rotate_left; focus (go_size; done)) | ((with_reducible refine Below.setCell ?_ ?_ _); rotate_left; focus (go_size; done)) | ((with_reducible refine Below.trans ?_ (Below.mono (by with_reducible assumption) ?_)); rotate_left; focus (go_size; done)))); done)
        rintro W5 ⟨kr5, kw5⟩
        have kr5l := kr5.lt
        refine (HC.out _).mono ?_
        rintro _ w6 ⟨rfl, hb6⟩; have hb6s := hb6.size; (try simp only [World.size_alloc, World.size_setCell, World.size_drew, World.heap_drewN] at hb6s); obtain ⟨hb6c, hb6f⟩ := bcell hb6; (try have : w.heap.size < w6.heap.size := by omega); (try have : w.heap.size + 1 < w6.heap.size := by omega); (try have : w.heap.size + 1 + 1 < w6.heap.size := by omega); (try have : w.heap.size + 1 + 1 + 1 < w6.heap.size := by omega)
        have m6 : Bk w6 (w.heap.size + 1) 26 [.bool false, .int .u64 0, .int .u64 0, .int .i64 0] := by (repeat (first | (with_reducible assumption) | ((with_reducible refine Bk.new_ ?_); (first | rfl | (simp only [World.size_alloc, World.size_setCell, World.size_drew, World.heap_drewN]; done))) | (with_reducible refine Bk.alloc ?_ _) | (with_reducible refine Bk.drew ?_) | (with_reducible refine Bk.drewN ?_ _) | ((with_reducible refine Bk.far ?_ ?_ _); rotate_left; focus (simp only []; omega)) | ((with_reducible refine Bk.below ?_ (by with_reducible assumption) ?_); rotate_left; focus (go_size; done))))
        have m6_0 := m6.cell 0 rfl
        have m6_1 := m6.cell 1 rfl
        have m6_2 := m6.cell 2 rfl
        have m6_3 := m6.cell 3 rfl
        have m6_4 := m6.frozen 0
        have m6_5 := m6.frozen 1
        have m6_6 := m6.frozen 2
        have m6_7 := m6.frozen 3
        clear hb6c hb6f
        go_wp2_with fail
        refine bodyPost_ret (by simp [results, Try.results72, go_sem, *]; try rfl) rfl ?_
        exact ⟨rfl, by (repeat' (first | (with_reducible exact Below.refl _ _) | (with_reducible assumption) | (with_reducible refine Below.drew ?_) | (with_reducible refine below_drewN ?_ _) | ((with_reducible refine Below.alloc ?_ ?_ _); rotate_left; focus (go_size; done)) | ((with_reducible refine Below.setCell ?_ ?_ _); rotate_left; focus (go_size; done)) | ((with_reducible refine Below.trans ?_ (Below.mono (by with_reducible assumption) ?_)); rotate_left; focus (go_size; done))))⟩
end Go.Proofs.Ythkgjodidkpaeaa

set_option linter.unusedSimpArgs false
set_option linter.unusedVariables false
namespace Go.Proofs.Ythkgjodidkpaeaa
open Go.RowKit

/-- the digit that tells what is left -/
def stick (r D : Nat) : Nat := if r = 0 then 0 else if 2 * r < D then 1 else if 2 * r = D then 5 else 6
theorem stick_le (r D : Nat) : stick r D ≤ 9 := by unfold stick; split <;> (try split) <;> (try split) <;> omega
theorem near_eq {a b c d q : Nat} (h1 : a / b = q) (h2 : c / d = q) (hlt : 2 * (a % b) > b ↔ 2 * (c % d) > d) (heq : 2 * (a % b) = b ↔ 2 * (c % d) = d) : near a b = near c d := by
  unfold near
  rw [h1, h2]
  simp only [hlt, heq]
theorem near_stick (q r D j : Nat) (hr : r < D) : near (D * q + r) (D * 10 ^ j) = near (10 * q + stick r D) (10 ^ (j + 1)) := by
  have hD : 0 < D := by omega
  have hs := stick_le r D
  have e1 : (D * q + r) / D = q := by rw [Nat.add_comm, Nat.add_mul_div_left _ _ hD, Nat.div_eq_of_lt hr, Nat.zero_add]
  have e2 : (10 * q + stick r D) / 10 = q := by omega
  have m1 : (D * q + r) % (D * 10 ^ j) = D * (q % 10 ^ j) + r := by
    rw [Nat.mod_mul, e1, Nat.add_comm (D * q), Nat.add_mul_mod_self_left, Nat.mod_eq_of_lt hr]; omega
  have m2 : (10 * q + stick r D) % (10 * 10 ^ j) = 10 * (q % 10 ^ j) + stick r D := by
    rw [Nat.mod_mul, e2]; omega
  rw [Nat.pow_succ, Nat.mul_comm (10 ^ j) 10]
  refine near_eq (q := q / 10 ^ j) ?_ ?_ ?_ ?_
  · rw [← Nat.div_div_eq_div_mul, e1]
  · rw [← Nat.div_div_eq_div_mul, e2]
  all_goals
    rw [m1, m2]
    rcases Nat.eq_zero_or_pos j with hj | hj
    · subst hj
      rw [Nat.pow_zero, Nat.mod_one, Nat.mul_one]
      unfold stick
      (repeat' split) <;> omega
    · obtain ⟨h, hh⟩ : ∃ h, 10 ^ j = 2 * h := ⟨10 ^ j / 2, by
        obtain ⟨k, rfl⟩ : ∃ k, j = k + 1 := ⟨j - 1, by omega⟩
        rw [Nat.pow_succ]; omega⟩
      have hm : q % 10 ^ j < 10 ^ j := Nat.mod_lt _ (Nat.pow_pos (by decide))
      rw [hh] at hm ⊢
      generalize q % (2 * h) = m at *
      have hz : stick r D = 0 ↔ r = 0 := by unfold stick; (repeat' split) <;> omega
      generalize stick r D = t at *
      rcases Nat.lt_trichotomy m h with hl | he | hg
      · have k1 : D * m + D ≤ D * h := by rw [← Nat.mul_succ]; exact Nat.mul_le_mul_left _ hl
        have k2 : D * (2 * h) = 2 * (D * h) := Nat.mul_left_comm _ _ _
        rw [k2]
        generalize D * m = X at *
        generalize D * h = Y at *
        omega
      · subst he
        have k2 : D * (2 * m) = 2 * (D * m) := Nat.mul_left_comm _ _ _
        rw [k2]
        generalize D * m = X at *
        omega
      · have k1 : D * h + D ≤ D * m := by rw [← Nat.mul_succ]; exact Nat.mul_le_mul_left _ hg
        have k2 : D * (2 * h) = 2 * (D * h) := Nat.mul_left_comm _ _ _
        rw [k2]
        generalize D * m = X at *
        generalize D * h = Y at *
        omega
theorem fitK_stick (q r D k : Nat) (hr : r < D) (hk : k ≤ 19) : fitK (D * q + r) (D * 10 ^ 18) k = fitK (10 * q + stick r D) (10 ^ 19) k := by
  induction k with
  | zero => rfl
  | succ s ih =>
    have e1 : near ((D * q + r) * 10 ^ s) (D * 10 ^ 18) = near ((10 * q + stick r D) * 10 ^ s) (10 ^ 19) := by
      have a1 : D * 10 ^ 18 = D * 10 ^ (18 - s) * 10 ^ s := by rw [Nat.mul_assoc, ← Nat.pow_add]; congr 2; omega
      have a2 : (10 : Nat) ^ 19 = 10 ^ (18 - s + 1) * 10 ^ s := by rw [← Nat.pow_add]; congr 1; omega
      have hp : 0 < 10 ^ s := Nat.pow_pos (by decide)
      rw [a1, a2, near_scale _ _ _ hp, near_scale _ _ _ hp]
      exact near_stick q r D (18 - s) hr
    by_cases h : near ((D * q + r) * 10 ^ s) (D * 10 ^ 18) < B34
    · rw [fitK_yes h, fitK_yes (by rw [← e1]; exact h), e1]
    · rw [fitK_no h, fitK_no (by rw [← e1]; exact h)]
      exact ih (by omega)
/-- the document's quotient by the program's road -/
theorem div_fit (c s c' s' : Nat) (hs : s ≤ 18) (hs' : s' ≤ 18) (h0 : c' ≠ 0) :
    FitC (unit c s) (unit c' s') = FitC (10 * (c * 10 ^ (18 + s' - s) / c') + stick (c * 10 ^ (18 + s' - s) % c') c') (10 ^ 19) ∧
    FitS (unit c s) (unit c' s') = FitS (10 * (c * 10 ^ (18 + s' - s) / c') + stick (c * 10 ^ (18 + s' - s) % c') c') (10 ^ 19) ∧
    FitE (unit c s) (unit c' s') = FitE (10 * (c * 10 ^ (18 + s' - s) / c') + stick (c * 10 ^ (18 + s' - s) % c') c') (10 ^ 19) := by
  have e1 : unit c s * 10 ^ s' = c * 10 ^ (18 + s' - s) := by
    unfold unit; rw [Nat.mul_assoc, ← Nat.pow_add]; congr 2; omega
  have e2 : unit c' s' * 10 ^ s' = c' * 10 ^ 18 := by
    unfold unit; rw [Nat.mul_assoc, ← Nat.pow_add]; congr 2; omega
  obtain ⟨f1, f2, f3⟩ := fit_scale (unit c s) (unit c' s') (10 ^ s') (Nat.pow_pos (by decide))
  rw [e1, e2] at f1 f2 f3
  rw [← f1, ← f2, ← f3]
  generalize c * 10 ^ (18 + s' - s) = N
  have hr : N % c' < c' := Nat.mod_lt _ (Nat.pos_of_ne_zero h0)
  have k := fitK_stick (N / c') (N % c') c' 19 hr (Nat.le_refl _)
  rw [Nat.div_add_mod] at k
  unfold FitC FitS FitE
  have k1 : fitK N (c' * 10 ^ 18) (K19 N) = fitK (10 * (N / c') + stick (N % c') c') (10 ^ 19) (K19 (10 * (N / c') + stick (N % c') c')) := by
    rw [K19_eq, K19_eq]; exact k
  rw [k1]
  exact ⟨rfl, rfl, rfl⟩
/-- the rest, in other units -/
def restN (b : Bool) (x : Nat) (b' : Bool) (y : Nat) : Nat := if x % y ≠ 0 ∧ b ≠ b' then y - x % y else x % y
theorem restN_scale (b b' : Bool) (x y k : Nat) (hk : 0 < k) : restN b (x * k) b' (y * k) = restN b x b' y * k := by
  unfold restN
  rw [Nat.mul_mod_mul_right]
  have e : x % y * k ≠ 0 ↔ x % y ≠ 0 := by
    rw [Ne, Ne, Nat.mul_eq_zero]
    constructor
    · intro h h1; exact h (.inl h1)
    · rintro h (h1 | h1)
      · exact h h1
      · omega
  simp only [e]
  split
  · rw [Nat.sub_mul]
  · rfl
end Go.Proofs.Ythkgjodidkpaeaa

set_option linter.unusedSimpArgs false
set_option linter.unusedVariables false
namespace Go.Proofs.Ythkgjodidkpaeaa
open Go.RowKit

set_option maxHeartbeats 2000000 in
theorem floor_bad (b : Bool) (c : Nat) (s : Int) (hc : c < 2 ^ 128) (h : dform b c s = false) (w : World) : Calls Try.prog 35 #[.agg #[.bool b, .int .u64 (wd (c) 1), .int .u64 (wd (c) 0), .int .i64 s]] w fun e w' => e = .returned (.tuple #[.agg #[.bool false, .int .u64 0, .int .u64 0, .int .i64 0], .int .i64 2]) ∧ Below w.heap.size w w' := by
  have HF := Lib.hid (fun g W hg => formed_one b c s hc g W hg)
  rw [h] at HF
  simp only [ferr, if_pos, if_neg, Bool.false_eq_true, if_true, if_false] at HF
  generalize wd c 0 = x0 at *
  generalize wd c 1 = x1 at *
  clear hc h
  go_enter Try.func35, Try.ntmps35
  go_wp2_with fail
  (with_reducible refine (HF.out _ _ ?hg).mono ?_)
  case hg => ((repeat (first | (with_reducible assumption) | ((with_reducible refine Bk.new_ ?_); (first | rfl | (simp only [World.size_alloc, World.size_setCell, World.size_drew, World.heap_drewN]; done))) | (with_reducible refine Bk.alloc ?_ _) | (with_reducible refine Bk.drew ?_) | (with_reducible refine Bk.drewN ?_ _) | ((with_reducible refine Bk.far ?_ ?_ _); rotate_left; focus (simp only []; omega)) | ((with_reducible refine Bk.below ?_ (by with_reducible assumption) ?_); rotate_left; focus (go_size; done)))); done)
  rintro _ w1 ⟨rfl, hb1⟩; have hb1s := hb1.size; (try simp only [World.size_alloc, World.size_setCell, World.size_drew, World.heap_drewN] at hb1s); obtain ⟨hb1c, hb1f⟩ := bcell hb1; (try have : w.heap.size < w1.heap.size := by omega); (try have : w.heap.size + 1 < w1.heap.size := by omega); (try have : w.heap.size + 1 + 1 < w1.heap.size := by omega); (try have : w.heap.size + 1 + 1 + 1 < w1.heap.size := by omega)
  have k : Bk w1 (w.heap.size) 26 [.bool b, .int .u64 x1, .int .u64 x0, .int .i64 s] := by (repeat (first | (with_reducible assumption) | ((with_reducible refine Bk.new_ ?_); (first | rfl | (simp only [World.size_alloc, World.size_setCell, World.size_drew, World.heap_drewN]; done))) | (with_reducible refine Bk.alloc ?_ _) | (with_reducible refine Bk.drew ?_) | (with_reducible refine Bk.drewN ?_ _) | ((with_reducible refine Bk.far ?_ ?_ _); rotate_left; focus (simp only []; omega)) | ((with_reducible refine Bk.below ?_ (by with_reducible assumption) ?_); rotate_left; focus (go_size; done))))
  have k_0 := k.cell 0 rfl
  have k_1 := k.cell 1 rfl
  have k_2 := k.cell 2 rfl
  have k_3 := k.cell 3 rfl
  have k_4 := k.frozen 0
  have k_5 := k.frozen 1
  have k_6 := k.frozen 2
  have k_7 := k.frozen 3
  have kl := k.lt
  have r0 : Bk w1 (w.heap.size + 1) 26 [.bool false, .int .u64 0, .int .u64 0, .int .i64 0] := by (repeat (first | (with_reducible assumption) | ((with_reducible refine Bk.new_ ?_); (first | rfl | (simp only [World.size_alloc, World.size_setCell, World.size_drew, World.heap_drewN]; done))) | (with_reducible refine Bk.alloc ?_ _) | (with_reducible refine Bk.drew ?_) | (with_reducible refine Bk.drewN ?_ _) | ((with_reducible refine Bk.far ?_ ?_ _); rotate_left; focus (simp only []; omega)) | ((with_reducible refine Bk.below ?_ (by with_reducible assumption) ?_); rotate_left; focus (go_size; done))))
  have r0_0 := r0.cell 0 rfl
  have r0_1 := r0.cell 1 rfl
  have r0_2 := r0.cell 2 rfl
  have r0_3 := r0.cell 3 rfl
  have r0_4 := r0.frozen 0
  have r0_5 := r0.frozen 1
  have r0_6 := r0.frozen 2
  have r0_7 := r0.frozen 3
  have r0l := r0.lt
  clear hb1c hb1f k r0
  go_wp2_with fail
  refine bodyPost_ret (by simp [results, Try.results35, go_sem, *]; try rfl) rfl ?_
  exact ⟨rfl, by (repeat' (first | (with_reducible exact Below.refl _ _) | (with_reducible assumption) | (with_reducible refine Below.drew ?_) | (with_reducible refine below_drewN ?_ _) | ((with_reducible refine Below.alloc ?_ ?_ _); rotate_left; focus (go_size; done)) | ((with_reducible refine Below.setCell ?_ ?_ _); rotate_left; focus (go_size; done)) | ((with_reducible refine Below.trans ?_ (Below.mono (by with_reducible assumption) ?_)); rotate_left; focus (go_size; done))))⟩
set_option maxHeartbeats 2000000 in
theorem ceil_bad (b : Bool) (c : Nat) (s : Int) (hc : c < 2 ^ 128) (h : dform b c s = false) (w : World) : Calls Try.prog 37 #[.agg #[.bool b, .int .u64 (wd (c) 1), .int .u64 (wd (c) 0), .int .i64 s]] w fun e w' => e = .returned (.tuple #[.agg #[.bool false, .int .u64 0, .int .u64 0, .int .i64 0], .int .i64 2]) ∧ Below w.heap.size w w' := by
  have HF := Lib.hid (fun g W hg => formed_one b c s hc g W hg)
  rw [h] at HF
  simp only [ferr, if_pos, if_neg, Bool.false_eq_true, if_true, if_false] at HF
  generalize wd c 0 = x0 at *
  generalize wd c 1 = x1 at *
  clear hc h
  go_enter Try.func37, Try.ntmps37
  go_wp2_with fail
  (with_reducible refine (HF.out _ _ ?hg).mono ?_)
  case hg => ((repeat (first | (with_reducible assumption) | ((with_reducible refine Bk.new_ ?_); (first | rfl | (simp only [World.size_alloc, World.size_setCell, World.size_drew, World.heap_drewN]; done))) | (with_reducible refine Bk.alloc ?_ _) | (with_reducible refine Bk.drew ?_) | (with_reducible refine Bk.drewN ?_ _) | ((with_reducible refine Bk.far ?_ ?_ _); rotate_left; focus (simp only []; omega)) | ((with_reducible refine Bk.below ?_ (by with_reducible assumption) ?_); rotate_left; focus (go_size; done)))); done)
  rintro _ w1 ⟨rfl, hb1⟩; have hb1s := hb1.size; (try simp only [World.size_alloc, World.size_setCell, World.size_drew, World.heap_drewN] at hb1s); obtain ⟨hb1c, hb1f⟩ := bcell hb1; (try have : w.heap.size < w1.heap.size := by omega); (try have : w.heap.size + 1 < w1.heap.size := by omega); (try have : w.heap.size + 1 + 1 < w1.heap.size := by omega); (try have : w.heap.size + 1 + 1 + 1 < w1.heap.size := by omega)
  have k : Bk w1 (w.heap.size) 26 [.bool b, .int .u64 x1, .int .u64 x0, .int .i64 s] := by (repeat (first | (with_reducible assumption) | ((with_reducible refine Bk.new_ ?_); (first | rfl | (simp only [World.size_alloc, World.size_setCell, World.size_drew, World.heap_drewN]; done))) | (with_reducible refine Bk.alloc ?_ _) | (with_reducible refine Bk.drew ?_) | (with_reducible refine Bk.drewN ?_ _) | ((with_reducible refine Bk.far ?_ ?_ _); rotate_left; focus (simp only []; omega)) | ((with_reducible refine Bk.below ?_ (by with_reducible assumption) ?_); rotate_left; focus (go_size; done))))
  have k_0 := k.cell 0 rfl
  have k_1 := k.cell 1 rfl
  have k_2 := k.cell 2 rfl
  have k_3 := k.cell 3 rfl
  have k_4 := k.frozen 0
  have k_5 := k.frozen 1
  have k_6 := k.frozen 2
  have k_7 := k.frozen 3
  have kl := k.lt
  have r0 : Bk w1 (w.heap.size + 1) 26 [.bool false, .int .u64 0, .int .u64 0, .int .i64 0] := by (repeat (first | (with_reducible assumption) | ((with_reducible refine Bk.new_ ?_); (first | rfl | (simp only [World.size_alloc, World.size_setCell, World.size_drew, World.heap_drewN]; done))) | (with_reducible refine Bk.alloc ?_ _) | (with_reducible refine Bk.drew ?_) | (with_reducible refine Bk.drewN ?_ _) | ((with_reducible refine Bk.far ?_ ?_ _); rotate_left; focus (simp only []; omega)) | ((with_reducible refine Bk.below ?_ (by with_reducible assumption) ?_); rotate_left; focus (go_size; done))))
  have r0_0 := r0.cell 0 rfl
  have r0_1 := r0.cell 1 rfl
  have r0_2 := r0.cell 2 rfl
  have r0_3 := r0.cell 3 rfl
  have r0_4 := r0.frozen 0
  have r0_5 := r0.frozen 1
  have r0_6 := r0.frozen 2
  have r0_7 := r0.frozen 3
  have r0l := r0.lt
  clear hb1c hb1f k r0
  go_wp2_with fail
  refine bodyPost_ret (by simp [results, Try.results37, go_sem, *]; try rfl) rfl ?_
  exact ⟨rfl, by (repeat' (first | (with_reducible exact Below.refl _ _) | (with_reducible assumption) | (with_reducible refine Below.drew ?_) | (with_reducible refine below_drewN ?_ _) | ((with_reducible refine Below.alloc ?_ ?_ _); rotate_left; focus (go_size; done)) | ((with_reducible refine Below.setCell ?_ ?_ _); rotate_left; focus (go_size; done)) | ((with_reducible refine Below.trans ?_ (Below.mono (by with_reducible assumption) ?_)); rotate_left; focus (go_size; done))))⟩
set_option maxHeartbeats 2000000 in
theorem floor_ok (b : Bool) (c s : Nat) (hc : c < B34) (hs : s ≤ 18) (h : dform b c s = true) (w : World) : Calls Try.prog 35 #[.agg #[.bool b, .int .u64 (wd (c) 1), .int .u64 (wd (c) 0), .int .i64 s]] w fun e w' => e = .returned (.tuple #[.agg #[.bool (sg b (wholeV c s b)), .int .u64 (wd ((wholeV c s b)) 1), .int .u64 (wd ((wholeV c s b)) 0), .int .i64 0], .int .i64 0]) ∧ Below w.heap.size w w' := by
  have HF := Lib.hid (fun g W hg => formed_one b c s (Nat.lt_trans hc B34_lt) g W hg)
  have HW := Lib.hid (fun W => whole_any b c s b hc hs W)
  generalize wholeV c s b = V at *
  generalize sg b V = sb at *
  rw [h] at HF
  simp only [ferr, if_pos, if_neg, Bool.false_eq_true, if_true, if_false] at HF
  generalize wd V 0 = V0 at *
  generalize wd V 1 = V1 at *
  generalize wd c 0 = x0 at *
  generalize wd c 1 = x1 at *
  clear hc h
  go_enter Try.func35, Try.ntmps35
  go_wp2_with fail
  (with_reducible refine (HF.out _ _ ?hg).mono ?_)
  case hg => ((repeat (first | (with_reducible assumption) | ((with_reducible refine Bk.new_ ?_); (first | rfl | (simp only [World.size_alloc, World.size_setCell, World.size_drew, World.heap_drewN]; done))) | (with_reducible refine Bk.alloc ?_ _) | (with_reducible refine Bk.drew ?_) | (with_reducible refine Bk.drewN ?_ _) | ((with_reducible refine Bk.far ?_ ?_ _); rotate_left; focus (simp only []; omega)) | ((with_reducible refine Bk.below ?_ (by with_reducible assumption) ?_); rotate_left; focus (go_size; done)))); done)
  rintro _ w1 ⟨rfl, hb1⟩; have hb1s := hb1.size; (try simp only [World.size_alloc, World.size_setCell, World.size_drew, World.heap_drewN] at hb1s); obtain ⟨hb1c, hb1f⟩ := bcell hb1; (try have : w.heap.size < w1.heap.size := by omega); (try have : w.heap.size + 1 < w1.heap.size := by omega); (try have : w.heap.size + 1 + 1 < w1.heap.size := by omega); (try have : w.heap.size + 1 + 1 + 1 < w1.heap.size := by omega)
  have k : Bk w1 (w.heap.size) 26 [.bool b, .int .u64 x1, .int .u64 x0, .int .i64 (s : Int)] := by (repeat (first | (with_reducible assumption) | ((with_reducible refine Bk.new_ ?_); (first | rfl | (simp only [World.size_alloc, World.size_setCell, World.size_drew, World.heap_drewN]; done))) | (with_reducible refine Bk.alloc ?_ _) | (with_reducible refine Bk.drew ?_) | (with_reducible refine Bk.drewN ?_ _) | ((with_reducible refine Bk.far ?_ ?_ _); rotate_left; focus (simp only []; omega)) | ((with_reducible refine Bk.below ?_ (by with_reducible assumption) ?_); rotate_left; focus (go_size; done))))
  have k_0 := k.cell 0 rfl
  have k_1 := k.cell 1 rfl
  have k_2 := k.cell 2 rfl
  have k_3 := k.cell 3 rfl
  have k_4 := k.frozen 0
  have k_5 := k.frozen 1
  have k_6 := k.frozen 2
  have k_7 := k.frozen 3
  have kl := k.lt
  have r0 : Bk w1 (w.heap.size + 1) 26 [.bool false, .int .u64 0, .int .u64 0, .int .i64 0] := by (repeat (first | (with_reducible assumption) | ((with_reducible refine Bk.new_ ?_); (first | rfl | (simp only [World.size_alloc, World.size_setCell, World.size_drew, World.heap_drewN]; done))) | (with_reducible refine Bk.alloc ?_ _) | (with_reducible refine Bk.drew ?_) | (with_reducible refine Bk.drewN ?_ _) | ((with_reducible refine Bk.far ?_ ?_ _); rotate_left; focus (simp only []; omega)) | ((with_reducible refine Bk.below ?_ (by with_reducible assumption) ?_); rotate_left; focus (go_size; done))))
  have r0_0 := r0.cell 0 rfl
  have r0_1 := r0.cell 1 rfl
  have r0_2 := r0.cell 2 rfl
  have r0_3 := r0.cell 3 rfl
  have r0_4 := r0.frozen 0
  have r0_5 := r0.frozen 1
  have r0_6 := r0.frozen 2
  have r0_7 := r0.frozen 3
  have r0l := r0.lt
  clear hb1c hb1f
  go_wp2_with fail
  refine (HW.out _).mono ?_
  rintro _ w2 ⟨rfl, hb2⟩; have hb2s := hb2.size; (try simp only [World.size_alloc, World.size_setCell, World.size_drew, World.heap_drewN] at hb2s); obtain ⟨hb2c, hb2f⟩ := bcell hb2; (try have : w.heap.size < w2.heap.size := by omega); (try have : w.heap.size + 1 < w2.heap.size := by omega); (try have : w.heap.size + 1 + 1 < w2.heap.size := by omega); (try have : w.heap.size + 1 + 1 + 1 < w2.heap.size := by omega)
  have q0 : Bk w2 (w.heap.size + 1) 26 [.bool false, .int .u64 0, .int .u64 0, .int .i64 0] := by (repeat (first | (with_reducible assumption) | ((with_reducible refine Bk.new_ ?_); (first | rfl | (simp only [World.size_alloc, World.size_setCell, World.size_drew, World.heap_drewN]; done))) | (with_reducible refine Bk.alloc ?_ _) | (with_reducible refine Bk.drew ?_) | (with_reducible refine Bk.drewN ?_ _) | ((with_reducible refine Bk.far ?_ ?_ _); rotate_left; focus (simp only []; omega)) | ((with_reducible refine Bk.below ?_ (by with_reducible assumption) ?_); rotate_left; focus (go_size; done))))
  have q0_0 := q0.cell 0 rfl
  have q0_1 := q0.cell 1 rfl
  have q0_2 := q0.cell 2 rfl
  have q0_3 := q0.cell 3 rfl
  have q0_4 := q0.frozen 0
  have q0_5 := q0.frozen 1
  have q0_6 := q0.frozen 2
  have q0_7 := q0.frozen 3
  have q0l := q0.lt
  clear hb2c hb2f
  go_wp2_with fail
  refine bodyPost_ret (by simp [results, Try.results35, go_sem, *]; try rfl) rfl ?_
  exact ⟨rfl, by (repeat' (first | (with_reducible exact Below.refl _ _) | (with_reducible assumption) | (with_reducible refine Below.drew ?_) | (with_reducible refine below_drewN ?_ _) | ((with_reducible refine Below.alloc ?_ ?_ _); rotate_left; focus (go_size; done)) | ((with_reducible refine Below.setCell ?_ ?_ _); rotate_left; focus (go_size; done)) | ((with_reducible refine Below.trans ?_ (Below.mono (by with_reducible assumption) ?_)); rotate_left; focus (go_size; done))))⟩
set_option maxHeartbeats 2000000 in
theorem ceil_ok (b : Bool) (c s : Nat) (hc : c < B34) (hs : s ≤ 18) (h : dform b c s = true) (w : World) : Calls Try.prog 37 #[.agg #[.bool b, .int .u64 (wd (c) 1), .int .u64 (wd (c) 0), .int .i64 s]] w fun e w' => e = .returned (.tuple #[.agg #[.bool (sg b (wholeV c s (!b))), .int .u64 (wd ((wholeV c s (!b))) 1), .int .u64 (wd ((wholeV c s (!b))) 0), .int .i64 0], .int .i64 0]) ∧ Below w.heap.size w w' := by
  have HF := Lib.hid (fun g W hg => formed_one b c s (Nat.lt_trans hc B34_lt) g W hg)
  have HW := Lib.hid (fun W => whole_any b c s (!b) hc hs W)
  generalize wholeV c s (!b) = V at *
  generalize sg b V = sb at *
  rw [h] at HF
  simp only [ferr, if_pos, if_neg, Bool.false_eq_true, if_true, if_false] at HF
  generalize wd V 0 = V0 at *
  generalize wd V 1 = V1 at *
  generalize wd c 0 = x0 at *
  generalize wd c 1 = x1 at *
  clear hc h
  go_enter Try.func37, Try.ntmps37
  go_wp2_with fail
  (with_reducible refine (HF.out _ _ ?hg).mono ?_)
  case hg => ((repeat (first | (with_reducible assumption) | ((with_reducible refine Bk.new_ ?_); (first | rfl | (simp only [World.size_alloc, World.size_setCell, World.size_drew, World.heap_drewN]; done))) | (with_reducible refine Bk.alloc ?_ _) | (with_reducible refine Bk.drew ?_) | (with_reducible refine Bk.drewN ?_ _) | ((with_reducible refine Bk.far ?_ ?_ _); rotate_left; focus (simp only []; omega)) | ((with_reducible refine Bk.below ?_ (by with_reducible assumption) ?_); rotate_left; focus (go_size; done)))); done)
  rintro _ w1 ⟨rfl, hb1⟩; have hb1s := hb1.size; (try simp only [World.size_alloc, World.size_setCell, World.size_drew, World.heap_drewN] at hb1s); obtain ⟨hb1c, hb1f⟩ := bcell hb1; (try have : w.heap.size < w1.heap.size := by omega); (try have : w.heap.size + 1 < w1.heap.size := by omega); (try have : w.heap.size + 1 + 1 < w1.heap.size := by omega); (try have : w.heap.size + 1 + 1 + 1 < w1.heap.size := by omega)
  have k : Bk w1 (w.heap.size) 26 [.bool b, .int .u64 x1, .int .u64 x0, .int .i64 (s : Int)] := by (repeat (first | (with_reducible assumption) | ((with_reducible refine Bk.new_ ?_); (first | rfl | (simp only [World.size_alloc, World.size_setCell, World.size_drew, World.heap_drewN]; done))) | (with_reducible refine Bk.alloc ?_ _) | (with_reducible refine Bk.drew ?_) | (with_reducible refine Bk.drewN ?_ _) | ((with_reducible refine Bk.far ?_ ?_ _); rotate_left; focus (simp only []; omega)) | ((with_reducible refine Bk.below ?_ (by with_reducible assumption) ?_); rotate_left; focus (go_size; done))))
  have k_0 := k.cell 0 rfl
  have k_1 := k.cell 1 rfl
  have k_2 := k.cell 2 rfl
  have k_3 := k.cell 3 rfl
  have k_4 := k.frozen 0
  have k_5 := k.frozen 1
  have k_6 := k.frozen 2
  have k_7 := k.frozen 3
  have kl := k.lt
  have r0 : Bk w1 (w.heap.size + 1) 26 [.bool false, .int .u64 0, .int .u64 0, .int .i64 0] := by (repeat (first | (with_reducible assumption) | ((with_reducible refine Bk.new_ ?_); (first | rfl | (simp only [World.size_alloc, World.size_setCell, World.size_drew, World.heap_drewN]; done))) | (with_reducible refine Bk.alloc ?_ _) | (with_reducible refine Bk.drew ?_) | (with_reducible refine Bk.drewN ?_ _) | ((with_reducible refine Bk.far ?_ ?_ _); rotate_left; focus (simp only []; omega)) | ((with_reducible refine Bk.below ?_ (by with_reducible assumption) ?_); rotate_left; focus (go_size; done))))
  have r0_0 := r0.cell 0 rfl
  have r0_1 := r0.cell 1 rfl
  have r0_2 := r0.cell 2 rfl
  have r0_3 := r0.cell 3 rfl
  have r0_4 := r0.frozen 0
  have r0_5 := r0.frozen 1
  have r0_6 := r0.frozen 2
  have r0_7 := r0.frozen 3
  have r0l := r0.lt
  clear hb1c hb1f
  go_wp2_with fail
  refine (HW.out _).mono ?_
  rintro _ w2 ⟨rfl, hb2⟩; have hb2s := hb2.size; (try simp only [World.size_alloc, World.size_setCell, World.size_drew, World.heap_drewN] at hb2s); obtain ⟨hb2c, hb2f⟩ := bcell hb2; (try have : w.heap.size < w2.heap.size := by omega); (try have : w.heap.size + 1 < w2.heap.size := by omega); (try have : w.heap.size + 1 + 1 < w2.heap.size := by omega); (try have : w.heap.size + 1 + 1 + 1 < w2.heap.size := by omega)
  have q0 : Bk w2 (w.heap.size + 1) 26 [.bool false, .int .u64 0, .int .u64 0, .int .i64 0] := by (repeat (first | (with_reducible assumption) | ((with_reducible refine Bk.new_ ?_); (first | rfl | (simp only [World.size_alloc, World.size_setCell, World.size_drew, World.heap_drewN]; done))) | (with_reducible refine Bk.alloc ?_ _) | (with_reducible refine Bk.drew ?_) | (with_reducible refine Bk.drewN ?_ _) | ((with_reducible refine Bk.far ?_ ?_ _); rotate_left; focus (simp only []; omega)) | ((with_reducible refine Bk.below ?_ (by with_reducible assumption) ?_); rotate_left; focus (go_size; done))))
  have q0_0 := q0.cell 0 rfl
  have q0_1 := q0.cell 1 rfl
  have q0_2 := q0.cell 2 rfl
  have q0_3 := q0.cell 3 rfl
  have q0_4 := q0.frozen 0
  have q0_5 := q0.frozen 1
  have q0_6 := q0.frozen 2
  have q0_7 := q0.frozen 3
  have q0l := q0.lt
  clear hb2c hb2f
  go_wp2_with fail
  refine bodyPost_ret (by simp [results, Try.results37, go_sem, *]; try rfl) rfl ?_
  exact ⟨rfl, by (repeat' (first | (with_reducible exact Below.refl _ _) | (with_reducible assumption) | (with_reducible refine Below.drew ?_) | (with_reducible refine below_drewN ?_ _) | ((with_reducible refine Below.alloc ?_ ?_ _); rotate_left; focus (go_size; done)) | ((with_reducible refine Below.setCell ?_ ?_ _); rotate_left; focus (go_size; done)) | ((with_reducible refine Below.trans ?_ (Below.mono (by with_reducible assumption) ?_)); rotate_left; focus (go_size; done))))⟩
/-- rounded to n digits -/
def rdC (c s n : Nat) : Nat := if s ≤ n then c else stripC (near c (10 ^ (s - n))) n
def rdS (c s n : Nat) : Nat := if s ≤ n then s else stripS (near c (10 ^ (s - n))) n
theorem near_tenth {c k : Nat} (hk : 0 < k) (h : c < B34) : near c (10 ^ k) < B34 := by
  have h1 : c / 10 ^ k ≤ c / 10 := by
    refine Nat.div_le_div_left ?_ (by decide)
    calc (10 : Nat) = 10 ^ 1 := rfl
      _ ≤ 10 ^ k := Nat.pow_le_pow_right (by decide) hk
  have h2 : 100 ≤ B34 := by unfold B34; decide
  unfold near
  split <;> omega
set_option maxHeartbeats 2000000 in
theorem round2_arg (b : Bool) (c : Nat) (s n : Int) (hn : n < 0 ∨ 18 < n) (w : World) : Calls Try.prog 39 #[.agg #[.bool b, .int .u64 (wd (c) 1), .int .u64 (wd (c) 0), .int .i64 s], .int .i64 n] w fun e w' => e = .returned (.tuple #[.agg #[.bool false, .int .u64 0, .int .u64 0, .int .i64 0], .int .i64 1]) ∧ Below w.heap.size w w' := by
  generalize wd c 0 = x0 at *
  generalize wd c 1 = x1 at *
  rcases hn with hn | hn
  · go_enter Try.func39, Try.ntmps39
    go_wp2_with fail
    refine bodyPost_ret (by simp [results, Try.results39, go_sem, *]; try rfl) rfl ?_
    exact ⟨rfl, by (repeat' (first | (with_reducible exact Below.refl _ _) | (with_reducible assumption) | (with_reducible refine Below.drew ?_) | (with_reducible refine below_drewN ?_ _) | ((with_reducible refine Below.alloc ?_ ?_ _); rotate_left; focus (go_size; done)) | ((with_reducible refine Below.setCell ?_ ?_ _); rotate_left; focus (go_size; done)) | ((with_reducible refine Below.trans ?_ (Below.mono (by with_reducible assumption) ?_)); rotate_left; focus (go_size; done))))⟩
  · have h0 : ¬ n < 0 := by omega
    go_enter Try.func39, Try.ntmps39
    go_wp2_with fail
    refine bodyPost_ret (by simp [results, Try.results39, go_sem, *]; try rfl) rfl ?_
    exact ⟨rfl, by (repeat' (first | (with_reducible exact Below.refl _ _) | (with_reducible assumption) | (with_reducible refine Below.drew ?_) | (with_reducible refine below_drewN ?_ _) | ((with_reducible refine Below.alloc ?_ ?_ _); rotate_left; focus (go_size; done)) | ((with_reducible refine Below.setCell ?_ ?_ _); rotate_left; focus (go_size; done)) | ((with_reducible refine Below.trans ?_ (Below.mono (by with_reducible assumption) ?_)); rotate_left; focus (go_size; done))))⟩
set_option maxHeartbeats 2000000 in
theorem round2_bad (b : Bool) (c : Nat) (s n : Int) (hc : c < 2 ^ 128) (hn0 : 0 ≤ n) (hn1 : n ≤ 18) (h : dform b c s = false) (w : World) : Calls Try.prog 39 #[.agg #[.bool b, .int .u64 (wd (c) 1), .int .u64 (wd (c) 0), .int .i64 s], .int .i64 n] w fun e w' => e = .returned (.tuple #[.agg #[.bool false, .int .u64 0, .int .u64 0, .int .i64 0], .int .i64 2]) ∧ Below w.heap.size w w' := by
  have HF := Lib.hid (fun g W hg => formed_one b c s hc g W hg)
  have g0 : ¬ n < 0 := by omega
  have g1 : ¬ 18 < n := by omega
  rw [h] at HF
  simp only [ferr, if_pos, if_neg, Bool.false_eq_true, if_true, if_false] at HF
  generalize wd c 0 = x0 at *
  generalize wd c 1 = x1 at *
  clear hc h
  go_enter Try.func39, Try.ntmps39
  go_wp2_with fail
  (with_reducible refine (HF.out _ _ ?hg).mono ?_)
  case hg => ((repeat (first | (with_reducible assumption) | ((with_reducible refine Bk.new_ ?_); (first | rfl | (simp only [World.size_alloc, World.size_setCell, World.size_drew, World.heap_drewN]; done))) | (with_reducible refine Bk.alloc ?_ _) | (with_reducible refine Bk.drew ?_) | (with_reducible refine Bk.drewN ?_ _) | ((with_reducible refine Bk.far ?_ ?_ _); rotate_left; focus (simp only []; omega)) | ((with_reducible refine Bk.below ?_ (by with_reducible assumption) ?_); rotate_left; focus (go_size; done)))); done)
  rintro _ w1 ⟨rfl, hb1⟩; have hb1s := hb1.size; (try simp only [World.size_alloc, World.size_setCell, World.size_drew, World.heap_drewN] at hb1s); obtain ⟨hb1c, hb1f⟩ := bcell hb1; (try have : w.heap.size < w1.heap.size := by omega); (try have : w.heap.size + 1 < w1.heap.size := by omega); (try have : w.heap.size + 1 + 1 < w1.heap.size := by omega); (try have : w.heap.size + 1 + 1 + 1 < w1.heap.size := by omega)
  have k : Bk w1 (w.heap.size) 26 [.bool b, .int .u64 x1, .int .u64 x0, .int .i64 s] := by (repeat (first | (with_reducible assumption) | ((with_reducible refine Bk.new_ ?_); (first | rfl | (simp only [World.size_alloc, World.size_setCell, World.size_drew, World.heap_drewN]; done))) | (with_reducible refine Bk.alloc ?_ _) | (with_reducible refine Bk.drew ?_) | (with_reducible refine Bk.drewN ?_ _) | ((with_reducible refine Bk.far ?_ ?_ _); rotate_left; focus (simp only []; omega)) | ((with_reducible refine Bk.below ?_ (by with_reducible assumption) ?_); rotate_left; focus (go_size; done))))
  have k_0 := k.cell 0 rfl
  have k_1 := k.cell 1 rfl
  have k_2 := k.cell 2 rfl
  have k_3 := k.cell 3 rfl
  have k_4 := k.frozen 0
  have k_5 := k.frozen 1
  have k_6 := k.frozen 2
  have k_7 := k.frozen 3
  have kl := k.lt
  have r0 : Bk w1 (w.heap.size + 1) 26 [.bool false, .int .u64 0, .int .u64 0, .int .i64 0] := by (repeat (first | (with_reducible assumption) | ((with_reducible refine Bk.new_ ?_); (first | rfl | (simp only [World.size_alloc, World.size_setCell, World.size_drew, World.heap_drewN]; done))) | (with_reducible refine Bk.alloc ?_ _) | (with_reducible refine Bk.drew ?_) | (with_reducible refine Bk.drewN ?_ _) | ((with_reducible refine Bk.far ?_ ?_ _); rotate_left; focus (simp only []; omega)) | ((with_reducible refine Bk.below ?_ (by with_reducible assumption) ?_); rotate_left; focus (go_size; done))))
  have r0_0 := r0.cell 0 rfl
  have r0_1 := r0.cell 1 rfl
  have r0_2 := r0.cell 2 rfl
  have r0_3 := r0.cell 3 rfl
  have r0_4 := r0.frozen 0
  have r0_5 := r0.frozen 1
  have r0_6 := r0.frozen 2
  have r0_7 := r0.frozen 3
  have r0l := r0.lt
  clear hb1c hb1f k r0
  go_wp2_with fail
  refine bodyPost_ret (by simp [results, Try.results39, go_sem, *]; try rfl) rfl ?_
  exact ⟨rfl, by (repeat' (first | (with_reducible exact Below.refl _ _) | (with_reducible assumption) | (with_reducible refine Below.drew ?_) | (with_reducible refine below_drewN ?_ _) | ((with_reducible refine Below.alloc ?_ ?_ _); rotate_left; focus (go_size; done)) | ((with_reducible refine Below.setCell ?_ ?_ _); rotate_left; focus (go_size; done)) | ((with_reducible refine Below.trans ?_ (Below.mono (by with_reducible assumption) ?_)); rotate_left; focus (go_size; done))))⟩
set_option maxRecDepth 100000 in
set_option maxHeartbeats 4000000 in
theorem round2_ok (b : Bool) (c s n : Nat) (hc : c < B34) (hs : s ≤ 18) (hn : n ≤ 18) (h : dform b c s = true) (w : World) : Calls Try.prog 39 #[.agg #[.bool b, .int .u64 (wd (c) 1), .int .u64 (wd (c) 0), .int .i64 s], .int .i64 n] w fun e w' => e = .returned (.tuple #[.agg #[.bool (sg b (rdC c s n)), .int .u64 (wd ((rdC c s n)) 1), .int .u64 (wd ((rdC c s n)) 0), .int .i64 (rdS c s n)], .int .i64 0]) ∧ Below w.heap.size w w' := by
  have hc2 : c < 2 ^ 128 := Nat.lt_trans hc B34_lt
  have HF := Lib.hid (fun g W hg => formed_one b c s hc2 g W hg)
  have hsg : sg b c = b := by
    obtain ⟨t, _, _, _, h3, _⟩ := (dform_iff _ _ _).1 h
    by_cases h0 : c = 0
    · rw [h0, sg_zero, (h3 h0).1]
    · exact sg_pos h0
  rw [h] at HF
  simp only [ferr, if_pos, if_neg, Bool.false_eq_true, if_true, if_false] at HF
  have n0 : (0 : Int) ≤ (n : Int) := by omega
  have n1 : (n : Int) ≤ 18 := by omega
  by_cases hsn : s ≤ n
  · have e1 : rdC c s n = c := by unfold rdC; rw [if_pos hsn]
    have e2 : rdS c s n = s := by unfold rdS; rw [if_pos hsn]
    rw [e1, e2, hsg]
    have g1 : (s : Int) ≤ (n : Int) := by omega
    generalize wd c 0 = x0 at *
    generalize wd c 1 = x1 at *
    clear hc hc2 h e1 e2 hsg
    go_enter Try.func39, Try.ntmps39
    go_wp2_with fail
    (with_reducible refine (HF.out _ _ ?hg).mono ?_)
    case hg => ((repeat (first | (with_reducible assumption) | ((with_reducible refine Bk.new_ ?_); (first | rfl | (simp only [World.size_alloc, World.size_setCell, World.size_drew, World.heap_drewN]; done))) | (with_reducible refine Bk.alloc ?_ _) | (with_reducible refine Bk.drew ?_) | (with_reducible refine Bk.drewN ?_ _) | ((with_reducible refine Bk.far ?_ ?_ _); rotate_left; focus (simp only []; omega)) | ((with_reducible refine Bk.below ?_ (by with_reducible assumption) ?_); rotate_left; focus (go_size; done)))); done)
    rintro _ w1 ⟨rfl, hb1⟩; have hb1s := hb1.size; (try simp only [World.size_alloc, World.size_setCell, World.size_drew, World.heap_drewN] at hb1s); obtain ⟨hb1c, hb1f⟩ := bcell hb1; (try have : w.heap.size < w1.heap.size := by omega); (try have : w.heap.size + 1 < w1.heap.size := by omega); (try have : w.heap.size + 1 + 1 < w1.heap.size := by omega); (try have : w.heap.size + 1 + 1 + 1 < w1.heap.size := by omega)
    have k : Bk w1 (w.heap.size) 26 [.bool b, .int .u64 x1, .int .u64 x0, .int .i64 (s : Int)] := by (repeat (first | (with_reducible assumption) | ((with_reducible refine Bk.new_ ?_); (first | rfl | (simp only [World.size_alloc, World.size_setCell, World.size_drew, World.heap_drewN]; done))) | (with_reducible refine Bk.alloc ?_ _) | (with_reducible refine Bk.drew ?_) | (with_reducible refine Bk.drewN ?_ _) | ((with_reducible refine Bk.far ?_ ?_ _); rotate_left; focus (simp only []; omega)) | ((with_reducible refine Bk.below ?_ (by with_reducible assumption) ?_); rotate_left; focus (go_size; done))))
    have k_0 := k.cell 0 rfl
    have k_1 := k.cell 1 rfl
    have k_2 := k.cell 2 rfl
    have k_3 := k.cell 3 rfl
    have k_4 := k.frozen 0
    have k_5 := k.frozen 1
    have k_6 := k.frozen 2
    have k_7 := k.frozen 3
    have kl := k.lt
    have r0 : Bk w1 (w.heap.size + 1) 26 [.bool false, .int .u64 0, .int .u64 0, .int .i64 0] := by (repeat (first | (with_reducible assumption) | ((with_reducible refine Bk.new_ ?_); (first | rfl | (simp only [World.size_alloc, World.size_setCell, World.size_drew, World.heap_drewN]; done))) | (with_reducible refine Bk.alloc ?_ _) | (with_reducible refine Bk.drew ?_) | (with_reducible refine Bk.drewN ?_ _) | ((with_reducible refine Bk.far ?_ ?_ _); rotate_left; focus (simp only []; omega)) | ((with_reducible refine Bk.below ?_ (by with_reducible assumption) ?_); rotate_left; focus (go_size; done))))
    have r0_0 := r0.cell 0 rfl
    have r0_1 := r0.cell 1 rfl
    have r0_2 := r0.cell 2 rfl
    have r0_3 := r0.cell 3 rfl
    have r0_4 := r0.frozen 0
    have r0_5 := r0.frozen 1
    have r0_6 := r0.frozen 2
    have r0_7 := r0.frozen 3
    have r0l := r0.lt
    clear hb1c hb1f k r0
    go_wp2_with fail
    refine bodyPost_ret (by simp [results, Try.results39, go_sem, *]; try rfl) rfl ?_
    exact ⟨rfl, by (repeat' (first | (with_reducible exact Below.refl _ _) | (with_reducible assumption) | (with_reducible refine Below.drew ?_) | (with_reducible refine below_drewN ?_ _) | ((with_reducible refine Below.alloc ?_ ?_ _); rotate_left; focus (go_size; done)) | ((with_reducible refine Below.setCell ?_ ?_ _); rotate_left; focus (go_size; done)) | ((with_reducible refine Below.trans ?_ (Below.mono (by with_reducible assumption) ?_)); rotate_left; focus (go_size; done))))⟩
  · have e1 : rdC c s n = stripC (near c (10 ^ (s - n))) n := by unfold rdC; rw [if_neg hsn]
    have e2 : rdS c s n = stripS (near c (10 ^ (s - n))) n := by unfold rdS; rw [if_neg hsn]
    rw [e1, e2]
    have g1 : ¬ (s : Int) ≤ (n : Int) := by omega
    have gw : IntKind.i64.wrap ((s : Int) - (n : Int)) = (s : Int) - (n : Int) := IntWalk.i64_in _ (by omega)
    have hq : near c (10 ^ (s - n)) < B34 := near_tenth (by omega) hc
    have hq2 : near c (10 ^ (s - n)) < 2 ^ 128 := Nat.lt_trans hq B34_lt
    have HL := Lib.hid (fun W => long_any c hc2 W)
    have HR : Hid (∀ W, Calls Try.prog 74 #[.agg #[.int .u64 (wd c 0), .int .u64 (wd c 1), .int .u64 (wd c 2), .int .u64 (wd c 3)], .int .i64 ((s : Int) - (n : Int))] W fun e w' => e = .returned (.tuple #[.agg #[.int .u64 (wd (near c (10 ^ (s - n))) 1), .int .u64 (wd (near c (10 ^ (s - n))) 0)], .int .i64 0]) ∧ Below W.heap.size W w') := Lib.hid (fun W => by
      have := round_any c (Nat.lt_trans hc2 (by decide)) (s - n) (by omega) W
      rw [fit_id hq2, over_id hq2] at this
      rwa [show (s : Int) - (n : Int) = ((s - n : Nat) : Int) by omega])
    have HC := Lib.hid (fun W => canon_any b (near c (10 ^ (s - n))) n hq (by omega) W)
    generalize near c (10 ^ (s - n)) = q at *
    generalize stripC q n = C at *
    generalize stripS q n = S at *
    generalize sg b C = sb at *
    generalize wd c 0 = x0 at *
    generalize wd c 1 = x1 at *
    generalize wd c 2 = x2 at *
    generalize wd c 3 = x3 at *
    generalize wd q 0 = q0 at *
    generalize wd q 1 = q1 at *
    clear hc hc2 h e1 e2 hsg hq hq2 hsn
    go_enter Try.func39, Try.ntmps39
    go_wp2_with fail
    (with_reducible refine (HF.out _ _ ?hg).mono ?_)
    case hg => ((repeat (first | (with_reducible assumption) | ((with_reducible refine Bk.new_ ?_); (first | rfl | (simp only [World.size_alloc, World.size_setCell, World.size_drew, World.heap_drewN]; done))) | (with_reducible refine Bk.alloc ?_ _) | (with_reducible refine Bk.drew ?_) | (with_reducible refine Bk.drewN ?_ _) | ((with_reducible refine Bk.far ?_ ?_ _); rotate_left; focus (simp only []; omega)) | ((with_reducible refine Bk.below ?_ (by with_reducible assumption) ?_); rotate_left; focus (go_size; done)))); done)
    rintro _ w1 ⟨rfl, hb1⟩; have hb1s := hb1.size; (try simp only [World.size_alloc, World.size_setCell, World.size_drew, World.heap_drewN] at hb1s); obtain ⟨hb1c, hb1f⟩ := bcell hb1; (try have : w.heap.size < w1.heap.size := by omega); (try have : w.heap.size + 1 < w1.heap.size := by omega); (try have : w.heap.size + 1 + 1 < w1.heap.size := by omega); (try have : w.heap.size + 1 + 1 + 1 < w1.heap.size := by omega)
    have k : Bk w1 (w.heap.size) 26 [.bool b, .int .u64 x1, .int .u64 x0, .int .i64 (s : Int)] := by (repeat (first | (with_reducible assumption) | ((with_reducible refine Bk.new_ ?_); (first | rfl | (simp only [World.size_alloc, World.size_setCell, World.size_drew, World.heap_drewN]; done))) | (with_reducible refine Bk.alloc ?_ _) | (with_reducible refine Bk.drew ?_) | (with_reducible refine Bk.drewN ?_ _) | ((with_reducible refine Bk.far ?_ ?_ _); rotate_left; focus (simp only []; omega)) | ((with_reducible refine Bk.below ?_ (by with_reducible assumption) ?_); rotate_left; focus (go_size; done))))
    have k_0 := k.cell 0 rfl
    have k_1 := k.cell 1 rfl
    have k_2 := k.cell 2 rfl
    have k_3 := k.cell 3 rfl
    have k_4 := k.frozen 0
    have k_5 := k.frozen 1
    have k_6 := k.frozen 2
    have k_7 := k.frozen 3
    have kl := k.lt
    have r0 : Bk w1 (w.heap.size + 1) 26 [.bool false, .int .u64 0, .int .u64 0, .int .i64 0] := by (repeat (first | (with_reducible assumption) | ((with_reducible refine Bk.new_ ?_); (first | rfl | (simp only [World.size_alloc, World.size_setCell, World.size_drew, World.heap_drewN]; done))) | (with_reducible refine Bk.alloc ?_ _) | (with_reducible refine Bk.drew ?_) | (with_reducible refine Bk.drewN ?_ _) | ((with_reducible refine Bk.far ?_ ?_ _); rotate_left; focus (simp only []; omega)) | ((with_reducible refine Bk.below ?_ (by with_reducible assumption) ?_); rotate_left; focus (go_size; done))))
    have r0_0 := r0.cell 0 rfl
    have r0_1 := r0.cell 1 rfl
    have r0_2 := r0.cell 2 rfl
    have r0_3 := r0.cell 3 rfl
    have r0_4 := r0.frozen 0
    have r0_5 := r0.frozen 1
    have r0_6 := r0.frozen 2
    have r0_7 := r0.frozen 3
    have r0l := r0.lt
    clear hb1c hb1f
    go_upto_region 8 with fail
    go_cut [7, 8] (fun s7 s8 wx => ∃ g7 : Nat, s7 = .pointer (some ⟨g7, 0, none⟩) ∧ s8 = .int .i64 0 ∧ Bk wx g7 24 [.int .u64 q1, .int .u64 q0] ∧ Bk wx w.heap.size 26 [.bool b, .int .u64 x1, .int .u64 x0, .int .i64 s] ∧ Bk wx (w.heap.size + 1) 26 [.bool false, .int .u64 0, .int .u64 0, .int .i64 0] ∧ Below w.heap.size w wx)
    case first =>
      go_region_held3 (fun w' => (w'.cell? ⟨w.heap.size, 0, none⟩ = some (.bool b) ∧ w'.cell? ⟨w.heap.size, 1, none⟩ = some (.int .u64 x1) ∧ w'.cell? ⟨w.heap.size, 2, none⟩ = some (.int .u64 x0) ∧ w'.cell? ⟨w.heap.size, 3, none⟩ = some (.int .i64 ((s : Int))))) (first | (first | (go_keep; done) | (simp [go_sem]; done) | ((try dsimp only); (repeat' apply And.intro) <;> (first | (with_reducible assumption) | ((rw [World.cell?_alloc_lt _ _ _ (by show _ < _; omega)]); go_split_ands; (first | with_reducible assumption | (refine (World.cell?_alloc_lt _ _ _ (by show _ < _; omega)).symm.trans ?_; with_reducible assumption))) | ((rw [World.cell?_setCell_other _ _ _ _ (by intro e; injection e; omega)]); with_reducible assumption) | (go_keep; done) | (simp [go_sem]; done) | (simp (disch := go_size) [*, World.cell?_alloc_some, World.cell?_setCell_far]; done)))) | ((refine ⟨Bk.cell (t := 26) (cs := [.bool b, .int .u64 x1, .int .u64 x0, .int .i64 ((s : Int))]) ?_ 0 rfl, Bk.cell (t := 26) (cs := [.bool b, .int .u64 x1, .int .u64 x0, .int .i64 ((s : Int))]) ?_ 1 rfl, Bk.cell (t := 26) (cs := [.bool b, .int .u64 x1, .int .u64 x0, .int .i64 ((s : Int))]) ?_ 2 rfl, Bk.cell (t := 26) (cs := [.bool b, .int .u64 x1, .int .u64 x0, .int .i64 ((s : Int))]) ?_ 3 rfl⟩) <;> ((repeat (first | (with_reducible assumption) | ((with_reducible refine Bk.new_ ?_); (first | rfl | (simp only [World.size_alloc, World.size_setCell, World.size_drew, World.heap_drewN]; done))) | (with_reducible refine Bk.alloc ?_ _) | (with_reducible refine Bk.drew ?_) | (with_reducible refine Bk.drewN ?_ _) | ((with_reducible refine Bk.far ?_ ?_ _); rotate_left; focus (simp only []; omega)) | ((with_reducible refine Bk.below ?_ (by with_reducible assumption) ?_); rotate_left; focus (go_size; done)))); done))) (first | (go_at_call 62; (with_reducible refine (HL.out _).mono ?_); rintro _ w2 ⟨rfl, hb2⟩; have hb2s := hb2.size; (try simp only [World.size_alloc, World.size_setCell, World.size_drew, World.heap_drewN] at hb2s); obtain ⟨hb2c, hb2f⟩ := bcell hb2; (try have : w.heap.size < w2.heap.size := by omega); (try have : w.heap.size + 1 < w2.heap.size := by omega); (try have : w.heap.size + 1 + 1 < w2.heap.size := by omega); (try have : w.heap.size + 1 + 1 + 1 < w2.heap.size := by omega); (try have : w1.heap.size < w2.heap.size := by omega); (try have : w1.heap.size + 1 < w2.heap.size := by omega); (try have : w1.heap.size + 1 + 1 < w2.heap.size := by omega); (try have : w1.heap.size + 1 + 1 + 1 < w2.heap.size := by omega)) | (go_at_call 74; (with_reducible refine (HR.out _).mono ?_); rintro _ w3 ⟨rfl, hb3⟩; have hb3s := hb3.size; (try simp only [World.size_alloc, World.size_setCell, World.size_drew, World.heap_drewN] at hb3s); obtain ⟨hb3c, hb3f⟩ := bcell hb3; (try have : w.heap.size < w3.heap.size := by omega); (try have : w.heap.size + 1 < w3.heap.size := by omega); (try have : w.heap.size + 1 + 1 < w3.heap.size := by omega); (try have : w.heap.size + 1 + 1 + 1 < w3.heap.size := by omega); (try have : w1.heap.size < w3.heap.size := by omega); (try have : w1.heap.size + 1 < w3.heap.size := by omega); (try have : w1.heap.size + 1 + 1 < w3.heap.size := by omega); (try have : w1.heap.size + 1 + 1 + 1 < w3.heap.size := by omega); (try have : w2.heap.size < w3.heap.size := by omega); (try have : w2.heap.size + 1 < w3.heap.size := by omega); (try have : w2.heap.size + 1 + 1 < w3.heap.size := by omega); (try have : w2.heap.size + 1 + 1 + 1 < w3.heap.size := by omega)))
      all_goals
        go_wp2_with fail
        go_meet
        exact ⟨_, rfl, rfl, by first | ((repeat (first | (with_reducible assumption) | ((with_reducible refine Bk.new_ ?_); (first | rfl | (simp only [World.size_alloc, World.size_setCell, World.size_drew, World.heap_drewN]; done))) | (with_reducible refine Bk.alloc ?_ _) | (with_reducible refine Bk.drew ?_) | (with_reducible refine Bk.drewN ?_ _) | ((with_reducible refine Bk.far ?_ ?_ _); rotate_left; focus (simp only []; omega)) | ((with_reducible refine Bk.below ?_ (by with_reducible assumption) ?_); rotate_left; focus (go_size; done)))); done) | ((repeat (first | (with_reducible refine Bk.alloc ?_ _) | (with_reducible refine Bk.drew ?_) | ((with_reducible refine Bk.far ?_ ?_ _); rotate_left; focus (simp only []; omega)))); (refine ((?_ : Bk _ _ _ [.int .u64 0, .int .u64 0]).set_ 0 _).set_ 1 _); (repeat (first | (with_reducible assumption) | ((with_reducible refine Bk.new_ ?_); (first | rfl | (simp only [World.size_alloc, World.size_setCell, World.size_drew, World.heap_drewN]; done))) | (with_reducible refine Bk.alloc ?_ _) | (with_reducible refine Bk.drew ?_) | (with_reducible refine Bk.drewN ?_ _) | ((with_reducible refine Bk.far ?_ ?_ _); rotate_left; focus (simp only []; omega)) | ((with_reducible refine Bk.below ?_ (by with_reducible assumption) ?_); rotate_left; focus (go_size; done))))), by (repeat (first | (with_reducible assumption) | ((with_reducible refine Bk.new_ ?_); (first | rfl | (simp only [World.size_alloc, World.size_setCell, World.size_drew, World.heap_drewN]; done))) | (with_reducible refine Bk.alloc ?_ _) | (with_reducible refine Bk.drew ?_) | (with_reducible refine Bk.drewN ?_ _) | ((with_reducible refine Bk.far ?_ ?_ _); rotate_left; focus (simp only []; omega)) | ((with_reducible refine Bk.below ?_ (by with_reducible assumption) ?_); rotate_left; focus (go_size; done)))), by (repeat (first | (with_reducible assumption) | ((with_reducible refine Bk.new_ ?_); (first | rfl | (simp only [World.size_alloc, World.size_setCell, World.size_drew, World.heap_drewN]; done))) | (with_reducible refine Bk.alloc ?_ _) | (with_reducible refine Bk.drew ?_) | (with_reducible refine Bk.drewN ?_ _) | ((with_reducible refine Bk.far ?_ ?_ _); rotate_left; focus (simp only []; omega)) | ((with_reducible refine Bk.below ?_ (by with_reducible assumption) ?_); rotate_left; focus (go_size; done)))), by (repeat' (first | (with_reducible exact Below.refl _ _) | (with_reducible assumption) | (with_reducible refine Below.drew ?_) | (with_reducible refine below_drewN ?_ _) | ((with_reducible refine Below.alloc ?_ ?_ _); rotate_left; focus (go_size; done)) | ((with_reducible refine Below.setCell ?_ ?_ _); rotate_left; focus (go_size; done)) | ((with_reducible refine Below.trans ?_ (Below.mono (by with_reducible assumption) ?_)); rotate_left; focus (go_size; done))))⟩
    case rest =>
      obtain ⟨g7, rfl, rfl, k7, ka, kr, kw⟩ := hcut
      have c70 := k7.cell 0 rfl
      have c71 := k7.cell 1 rfl
      have k7l := k7.lt
      have kal := ka.lt
      have krl := kr.lt
      have ka_0 := ka.cell 0 rfl
      have ka_1 := ka.cell 1 rfl
      have ka_2 := ka.cell 2 rfl
      have ka_3 := ka.cell 3 rfl
      have ka_4 := ka.frozen 0
      have ka_5 := ka.frozen 1
      have ka_6 := ka.frozen 2
      have ka_7 := ka.frozen 3
      clear hb1 k k_0 k_1 k_2 k_3 k_4 k_5 k_6 k_7 r0 r0_0 r0_1 r0_2 r0_3 r0_4 r0_5 r0_6 r0_7
      go_wp2_with fail
      refine (HC.out _).mono ?_
      rintro _ w5 ⟨rfl, hb5⟩; have hb5s := hb5.size; (try simp only [World.size_alloc, World.size_setCell, World.size_drew, World.heap_drewN] at hb5s); obtain ⟨hb5c, hb5f⟩ := bcell hb5; (try have : w.heap.size < w5.heap.size := by omega); (try have : w.heap.size + 1 < w5.heap.size := by omega); (try have : w.heap.size + 1 + 1 < w5.heap.size := by omega); (try have : w.heap.size + 1 + 1 + 1 < w5.heap.size := by omega)
      have jr : Bk w5 (w.heap.size + 1) 26 [.bool false, .int .u64 0, .int .u64 0, .int .i64 0] := by (repeat (first | (with_reducible assumption) | ((with_reducible refine Bk.new_ ?_); (first | rfl | (simp only [World.size_alloc, World.size_setCell, World.size_drew, World.heap_drewN]; done))) | (with_reducible refine Bk.alloc ?_ _) | (with_reducible refine Bk.drew ?_) | (with_reducible refine Bk.drewN ?_ _) | ((with_reducible refine Bk.far ?_ ?_ _); rotate_left; focus (simp only []; omega)) | ((with_reducible refine Bk.below ?_ (by with_reducible assumption) ?_); rotate_left; focus (go_size; done))))
      have jr_0 := jr.cell 0 rfl
      have jr_1 := jr.cell 1 rfl
      have jr_2 := jr.cell 2 rfl
      have jr_3 := jr.cell 3 rfl
      have jr_4 := jr.frozen 0
      have jr_5 := jr.frozen 1
      have jr_6 := jr.frozen 2
      have jr_7 := jr.frozen 3
      clear hb5c hb5f
      go_wp2_with fail
      refine bodyPost_ret (by simp [results, Try.results39, go_sem, *]; try rfl) rfl ?_
      exact ⟨rfl, by (repeat' (first | (with_reducible exact Below.refl _ _) | (with_reducible assumption) | (with_reducible refine Below.drew ?_) | (with_reducible refine below_drewN ?_ _) | ((with_reducible refine Below.alloc ?_ ?_ _); rotate_left; focus (go_size; done)) | ((with_reducible refine Below.setCell ?_ ?_ _); rotate_left; focus (go_size; done)) | ((with_reducible refine Below.trans ?_ (Below.mono (by with_reducible assumption) ?_)); rotate_left; focus (go_size; done))))⟩
end Go.Proofs.Ythkgjodidkpaeaa

set_option linter.unusedSimpArgs false
set_option linter.unusedVariables false
namespace Go.Proofs.Ythkgjodidkpaeaa
open Go.RowKit

theorem unit_parts {c s : Nat} (hs : s ≤ 18) : unit c s = c / 10 ^ s * 10 ^ 18 + c % 10 ^ s * 10 ^ (18 - s) ∧ c % 10 ^ s * 10 ^ (18 - s) < 10 ^ 18 := by
  have e : (10 : Nat) ^ 18 = 10 ^ s * 10 ^ (18 - s) := by rw [← Nat.pow_add]; congr 1; omega
  constructor
  · unfold unit
    rw [e, ← Nat.mul_assoc, ← Nat.add_mul]
    congr 1
    rw [Nat.mul_comm]
    exact (Nat.div_add_mod c (10 ^ s)).symm
  · rw [e]
    exact Nat.mul_lt_mul_of_pos_right (Nat.mod_lt _ (Nat.pow_pos (by decide))) (step_pos s)
theorem unit_0 (v : Nat) : unit v 0 = v * 10 ^ 18 := rfl
theorem whole_around (b : Bool) {c s : Nat} (hs : s ≤ 18) :
    sval b (unit (wholeV c s b) 0) ≤ sval b (unit c s) ∧ sval b (unit c s) ≤ sval b (unit (wholeV c s (!b)) 0) ∧
    (sval b (unit (wholeV c s (!b)) 0) - sval b (unit (wholeV c s b) 0) = 0 ∨ sval b (unit (wholeV c s (!b)) 0) - sval b (unit (wholeV c s b) 0) = 10 ^ 18) := by
  obtain ⟨e1, e2⟩ := unit_parts (c := c) hs
  rw [e1, unit_0, unit_0]
  by_cases hr : c % 10 ^ s = 0
  · rw [wholeV_flat (.inr hr), wholeV_flat (.inr hr), hr]
    cases b <;> simp only [sval, if_true, if_false, Bool.false_eq_true] <;> omega
  · cases b
    · rw [wholeV_flat (.inl rfl), show (!false) = true from rfl, wholeV_up hr]
      simp only [sval, if_false, Bool.false_eq_true]
      have := Nat.add_mul (c / 10 ^ s) 1 (10 ^ 18)
      omega
    · rw [wholeV_up hr, show (!true) = false from rfl, wholeV_flat (.inl rfl)]
      simp only [sval, if_true]
      have := Nat.add_mul (c / 10 ^ s) 1 (10 ^ 18)
      omega
theorem whole_form (b : Bool) {c : Nat} (s : Nat) (up : Bool) (hc : c < B34) : dform (sg b (wholeV c s up)) (wholeV c s up) 0 = true :=
  (dform_iff _ _ _).2 ⟨0, rfl, wholeV_lt up hc, by omega, fun h => ⟨by rw [h, sg_zero], rfl⟩, .inl rfl⟩
theorem rep_zero : Rep 0 := ⟨0, 18, Nat.le_refl _, B34_pos, (Nat.zero_mul _).symm⟩
theorem rep_one : Rep (10 ^ 18) := ⟨1, 0, by omega, by unfold B34; exact Nat.one_lt_pow (by decide) (by decide), (Nat.one_mul _).symm⟩
theorem fit_nil {N : Bool} {U : Nat} (h : fitU U = 0) : FitC U (10 ^ 18) = 0 ∧ FitS U (10 ^ 18) = 0 := by
  have h1 := unit_nil.1 h
  exact ⟨h1, ((fit_form N U (10 ^ 18)).2.2.1 h1).2⟩
theorem gap_fit {N : Bool} {U : Nat} (h : sval N U = 0 ∨ sval N U = 10 ^ 18) : FitE U (10 ^ 18) = 0 ∧ sg N (FitC U (10 ^ 18)) = false ∧ ((FitC U (10 ^ 18) = 0 ∧ FitS U (10 ^ 18) = 0) ∨ (FitC U (10 ^ 18) = 1 ∧ FitS U (10 ^ 18) = 0)) := by
  rcases h with h | h
  · obtain rfl : U = 0 := by cases N <;> simp only [sval, if_true, if_false, Bool.false_eq_true] at h <;> omega
    obtain ⟨e1, e2⟩ := fit_rep rep_zero
    obtain ⟨e3, e4⟩ := fit_nil (N := N) e2
    exact ⟨e1, by rw [e3, sg_zero], .inl ⟨e3, e4⟩⟩
  · obtain rfl : N = false := by
      cases N
      · rfl
      · exfalso; simp only [sval, if_true] at h; omega
    obtain rfl : U = 10 ^ 18 := by simp only [sval, if_false, Bool.false_eq_true] at h; omega
    obtain ⟨e1, e2⟩ := fit_rep rep_one
    obtain ⟨f1, f2, f3, f4⟩ := fit_form false (10 ^ 18) (10 ^ 18)
    obtain ⟨e3, e4⟩ := unit_inj (c' := 1) (s' := 0) f2 (by omega) (e2.trans (Nat.one_mul _).symm) (fun h => (f3 h).2) f4 (fun h => absurd h (by decide)) (.inl rfl)
    exact ⟨e1, rfl, .inr ⟨e3, e4⟩⟩
theorem restN_le (b b' : Bool) (x y : Nat) (h : 0 < y) : restN b x b' y ≤ y := by
  unfold restN
  have := Nat.mod_lt x h
  split <;> omega
/-- the rest is fitted, and no greater than the divisor -/
theorem rest_fit (b b' : Bool) (x : Nat) {c' s' : Nat} (hc : c' < B34) (hs : s' ≤ 18) (h0 : c' ≠ 0) :
    FitE (restN b x b' (unit c' s')) (10 ^ 18) = 0 ∧ unit (FitC (restN b x b' (unit c' s')) (10 ^ 18)) (FitS (restN b x b' (unit c' s')) (10 ^ 18)) ≤ unit c' s' := by
  have hy : 0 < unit c' s' := Nat.mul_pos (Nat.pos_of_ne_zero h0) (step_pos s')
  obtain ⟨e1, e2⟩ := fit_rep (rep_unit hc hs)
  obtain ⟨e3, e4⟩ := fit_order (d := 10 ^ 18) (Nat.pow_pos (by decide)) (restN_le b b' x _ hy) e1
  unfold fitU at e2
  rw [e2] at e4
  exact ⟨e3, e4⟩
theorem cmpN_le {x y : Nat} (h : x ≤ y) : cmpN x y ≤ 0 := by
  unfold cmpN; (repeat' split) <;> omega
theorem ordS_le {x y : Int} (h : x ≤ y) : ordS x y ≤ 0 := by
  unfold ordS; (repeat' split) <;> omega
theorem ordS_lt {x y : Int} (h : x < y) : ordS x y = -1 := by
  unfold ordS; (repeat' split) <;> omega
theorem rd_18 {c s : Nat} (hs : s ≤ 18) : rdC c s 18 = c ∧ rdS c s 18 = s := ⟨if_pos hs, if_pos hs⟩
end Go.Proofs.Ythkgjodidkpaeaa

set_option linter.unusedSimpArgs false
set_option linter.unusedVariables false
namespace Go.Proofs.Ythkgjodidkpaeaa
open Go.RowKit

/-- from address A on lie, in a block of ints, the numbers xs (nothing is said where there are none) -/
def Sl (w : World) (A : Option Addr) (xs : List Int) : Prop :=
  xs ≠ [] → ∃ g o cs, A = some ⟨g, o, none⟩ ∧ Bk w g 3 cs ∧ ∀ j, j < xs.length → cs[o + j]? = some (.int .i64 (xs.getD j 0))
def IsSl (w : World) (v : Value) (xs : List Int) : Prop := ∃ A c, v = .slice A xs.length c ∧ xs.length ≤ c ∧ Sl w A xs
/-- v holds the digits of n, the least first -/
def Dg (w : World) (v : Value) (n : Nat) : Prop := ∃ xs, IsSl w v xs ∧ IsDg xs n
def RetDg (n : Nat) (w : World) (e : Ending) (w' : World) : Prop := ∃ v, e = .returned v ∧ Dg w' v n ∧ Below w.heap.size w w'

section
variable {w w' : World} {A : Option Addr} {xs : List Int} {v : Value} {n B : Nat}
theorem Sl.below (h : Sl w A xs) (hb : Below w.heap.size w w') : Sl w' A xs := fun hne => by
  obtain ⟨g, o, cs, e, hg, hc⟩ := h hne
  exact ⟨g, o, cs, e, hg.below hb hg.lt, hc⟩
theorem Sl.far (h : Sl w A xs) {b : Nat} {T : TypeId} {ds : List Value} (hb : Bk w b T ds) (hT : 3 ≠ T) (i : Nat) (u : Value) : Sl (w.setCell ⟨b, i, none⟩ u) A xs := fun hne => by
  obtain ⟨g, o, cs, e, hg, hc⟩ := h hne
  refine ⟨g, o, cs, e, hg.far ?_ u, hc⟩
  rintro rfl
  unfold Bk at hg hb
  rw [hg] at hb
  injection hb with hb
  injection hb with _ ht
  exact hT ht
theorem IsSl.below (h : IsSl w v xs) (hb : Below w.heap.size w w') : IsSl w' v xs := by
  obtain ⟨A, c, e, hc, hs⟩ := h
  exact ⟨A, c, e, hc, hs.below hb⟩
theorem Dg.below (h : Dg w v n) (hb : Below w.heap.size w w') : Dg w' v n := by
  obtain ⟨xs, hs, hd⟩ := h
  exact ⟨xs, hs.below hb, hd⟩
theorem Dg.far (h : Dg w v n) {b : Nat} {T : TypeId} {ds : List Value} (hb : Bk w b T ds) (hT : 3 ≠ T) (i : Nat) (u : Value) : Dg (w.setCell ⟨b, i, none⟩ u) v n := by
  obtain ⟨xs, ⟨A, c, e, hc, hs⟩, hd⟩ := h
  exact ⟨xs, ⟨A, c, e, hc, hs.far hb hT i u⟩, hd⟩
theorem Dg.drew (h : Dg w v n) : Dg w.drew v n := h
theorem Dg.drewN (h : Dg w v n) (k : Nat) : Dg (w.drewN k) v n := h
theorem Sl.take (h : Sl w A xs) (k : Nat) : Sl w A (xs.take k) := fun hne => by
  have hx : xs ≠ [] := fun e => hne (by rw [e]; simp)
  obtain ⟨g, o, cs, e, hg, hc⟩ := h hx
  refine ⟨g, o, cs, e, hg, fun j hj => ?_⟩
  rw [List.length_take] at hj
  rw [hc j (by omega), List.getD_eq_getElem?_getD, List.getD_eq_getElem?_getD, List.getElem?_take_of_lt (by omega)]
/-- the cell at a place -/
theorem Sl.at_ (h : Sl w A xs) {k : Nat} (hk : k < xs.length) : ∃ g o, A = some ⟨g, o, none⟩ ∧ g < w.heap.size ∧ w.cell? ⟨g, o + k, none⟩ = some (.int .i64 (xs.getD k 0)) := by
  obtain ⟨g, o, cs, e, hg, hc⟩ := h (by intro e; subst e; simp at hk)
  exact ⟨g, o, e, hg.lt, hg.cell _ (hc k hk)⟩
/-- a row of the call's own, read as a list of ints -/
theorem IsSl.of_own {base : Nat} (h : w.ownsRow base 3 1 v xs.length (xs.map (Value.int .i64))) : IsSl w v xs := by
  rcases h.2 with ⟨rfl, hn⟩ | ⟨g, cap, cur, rfl, hg, hh, r1, r2, r3, r4⟩
  · have : xs = [] := List.length_eq_zero_iff.1 hn
    subst this
    exact ⟨none, 0, rfl, Nat.le_refl _, fun hne => absurd rfl hne⟩
  · refine ⟨some ⟨g, 0, none⟩, cap, rfl, r1, fun hne => ⟨g, 0, cur.toList, rfl, by unfold Bk; simpa using hh, fun j hj => ?_⟩⟩
    have hu : (xs.map (Value.int .i64))[j]? = some (.int .i64 (xs.getD j 0)) := by
      rw [List.getElem?_map, List.getElem?_eq_getElem hj, getD_lt _ _ hj]; rfl
    rw [← r4, List.getElem?_take_of_lt (by omega)] at hu
    rw [Nat.zero_add]; exact hu
end

/-- where it has an address, it lies from block B on -/
def New (B : Nat) (v : Value) : Prop := ∀ g o p n c, v = .slice (some ⟨g, o, p⟩) n c → B ≤ g
theorem New.mono {B C : Nat} {v : Value} (h : New C v) (hb : B ≤ C) : New B v := fun g o p n c e => Nat.le_trans hb (h g o p n c e)
theorem New.nil (B n c : Nat) : New B (.slice none n c) := by intro g o p n c e; cases e
theorem New.same {B : Nat} {A : Option Addr} {n c : Nat} (h : New B (.slice A n c)) (k d : Nat) : New B (.slice A k d) := by
  intro g o p n' c' e; injection e with e1 e2 e3; subst e1; exact h g o p n c rfl
theorem New.at_ {B g : Nat} (h : B ≤ g) (o : Nat) (p : Option Nat) (n c : Nat) : New B (.slice (some ⟨g, o, p⟩) n c) := by
  intro g' o' p' n' c' e; injection e with e1 e2 e3; injection e1 with e1; injection e1 with e1; subst e1; exact h
theorem New.own {w : World} {B : Nat} {E : TypeId} {v : Value} {n : Nat} {xs : List Value} (h : w.ownsRow B E 1 v n xs) : New B v := by
  rcases h.2 with ⟨rfl, _⟩ | ⟨g, cap, cur, rfl, hg, _⟩
  · exact New.nil _ _ _
  · exact New.at_ hg _ _ _ _
theorem Dg.away {w : World} {v : Value} {n B b : Nat} (h : Dg w v n) (hn : New B v) (hb : b < B) (i : Nat) (u : Value) : Dg (w.setCell ⟨b, i, none⟩ u) v n := by
  obtain ⟨xs, ⟨A, c, e, hc, hs⟩, hd⟩ := h
  refine ⟨xs, ⟨A, c, e, hc, fun hne => ?_⟩, hd⟩
  obtain ⟨g, o, cs, e2, hg, hc2⟩ := hs hne
  have := hn g o none xs.length c (by rw [e, e2])
  exact ⟨g, o, cs, e2, hg.far (by show g ≠ b; omega) u, hc2⟩
/-- a block of ints, read as a list -/
theorem IsSl.of_bk {w : World} {g : Nat} {ds : List Int} {n c : Nat} (h : Bk w g 3 (ds.map (Value.int .i64))) (hn : ds.length = n) (hc : n ≤ c) : IsSl w (.slice (some ⟨g, 0, none⟩) n c) ds := by
  subst hn
  refine ⟨_, c, rfl, hc, fun hne => ⟨g, 0, _, rfl, h, fun j hj => ?_⟩⟩
  rw [Nat.zero_add, List.getElem?_map, List.getElem?_eq_getElem hj, getD_lt _ _ hj]; rfl
/-- a new row of noughts -/
def zrow (n : Nat) : List Value := (List.replicate n (0 : Int)).map (Value.int .i64)
theorem zrow_made (n : Nat) : madeCells #[.int .i64 0] n = (zrow n).toArray := by
  apply Array.ext
  · simp [madeCells, zrow]
  · intro i h1 h2
    simp [madeCells, zrow, Nat.mod_one]
theorem info_int : (Try.prog.info? 3).map (fun i => (i.zero, i.size, i.bytes)) = some (some (.int .i64 0), 1, 8) := by kernel_rfl
/-- one int is appended to a row of the call's own -/
theorem wpList_push {w : World} {ops : Array Oper} {rest : List Oper} {o : Oper} {a : Act} {Q : Exit → Act → World → Prop} (hgd : o.guard = none) (s x : Operand)
    (ho : o.op = .call { callee := .builtin .append, args := #[s, x], argTypes := #[49, 49] })
    (base : Nat) (v : Value) (ds : List Int) (hs : a.eval s = v) (hown : w.ownsRow base 3 1 v ds.length (ds.map (Value.int .i64)))
    (b : Nat) (d : Int) (hx : a.eval x = .slice (some ⟨b, 0, none⟩) 1 1) (hd : w.cell? ⟨b, 0, none⟩ = some (.int .i64 d)) (hlen : ds.length ≤ 1000000) (hbase : base ≤ w.heap.size)
    (h : ∀ v' w', w'.ownsRow base 3 1 v' (ds ++ [d]).length ((ds ++ [d]).map (Value.int .i64)) → w.grownBy w' v.ownBlock → wpList Try.prog ops Q rest (a.put o.dst v') w') : wpList Try.prog ops Q (o :: rest) a w := by
  obtain ⟨i0, hi0, hz0, hz1, hz2⟩ := info_parts info_int
  refine wpList_append_own w hgd s x 49 ho base 3 i0 (.int .i64 0) 1 8 Try.underlying49 hi0 hz0 hz1 hz2 rfl (by decide) v ds.length _ hs hown ⟨b, 0, none⟩ 1 1 [.int .i64 d] hx rfl ?_ ?_ (by unfold maxLen; omega) (by omega) hbase ?_
  · intro j u hj
    match j with
    | 0 => simp at hj; subst hj; exact hd
    | j + 1 => simp at hj
  · intro u hu
    rw [List.mem_singleton.1 hu]; rfl
  · intro v' w' h1 h2 _
    refine h v' w' ?_ h2
    rw [List.length_append, List.map_append]
    exact h1
theorem run_append_nil (w : World) (base : Nat) (i : TypeInfo) (hi : Try.prog.info? 3 = some i) (ty : TypeId)
    (v : Value) (n : Nat) (xs : List Value) (hown : w.ownsRow base 3 1 v n xs) (c : Nat) : (Builtin.append_ #[49, 49] ty #[v, .slice none 0 c]).run Try.prog w = .ok v w := by
  rcases hown.2 with ⟨rfl, rfl⟩ | ⟨g, cap, cur, rfl, _, _, hnc, _⟩
  · simp [Builtin.append_, run_underlying Try.underlying49, sizeOf, typeInfo, hi, Builtin.lenOf, Builtin.firstCells]
  · simp [Builtin.append_, run_underlying Try.underlying49, sizeOf, typeInfo, hi, Builtin.lenOf, Builtin.firstCells, hnc, storeCells]
set_option maxRecDepth 100000 in
/-- a list of ints is appended to a row of the call's own -/
theorem wpList_join {w : World} {ops : Array Oper} {rest : List Oper} {o : Oper} {a : Act} {Q : Exit → Act → World → Prop} (hgd : o.guard = none) (s x : Operand)
    (ho : o.op = .call { callee := .builtin .append, args := #[s, x], argTypes := #[49, 49] })
    (base : Nat) (v : Value) (ds : List Int) (hs : a.eval s = v) (hown : w.ownsRow base 3 1 v ds.length (ds.map (Value.int .i64)))
    (A : Option Addr) (c : Nat) (ys : List Int) (hx : a.eval x = .slice A ys.length c) (hd : Sl w A ys) (hlen : ds.length + ys.length ≤ 1000000) (hbase : base ≤ w.heap.size)
    (h : ∀ v' w', w'.ownsRow base 3 1 v' (ds ++ ys).length ((ds ++ ys).map (Value.int .i64)) → w.grownBy w' v.ownBlock → wpList Try.prog ops Q rest (a.put o.dst v') w') : wpList Try.prog ops Q (o :: rest) a w := by
  obtain ⟨i0, hi0, hz0, hz1, hz2⟩ := info_parts info_int
  rcases A with _ | ad
  · have hy : ys = [] := by
      by_cases hne : ys = []
      · exact hne
      · obtain ⟨g, o, cs, e, _⟩ := hd hne
        cases e
    subst hy
    refine wpList_plain hgd fun K hK => ?_
    have hrun := run_append_nil w base i0 hi0 o.type v ds.length _ hown c
    unfold Oper.wp execOp
    simp only [ho, resolve, invoke, builtin, Sem.run_bind, Sem.run_pure, Result.andThen_ok, List.map_toArray, List.map_cons, List.map_nil, hs, hx, List.length_nil, hrun]
    exact hK _ _ (h v w (by rw [List.append_nil]; exact hown) (World.grownBy.refl w _))
  · refine wpList_append_own w hgd s x 49 ho base 3 i0 (.int .i64 0) 1 8 Try.underlying49 hi0 hz0 hz1 hz2 rfl (by decide) v ds.length _ hs hown ad ys.length c (ys.map (Value.int .i64)) hx (by simp) ?_ ?_ (by unfold maxLen; omega) (by omega) hbase ?_
    · intro j u hj
      rw [List.getElem?_map] at hj
      by_cases hjl : j < ys.length
      · obtain ⟨g, o', e, _, hc⟩ := hd.at_ hjl
        injection e with e
        subst e
        rw [List.getElem?_eq_getElem hjl, ← getD_lt _ _ hjl] at hj
        simp only [Option.map_some, Option.some.injEq] at hj
        subst hj
        rw [← hc]
        congr 1
        unfold Addr.add
        split
        · subst_vars; rfl
        · rfl
      · rw [List.getElem?_eq_none (by omega)] at hj
        cases hj
    · intro u hu
      obtain ⟨x, _, rfl⟩ := List.mem_map.1 hu
      rfl
    · intro v' w' h1 h2 _
      refine h v' w' ?_ h2
      rw [List.length_append, List.map_append]
      exact h1
theorem make_ints (n : Nat) (hn : n ≤ 1000000) (W : World) : (Instr.makeSlice 49 (.int .i64 (n : Int)) (.int .i64 (n : Int))).run Try.prog W = .ok (.slice (some ⟨W.heap.size, 0, none⟩) n n) (W.alloc (.cells (zrow n).toArray 3)) := by
  rw [← zrow_made]
  exact run_make_row' 49 3 (.int .i64 0) 8 Try.underlying49 info_int rfl .i64 .i64 n (by omega) (by omega) W
theorem below_push {a w w' : World} {B : Nat} {E : TypeId} {v : Value} {n : Nat} {xs : List Value} (h : Below B a w) (hown : w.ownsRow B E 1 v n xs) (hg : w.grownBy w' v.ownBlock) (hB : B ≤ w.heap.size) : Below B a w' :=
  h.grown hg hB fun k hk => (hown.lt k hk).1
end Go.Proofs.Ythkgjodidkpaeaa

set_option linter.unusedSimpArgs false
set_option linter.unusedVariables false
namespace Go.Proofs.Ythkgjodidkpaeaa
open Go.RowKit

/-- the answer lies where the argument lay -/
def RetCut (A : Option Addr) (n : Nat) (w : World) (e : Ending) (w' : World) : Prop := ∃ k c, e = .returned (.slice A k c) ∧ Dg w' (.slice A k c) n ∧ Below w.heap.size w w'
set_option maxHeartbeats 1000000 in
theorem cut_at (xs : List Int) (A : Option Addr) (c : Nat) (w : World) (hc : xs.length ≤ c) (hs : Sl w A xs) (hd : Digs xs) (hl : xs.length ≤ 100000) :
    Calls Try.prog 93 #[.slice A xs.length c] w (RetCut A (dval xs).toNat w) := by
  have HD := Lib.hid hd
  have HS := Lib.hid hs
  clear hd hs
  go_enter Try.func93, Try.ntmps93
  go_wp2_with fail
  go_loopg [3] xs.length (fun k i wr => k ≤ xs.length ∧ i = .int .i64 k ∧ (∀ j, k ≤ j → j < xs.length → xs.getD j 0 = 0) ∧ ∃ nn, wr = w.drewN nn)
  case atStart => exact ⟨Nat.le_refl _, rfl, fun j h1 h2 => absurd h2 (by omega), 0, rfl⟩
  case round =>
    obtain ⟨hn, rfl, hz, nn, rfl⟩ := hrel
    have HZ := Lib.hid hz
    clear hz
    by_cases h0 : gk = 0
    · subst h0
      go_wp2_with fail
      go_ret
      refine ⟨0, c, rfl, ⟨xs.take 0, ⟨A, c, by simp, by simp, fun h => absurd rfl h⟩, ?_⟩, by (repeat' (first | (with_reducible exact Below.refl _ _) | (with_reducible assumption) | (with_reducible refine Below.drew ?_) | (with_reducible refine below_drewN ?_ _) | ((with_reducible refine Below.alloc ?_ ?_ _); rotate_left; focus (go_size; done)) | ((with_reducible refine Below.setCell ?_ ?_ _); rotate_left; focus (go_size; done)) | ((with_reducible refine Below.trans ?_ (Below.mono (by with_reducible assumption) ?_)); rotate_left; focus (go_size; done))))⟩
      have e := dval_take_zeros xs 0 HZ.out
      rw [← e]
      exact IsDg.nil
    · obtain ⟨m, rfl⟩ : ∃ m, gk = m + 1 := ⟨gk - 1, by omega⟩
      obtain ⟨g, o, rfl, hg, hcell⟩ := HS.out.at_ (k := m) (by omega)
      obtain ⟨d, hd⟩ : ∃ d, d = xs.getD m 0 := ⟨_, rfl⟩
      rw [← hd] at hcell
      have HE := Lib.hid hd
      have hp : (0 : Int) < ((m + 1 : Nat) : Int) := by omega
      have hx : ((m + 1 : Nat) : Int) - 1 = (m : Int) := by omega
      clear h0 hd
      go_wp2_with fail
      · go_roundg m
        case measure => omega
        case rel =>
          refine ⟨by omega, rfl, ?_, nn, rfl⟩
          intro j h1 h2
          by_cases hj : j = m
          · subst hj
            rw [← HE.out]
            simpa using (by assumption : (d == 0) = true)
          · exact HZ.out j (by omega) h2
      · have hne : d ≠ 0 := by simpa using (by assumption : (d == 0) = false)
        go_ret
        have hlen : (xs.take (m + 1)).length = m + 1 := by rw [List.length_take, Nat.min_eq_left hn]
        refine ⟨m + 1, c, rfl, ⟨xs.take (m + 1), ⟨some ⟨g, o, none⟩, c, by (first | (rw [hlen]; done) | (rw [hlen]; rfl)), by rw [hlen]; omega, (HS.out.take (m + 1)).below (by (repeat' (first | (with_reducible exact Below.refl _ _) | (with_reducible assumption) | (with_reducible refine Below.drew ?_) | (with_reducible refine below_drewN ?_ _) | ((with_reducible refine Below.alloc ?_ ?_ _); rotate_left; focus (go_size; done)) | ((with_reducible refine Below.setCell ?_ ?_ _); rotate_left; focus (go_size; done)) | ((with_reducible refine Below.trans ?_ (Below.mono (by with_reducible assumption) ?_)); rotate_left; focus (go_size; done)))))⟩, HD.out.take _, ?_, ?_⟩, by (repeat' (first | (with_reducible exact Below.refl _ _) | (with_reducible assumption) | (with_reducible refine Below.drew ?_) | (with_reducible refine below_drewN ?_ _) | ((with_reducible refine Below.alloc ?_ ?_ _); rotate_left; focus (go_size; done)) | ((with_reducible refine Below.setCell ?_ ?_ _); rotate_left; focus (go_size; done)) | ((with_reducible refine Below.trans ?_ (Below.mono (by with_reducible assumption) ?_)); rotate_left; focus (go_size; done))))⟩
        · exact top_take xs (m + 1) hn (.inr (by rw [Nat.add_sub_cancel, ← HE.out]; exact hne))
        · rw [dval_take_zeros xs (m + 1) HZ.out]
          have := (dval_bd HD.out).1
          omega
theorem cut_any (xs : List Int) (v : Value) (w : World) (hv : IsSl w v xs) (hd : Digs xs) (hl : xs.length ≤ 100000) :
    Calls Try.prog 93 #[v] w (RetDg (dval xs).toNat w) := by
  obtain ⟨A, c, rfl, hc, hs⟩ := hv
  exact (cut_at xs A c w hc hs hd hl).mono fun e w' ⟨k, c', he, hdg, hb⟩ => ⟨_, he, hdg, hb⟩

theorem cut_is (xs : List Int) (A : Option Addr) (n c : Nat) (w : World) (hv : IsSl w (.slice A n c) xs) (hd : Digs xs) (hl : xs.length ≤ 100000) :
    Calls Try.prog 93 #[.slice A n c] w (RetCut A (dval xs).toNat w) := by
  obtain ⟨A', c', e, hc, hs⟩ := hv
  injection e with e1 e2 e3
  subst e1 e2 e3
  exact cut_at xs A c w hc hs hd hl
theorem pow_big {n : Nat} (h : Small n) {l : List Int} (hl : IsDg l n) : l.length ≤ 1000 := hl.len_le (h trivial)
set_option maxHeartbeats 1000000 in
theorem twice_any (N : Nat) (b0 : Int) (hb0 : 0 ≤ b0) (hb1 : b0 ≤ 1) (v : Value) (w : World) (hv : Dg w v N) (hN : Small N) :
    Calls Try.prog 98 #[v, .int .i64 b0] w (RetDg (2 * N + b0.toNat) w) := by
  obtain ⟨xs, ⟨A, c, rfl, hc, hs⟩, hd⟩ := hv
  have hlen := pow_big hN hd
  have HD := Lib.hid hd
  have HS := Lib.hid hs
  clear hd hs hN
  go_enter Try.func98, Try.ntmps98
  go_wp2_with fail
  go_loopg [1, 5, 6] xs.length (fun k b out i wr => ∃ (n : Nat) (bb : Int) (ds : List Int), k + n = xs.length ∧ i = .int .i64 n ∧ b = .int .i64 bb ∧ 0 ≤ bb ∧ bb ≤ 1 ∧
    wr.ownsRow w.heap.size 3 1 out ds.length (ds.map (Value.int .i64)) ∧ ds.length = n ∧ Digs ds ∧ dval ds + 10 ^ n * bb = 2 * dval (xs.take n) + b0 ∧ Below w.heap.size w wr)
  case atStart =>
    exact ⟨0, b0, [], by omega, rfl, rfl, hb0, hb1, World.ownsRow_nil _ _ _ _, rfl, Digs.nil, by simp [dval], Below.refl _ _⟩
  case round =>
    obtain ⟨n, bb, ds, hk, rfl, rfl, hbb0, hbb1, hown, hdl, hdd, hval, hbel⟩ := hrel
    have HK := Lib.hid hk
    have HL := Lib.hid hdl
    have HDD := Lib.hid hdd
    have HV := Lib.hid hval
    have hn : n ≤ xs.length := by omega
    have hwr := hbel.size
    clear hk hdl hdd hval
    by_cases hlt : n < xs.length
    · obtain ⟨g, o, rfl, hg, hcell⟩ := HS.out.at_ hlt
      have hx := HD.out.get n
      have hcell2 := (hbel.cell (p := ⟨g, o + n, none⟩) hg).trans hcell
      obtain ⟨d, hd⟩ : ∃ d, d = xs.getD n 0 := ⟨_, rfl⟩
      rw [← hd] at hcell2 hx
      obtain ⟨hx0, hx9⟩ := hx
      have HE := Lib.hid hd
      clear hd hcell
      go_wp2_with (at_builtin; refine wpList_push rfl (.tmp 21) (.tmp 24) rfl w.heap.size u5 ds rfl (hown.alloc _) wr.heap.size ((2 * d + bb) % 10) rfl ?hc ?hl ?hb ?_; rotate_left 3; intro v1 w1 hown1 hg1)
      case hc => simp [go_sem]
      case hl => have := HL.out; omega
      case hb => go_size
      go_roundg (gk - 1)
      case measure => have := HK.out; omega
      case rel =>
        refine ⟨n + 1, (2 * d + bb) / 10, ds ++ [(2 * d + bb) % 10], by have := HK.out; omega, by go_num, rfl, by omega, by omega, hown1, by rw [List.length_append, HL.out]; rfl, HDD.out.snoc (by omega) (by omega), ?_, below_push (hbel.alloc (by go_size) _) (hown.alloc _) hg1 (by go_size)⟩
        rw [dval_snoc, HL.out, dval_take_succ xs n hlt, ← HE.out, Int.pow_succ]
        have e1 := carry_step (10 ^ n) (2 * d + bb)
        have e2 : (10 : Int) ^ n * (2 * d + bb) = 2 * (10 ^ n * d) + 10 ^ n * bb := by rw [Int.mul_add, Int.mul_left_comm]
        have e3 := HV.out
        omega
    · obtain rfl : n = xs.length := by omega
      have hbz : bb = 0 ∨ bb = 1 := by omega
      have hv : dval ds + 10 ^ ds.length * bb = 2 * N + b0.toNat := by
        have := HV.out
        rw [List.take_length, HD.out.2.2, ← HL.out] at this
        omega
      have HW := Lib.hid hv
      clear hv
      rcases hbz with rfl | rfl
      · go_wp2_with fail
        go_ret
        refine ⟨u5, rfl, ⟨ds, IsSl.of_own hown, HDD.out, ?_, ?_⟩, hbel⟩
        · refine top_of_val HDD.out ?_
          by_cases hne : xs = []
          · left
            have := HL.out
            subst hne
            exact List.length_eq_zero_iff.1 this
          · right
            have h1 := HD.out.le_of_ne hne
            have h2 := HW.out
            rw [Int.mul_zero, Int.add_zero] at h2
            rw [HL.out, h2]
            have h3 : ((10 ^ (xs.length - 1) : Nat) : Int) ≤ (N : Int) := by exact_mod_cast h1
            rw [Int.natCast_pow] at h3
            have h4 : ((10 : Nat) : Int) = 10 := rfl
            rw [h4] at h3
            omega
        · have h2 := HW.out
          rw [Int.mul_zero, Int.add_zero] at h2
          rw [h2]; omega
      · go_wp2_with (at_builtin; refine wpList_push rfl (.tmp 30) (.tmp 32) rfl w.heap.size u5 ds rfl (hown.alloc _) wr.heap.size 1 rfl ?hc ?hl ?hb ?_; rotate_left 3; intro v1 w1 hown1 hg1)
        case hc => simp [go_sem]
        case hl => have := HL.out; omega
        case hb => go_size
        go_ret
        have h2 := HW.out
        have h0 := (dval_bd HDD.out).1
        refine ⟨v1, rfl, ⟨ds ++ [1], IsSl.of_own hown1, HDD.out.snoc (by decide) (by decide), ?_, ?_⟩, below_push (hbel.alloc (by go_size) _) (hown.alloc _) hg1 (by go_size)⟩
        · simp [Top]
        · rw [dval_snoc, h2]; omega
end Go.Proofs.Ythkgjodidkpaeaa

set_option linter.unusedSimpArgs false
set_option linter.unusedVariables false
namespace Go.Proofs.Ythkgjodidkpaeaa
open Go.RowKit

def RetHalf (n : Nat) (w : World) (e : Ending) (w' : World) : Prop := ∃ v, e = .returned (.tuple #[v, .int .i64 ((n % 2 : Nat) : Int)]) ∧ Dg w' v (n / 2) ∧ Below w.heap.size w w'
set_option maxHeartbeats 1000000 in
theorem half_any (N : Nat) (v : Value) (w : World) (hv : Dg w v N) (hN : Small N) :
    Calls Try.prog 103 #[v] w (RetHalf N w) := by
  obtain ⟨xs, ⟨A, c, rfl, hc, hs⟩, hd⟩ := hv
  have hlen := pow_big hN hd
  have HD := Lib.hid hd
  have HS := Lib.hid hs
  have hmk := fun W => make_ints xs.length (by omega) W
  clear hd hs hN
  go_enter Try.func103, Try.ntmps103
  go_wp2_with fail
  clear hmk
  go_loopg [5, 6] xs.length (fun k l i wr => ∃ (ll : Int) (ds : List Int), k ≤ xs.length ∧ i = .int .i64 ((k : Int) - 1) ∧ l = .int .i64 ll ∧ 0 ≤ ll ∧ ll ≤ 1 ∧
    Bk wr w.heap.size 3 (ds.map (Value.int .i64)) ∧ ds.length = xs.length ∧ Digs ds ∧ 2 * dval (ds.drop k) + ll = dval (xs.drop k) ∧ w.heap.size < wr.heap.size ∧ Below w.heap.size w wr)
  case atStart =>
    refine ⟨0, List.replicate xs.length 0, Nat.le_refl _, rfl, rfl, by decide, by decide, Bk.new_ rfl, by simp, Digs.zeros _, ?_, by go_size, by (repeat' (first | (with_reducible exact Below.refl _ _) | (with_reducible assumption) | (with_reducible refine Below.drew ?_) | (with_reducible refine below_drewN ?_ _) | ((with_reducible refine Below.alloc ?_ ?_ _); rotate_left; focus (go_size; done)) | ((with_reducible refine Below.setCell ?_ ?_ _); rotate_left; focus (go_size; done)) | ((with_reducible refine Below.trans ?_ (Below.mono (by with_reducible assumption) ?_)); rotate_left; focus (go_size; done))))⟩
    rw [List.drop_of_length_le (by simp), List.drop_of_length_le (Nat.le_refl _)]
    rfl
  case round =>
    obtain ⟨ll, ds, hk, rfl, rfl, hl0, hl1, hbk, hdl, hdd, hval, hsz, hbel⟩ := hrel
    have HB := Lib.hid hbk
    have HL := Lib.hid hdl
    have HDD := Lib.hid hdd
    have HV := Lib.hid hval
    clear hbk hdl hdd hval
    by_cases h0 : gk = 0
    · subst h0
      have hm : ¬ (0 : Int) ≤ ((0 : Nat) : Int) - 1 := by omega
      go_wp2_with fail
      refine (cut_any ds _ _ (IsSl.of_bk HB.out HL.out (Nat.le_refl _)) HDD.out (by rw [HL.out]; omega)).mono ?_
      rintro _ w2 ⟨v2, rfl, hdg, hb2⟩
      go_wp2_with fail
      go_ret2
      have hv := HV.out
      rw [List.drop_zero, List.drop_zero, HD.out.2.2] at hv
      have h1 := (dval_bd HDD.out).1
      have e1 : (dval ds).toNat = N / 2 := by omega
      have e2 : ll = ((N % 2 : Nat) : Int) := by omega
      rw [e1] at hdg
      refine ⟨v2, ?_, hdg, by (repeat' (first | (with_reducible exact Below.refl _ _) | (with_reducible assumption) | (with_reducible refine Below.drew ?_) | (with_reducible refine below_drewN ?_ _) | ((with_reducible refine Below.alloc ?_ ?_ _); rotate_left; focus (go_size; done)) | ((with_reducible refine Below.setCell ?_ ?_ _); rotate_left; focus (go_size; done)) | ((with_reducible refine Below.trans ?_ (Below.mono (by with_reducible assumption) ?_)); rotate_left; focus (go_size; done))))⟩
      rw [← e2]
      rfl
    · obtain ⟨m, rfl⟩ : ∃ m, gk = m + 1 := ⟨gk - 1, by omega⟩
      obtain ⟨g, o, rfl, hg, hcell⟩ := HS.out.at_ (k := m) (by omega)
      have hcell2 := (hbel.cell (p := ⟨g, o + m, none⟩) hg).trans hcell
      have hx := HD.out.get m
      obtain ⟨d, hd⟩ : ∃ d, d = xs.getD m 0 := ⟨_, rfl⟩
      rw [← hd] at hcell2 hx
      obtain ⟨hx0, hx9⟩ := hx
      have HE := Lib.hid hd
      have hp : (0 : Int) < ((m + 1 : Nat) : Int) := by omega
      have hx : ((m + 1 : Nat) : Int) - 1 = (m : Int) := by omega
      have hmd : m < ds.length := by have := HL.out; omega
      have hst : wr.cell? ⟨w.heap.size, m, none⟩ = some (.int .i64 (ds.getD m 0)) := HB.out.cell _ (by rw [List.getElem?_map, List.getElem?_eq_getElem hmd, getD_lt _ _ hmd]; rfl)
      have hfz := HB.out.frozen m
      clear h0 hd hcell
      go_wp2_with fail
      go_roundg m
      case measure => omega
      case rel =>
        refine ⟨(10 * ll + d) % 2, ds.set m ((10 * ll + d) / 2), by omega, rfl, rfl, by omega, by omega, ?_, by rw [List.length_set]; exact HL.out, HDD.out.set_ m (by omega) (by omega), ?_, by go_size, by (repeat' (first | (with_reducible exact Below.refl _ _) | (with_reducible assumption) | (with_reducible refine Below.drew ?_) | (with_reducible refine below_drewN ?_ _) | ((with_reducible refine Below.alloc ?_ ?_ _); rotate_left; focus (go_size; done)) | ((with_reducible refine Below.setCell ?_ ?_ _); rotate_left; focus (go_size; done)) | ((with_reducible refine Below.trans ?_ (Below.mono (by with_reducible assumption) ?_)); rotate_left; focus (go_size; done))))⟩
        · have := HB.out.set_ m (.int .i64 ((10 * ll + d) / 2))
          rwa [← List.map_set] at this
        · rw [drop_set _ _ _ hmd, dval_drop xs m (by omega), ← HE.out]
          have hv := HV.out
          show 2 * ((10 * ll + d) / 2 + 10 * dval (ds.drop (m + 1))) + (10 * ll + d) % 2 = _
          omega
end Go.Proofs.Ythkgjodidkpaeaa

set_option linter.unusedSimpArgs false
set_option linter.unusedVariables false
namespace Go.Proofs.Ythkgjodidkpaeaa
open Go.RowKit

theorem bit_step (n m j : Nat) (hj : j < 64) : 2 * (n / 2 ^ (64 * m + (j + 1))) + (n / 2 ^ (64 * m) % 2 ^ 64 / 2 ^ j % 2) = n / 2 ^ (64 * m + j) := by
  have e1 : 2 ^ 64 = 2 ^ j * 2 ^ (64 - j) := by rw [← Nat.pow_add]; congr 1; omega
  have e2 : n / 2 ^ (64 * m) % 2 ^ 64 / 2 ^ j % 2 = n / 2 ^ (64 * m + j) % 2 := by
    rw [e1, Nat.mod_mul_right_div_self, Nat.div_div_eq_div_mul, ← Nat.pow_add]
    have hd : 2 ^ 1 ∣ 2 ^ (64 - j) := Nat.pow_dvd_pow 2 (by omega)
    exact Nat.mod_mod_of_dvd _ hd
  rw [e2, ← Nat.add_assoc, Nat.pow_succ, ← Nat.div_div_eq_div_mul]
  omega
theorem pow_le_gen (a b : Nat) (h : a ≤ b) : 2 ^ a ≤ 10 ^ b := Nat.le_trans (Nat.pow_le_pow_left (by decide) a) (Nat.pow_le_pow_right (by decide) h)
theorem lt_ten_1000 {n : Nat} (h : n < 2 ^ 256) : Small n := fun _ => Nat.lt_of_lt_of_le h (pow_le_gen 256 1000 (by decide))
theorem div_lt_1000 {n : Nat} (h : n < 2 ^ 256) (d : Nat) : Small (n / d) := lt_ten_1000 (Nat.lt_of_le_of_lt (Nat.div_le_self _ _) h)

theorem bit_val (n m j : Nat) : wrap64 (bits .and .u64 (wd n m / 2 ^ j) 1) = ((n / 2 ^ (64 * m) % 2 ^ 64 / 2 ^ j % 2 : Nat) : Int) := by
  unfold wd
  have hx : n / 2 ^ (64 * m) % 2 ^ 64 < 18446744073709551616 := Nat.mod_lt _ (by decide)
  generalize n / 2 ^ (64 * m) % 2 ^ 64 = x at *
  have e : ((x : Nat) : Int) / 2 ^ j = ((x / 2 ^ j : Nat) : Int) := by
    rw [Int.natCast_ediv, Int.natCast_pow]; rfl
  have hy : x / 2 ^ j ≤ x := Nat.div_le_self _ _
  rw [e]
  generalize x / 2 ^ j = y at *
  have h := bits_and_u64_nat y 1 (by omega) (by decide)
  rw [Nat.and_one_is_mod] at h
  have e1 : ((1 : Nat) : Int) = 1 := rfl
  rw [e1] at h
  rw [h]
  exact IntWalk.wrap64_in _ (by omega)

set_option maxHeartbeats 1000000 in
theorem words_any (n b L c : Nat) (w : World) (hn : n < 2 ^ 256) (hL : n < 2 ^ (64 * L)) (hL4 : L ≤ 4) (hb : b < w.heap.size) (hc : L ≤ c) (hw : ∀ i, i < L → w.cell? ⟨b, i, none⟩ = some (.int .u64 (wd n i))) :
    Calls Try.prog 85 #[.slice (some ⟨b, 0, none⟩) L c] w (RetDg n w) := by
  have HW := Lib.hid hw
  have HN := Lib.hid hn
  have HL := Lib.hid hL
  clear hw hn hL
  go_enter Try.func85, Try.ntmps85
  go_wp2_with fail
  go_loopg [3, 4] L (fun k v i wr => k ≤ L ∧ i = .int .i64 ((k : Int) - 1) ∧ Dg wr v (n / 2 ^ (64 * k)) ∧ Below w.heap.size w wr)
  case atStart =>
    refine ⟨Nat.le_refl _, rfl, ⟨[], ⟨none, 0, rfl, Nat.le_refl _, fun h => absurd rfl h⟩, ?_⟩, by (repeat' (first | (with_reducible exact Below.refl _ _) | (with_reducible assumption) | (with_reducible refine Below.drew ?_) | (with_reducible refine below_drewN ?_ _) | ((with_reducible refine Below.alloc ?_ ?_ _); rotate_left; focus (go_size; done)) | ((with_reducible refine Below.setCell ?_ ?_ _); rotate_left; focus (go_size; done)) | ((with_reducible refine Below.trans ?_ (Below.mono (by with_reducible assumption) ?_)); rotate_left; focus (go_size; done))))⟩
    rw [Nat.div_eq_of_lt HL.out]
    exact IsDg.nil
  case round =>
    obtain ⟨hk, rfl, hdg, hbel⟩ := hrel
    have HD := Lib.hid hdg
    clear hdg
    by_cases h0 : gk = 0
    · subst h0
      have hm : ¬ (0 : Int) ≤ ((0 : Nat) : Int) - 1 := by omega
      go_wp2_with fail
      go_ret
      refine ⟨u3, rfl, ?_, hbel⟩
      have := HD.out
      rwa [Nat.mul_zero, Nat.pow_zero, Nat.div_one] at this
    · obtain ⟨m, rfl⟩ : ∃ m, gk = m + 1 := ⟨gk - 1, by omega⟩
      have hp : (0 : Int) < ((m + 1 : Nat) : Int) := by omega
      have hx : ((m + 1 : Nat) : Int) - 1 = (m : Int) := by omega
      have hcw := HW.out m (by omega)
      clear h0
      go_wp2_with fail
      simp only [hx]
      clear hx hp
      obtain ⟨wo, rfl⟩ : ∃ wo : World, wo = wr := ⟨_, rfl⟩
      go_loopg [3, 5] 64 (fun k v i wr => k ≤ 64 ∧ i = .int .i64 ((k : Int) - 1) ∧ Dg wr v (n / 2 ^ (64 * m + k)) ∧ Below w.heap.size w wr)
      case atStart =>
        refine ⟨by decide, rfl, ?_, hbel⟩
        have := HD.out
        rwa [Nat.mul_add] at this
      case round =>
        obtain ⟨hk2, rfl, hdg2, hbel2⟩ := hrel
        have HD2 := Lib.hid hdg2
        clear hdg2
        by_cases h0 : gk = 0
        · subst h0
          have hm : ¬ (0 : Int) ≤ ((0 : Nat) : Int) - 1 := by omega
          go_wp2_with fail
          go_roundg m
          case measure => omega
          case rel =>
            refine ⟨by omega, rfl, ?_, hbel2⟩
            have := HD2.out
            rwa [Nat.add_zero] at this
        · obtain ⟨j, rfl⟩ : ∃ j, gk = j + 1 := ⟨gk - 1, by omega⟩
          have hp2 : (0 : Int) < ((j + 1 : Nat) : Int) := by omega
          have hx2 : ((j + 1 : Nat) : Int) - 1 = (j : Int) := by omega
          have hcw2 := (hbel2.cell (p := ⟨b, m, none⟩) hb).trans hcw
          go_wp2_with fail
          have hbv := bit_val n m j
          have hb2 : n / 2 ^ (64 * m) % 2 ^ 64 / 2 ^ j % 2 < 2 := Nat.mod_lt _ (by decide)
          have hst := bit_step n m j (by omega)
          obtain ⟨t, ht⟩ : ∃ t, t = n / 2 ^ (64 * m) % 2 ^ 64 / 2 ^ j % 2 := ⟨_, rfl⟩
          rw [← ht] at hbv hb2 hst
          rw [hbv]
          have HS := Lib.hid hst
          clear hbv hst ht
          refine (twice_any (n / 2 ^ (64 * m + (j + 1))) (t : Int) (by omega) (by omega) u3 _ HD2.out (div_lt_1000 HN.out _)).mono ?_
          rintro _ w2 ⟨v2, rfl, hdg3, hb3⟩
          have hb3s := hb3.size
          have hb2s := hbel2.size
          rw [Int.toNat_natCast, HS.out] at hdg3
          have HD3 := Lib.hid hdg3
          clear hdg3
          go_wp2_with fail
          go_roundg j
          case measure => omega
          case rel => exact ⟨by omega, rfl, HD3.out, by (repeat' (first | (with_reducible exact Below.refl _ _) | (with_reducible assumption) | (with_reducible refine Below.drew ?_) | (with_reducible refine below_drewN ?_ _) | ((with_reducible refine Below.alloc ?_ ?_ _); rotate_left; focus (go_size; done)) | ((with_reducible refine Below.setCell ?_ ?_ _); rotate_left; focus (go_size; done)) | ((with_reducible refine Below.trans ?_ (Below.mono (by with_reducible assumption) ?_)); rotate_left; focus (go_size; done))))⟩
end Go.Proofs.Ythkgjodidkpaeaa

set_option linter.unusedSimpArgs false
set_option linter.unusedVariables false
namespace Go.Proofs.Ythkgjodidkpaeaa
open Go.RowKit

set_option maxHeartbeats 1000000 in
theorem of_any (n : Nat) (hn : n < 2 ^ 128) (w : World) : Calls Try.prog 49 #[.agg #[.int .u64 (wd n 1), .int .u64 (wd n 0)]] w (RetDg n w) := by
  have HN := Lib.hid hn
  clear hn
  have H := Lib.hid (fun (W : World) (b : Nat) (hb : b < W.heap.size) (hw : ∀ i, i < 2 → W.cell? ⟨b, i, none⟩ = some (.int .u64 (wd n i))) =>
    words_any n b 2 2 W (Nat.lt_of_lt_of_le HN.out (Nat.pow_le_pow_right (by decide) (by decide))) HN.out (by decide) hb (Nat.le_refl _) hw)
  go_enter Try.func49, Try.ntmps49
  go_wp2_with fail
  refine (H.out _ _ (by go_size) ?_).mono ?_
  · intro i hi
    match i, hi with
    | 0, _ => simp [go_sem]
    | 1, _ => simp [go_sem]
  rintro _ w1 ⟨v, rfl, hdg, hb⟩
  have HD := Lib.hid hdg
  clear hdg
  go_wp2_with fail
  go_ret
  exact ⟨v, rfl, HD.out, by (repeat' (first | (with_reducible exact Below.refl _ _) | (with_reducible assumption) | (with_reducible refine Below.drew ?_) | (with_reducible refine below_drewN ?_ _) | ((with_reducible refine Below.alloc ?_ ?_ _); rotate_left; focus (go_size; done)) | ((with_reducible refine Below.setCell ?_ ?_ _); rotate_left; focus (go_size; done)) | ((with_reducible refine Below.trans ?_ (Below.mono (by with_reducible assumption) ?_)); rotate_left; focus (go_size; done))))⟩
theorem bit_top (N n : Nat) : N % 2 ^ (n + 1) = N % 2 ^ n + 2 ^ n * (N / 2 ^ n % 2) := by
  rw [Nat.pow_succ, Nat.mod_mul]
theorem or_gen2 (i a b : Nat) (hb : b < 2 ^ i) : b ||| a * 2 ^ i = b + a * 2 ^ i := by
  rw [Nat.or_comm, Nat.mul_comm, Nat.add_comm b]; exact (Nat.two_pow_add_eq_or_of_lt hb a).symm
theorem word_here (N n t : Nat) (ht : t = N / 2 ^ n % 2) : bits .or .u64 (wd (N % 2 ^ n) (n / 64)) (IntKind.u64.wrap ((t : Int) * 2 ^ (n % 64))) = wd (N % 2 ^ (n + 1)) (n / 64) := by
  have ht2 : t < 2 := by omega
  have hr : n % 64 < 64 := Nat.mod_lt _ (by decide)
  have en : 2 ^ n = 2 ^ (64 * (n / 64)) * 2 ^ (n % 64) := by rw [← Nat.pow_add]; congr 1; omega
  have hM : N % 2 ^ n < 2 ^ n := Nat.mod_lt _ (Nat.two_pow_pos n)
  have e1 : (N % 2 ^ (n + 1)) / 2 ^ (64 * (n / 64)) = N % 2 ^ n / 2 ^ (64 * (n / 64)) + t * 2 ^ (n % 64) := by
    rw [bit_top N n, ← ht]
    generalize N % 2 ^ n = M
    rw [en, Nat.mul_assoc, Nat.add_mul_div_left _ _ (Nat.two_pow_pos _), Nat.mul_comm t]
  have hA : N % 2 ^ n / 2 ^ (64 * (n / 64)) < 2 ^ (n % 64) := Nat.div_lt_of_lt_mul (by rw [← en]; exact hM)
  unfold wd
  rw [e1]
  generalize N % 2 ^ n / 2 ^ (64 * (n / 64)) = A at *
  have h2 : 2 ^ (n % 64) ≤ 2 ^ 63 := Nat.pow_le_pow_right (by decide) (by omega)
  have hor := or_gen2 (n % 64) t A hA
  have e2 : (t : Int) * 2 ^ (n % 64) = ((t * 2 ^ (n % 64) : Nat) : Int) := by rw [Int.natCast_mul, Int.natCast_pow]; rfl
  rw [e2]
  have hle : t * 2 ^ (n % 64) ≤ 2 ^ (n % 64) := by
    have : t = 0 ∨ t = 1 := by omega
    rcases this with rfl | rfl <;> simp
  generalize t * 2 ^ (n % 64) = T at *
  generalize 2 ^ (n % 64) = P at *
  have e3 : IntKind.u64.wrap (T : Int) = (T : Int) := by rw [IntKind.wrap_u64]; omega
  rw [e3, Nat.mod_eq_of_lt (show A < 2 ^ 64 by omega), bits_or_u64_nat A T (by omega) (by omega), hor, Nat.mod_eq_of_lt (show A + T < 2 ^ 64 by omega)]
theorem word_else (N n j : Nat) (hj : j ≠ n / 64) : wd (N % 2 ^ (n + 1)) j = wd (N % 2 ^ n) j := by
  unfold wd
  congr 1
  rw [bit_top N n]
  have hM : N % 2 ^ n < 2 ^ n := Nat.mod_lt _ (Nat.two_pow_pos n)
  have ht : N / 2 ^ n % 2 < 2 := Nat.mod_lt _ (by decide)
  generalize N % 2 ^ n = M at *
  generalize N / 2 ^ n % 2 = t at *
  rcases Nat.lt_or_ge j (n / 64) with h | h
  · have en : 2 ^ n = 2 ^ (64 * j) * (2 ^ 64 * 2 ^ (n - 64 * j - 64)) := by rw [← Nat.pow_add, ← Nat.pow_add]; congr 1; omega
    rw [en, Nat.mul_assoc, Nat.add_mul_div_left _ _ (Nat.two_pow_pos _), Nat.mul_assoc, Nat.add_mul_mod_self_left]
  · have hp : 2 ^ (n + 1) ≤ 2 ^ (64 * j) := Nat.pow_le_pow_right (by decide) (by omega)
    rw [Nat.pow_succ] at hp
    have h1 : 2 ^ n * t ≤ 2 ^ n := by
      have : t = 0 ∨ t = 1 := by omega
      rcases this with rfl | rfl <;> simp
    rw [Nat.div_eq_of_lt (by omega), Nat.div_eq_of_lt (by omega)]
theorem lcells_step (N n : Nat) (x : Int) (hx : x = wd (N % 2 ^ (n + 1)) (n / 64)) : (lcells (N % 2 ^ n)).set (n / 64) (.int .u64 x) = lcells (N % 2 ^ (n + 1)) := by
  apply List.ext_getElem
  · simp [lcells]
  · intro j h1 h2
    simp only [lcells, List.getElem_set, List.getElem_map, List.getElem_range]
    by_cases hj : n / 64 = j
    · rw [if_pos hj, hx, hj]
    · rw [if_neg hj, word_else N n j (fun e => hj e.symm)]
def fitsL (N : Nat) : Bool := decide (N < 2 ^ 256)
def RetLong (N : Nat) (w : World) (e : Ending) (w' : World) : Prop := e = .returned (.tuple #[.agg #[.int .u64 (wd (N % 2 ^ 256) 0), .int .u64 (wd (N % 2 ^ 256) 1), .int .u64 (wd (N % 2 ^ 256) 2), .int .u64 (wd (N % 2 ^ 256) 3)], .bool (fitsL N)]) ∧ Below w.heap.size w w'
set_option maxHeartbeats 2000000 in
set_option maxRecDepth 100000 in
theorem tolong_any (N : Nat) (v : Value) (w : World) (hv : Dg w v N) (hN : Small N) :
    Calls Try.prog 101 #[v] w (RetLong N w) := by
  have HV := Lib.hid hv
  have HN := Lib.hid hN
  clear hv hN
  go_enter Try.func101, Try.ntmps101
  go_wp2_with fail
  go_loopg [0, 5] 256 (fun k v i wr => ∃ n : Nat, k + n = 256 ∧ i = .int .i64 n ∧ Dg wr v (N / 2 ^ n) ∧ Bk wr (w.heap.size + 1) 45 (lcells (N % 2 ^ n)) ∧
    Bk wr w.heap.size 45 [.int .u64 0, .int .u64 0, .int .u64 0, .int .u64 0] ∧ w.heap.size + 2 ≤ wr.heap.size ∧ Below w.heap.size w wr)
  case atStart =>
    refine ⟨0, rfl, rfl, ?_, ?_, by (repeat (first | (with_reducible assumption) | ((with_reducible refine Bk.new_ ?_); (first | rfl | (simp only [World.size_alloc, World.size_setCell, World.size_drew, World.heap_drewN]; done))) | (with_reducible refine Bk.alloc ?_ _) | (with_reducible refine Bk.drew ?_) | (with_reducible refine Bk.drewN ?_ _) | ((with_reducible refine Bk.far ?_ ?_ _); rotate_left; focus (simp only []; omega)) | ((with_reducible refine Bk.below ?_ (by with_reducible assumption) ?_); rotate_left; focus (go_size; done)))), by go_size, by (repeat' (first | (with_reducible exact Below.refl _ _) | (with_reducible assumption) | (with_reducible refine Below.drew ?_) | (with_reducible refine below_drewN ?_ _) | ((with_reducible refine Below.alloc ?_ ?_ _); rotate_left; focus (go_size; done)) | ((with_reducible refine Below.setCell ?_ ?_ _); rotate_left; focus (go_size; done)) | ((with_reducible refine Below.trans ?_ (Below.mono (by with_reducible assumption) ?_)); rotate_left; focus (go_size; done))))⟩
    · rw [Nat.pow_zero, Nat.div_one]
      exact HV.out.below (by (repeat' (first | (with_reducible exact Below.refl _ _) | (with_reducible assumption) | (with_reducible refine Below.drew ?_) | (with_reducible refine below_drewN ?_ _) | ((with_reducible refine Below.alloc ?_ ?_ _); rotate_left; focus (go_size; done)) | ((with_reducible refine Below.setCell ?_ ?_ _); rotate_left; focus (go_size; done)) | ((with_reducible refine Below.trans ?_ (Below.mono (by with_reducible assumption) ?_)); rotate_left; focus (go_size; done)))))
    · rw [Nat.pow_zero, Nat.mod_one]
      show Bk _ _ _ [.int .u64 0, .int .u64 0, .int .u64 0, .int .u64 0]
      (repeat (first | (with_reducible assumption) | ((with_reducible refine Bk.new_ ?_); (first | rfl | (simp only [World.size_alloc, World.size_setCell, World.size_drew, World.heap_drewN]; done))) | (with_reducible refine Bk.alloc ?_ _) | (with_reducible refine Bk.drew ?_) | (with_reducible refine Bk.drewN ?_ _) | ((with_reducible refine Bk.far ?_ ?_ _); rotate_left; focus (simp only []; omega)) | ((with_reducible refine Bk.below ?_ (by with_reducible assumption) ?_); rotate_left; focus (go_size; done))))
  case round =>
    obtain ⟨n, hk, rfl, hdg, b1, b0, hsz, hbel⟩ := hrel
    have HK := Lib.hid hk
    have HD := Lib.hid hdg
    have H1 := Lib.hid b1
    have hn : n ≤ 256 := by omega
    have hlt0 : Small (N / 2 ^ n) := HN.out.of_le (Nat.div_le_self _ _)
    have HT := Lib.hid hlt0
    clear hk hdg b1 hlt0
    (try have : w.heap.size < wr.heap.size := by omega); (try have : w.heap.size + 1 < wr.heap.size := by omega); (try have : w.heap.size + 1 + 1 < wr.heap.size := by omega); (try have : w.heap.size + 1 + 1 + 1 < wr.heap.size := by omega)
    by_cases hlt : n < 256
    · go_wp2_with fail
      refine (half_any _ _ _ HD.out HT.out).mono ?_
      rintro _ w1 ⟨v1, rfl, hdg1, hb1⟩
      have hb1s := hb1.size
      have HD1 := Lib.hid hdg1
      obtain ⟨t, ht⟩ : ∃ t, t = N / 2 ^ n % 2 := ⟨_, rfl⟩
      rw [← ht]
      have ht2 : t < 2 := by omega
      have GT := Lib.hid ht
      have hq : n / 64 < 4 := by omega
      have hc1 : w1.cell? ⟨w.heap.size + 1, n / 64, none⟩ = some (.int .u64 (wd (N % 2 ^ n) (n / 64))) := by
        refine (hb1.cell (p := ⟨w.heap.size + 1, n / 64, none⟩) (by show w.heap.size + 1 < _; omega)).trans (H1.out.cell _ ?_)
        unfold lcells
        rw [List.getElem?_map, List.getElem?_range hq]; rfl
      have hf1 : w1.frozen? ⟨w.heap.size + 1, n / 64, none⟩ = false := (hb1.frozen (p := ⟨w.heap.size + 1, n / 64, none⟩) (by show w.heap.size + 1 < _; omega)).trans (H1.out.frozen _)
      clear hdg1 ht
      go_wp2_with fail
      go_region
      go_wp2_with fail
      go_roundg (gk - 1)
      case measure => have := HK.out; omega
      case rel =>
        refine ⟨n + 1, by have := HK.out; omega, by go_num, ?_, ?_, by (repeat (first | (with_reducible assumption) | ((with_reducible refine Bk.new_ ?_); (first | rfl | (simp only [World.size_alloc, World.size_setCell, World.size_drew, World.heap_drewN]; done))) | (with_reducible refine Bk.alloc ?_ _) | (with_reducible refine Bk.drew ?_) | (with_reducible refine Bk.drewN ?_ _) | ((with_reducible refine Bk.far ?_ ?_ _); rotate_left; focus (simp only []; omega)) | ((with_reducible refine Bk.below ?_ (by with_reducible assumption) ?_); rotate_left; focus (go_size; done)))), by go_size, by (repeat' (first | (with_reducible exact Below.refl _ _) | (with_reducible assumption) | (with_reducible refine Below.drew ?_) | (with_reducible refine below_drewN ?_ _) | ((with_reducible refine Below.alloc ?_ ?_ _); rotate_left; focus (go_size; done)) | ((with_reducible refine Below.setCell ?_ ?_ _); rotate_left; focus (go_size; done)) | ((with_reducible refine Below.trans ?_ (Below.mono (by with_reducible assumption) ?_)); rotate_left; focus (go_size; done))))⟩
        · have := HD1.out
          rw [Nat.div_div_eq_div_mul, ← Nat.pow_succ] at this
          exact (this.far (H1.out.below hb1 (by go_size)) (by decide) _ _).drew
        · rw [← lcells_step N n _ (word_here N n t GT.out)]
          refine (Bk.set_ ?_ _ _).drew
          exact H1.out.below hb1 (by go_size)
    · obtain rfl : n = 256 := by omega
      have c0 : wr.cell? ⟨w.heap.size + 1, 0, none⟩ = some (.int .u64 (wd (N % 2 ^ 256) 0)) := H1.out.cell 0 rfl
      have c1 : wr.cell? ⟨w.heap.size + 1, 1, none⟩ = some (.int .u64 (wd (N % 2 ^ 256) 1)) := H1.out.cell 1 rfl
      have c2 : wr.cell? ⟨w.heap.size + 1, 2, none⟩ = some (.int .u64 (wd (N % 2 ^ 256) 2)) := H1.out.cell 2 rfl
      have c3 : wr.cell? ⟨w.heap.size + 1, 3, none⟩ = some (.int .u64 (wd (N % 2 ^ 256) 3)) := H1.out.cell 3 rfl
      have d0 := b0.cell 0 rfl
      have d1 := b0.cell 1 rfl
      have d2 := b0.cell 2 rfl
      have d3 := b0.cell 3 rfl
      have e0 := b0.frozen 0
      have e1 := b0.frozen 1
      have e2 := b0.frozen 2
      have e3 := b0.frozen 3
      obtain ⟨ys, ⟨A2, c2', rfl, hc2, hs2⟩, hd2⟩ := HD.out
      have hz := hd2.zero_iff
      have hb : ((ys.length : Int) == 0) = decide (N < 2 ^ 256) := by
        rw [Bool.eq_iff_iff]
        simp only [beq_iff_eq, decide_eq_true_eq]
        constructor
        · intro h
          have h0 := hz.1 (by omega)
          exact Nat.lt_of_div_eq_zero (Nat.two_pow_pos _) h0
        · intro h
          have := hz.2 (Nat.div_eq_of_lt h)
          omega
      have HB : Hid (((ys.length : Int) == 0) = fitsL N) := Lib.hid hb
      clear hb hz hd2 hs2
      obtain ⟨M, hM⟩ : ∃ M, M = N % 2 ^ 256 := ⟨_, rfl⟩
      rw [← hM] at c0 c1 c2 c3
      have HM := Lib.hid hM
      clear hM H1
      go_wp2_with fail
      refine bodyPost_ret (by simp [results, Try.results101, go_sem, *]; try rfl) rfl ?_
      unfold RetLong
      rw [HB.out, HM.out]
      exact ⟨rfl, by (repeat' (first | (with_reducible exact Below.refl _ _) | (with_reducible assumption) | (with_reducible refine Below.drew ?_) | (with_reducible refine below_drewN ?_ _) | ((with_reducible refine Below.alloc ?_ ?_ _); rotate_left; focus (go_size; done)) | ((with_reducible refine Below.setCell ?_ ?_ _); rotate_left; focus (go_size; done)) | ((with_reducible refine Below.trans ?_ (Below.mono (by with_reducible assumption) ?_)); rotate_left; focus (go_size; done))))⟩

def RetWide (N : Nat) (w : World) (e : Ending) (w' : World) : Prop := e = .returned (.tuple #[.agg #[.int .u64 (wd (N % 2 ^ 256) 1), .int .u64 (wd (N % 2 ^ 256) 0)], .bool (decide (N < 2 ^ 128))]) ∧ Below w.heap.size w w'
theorem wide_flag (N : Nat) : (fitsL N && ((wd (N % 2 ^ 256) 2 == 0) && (wd (N % 2 ^ 256) 3 == 0))) = decide (N < 2 ^ 128) := by
  unfold fitsL
  rw [Bool.eq_iff_iff]
  simp only [Bool.and_eq_true, beq_iff_eq, decide_eq_true_eq]
  have h := wd_low4 (n := N % 2 ^ 256) (Nat.mod_lt _ (by decide))
  constructor
  · rintro ⟨h1, h2⟩
    have := h.1 h2
    rwa [Nat.mod_eq_of_lt h1] at this
  · intro h1
    have h2 : N < 2 ^ 256 := Nat.lt_trans h1 (by decide)
    refine ⟨h2, h.2 ?_⟩
    rwa [Nat.mod_eq_of_lt h2]
set_option maxHeartbeats 2000000 in
set_option maxRecDepth 100000 in
theorem to_any (N : Nat) (v : Value) (w : World) (hv : Dg w v N) (hN : Small N) :
    Calls Try.prog 90 #[v] w (RetWide N w) := by
  have HV := Lib.hid hv
  have HN := Lib.hid hN
  have HF := Lib.hid (wide_flag N)
  clear hv hN
  go_enter Try.func90, Try.ntmps90
  go_wp2_with fail
  refine (tolong_any N v _ (HV.out.below (by (repeat' (first | (with_reducible exact Below.refl _ _) | (with_reducible assumption) | (with_reducible refine Below.drew ?_) | (with_reducible refine below_drewN ?_ _) | ((with_reducible refine Below.alloc ?_ ?_ _); rotate_left; focus (go_size; done)) | ((with_reducible refine Below.setCell ?_ ?_ _); rotate_left; focus (go_size; done)) | ((with_reducible refine Below.trans ?_ (Below.mono (by with_reducible assumption) ?_)); rotate_left; focus (go_size; done)))))) HN.out).mono ?_
  rintro _ w1 ⟨rfl, hb⟩
  have hbs := hb.size
  simp only [World.size_alloc] at hbs
  obtain ⟨hbc, hbf⟩ := bcell hb
  obtain ⟨M, hM⟩ : ∃ M, M = N % 2 ^ 256 := ⟨_, rfl⟩
  rw [← hM] at HF ⊢
  have HM := Lib.hid hM
  clear hM
  (try have : w.heap.size < w1.heap.size := by omega); (try have : w.heap.size + 1 < w1.heap.size := by omega); (try have : w.heap.size + 1 + 1 < w1.heap.size := by omega); (try have : w.heap.size + 1 + 1 + 1 < w1.heap.size := by omega)
  generalize fitsL N = fl at *
  cases fl
  · go_wp2_with fail
    go_region
    all_goals
      go_wp2_with fail
      refine bodyPost_ret (by simp [results, Try.results90, go_sem, *]; try rfl) rfl ?_
      exact ⟨by rw [← HF.out, HM.out]; rfl, by (repeat' (first | (with_reducible exact Below.refl _ _) | (with_reducible assumption) | (with_reducible refine Below.drew ?_) | (with_reducible refine below_drewN ?_ _) | ((with_reducible refine Below.alloc ?_ ?_ _); rotate_left; focus (go_size; done)) | ((with_reducible refine Below.setCell ?_ ?_ _); rotate_left; focus (go_size; done)) | ((with_reducible refine Below.trans ?_ (Below.mono (by with_reducible assumption) ?_)); rotate_left; focus (go_size; done))))⟩
  · cases h2 : (wd M 2 == 0)
    · rw [h2] at HF
      go_wp2_with fail
      go_region
      all_goals
        go_wp2_with fail
        refine bodyPost_ret (by simp [results, Try.results90, go_sem, *]; try rfl) rfl ?_
        exact ⟨by rw [← HF.out, HM.out]; rfl, by (repeat' (first | (with_reducible exact Below.refl _ _) | (with_reducible assumption) | (with_reducible refine Below.drew ?_) | (with_reducible refine below_drewN ?_ _) | ((with_reducible refine Below.alloc ?_ ?_ _); rotate_left; focus (go_size; done)) | ((with_reducible refine Below.setCell ?_ ?_ _); rotate_left; focus (go_size; done)) | ((with_reducible refine Below.trans ?_ (Below.mono (by with_reducible assumption) ?_)); rotate_left; focus (go_size; done))))⟩
    · cases h3 : (wd M 3 == 0)
      all_goals
        rw [h2, h3] at HF
        go_wp2_with fail
        go_region
        all_goals
          go_wp2_with fail
          refine bodyPost_ret (by simp [results, Try.results90, go_sem, *]; try rfl) rfl ?_
          exact ⟨by rw [← HF.out, HM.out]; rfl, by (repeat' (first | (with_reducible exact Below.refl _ _) | (with_reducible assumption) | (with_reducible refine Below.drew ?_) | (with_reducible refine below_drewN ?_ _) | ((with_reducible refine Below.alloc ?_ ?_ _); rotate_left; focus (go_size; done)) | ((with_reducible refine Below.setCell ?_ ?_ _); rotate_left; focus (go_size; done)) | ((with_reducible refine Below.trans ?_ (Below.mono (by with_reducible assumption) ?_)); rotate_left; focus (go_size; done))))⟩
end Go.Proofs.Ythkgjodidkpaeaa

set_option linter.unusedSimpArgs false
set_option linter.unusedVariables false
namespace Go.Proofs.Ythkgjodidkpaeaa
open Go.RowKit

theorem mod_fit {N : Nat} (h : N < 2 ^ 128) : N % 2 ^ 256 = N := Nat.mod_eq_of_lt (Nat.lt_trans h (by decide))
theorem cmp_top {xs ys : List Int} (hx : Digs xs) (hy : Digs ys) (k : Nat) (h1 : k < xs.length) (h2 : k < ys.length) (he : xs.length = ys.length) (heq : xs.drop (k + 1) = ys.drop (k + 1)) (hlt : xs.getD k 0 < ys.getD k 0) : dval xs < dval ys := by
  have a := dval_append (xs.take k) (xs.drop k)
  have b := dval_append (ys.take k) (ys.drop k)
  rw [List.take_append_drop, List.length_take, Nat.min_eq_left (by omega), dval_drop xs k h1] at a
  rw [List.take_append_drop, List.length_take, Nat.min_eq_left (by omega), dval_drop ys k h2, ← heq] at b
  have ba := dval_bd (hx.take k)
  have bb := dval_bd (hy.take k)
  rw [List.length_take, Nat.min_eq_left (by omega)] at ba bb
  have hp := ten_pos k
  generalize dval (xs.drop (k + 1)) = T at *
  have hm : (10 : Int) ^ k * (xs.getD k 0 + 10 * T) + 10 ^ k ≤ 10 ^ k * (ys.getD k 0 + 10 * T) := by
    have : (10 : Int) ^ k * (xs.getD k 0 + 10 * T + 1) ≤ 10 ^ k * (ys.getD k 0 + 10 * T) := Int.mul_le_mul_of_nonneg_left (by omega) (by omega)
    rw [Int.mul_add, Int.mul_one] at this
    exact this
  omega
theorem cmp_long {xs ys : List Int} {n m : Nat} (hx : IsDg xs n) (hy : IsDg ys m) (h : xs.length < ys.length) : n < m := by
  have h1 := hx.lt_of_len (k := ys.length - 1) (by omega)
  have h2 := hy.le_of_ne (by intro e; subst e; simp at h)
  omega
set_option maxHeartbeats 1000000 in
theorem rcmp_any (n m : Nat) (u v : Value) (w : World) (hu : Dg w u n) (hv : Dg w v m) (hn : Small n) (hm : Small m) :
    Calls Try.prog 92 #[u, v] w fun e w' => e = .returned (.int .i64 (cmpN n m)) ∧ ∃ nn, w' = w.drewN nn := by
  obtain ⟨xs, ⟨A, c, rfl, hc, hs⟩, hd⟩ := hu
  obtain ⟨ys, ⟨B, d, rfl, hc2, hs2⟩, hd2⟩ := hv
  have hlx := pow_big hn hd
  have hly := pow_big hm hd2
  have HX := Lib.hid hd
  have HY := Lib.hid hd2
  have HS := Lib.hid hs
  have HT := Lib.hid hs2
  clear hd hd2 hs hs2 hn hm
  by_cases h1 : xs.length < ys.length
  · have e : cmpN n m = -1 := by have := cmp_long HX.out HY.out h1; unfold cmpN; rw [if_neg (by omega), if_pos this]
    rw [e]
    have g1 : ((xs.length : Int) == (ys.length : Int)) = false := by simp; omega
    clear e
    go_enter Try.func92, Try.ntmps92
    go_wp2_with fail
    go_ret
    exact ⟨rfl, 0, rfl⟩
  by_cases h2 : ys.length < xs.length
  · have e : cmpN n m = 1 := by have := cmp_long HY.out HX.out h2; unfold cmpN; rw [if_neg (by omega), if_neg (by omega)]
    rw [e]
    have g1 : ((xs.length : Int) == (ys.length : Int)) = false := by simp; omega
    clear e
    go_enter Try.func92, Try.ntmps92
    go_wp2_with fail
    go_ret
    exact ⟨rfl, 0, rfl⟩
  have hle : xs.length = ys.length := by omega
  have g1 : ((xs.length : Int) == (ys.length : Int)) = true := by simp; omega
  have HL := Lib.hid hle
  have hl1 : xs.length ≤ ys.length := by omega
  have hl2 : ys.length ≤ xs.length := by omega
  clear hle h1 h2
  go_enter Try.func92, Try.ntmps92
  go_wp2_with fail
  go_loopg [5] xs.length (fun k i wr => k ≤ xs.length ∧ i = .int .i64 ((k : Int) - 1) ∧ xs.drop k = ys.drop k ∧ ∃ nn, wr = w.drewN nn)
  case atStart =>
    exact ⟨Nat.le_refl _, rfl, by rw [List.drop_of_length_le (Nat.le_refl _), List.drop_of_length_le (by omega)], 0, rfl⟩
  case round =>
    obtain ⟨hk, rfl, heq, nn, rfl⟩ := hrel
    have HE := Lib.hid heq
    clear heq
    by_cases h0 : gk = 0
    · subst h0
      have hm : ¬ (0 : Int) ≤ ((0 : Nat) : Int) - 1 := by omega
      go_wp2_with fail
      go_ret
      refine ⟨?_, nn, rfl⟩
      have e := HE.out
      rw [List.drop_zero, List.drop_zero] at e
      have h1 := HX.out.2.2
      have h2 := HY.out.2.2
      rw [e] at h1
      have : n = m := by omega
      unfold cmpN
      rw [if_pos this]; rfl
    · obtain ⟨k, rfl⟩ : ∃ k, gk = k + 1 := ⟨gk - 1, by omega⟩
      obtain ⟨g, o, rfl, hg, hcell⟩ := HS.out.at_ (k := k) (by omega)
      obtain ⟨g2, o2, rfl, hg2, hcell2⟩ := HT.out.at_ (k := k) (by omega)
      obtain ⟨a, ha⟩ : ∃ a, a = xs.getD k 0 := ⟨_, rfl⟩
      obtain ⟨b, hb⟩ : ∃ b, b = ys.getD k 0 := ⟨_, rfl⟩
      rw [← ha] at hcell
      rw [← hb] at hcell2
      have HA := Lib.hid ha
      have HB := Lib.hid hb
      have hp : (0 : Int) < ((k + 1 : Nat) : Int) := by omega
      have hx : ((k + 1 : Nat) : Int) - 1 = (k : Int) := by omega
      have k0 : (0 : Int) ≤ (k : Int) := by omega
      have k1 : (k : Int) < (xs.length : Int) := by omega
      have k2 : (k : Int) < (ys.length : Int) := by omega
      clear h0 ha hb
      go_wp2_with fail
      go_quiet (fail)
      go_wp2_with fail
      · have hlt : a < b := by assumption
        go_ret
        refine ⟨?_, by (try simp only [World.drewN_drewN]); exact ⟨_, rfl⟩⟩
        have := cmp_top HX.out.1 HY.out.1 k (by omega) (by omega) HL.out HE.out (by rw [← HA.out, ← HB.out]; exact hlt)
        rw [HX.out.2.2, HY.out.2.2] at this
        unfold cmpN
        rw [if_neg (by omega), if_pos (by omega)]; rfl
      · go_quiet (fail)
        go_wp2_with fail
        · have hlt : b < a := by assumption
          go_ret
          refine ⟨?_, by (try simp only [World.drewN_drewN]); exact ⟨_, rfl⟩⟩
          have := cmp_top HY.out.1 HX.out.1 k (by omega) (by omega) HL.out.symm HE.out.symm (by rw [← HA.out, ← HB.out]; exact hlt)
          rw [HX.out.2.2, HY.out.2.2] at this
          unfold cmpN
          rw [if_neg (by omega), if_neg (by omega)]; rfl
        · go_roundg k
          case measure => omega
          case rel =>
            refine ⟨by omega, rfl, ?_, by (try simp only [World.drewN_drewN]); exact ⟨_, rfl⟩⟩
            have hab : a = b := by omega
            rw [List.drop_eq_getElem_cons (by omega), List.drop_eq_getElem_cons (l := ys) (by omega), HE.out, ← getD_lt _ _ (by omega), ← getD_lt _ _ (by omega), ← HA.out, ← HB.out, hab]
end Go.Proofs.Ythkgjodidkpaeaa

set_option linter.unusedSimpArgs false
set_option linter.unusedVariables false
namespace Go.Proofs.Ythkgjodidkpaeaa
open Go.RowKit

theorem zrow_own (w : World) (n : Nat) (hn : n ≤ 1000000) : (w.alloc (.cells (zrow n).toArray 3)).ownsRow w.heap.size 3 1 (.slice (some ⟨w.heap.size, 0, none⟩) n n) (List.replicate n (0 : Int)).length ((List.replicate n (0 : Int)).map (Value.int .i64)) := by
  refine ⟨by simp, .inr ⟨w.heap.size, n, (zrow n).toArray, by simp, Nat.le_refl _, heap_alloc_new w _, by simp, by unfold maxLen; omega, by simp [zrow], by simp [zrow]⟩⟩
theorem IsDg.shift {l : List Int} {n : Nat} (h : IsDg l n) (hne : l ≠ []) (k : Nat) : IsDg (List.replicate k 0 ++ l) (n * 10 ^ k) := by
  refine ⟨(Digs.zeros k).append h.1, ?_, ?_⟩
  · have ht := h.2.1
    obtain ⟨i, x, rfl⟩ : ∃ i x, l = i ++ [x] := ⟨l.dropLast, l.getLast hne, (List.dropLast_concat_getLast hne).symm⟩
    unfold Top at *
    rw [← List.append_assoc]
    simpa using ht
  · rw [dval_append, dval_replicate, List.length_replicate, h.2.2, Int.zero_add, Int.natCast_mul, Int.natCast_pow, Int.mul_comm]; rfl
set_option maxHeartbeats 1000000 in
theorem shift_any (N k : Nat) (hk : k ≤ 1000) (v : Value) (w : World) (hv : Dg w v N) (hN : Small N) :
    Calls Try.prog 91 #[v, .int .i64 k] w (RetDg (N * 10 ^ k) w) := by
  obtain ⟨xs, ⟨A, c, rfl, hc, hs⟩, hd⟩ := hv
  have hlen := pow_big hN hd
  by_cases hx : xs = []
  · subst hx
    have hz : N = 0 := hd.zero_iff.1 rfl
    subst hz
    go_enter Try.func91, Try.ntmps91
    go_wp2_with fail
    go_ret
    exact ⟨_, rfl, ⟨[], ⟨none, 0, rfl, Nat.le_refl _, fun h => absurd rfl h⟩, by rw [Nat.zero_mul]; exact IsDg.nil⟩, by (repeat' (first | (with_reducible exact Below.refl _ _) | (with_reducible assumption) | (with_reducible refine Below.drew ?_) | (with_reducible refine below_drewN ?_ _) | ((with_reducible refine Below.alloc ?_ ?_ _); rotate_left; focus (go_size; done)) | ((with_reducible refine Below.setCell ?_ ?_ _); rotate_left; focus (go_size; done)) | ((with_reducible refine Below.trans ?_ (Below.mono (by with_reducible assumption) ?_)); rotate_left; focus (go_size; done))))⟩
  · have hpos : 0 < xs.length := List.length_pos_iff.2 hx
    have g1 : ((xs.length : Int) == 0) = false := by simp; exact hx
    have HD := Lib.hid (hd.shift hx k)
    have HS := Lib.hid hs
    have hmk := fun W => make_ints k (by omega) W
    have k0 : (0 : Int) ≤ (k : Int) := by omega
    clear hd hs hN hx
    go_enter Try.func91, Try.ntmps91
    go_wp2_with (at_builtin; refine wpList_join rfl (.tmp 9) (.tmp 10) rfl w.heap.size (.slice (some ⟨w.heap.size, 0, none⟩) k k) (List.replicate k 0) rfl (zrow_own w k (by omega)) A c xs rfl ?hs ?hl ?hb ?_; rotate_left 3; intro v1 w1 hown1 hg1)
    case hs => exact HS.out.below (by (repeat' (first | (with_reducible exact Below.refl _ _) | (with_reducible assumption) | (with_reducible refine Below.drew ?_) | (with_reducible refine below_drewN ?_ _) | ((with_reducible refine Below.alloc ?_ ?_ _); rotate_left; focus (go_size; done)) | ((with_reducible refine Below.setCell ?_ ?_ _); rotate_left; focus (go_size; done)) | ((with_reducible refine Below.trans ?_ (Below.mono (by with_reducible assumption) ?_)); rotate_left; focus (go_size; done)))))
    case hl => rw [List.length_replicate]; omega
    case hb => go_size
    go_ret
    exact ⟨v1, rfl, ⟨_, IsSl.of_own hown1, HD.out⟩, below_push ((Below.refl _ _).alloc (Nat.le_refl _) _) (zrow_own w k (by omega)) hg1 (by go_size)⟩

theorem dval_take_any (l : List Int) (n : Nat) : dval (l.take (n + 1)) = dval (l.take n) + 10 ^ n * l.getD n 0 := by
  by_cases h : n < l.length
  · exact dval_take_succ l n h
  · rw [List.take_of_length_le (by omega), List.take_of_length_le (by omega), List.getD_eq_getElem?_getD, List.getElem?_eq_none (by omega)]
    simp
theorem getD_past (l : List Int) (n : Nat) (h : l.length ≤ n) : l.getD n 0 = 0 := by
  rw [List.getD_eq_getElem?_getD, List.getElem?_eq_none h]; rfl
theorem plus_step (ds : List Int) (cc s : Int) (n : Nat) (xs ys : List Int) (hv : dval ds + 10 ^ n * cc = dval (xs.take n) + dval (ys.take n)) (hs : s = cc + xs.getD n 0 + ys.getD n 0) (hl : ds.length = n) :
    dval (ds ++ [s % 10]) + 10 ^ (n + 1) * (s / 10) = dval (xs.take (n + 1)) + dval (ys.take (n + 1)) := by
  rw [dval_snoc, hl, dval_take_any, dval_take_any, Int.pow_succ]
  have e1 := carry_step (10 ^ n) s
  have e2 : (10 : Int) ^ n * s = 10 ^ n * cc + 10 ^ n * xs.getD n 0 + 10 ^ n * ys.getD n 0 := by rw [hs, Int.mul_add, Int.mul_add]
  omega
set_option maxHeartbeats 2000000 in
theorem plus_any (N M : Nat) (u v : Value) (w : World) (hu : Dg w u N) (hv : Dg w v M) (hN : Small N) (hM : Small M) :
    Calls Try.prog 71 #[u, v] w (RetDg (N + M) w) := by
  obtain ⟨xs, ⟨A, c, rfl, hc, hs⟩, hd⟩ := hu
  obtain ⟨ys, ⟨B, d, rfl, hc2, hs2⟩, hd2⟩ := hv
  have hlx := pow_big hN hd
  have hly := pow_big hM hd2
  have HX := Lib.hid hd
  have HY := Lib.hid hd2
  have HS := Lib.hid hs
  have HT := Lib.hid hs2
  obtain ⟨m, hm1, hm2, hm3⟩ : ∃ m, xs.length ≤ m ∧ ys.length ≤ m ∧ m ≤ 1000 := ⟨max xs.length ys.length, Nat.le_max_left _ _, Nat.le_max_right _ _, Nat.max_le.2 ⟨hlx, hly⟩⟩
  obtain ⟨m', hm4⟩ : ∃ m', m' = max xs.length ys.length := ⟨_, rfl⟩
  clear hd hd2 hs hs2 hN hM m hm1 hm2 hm3
  have hm1 : xs.length ≤ m' := by rw [hm4]; exact Nat.le_max_left _ _
  have hm2 : ys.length ≤ m' := by rw [hm4]; exact Nat.le_max_right _ _
  have hm3 : m' ≤ 1000 := by rw [hm4]; exact Nat.max_le.2 ⟨hlx, hly⟩
  clear hm4
  go_enter Try.func71, Try.ntmps71
  go_wp2_with fail
  go_loopg [5, 6, 7] (m' + 1) (fun k out cv i wr => ∃ (n : Nat) (cc : Int) (ds : List Int), k + n = m' + 1 ∧ i = .int .i64 n ∧ cv = .int .i64 cc ∧ 0 ≤ cc ∧ cc ≤ 1 ∧ (n ≤ m' ∨ cc = 0) ∧
    wr.ownsRow w.heap.size 3 1 out ds.length (ds.map (Value.int .i64)) ∧ ds.length = n ∧ Digs ds ∧ dval ds + 10 ^ n * cc = dval (xs.take n) + dval (ys.take n) ∧ Below w.heap.size w wr)
  case atStart =>
    exact ⟨0, 0, [], by omega, rfl, rfl, by decide, by decide, .inl (by omega), World.ownsRow_nil _ _ _ _, rfl, Digs.nil, by simp [dval], Below.refl _ _⟩
  case round =>
    obtain ⟨n, cc, ds, hk, rfl, rfl, hc0, hc1, hnm, hown, hdl, hdd, hval, hbel⟩ := hrel
    have HK := Lib.hid hk
    have HL := Lib.hid hdl
    have HDD := Lib.hid hdd
    have HV := Lib.hid hval
    have HNM := Lib.hid hnm
    have hn : n ≤ m' + 1 := by omega
    have hwr := hbel.size
    clear hk hdl hdd hval hnm
    obtain ⟨p, hp⟩ : ∃ p, p = xs.getD n 0 := ⟨_, rfl⟩
    obtain ⟨q, hq⟩ : ∃ q, q = ys.getD n 0 := ⟨_, rfl⟩
    have hpb := HX.out.get n
    have hqb := HY.out.get n
    rw [← hp] at hpb
    rw [← hq] at hqb
    obtain ⟨p0, p9⟩ := hpb
    obtain ⟨q0, q9⟩ := hqb
    have HA := Lib.hid hp
    have HB := Lib.hid hq
    by_cases h1 : n < xs.length
    · obtain ⟨g, o, rfl, hg, hcell⟩ := HS.out.at_ h1
      have hcella := (hbel.cell (p := ⟨g, o + n, none⟩) hg).trans hcell
      rw [← hp] at hcella
      by_cases h2 : n < ys.length
      · obtain ⟨g2, o2, rfl, hg2, hcell2⟩ := HT.out.at_ h2
        have hcellb := (hbel.cell (p := ⟨g2, o2 + n, none⟩) hg2).trans hcell2
        rw [← hq] at hcellb
        clear hp hq hcell hcell2
        go_wp2_with (at_builtin; refine wpList_push rfl (.tmp 46) (.tmp 49) rfl w.heap.size u5 ds rfl (hown.alloc _) wr.heap.size ((cc + p + q) % 10) rfl ?hc ?hl ?hb ?_; rotate_left 3; intro v1 w1 hown1 hg1)
        case hc => simp [go_sem]
        case hl => have := HL.out; omega
        case hb => go_size
        go_roundg (gk - 1)
        case measure => have := HK.out; omega
        case rel =>
          refine ⟨n + 1, (cc + p + q) / 10, ds ++ [(cc + p + q) % 10], by have := HK.out; omega, by go_num, rfl, by omega, by omega, .inl (by omega), hown1, by rw [List.length_append, HL.out]; rfl, HDD.out.snoc (by omega) (by omega), ?_, below_push (hbel.alloc (by go_size) _) (hown.alloc _) hg1 (by go_size)⟩
          exact plus_step ds cc ((cc + p + q)) n xs ys HV.out (by have h1 := HA.out; have h2 := HB.out; omega) HL.out
      · have HQ : Hid (q = 0) := Lib.hid (by rw [hq]; exact getD_past ys n (by omega))
        clear hp hq hcell
        go_wp2_with (at_builtin; refine wpList_push rfl (.tmp 46) (.tmp 49) rfl w.heap.size u5 ds rfl (hown.alloc _) wr.heap.size ((cc + p) % 10) rfl ?hc ?hl ?hb ?_; rotate_left 3; intro v1 w1 hown1 hg1)
        case hc => simp [go_sem]
        case hl => have := HL.out; omega
        case hb => go_size
        go_roundg (gk - 1)
        case measure => have := HK.out; omega
        case rel =>
          refine ⟨n + 1, (cc + p) / 10, ds ++ [(cc + p) % 10], by have := HK.out; omega, by go_num, rfl, by omega, by omega, .inl (by omega), hown1, by rw [List.length_append, HL.out]; rfl, HDD.out.snoc (by omega) (by omega), ?_, below_push (hbel.alloc (by go_size) _) (hown.alloc _) hg1 (by go_size)⟩
          exact plus_step ds cc ((cc + p)) n xs ys HV.out (by have h1 := HA.out; have h2 := HB.out; have h3 := HQ.out; omega) HL.out
    · have HP : Hid (p = 0) := Lib.hid (by rw [hp]; exact getD_past xs n (by omega))
      by_cases h2 : n < ys.length
      · obtain ⟨g2, o2, rfl, hg2, hcell2⟩ := HT.out.at_ h2
        have hcellb := (hbel.cell (p := ⟨g2, o2 + n, none⟩) hg2).trans hcell2
        rw [← hq] at hcellb
        clear hp hq hcell2
        go_wp2_with (at_builtin; refine wpList_push rfl (.tmp 46) (.tmp 49) rfl w.heap.size u5 ds rfl (hown.alloc _) wr.heap.size ((cc + q) % 10) rfl ?hc ?hl ?hb ?_; rotate_left 3; intro v1 w1 hown1 hg1)
        case hc => simp [go_sem]
        case hl => have := HL.out; omega
        case hb => go_size
        go_roundg (gk - 1)
        case measure => have := HK.out; omega
        case rel =>
          refine ⟨n + 1, (cc + q) / 10, ds ++ [(cc + q) % 10], by have := HK.out; omega, by go_num, rfl, by omega, by omega, .inl (by omega), hown1, by rw [List.length_append, HL.out]; rfl, HDD.out.snoc (by omega) (by omega), ?_, below_push (hbel.alloc (by go_size) _) (hown.alloc _) hg1 (by go_size)⟩
          exact plus_step ds cc ((cc + q)) n xs ys HV.out (by have h1 := HA.out; have h2 := HB.out; have h3 := HP.out; omega) HL.out
      · have HQ : Hid (q = 0) := Lib.hid (by rw [hq]; exact getD_past ys n (by omega))
        clear hp hq
        have hcc : cc = 0 ∨ cc = 1 := by omega
        rcases hcc with rfl | rfl
        · go_wp2_with fail
          refine (cut_any ds _ _ (IsSl.of_own hown) HDD.out (by have := HL.out; omega)).mono ?_
          rintro _ w2 ⟨v2, rfl, hdg, hb2⟩
          have HD := Lib.hid hdg
          clear hdg
          go_wp2_with fail
          go_ret
          refine ⟨v2, rfl, ?_, by (repeat' (first | (with_reducible exact Below.refl _ _) | (with_reducible assumption) | (with_reducible refine Below.drew ?_) | (with_reducible refine below_drewN ?_ _) | ((with_reducible refine Below.alloc ?_ ?_ _); rotate_left; focus (go_size; done)) | ((with_reducible refine Below.setCell ?_ ?_ _); rotate_left; focus (go_size; done)) | ((with_reducible refine Below.trans ?_ (Below.mono (by with_reducible assumption) ?_)); rotate_left; focus (go_size; done))))⟩
          have e := HV.out
          rw [List.take_of_length_le (by omega), List.take_of_length_le (by omega), HX.out.2.2, HY.out.2.2] at e
          have e2 : (dval ds).toNat = N + M := by omega
          rw [← e2]
          exact HD.out
        · have hnm : n = m' ∨ n < m' := by have := HNM.out; omega
          go_wp2_with (at_builtin; refine wpList_push rfl (.tmp 46) (.tmp 49) rfl w.heap.size u5 ds rfl (hown.alloc _) wr.heap.size 1 rfl ?hc ?hl ?hb ?_; rotate_left 3; intro v1 w1 hown1 hg1)
          case hc => simp [go_sem]
          case hl => have := HL.out; omega
          case hb => go_size
          go_roundg (gk - 1)
          case measure => have := HK.out; omega
          case rel =>
            refine ⟨n + 1, 0, ds ++ [1], by have := HK.out; omega, by go_num, rfl, by decide, by decide, .inr rfl, hown1, by rw [List.length_append, HL.out]; rfl, HDD.out.snoc (by decide) (by decide), ?_, below_push (hbel.alloc (by go_size) _) (hown.alloc _) hg1 (by go_size)⟩
            exact plus_step ds 1 1 n xs ys HV.out (by have h1 := HA.out; have h2 := HB.out; have h3 := HQ.out; have h4 := HP.out; omega) HL.out
end Go.Proofs.Ythkgjodidkpaeaa

set_option linter.unusedSimpArgs false
set_option linter.unusedVariables false
namespace Go.Proofs.Ythkgjodidkpaeaa
open Go.RowKit

theorem own_bk {w : World} {base : Nat} {v : Value} {xs : List Int} (h : w.ownsRow base 3 1 v xs.length (xs.map (Value.int .i64))) (hne : xs ≠ []) :
    ∃ g cap rest, v = .slice (some ⟨g, 0, none⟩) xs.length cap ∧ base ≤ g ∧ Bk w g 3 (xs.map (Value.int .i64) ++ rest) ∧ xs.length ≤ cap := by
  rcases h.2 with ⟨_, hn⟩ | ⟨g, cap, cur, rfl, hg, hh, r1, r2, r3, r4⟩
  · exact absurd (List.length_eq_zero_iff.1 hn) hne
  · refine ⟨g, cap, cur.toList.drop xs.length, rfl, hg, ?_, r1⟩
    unfold Bk
    rw [Nat.mul_one] at r4
    rw [← r4, List.take_append_drop]
    simpa using hh
theorem bk_at {w : World} {g : Nat} {zs : List Int} {rest : List Value} (h : Bk w g 3 (zs.map (Value.int .i64) ++ rest)) {k : Nat} (hk : k < zs.length) : w.cell? ⟨g, k, none⟩ = some (.int .i64 (zs.getD k 0)) := by
  refine h.cell _ ?_
  rw [List.getElem?_append_left (by simpa using hk), List.getElem?_map, List.getElem?_eq_getElem hk, getD_lt _ _ hk]; rfl
theorem bk_set {w : World} {g : Nat} {zs : List Int} {rest : List Value} (h : Bk w g 3 (zs.map (Value.int .i64) ++ rest)) {k : Nat} (hk : k < zs.length) (x : Int) : Bk (w.setCell ⟨g, k, none⟩ (.int .i64 x)) g 3 ((zs.set k x).map (Value.int .i64) ++ rest) := by
  have := h.set_ k (.int .i64 x)
  rwa [List.set_append_left _ _ (by simpa using hk), ← List.map_set] at this
theorem IsSl.of_bk2 {w : World} {g : Nat} {ds : List Int} {rest : List Value} {n c : Nat} (h : Bk w g 3 (ds.map (Value.int .i64) ++ rest)) (hn : ds.length = n) (hc : n ≤ c) : IsSl w (.slice (some ⟨g, 0, none⟩) n c) ds := by
  subst hn
  refine ⟨_, c, rfl, hc, fun hne => ⟨g, 0, _, rfl, h, fun j hj => ?_⟩⟩
  rw [Nat.zero_add, List.getElem?_append_left (by simpa using hj), List.getElem?_map, List.getElem?_eq_getElem hj, getD_lt _ _ hj]; rfl
theorem getD_set (l : List Int) (k j : Nat) (x : Int) (hk : k < l.length) : (l.set k x).getD j 0 = if j = k then x else l.getD j 0 := by
  rw [List.getD_eq_getElem?_getD, List.getElem?_set]
  by_cases h : j = k
  · subst h; rw [if_pos rfl, if_pos rfl, if_pos hk]; rfl
  · rw [if_neg (fun e => h e.symm), if_neg h, List.getD_eq_getElem?_getD]
theorem dval_set (l : List Int) (k : Nat) (x : Int) (hk : k < l.length) : dval (l.set k x) = dval l + 10 ^ k * (x - l.getD k 0) := by
  have a := dval_append (l.take k) (l.drop k)
  rw [List.take_append_drop, List.length_take, Nat.min_eq_left (by omega), dval_drop l k hk] at a
  have b := dval_append ((l.set k x).take k) ((l.set k x).drop k)
  rw [List.take_append_drop, List.length_take, List.length_set, Nat.min_eq_left (by omega), drop_set _ _ _ hk, List.take_set_of_le (by omega)] at b
  rw [a, b]
  show _ + 10 ^ k * (x + 10 * dval (l.drop (k + 1))) = _
  rw [Int.mul_add, Int.mul_add, Int.mul_sub]
  omega
theorem len_mono {xs ys : List Int} {n m : Nat} (hx : IsDg xs n) (hy : IsDg ys m) (h : m ≤ n) : ys.length ≤ xs.length := by
  rcases Nat.lt_or_ge xs.length ys.length with hlt | hge
  · have := cmp_long hx hy hlt; omega
  · exact hge
/-- behind the second loop all are digits: the value is not below nought -/
theorem digs_end (zs : List Int) (L : Nat) (hL : zs.length = L + 1) (h0 : ∀ j, j < L → 0 ≤ zs.getD j 0) (h9 : ∀ j, zs.getD j 0 ≤ 9) (hv : 0 ≤ dval zs) : Digs zs := by
  have hd : Digs (zs.take L) := by
    intro d hd
    obtain ⟨i, hi, rfl⟩ := List.getElem_of_mem hd
    rw [List.length_take] at hi
    rw [List.getElem_take, ← getD_lt _ _ (by omega)]
    exact ⟨h0 i (by omega), h9 i⟩
  have e := dval_take_succ zs L (by omega)
  rw [List.take_of_length_le (by omega)] at e
  have hb := dval_bd hd
  rw [List.length_take, Nat.min_eq_left (by omega)] at hb
  have htop : 0 ≤ zs.getD L 0 := by
    rcases Int.lt_or_le (zs.getD L 0) 0 with hlt | hge
    · have hm : (10 : Int) ^ L * zs.getD L 0 ≤ 10 ^ L * (-1) := Int.mul_le_mul_of_nonneg_left (by omega) (Int.le_of_lt (ten_pos L))
      omega
    · exact hge
  intro d hd'
  obtain ⟨i, hi, rfl⟩ := List.getElem_of_mem hd'
  rw [← getD_lt _ _ hi]
  by_cases hi2 : i < L
  · exact ⟨h0 i hi2, h9 i⟩
  · have : i = L := by omega
    subst this
    exact ⟨htop, h9 i⟩
end Go.Proofs.Ythkgjodidkpaeaa

set_option linter.unusedSimpArgs false
set_option linter.unusedVariables false
namespace Go.Proofs.Ythkgjodidkpaeaa
open Go.RowKit

theorem empty_own (w : World) : (w.alloc (.cells #[] 3)).ownsRow w.heap.size 3 1 (.slice (some ⟨w.heap.size, 0, none⟩) 0 0) ([] : List Int).length (([] : List Int).map (Value.int .i64)) :=
  World.ownsRow_made w #[] 0 (Nat.le_refl _) (by unfold maxLen; omega) (by simp)
/-- the digits of n, in memory of its own -/
def RetNew (n : Nat) (w : World) (e : Ending) (w' : World) : Prop := ∃ v, e = .returned v ∧ New w.heap.size v ∧ Dg w' v n ∧ Below w.heap.size w w'
set_option maxHeartbeats 4000000 in
theorem rless_new (N M : Nat) (hle : M ≤ N) (u v : Value) (w : World) (hu : Dg w u N) (hv : Dg w v M) (hN : Small N) (hM : Small M) :
    Calls Try.prog 83 #[u, v] w (RetNew (N - M) w) := by
  obtain ⟨xs, ⟨A, c, rfl, hc, hs⟩, hd⟩ := hu
  obtain ⟨ys, ⟨B, d, rfl, hc2, hs2⟩, hd2⟩ := hv
  have hlx := pow_big hN hd
  have hly := len_mono hd hd2 hle
  have HX := Lib.hid hd
  have HY := Lib.hid hd2
  have HS := Lib.hid hs
  have HT := Lib.hid hs2
  have HLE := Lib.hid hle
  clear hd hd2 hs hs2 hN hM hle
  go_enter Try.func83, Try.ntmps83
  go_wp2_with (at_builtin; refine wpList_join rfl (.tmp 8) (.tmp 9) rfl w.heap.size (.slice (some ⟨w.heap.size, 0, none⟩) 0 0) [] rfl (empty_own w) A c xs rfl ?hs ?hl ?hb ?_; rotate_left 3; intro v1 w1 hown1 hg1)
  case hs => exact HS.out.below (by (repeat' (first | (with_reducible exact Below.refl _ _) | (with_reducible assumption) | (with_reducible refine Below.drew ?_) | (with_reducible refine below_drewN ?_ _) | ((with_reducible refine Below.alloc ?_ ?_ _); rotate_left; focus (go_size; done)) | ((with_reducible refine Below.setCell ?_ ?_ _); rotate_left; focus (go_size; done)) | ((with_reducible refine Below.trans ?_ (Below.mono (by with_reducible assumption) ?_)); rotate_left; focus (go_size; done)))))
  case hl => simp; omega
  case hb => go_size
  have hbel1 : Below w.heap.size w w1 := below_push ((Below.refl _ _).alloc (Nat.le_refl _) _) (empty_own w) hg1 (by go_size)
  clear hg1
  rw [List.nil_append] at hown1
  by_cases hx : xs = []
  · subst hx
    have hy : ys = [] := List.length_eq_zero_iff.1 (by simpa using hly)
    subst hy
    have h1 := HX.out.zero_iff.1 rfl
    have hnew := New.own hown1
    have hsl := IsSl.of_own hown1
    obtain ⟨A1, c1, rfl, hc1, hs1⟩ := hsl
    have HNW := Lib.hid hnew
    clear hnew
    have HS1 := Lib.hid hs1
    refine wp_loop_rounds 1 ?_
    rw [rounds_succ]
    go_wp2_with fail
    refine wp_loop_rounds 1 ?_
    rw [rounds_succ]
    go_wp2_with fail
    refine (cut_at [] A1 c1 _ hc1 HS1.out Digs.nil (by simp)).mono ?_
    rintro _ w2 ⟨k2, c2, rfl, hdg, hb2⟩
    have HD := Lib.hid hdg
    have hbs := hbel1.size
    clear hdg
    go_wp2_with fail
    go_ret
    refine ⟨_, rfl, HNW.out.same _ _, ?_, by (repeat' (first | (with_reducible exact Below.refl _ _) | (with_reducible assumption) | (with_reducible refine Below.drew ?_) | (with_reducible refine below_drewN ?_ _) | ((with_reducible refine Below.alloc ?_ ?_ _); rotate_left; focus (go_size; done)) | ((with_reducible refine Below.setCell ?_ ?_ _); rotate_left; focus (go_size; done)) | ((with_reducible refine Below.trans ?_ (Below.mono (by with_reducible assumption) ?_)); rotate_left; focus (go_size; done))))⟩
    have e : N - M = (dval []).toNat := by rw [h1, Nat.zero_sub]; rfl
    rw [e]
    exact HD.out
  · obtain ⟨g, cap, rest, rfl, hg, hbk, hcap⟩ := own_bk hown1 hx
    have HB := Lib.hid hbk
    have hglt := hbk.lt
    have hpos : 0 < xs.length := List.length_pos_iff.2 hx
    clear hown1 hbk hx
    go_loopg [6] ys.length (fun k i wr => ∃ (n : Nat) (zs : List Int), k + n = ys.length ∧ i = .int .i64 n ∧ zs.length = xs.length ∧ Bk wr g 3 (zs.map (Value.int .i64) ++ rest) ∧
      (∀ j, -9 ≤ zs.getD j 0 ∧ zs.getD j 0 ≤ 9) ∧ zs.drop n = xs.drop n ∧ dval zs = dval xs - dval (ys.take n) ∧ w1.heap.size ≤ wr.heap.size ∧ Below w.heap.size w wr)
    case atStart =>
      refine ⟨0, xs, by omega, rfl, rfl, HB.out, fun j => ?_, rfl, by simp [dval], Nat.le_refl _, hbel1⟩
      have := HX.out.get j
      omega
    case round =>
      obtain ⟨n, zs, hk, rfl, hzl, hbk, hbd, hdr, hval, hsz, hbel⟩ := hrel
      have HK := Lib.hid hk
      have HZ := Lib.hid hzl
      have HB2 := Lib.hid hbk
      have HBD := Lib.hid hbd
      have HDR := Lib.hid hdr
      have HV := Lib.hid hval
      have hn : n ≤ ys.length := by omega
      clear hk hzl hbk hbd hdr hval
      by_cases hlt : n < ys.length
      · obtain ⟨g2, o2, rfl, hg2, hcell⟩ := HT.out.at_ hlt
        have hcell2 := (hbel.cell (p := ⟨g2, o2 + n, none⟩) hg2).trans hcell
        have hnz : n < zs.length := by have := HZ.out; omega
        have hcz := bk_at HB2.out hnz
        have hfz := HB2.out.frozen n
        have hzx : zs.getD n 0 = xs.getD n 0 := by
          have e := HDR.out
          rw [List.drop_eq_getElem_cons hnz, List.drop_eq_getElem_cons (l := xs) (by omega)] at e
          injection e with e _
          rw [getD_lt _ _ hnz, getD_lt _ _ (by omega), e]
        obtain ⟨p, hp⟩ : ∃ p, p = zs.getD n 0 := ⟨_, rfl⟩
        obtain ⟨q, hq⟩ : ∃ q, q = ys.getD n 0 := ⟨_, rfl⟩
        have hpb := HX.out.get n
        have hqb := HY.out.get n
        rw [← hzx, ← hp] at hpb
        rw [← hq] at hqb
        rw [← hp] at hcz
        rw [← hq] at hcell2
        obtain ⟨p0, p9⟩ := hpb
        obtain ⟨q0, q9⟩ := hqb
        have HP := Lib.hid hp
        have HQ := Lib.hid hq
        have n0 : (0 : Int) ≤ (n : Int) := by omega
        have n1 : (n : Int) < (xs.length : Int) := by omega
        have n2 : (n : Int) < (ys.length : Int) := by omega
        clear hp hq hcell hzx hnz
        go_wp2_with fail
        go_region
        go_wp2_with fail
        go_roundg (gk - 1)
        case measure => have := HK.out; omega
        case rel =>
          have hnz : n < zs.length := by have := HZ.out; omega
          refine ⟨n + 1, zs.set n (p - q), by have := HK.out; omega, by go_num, by rw [List.length_set]; exact HZ.out, (bk_set HB2.out hnz _).drew, ?_, ?_, ?_, by go_size, by (repeat' (first | (with_reducible exact Below.refl _ _) | (with_reducible assumption) | (with_reducible refine Below.drew ?_) | (with_reducible refine below_drewN ?_ _) | ((with_reducible refine Below.alloc ?_ ?_ _); rotate_left; focus (go_size; done)) | ((with_reducible refine Below.setCell ?_ ?_ _); rotate_left; focus (go_size; done)) | ((with_reducible refine Below.trans ?_ (Below.mono (by with_reducible assumption) ?_)); rotate_left; focus (go_size; done))))⟩
          · intro j
            rw [getD_set _ _ _ _ hnz]
            split
            · omega
            · exact HBD.out j
          · rw [List.drop_set_of_lt (by omega)]
            have e := HDR.out
            rw [List.drop_eq_getElem_cons hnz, List.drop_eq_getElem_cons (l := xs) (by have := HZ.out; omega)] at e
            injection e
          · rw [dval_set _ _ _ hnz, dval_take_any, ← HP.out, ← HQ.out, HV.out]
            have e : (10 : Int) ^ n * (p - q - p) = - (10 ^ n * q) := by rw [show p - q - p = -q by omega, Int.mul_neg]
            omega
      · obtain rfl : n = ys.length := by omega
        go_wp2_with fail
        obtain ⟨wo, hwo⟩ : ∃ wo : World, wo = wr := ⟨_, rfl⟩
        go_loopg [7] (xs.length - 1) (fun k i wr => ∃ (n : Nat) (zs : List Int), k + n = xs.length - 1 ∧ i = .int .i64 n ∧ zs.length = xs.length ∧ Bk wr g 3 (zs.map (Value.int .i64) ++ rest) ∧
          (∀ j, zs.getD j 0 ≤ 9) ∧ (∀ j, j < n → 0 ≤ zs.getD j 0) ∧ -10 ≤ zs.getD n 0 ∧ (∀ j, n < j → -9 ≤ zs.getD j 0) ∧ dval zs = (N : Int) - M ∧ w1.heap.size ≤ wr.heap.size ∧ Below w.heap.size w wr)
        case atStart =>
          refine ⟨0, zs, by omega, rfl, HZ.out, HB2.out, fun j => (HBD.out j).2, fun j hj => absurd hj (by omega), by have := HBD.out 0; omega, fun j _ => (HBD.out j).1, ?_, hsz, hbel⟩
          have := HV.out
          rw [List.take_length, HX.out.2.2, HY.out.2.2] at this
          exact this
        case round =>
          obtain ⟨n, zs, hk, rfl, hzl, hbk, h9, h0, hm10, hm9, hval, hsz, hbel⟩ := hrel
          have HK := Lib.hid hk
          have HZ := Lib.hid hzl
          have HB2 := Lib.hid hbk
          have H9 := Lib.hid h9
          have H0 := Lib.hid h0
          have HM9 := Lib.hid hm9
          have HV := Lib.hid hval
          have hn : n ≤ xs.length - 1 := by omega
          clear hk hzl hbk h9 h0 hm9 hval
          by_cases hlt : n + 1 < xs.length
          · have hnz : n < zs.length := by have := HZ.out; omega
            have hnz2 : n + 1 < zs.length := by have := HZ.out; omega
            have hcz := bk_at HB2.out hnz
            have hcz2 := bk_at HB2.out hnz2
            have hfz := HB2.out.frozen n
            have hfz2 := HB2.out.frozen (n + 1)
            obtain ⟨p, hp⟩ : ∃ p, p = zs.getD n 0 := ⟨_, rfl⟩
            obtain ⟨q, hq⟩ : ∃ q, q = zs.getD (n + 1) 0 := ⟨_, rfl⟩
            have p9 := H9.out n
            have q9 := H9.out (n + 1)
            have qm := HM9.out (n + 1) (by omega)
            rw [← hp] at hcz p9 hm10
            rw [← hq] at hcz2 q9 qm
            have HP := Lib.hid hp
            have HQ := Lib.hid hq
            have n0 : (0 : Int) ≤ (n : Int) := by omega
            have n1 : (n : Int) < (xs.length : Int) := by omega
            have n2 : (n : Int) + 1 < (xs.length : Int) := by omega
            clear hp hq hnz hnz2
            by_cases hneg : p < 0
            · go_wp2_with fail
              go_roundg (gk - 1)
              case measure => have := HK.out; omega
              case rel =>
                have hnz : n < zs.length := by have := HZ.out; omega
                have hnz2 : n + 1 < zs.length := by have := HZ.out; omega
                have hnz3 : n + 1 < (zs.set n (p + 10)).length := by rw [List.length_set]; exact hnz2
                refine ⟨n + 1, (zs.set n (p + 10)).set (n + 1) (q - 1), by have := HK.out; omega, by go_num, by rw [List.length_set, List.length_set]; exact HZ.out, bk_set (bk_set HB2.out hnz _) hnz3 _, ?_, ?_, ?_, ?_, ?_, by go_size, by (repeat' (first | (with_reducible exact Below.refl _ _) | (with_reducible assumption) | (with_reducible refine Below.drew ?_) | (with_reducible refine below_drewN ?_ _) | ((with_reducible refine Below.alloc ?_ ?_ _); rotate_left; focus (go_size; done)) | ((with_reducible refine Below.setCell ?_ ?_ _); rotate_left; focus (go_size; done)) | ((with_reducible refine Below.trans ?_ (Below.mono (by with_reducible assumption) ?_)); rotate_left; focus (go_size; done))))⟩
                · intro j
                  rw [getD_set _ _ _ _ hnz3, getD_set _ _ _ _ hnz]
                  split
                  · omega
                  · split
                    · omega
                    · exact H9.out j
                · intro j hj
                  rw [getD_set _ _ _ _ hnz3, getD_set _ _ _ _ hnz, if_neg (by omega)]
                  split
                  · omega
                  · exact H0.out j (by omega)
                · rw [getD_set _ _ _ _ hnz3, if_pos rfl]; omega
                · intro j hj
                  rw [getD_set _ _ _ _ hnz3, getD_set _ _ _ _ hnz, if_neg (by omega), if_neg (by omega)]
                  exact HM9.out j (by omega)
                · rw [dval_set _ _ _ hnz3, dval_set _ _ _ hnz, getD_set _ _ _ _ hnz, if_neg (by omega), ← HP.out, ← HQ.out, HV.out, Int.pow_succ]
                  have e1 : (10 : Int) ^ n * (p + 10 - p) = 10 ^ n * 10 := by rw [show p + 10 - p = 10 by omega]
                  have e2 : (10 : Int) ^ n * 10 * (q - 1 - q) = - (10 ^ n * 10) := by rw [show q - 1 - q = -1 by omega, Int.mul_neg, Int.mul_one]
                  omega
            · go_wp2_with fail
              go_roundg (gk - 1)
              case measure => have := HK.out; omega
              case rel =>
                refine ⟨n + 1, zs, by have := HK.out; omega, by go_num, HZ.out, HB2.out, H9.out, ?_, by rw [← HQ.out]; omega, fun j hj => HM9.out j (by omega), HV.out, hsz, hbel⟩
                intro j hj
                by_cases hj2 : j = n
                · rw [hj2, ← HP.out]; omega
                · exact H0.out j (by omega)
          · have hn2 : n = xs.length - 1 := by omega
            have hle := HLE.out
            have hdig : Digs zs := digs_end zs n (by have := HZ.out; omega) H0.out H9.out (by rw [HV.out]; omega)
            have hnn : ¬ (n : Int) + 1 < (xs.length : Int) := by omega
            have HD := Lib.hid hdig
            clear hdig hn2 hle
            go_wp2_with fail
            refine (cut_is zs (some ⟨g, 0, none⟩) _ _ _ (IsSl.of_bk2 HB2.out HZ.out hcap) HD.out (by have := HZ.out; omega)).mono ?_
            rintro _ w2 ⟨k2, c2, rfl, hdg, hb2⟩
            have HDG := Lib.hid hdg
            clear hdg
            go_wp2_with fail
            go_ret
            refine ⟨_, rfl, New.at_ hg _ _ _ _, ?_, by (repeat' (first | (with_reducible exact Below.refl _ _) | (with_reducible assumption) | (with_reducible refine Below.drew ?_) | (with_reducible refine below_drewN ?_ _) | ((with_reducible refine Below.alloc ?_ ?_ _); rotate_left; focus (go_size; done)) | ((with_reducible refine Below.setCell ?_ ?_ _); rotate_left; focus (go_size; done)) | ((with_reducible refine Below.trans ?_ (Below.mono (by with_reducible assumption) ?_)); rotate_left; focus (go_size; done))))⟩
            have e : N - M = (dval zs).toNat := by rw [HV.out]; omega
            rw [e]
            exact HDG.out
theorem rless_any (N M : Nat) (hle : M ≤ N) (u v : Value) (w : World) (hu : Dg w u N) (hv : Dg w v M) (hN : Small N) (hM : Small M) :
    Calls Try.prog 83 #[u, v] w (RetDg (N - M) w) :=
  (rless_new N M hle u v w hu hv hN hM).mono fun e w' ⟨v, he, _, hdg, hb⟩ => ⟨v, he, hdg, hb⟩
end Go.Proofs.Ythkgjodidkpaeaa

set_option linter.unusedSimpArgs false
set_option linter.unusedVariables false
namespace Go.Proofs.Ythkgjodidkpaeaa
open Go.RowKit

/-- the digits n of xs lie above place k: what they are -/
theorem quo_head {xs : List Int} {N : Nat} (h : IsDg xs N) (k : Nat) (hk : k < xs.length) : N / 10 ^ k = 10 * (N / 10 ^ (k + 1)) + (xs.getD k 0).toNat := by
  have hd := dval_digit h.1 k hk
  have hg := h.get k
  rw [h.2.2] at hd
  have e : ((N / 10 ^ k % 10 : Nat) : Int) = xs.getD k 0 := by
    rw [hd, Int.natCast_emod, Int.natCast_ediv, Int.natCast_pow]; rfl
  have e2 : (xs.getD k 0).toNat = N / 10 ^ k % 10 := by rw [← e]; rfl
  rw [e2, Nat.pow_succ, ← Nat.div_div_eq_div_mul]
  omega
theorem quo_top {xs : List Int} {N : Nat} (h : IsDg xs N) : N / 10 ^ xs.length = 0 := Nat.div_eq_of_lt (h.lt_of_len (Nat.le_refl _))
/-- one digit more of the quotient -/
theorem quo_step (P M d t r : Nat) (hM : 0 < M) (hr : r < M) (h : 10 * (P % M) + d = t * M + r) : (10 * P + d) / M = 10 * (P / M) + t ∧ (10 * P + d) % M = r := by
  have e : 10 * P + d = r + M * (10 * (P / M) + t) := by
    have h1 := Nat.div_add_mod P M
    rw [Nat.mul_add, Nat.mul_comm M t, Nat.mul_left_comm]
    omega
  rw [e, Nat.add_mul_div_left _ _ hM, Nat.div_eq_of_lt hr, Nat.zero_add, Nat.add_mul_mod_self_left, Nat.mod_eq_of_lt hr]
  exact ⟨rfl, rfl⟩
theorem cons_dg {l : List Int} {n : Nat} (h : IsDg l n) (d : Int) (h0 : 0 ≤ d) (h9 : d ≤ 9) : Digs (d :: l) ∧ dval (d :: l) = ((10 * n + d.toNat : Nat) : Int) := by
  refine ⟨fun x hx => ?_, ?_⟩
  · rcases List.mem_cons.1 hx with rfl | hx
    · exact ⟨h0, h9⟩
    · exact h.1 x hx
  · simp only [dval, h.2.2]; omega
theorem below_trans_drewN {w w' : World} {n : Nat} (h : Below (w.drewN n).heap.size (w.drewN n) w') : Below w.heap.size w w' := (below_drewN (Below.refl _ w) n).trans h
theorem one_own (w : World) (d : Int) (hb : Bk w w.heap.size 3 [.int .i64 d]) : True := trivial
def RetTwo (n m : Nat) (w : World) (e : Ending) (w' : World) : Prop := ∃ u v, e = .returned (.tuple #[u, v]) ∧ Dg w' u n ∧ Dg w' v m ∧ Below w.heap.size w w'
theorem own_of_bk1 {w : World} {g B : Nat} {d : Int} (hg : B ≤ g) (h : Bk w g 3 [.int .i64 d]) : w.ownsRow B 3 1 (.slice (some ⟨g, 0, none⟩) 1 1) ([d] : List Int).length (([d] : List Int).map (Value.int .i64)) := by
  refine ⟨by simp, .inr ⟨g, 1, #[.int .i64 d], by simp, hg, h, by simp, by unfold maxLen; omega, by simp, by simp⟩⟩
set_option maxHeartbeats 4000000 in
theorem quo_any (N M : Nat) (hM : 0 < M) (u v : Value) (w : World) (hu : Dg w u N) (hv : Dg w v M) (hN : Small N) (hMs : Small M) :
    Calls Try.prog 82 #[u, v] w (RetTwo (N / M) (N % M) w) := by
  obtain ⟨xs, ⟨A, c, rfl, hc, hs⟩, hd⟩ := hu
  have hlen := pow_big hN hd
  have HD := Lib.hid hd
  have HS := Lib.hid hs
  have HV := Lib.hid hv
  have HN := Lib.hid hN
  have HM := Lib.hid hMs
  have HP := Lib.hid hM
  have hmk := fun W => make_ints xs.length (by omega) W
  clear hd hs hN hv hMs hM
  go_enter Try.func82, Try.ntmps82
  go_wp2_with fail
  clear hmk
  go_loopg [7, 8] xs.length (fun k l i wr => ∃ (ds : List Int), k ≤ xs.length ∧ i = .int .i64 ((k : Int) - 1) ∧ Dg wr l (N / 10 ^ k % M) ∧ New (w.heap.size + 1) l ∧
    Bk wr w.heap.size 3 (ds.map (Value.int .i64)) ∧ ds.length = xs.length ∧ Digs ds ∧ (∀ j, j < k → ds.getD j 0 = 0) ∧ dval (ds.drop k) = ((N / 10 ^ k / M : Nat) : Int) ∧ w.heap.size < wr.heap.size ∧ Below w.heap.size w wr)
  case atStart =>
    refine ⟨List.replicate xs.length 0, Nat.le_refl _, rfl, ⟨[], ⟨none, 0, rfl, Nat.le_refl _, fun h => absurd rfl h⟩, ?_⟩, New.nil _ _ _, Bk.new_ rfl, by simp, Digs.zeros _, ?_, ?_, by go_size, by (repeat' (first | (with_reducible exact Below.refl _ _) | (with_reducible assumption) | (with_reducible refine Below.drew ?_) | (with_reducible refine below_drewN ?_ _) | ((with_reducible refine Below.alloc ?_ ?_ _); rotate_left; focus (go_size; done)) | ((with_reducible refine Below.setCell ?_ ?_ _); rotate_left; focus (go_size; done)) | ((with_reducible refine Below.trans ?_ (Below.mono (by with_reducible assumption) ?_)); rotate_left; focus (go_size; done))))⟩
    · rw [quo_top HD.out, Nat.zero_mod]; exact IsDg.nil
    · intro j hj
      rw [getD_lt _ _ (by simpa using hj)]; simp
    · rw [List.drop_of_length_le (by simp), quo_top HD.out, Nat.zero_div]; rfl
  case round =>
    obtain ⟨ds, hk, rfl, hl, hnew, hbk, hdl, hdd, hz, hval, hsz, hbel⟩ := hrel
    have HB := Lib.hid hbk
    have HL := Lib.hid hdl
    have HDD := Lib.hid hdd
    have HZ := Lib.hid hz
    have HVL := Lib.hid hval
    have HDL := Lib.hid hl
    have HNW := Lib.hid hnew
    clear hbk hdl hdd hz hval hl hnew
    by_cases h0 : gk = 0
    · subst h0
      have hm : ¬ (0 : Int) ≤ ((0 : Nat) : Int) - 1 := by omega
      go_wp2_with fail
      refine (cut_any ds _ _ (IsSl.of_bk HB.out HL.out (Nat.le_refl _)) HDD.out (by rw [HL.out]; omega)).mono ?_
      rintro _ w2 ⟨v2, rfl, hdg, hb2⟩
      have HDG := Lib.hid hdg
      clear hdg
      go_wp2_with fail
      go_ret2
      have hv := HVL.out
      rw [List.drop_zero, Nat.pow_zero, Nat.div_one] at hv
      have e1 : (dval ds).toNat = N / M := by rw [hv]; exact Int.toNat_natCast _
      have hdg := HDG.out
      have hl := HDL.out
      rw [e1] at hdg
      rw [Nat.pow_zero, Nat.div_one] at hl
      exact ⟨v2, _, rfl, hdg, hl.below (by (repeat' (first | (with_reducible exact Below.refl _ _) | (with_reducible assumption) | (with_reducible refine Below.drew ?_) | (with_reducible refine below_drewN ?_ _) | ((with_reducible refine Below.alloc ?_ ?_ _); rotate_left; focus (go_size; done)) | ((with_reducible refine Below.setCell ?_ ?_ _); rotate_left; focus (go_size; done)) | ((with_reducible refine Below.trans ?_ (Below.mono (by with_reducible assumption) ?_)); rotate_left; focus (go_size; done))))), by (repeat' (first | (with_reducible exact Below.refl _ _) | (with_reducible assumption) | (with_reducible refine Below.drew ?_) | (with_reducible refine below_drewN ?_ _) | ((with_reducible refine Below.alloc ?_ ?_ _); rotate_left; focus (go_size; done)) | ((with_reducible refine Below.setCell ?_ ?_ _); rotate_left; focus (go_size; done)) | ((with_reducible refine Below.trans ?_ (Below.mono (by with_reducible assumption) ?_)); rotate_left; focus (go_size; done))))⟩
    · obtain ⟨m, rfl⟩ : ∃ m, gk = m + 1 := ⟨gk - 1, by omega⟩
      obtain ⟨g, o, rfl, hg, hcell⟩ := HS.out.at_ (k := m) (by omega)
      have hcell2 := (hbel.cell (p := ⟨g, o + m, none⟩) hg).trans hcell
      obtain ⟨d0, d9⟩ := HD.out.get m
      have hqh := quo_head HD.out m (by omega)
      obtain ⟨d, hd⟩ : ∃ d, d = xs.getD m 0 := ⟨_, rfl⟩
      rw [← hd] at hcell2 d0 d9 hqh
      obtain ⟨P, hP⟩ : ∃ P, P = N / 10 ^ (m + 1) := ⟨_, rfl⟩
      rw [← hP] at hqh HDL HVL
      obtain ⟨ls, ⟨A2, c2, rfl, hc2, hs2⟩, hld⟩ := HDL.out
      have hll := pow_big (HN.out.of_le (Nat.le_trans (Nat.mod_le _ _) (by rw [hP]; exact Nat.div_le_self _ _))) hld
      have HS2 := Lib.hid hs2
      have HLD := Lib.hid hld
      have HQH := Lib.hid hqh
      have HPP := Lib.hid hP
      have hp : (0 : Int) < ((m + 1 : Nat) : Int) := by omega
      have hx : ((m + 1 : Nat) : Int) - 1 = (m : Int) := by omega
      have m0 : (0 : Int) ≤ (m : Int) := by omega
      have m1 : (m : Int) < (xs.length : Int) := by omega
      clear h0 hd hcell hqh hP hs2 hld
      go_wp2_with (at_builtin; refine wpList_join rfl (.tmp 23) (.tmp 24) rfl wr.heap.size (.slice (some ⟨wr.heap.size, 0, none⟩) 1 1) [d] rfl (own_of_bk1 (Nat.le_refl _) (Bk.new_ rfl)) A2 c2 ls rfl ?hs ?hl ?hb ?_; rotate_left 3; intro v1 w1 hown1 hg1)
      case hs => exact HS2.out.below (by (repeat' (first | (with_reducible exact Below.refl _ _) | (with_reducible assumption) | (with_reducible refine Below.drew ?_) | (with_reducible refine below_drewN ?_ _) | ((with_reducible refine Below.alloc ?_ ?_ _); rotate_left; focus (go_size; done)) | ((with_reducible refine Below.setCell ?_ ?_ _); rotate_left; focus (go_size; done)) | ((with_reducible refine Below.trans ?_ (Below.mono (by with_reducible assumption) ?_)); rotate_left; focus (go_size; done)))))
      case hl => simp only [List.length_cons, List.length_nil]; omega
      case hb => go_size
      have hbel1 : Below wr.heap.size wr w1 := below_push ((Below.refl _ _).alloc (Nat.le_refl _) _) (own_of_bk1 (Nat.le_refl _) (Bk.new_ rfl)) hg1 (by go_size)
      have hnw1 := New.own hown1
      have hb1s := hbel1.size
      obtain ⟨hcd, hcv⟩ := cons_dg HLD.out d d0 d9
      have hsl := IsSl.of_own hown1
      obtain ⟨A1, c1, rfl, hc1, hs1⟩ := hsl
      have HNW1 := Lib.hid hnw1
      have HS1 := Lib.hid hs1
      have HCD := Lib.hid hcd
      have HCV := Lib.hid hcv
      clear hnw1 hs1 hcd hcv hown1 hg1
      go_wp2_with fail
      refine (cut_at ([d] ++ ls) A1 c1 _ hc1 HS1.out HCD.out (by simp only [List.length_append, List.length_cons, List.length_nil]; omega)).mono ?_
      rintro _ w2 ⟨k2, c2', rfl, hdg2, hb2⟩
      have hb2s := hb2.size
      obtain ⟨X, hX⟩ : ∃ X, X = 10 * (P % M) + d.toNat := ⟨_, rfl⟩
      have hdg2' : Dg w2 (.slice A1 k2 c2') X := by
        have e : (dval ([d] ++ ls)).toNat = X := by
          rw [show [d] ++ ls = d :: ls from rfl, HCV.out, hX]; omega
        rw [← e]; exact hdg2
      have hXM : X / M ≤ 9 := by
        have h1 := Nat.mod_lt P HP.out
        have h2 : X < M * 10 := by omega
        have := Nat.div_lt_of_lt_mul h2
        omega
      have HDG2 := Lib.hid hdg2'
      have HX := Lib.hid hX
      have hw2 : w.heap.size < w2.heap.size := by omega
      have hbel2 : Below w.heap.size w w2 := by (repeat' (first | (with_reducible exact Below.refl _ _) | (with_reducible assumption) | (with_reducible refine Below.drew ?_) | (with_reducible refine below_drewN ?_ _) | ((with_reducible refine Below.alloc ?_ ?_ _); rotate_left; focus (go_size; done)) | ((with_reducible refine Below.setCell ?_ ?_ _); rotate_left; focus (go_size; done)) | ((with_reducible refine Below.trans ?_ (Below.mono (by with_reducible assumption) ?_)); rotate_left; focus (go_size; done))))
      have hbk2 : Bk w2 w.heap.size 3 (ds.map (Value.int .i64)) := by
        have : Bk w1 w.heap.size 3 (ds.map (Value.int .i64)) := HB.out.below hbel1 hsz
        exact this.below hb2 (by omega)
      have HBK2 := Lib.hid hbk2
      clear hdg2 hdg2' hX hbk2
      have hnew2 : New (w.heap.size + 1) (.slice A1 k2 c2') := (HNW1.out.same _ _).mono (by omega)
      have HN2 := Lib.hid hnew2
      clear hnew2
      go_wp2_with fail
      obtain ⟨wo, hwo⟩ : ∃ wo : World, wo = wr := ⟨_, rfl⟩
      clear hwo
      go_loopg [7] (X / M) (fun k l wr => ∃ (t : Nat), k + t = X / M ∧ Dg wr l (X - t * M) ∧ New (w.heap.size + 1) l ∧ Bk wr w.heap.size 3 ((ds.set m (t : Int)).map (Value.int .i64)) ∧ w.heap.size < wr.heap.size ∧ Below w.heap.size w wr)
      case atStart =>
        refine ⟨0, by omega, by rw [Nat.zero_mul]; exact HDG2.out, HN2.out, ?_, hw2, hbel2⟩
        have e : ds.set m ((0 : Nat) : Int) = ds := by
          have hz := HZ.out m (by omega)
          have hl := HL.out
          apply List.ext_getElem
          · simp
          · intro j h1 h2
            rw [List.getElem_set]
            split
            · next e => subst e; rw [← getD_lt _ _ h2, hz]; rfl
            · rfl
        rw [e]; exact HBK2.out
      case round =>
        obtain ⟨t, hk2, hdl, hnl, hbki, hwi, hbeli⟩ := hrel
        have HK2 := Lib.hid hk2
        have HDL2 := Lib.hid hdl
        have HNL := Lib.hid hnl
        have HBKI := Lib.hid hbki
        have ht9 : t ≤ 9 := by omega
        have HSX : Hid (Small (X - t * M)) := Lib.hid (by
          intro _
          have h1 := HN.out trivial
          have h2 : X ≤ N := by
            rw [HX.out]
            have h3 := HQH.out
            have h4 : 10 * (P % M) ≤ 10 * P := Nat.mul_le_mul_left _ (Nat.mod_le _ _)
            have h5 : N / 10 ^ m ≤ N := Nat.div_le_self _ _
            omega
          exact Nat.lt_of_le_of_lt (Nat.le_trans (Nat.sub_le _ _) h2) h1)
        have hdsl : m < ds.length := by rw [HL.out]; omega
        have hci : wr.cell? ⟨w.heap.size, m, none⟩ = some (.int .i64 (t : Int)) := by
          refine HBKI.out.cell _ ?_
          rw [List.getElem?_map, List.getElem?_set_self hdsl]; rfl
        have HCI := Lib.hid hci
        have HDSL := Lib.hid hdsl
        clear hk2 hdl hnl hbki hci hdsl
        go_wp2_with fail
        refine (rcmp_any (X - t * M) M _ _ _ HDL2.out (HV.out.below hbeli) HSX.out HM.out).mono ?_
        rintro _ w3 ⟨rfl, nn, rfl⟩
        by_cases hge : M ≤ X - t * M
        · have hcc : (0 : Int) ≤ cmpN (X - t * M) M := by unfold cmpN; split; omega; split; omega; omega
          generalize cmpN (X - t * M) M = cc at *
          have HGE := Lib.hid hge
          clear hge
          go_wp2_with fail
          refine (rless_new (X - t * M) M HGE.out _ _ _ (HDL2.out.drewN nn) ((HV.out.below hbeli).drewN nn) HSX.out HM.out).mono ?_
          rintro _ w4 ⟨v4, rfl, hnw4, hdg4, hb4⟩
          have hb4s : wr.heap.size ≤ w4.heap.size := hb4.size
          have hb4' : Below wr.heap.size wr w4 := below_trans_drewN hb4
          have HNW4 := Lib.hid hnw4
          have HDG4 := Lib.hid hdg4
          have hc4 : w4.cell? ⟨w.heap.size, m, none⟩ = some (.int .i64 (t : Int)) := (hb4'.cell (p := ⟨w.heap.size, m, none⟩) hwi).trans HCI.out
          have hf4 : w4.frozen? ⟨w.heap.size, m, none⟩ = false := (hb4'.frozen (p := ⟨w.heap.size, m, none⟩) hwi).trans (HBKI.out.frozen m)
          clear hnw4 hdg4 hb4
          go_wp2_with fail
          go_roundg (gk - 1)
          case measure =>
            have h1 := HK2.out
            have h2 := HGE.out
            have h3 := HP.out
            have h4 : (t + 1) * M ≤ X := by rw [Nat.add_mul, Nat.one_mul]; omega
            have h5 := (Nat.le_div_iff_mul_le h3).2 h4
            omega
          case rel =>
            have h1 := HK2.out
            have h2 := HGE.out
            have h3 := HP.out
            have h4 : (t + 1) * M ≤ X := by rw [Nat.add_mul, Nat.one_mul]; omega
            have h5 := (Nat.le_div_iff_mul_le h3).2 h4
            refine ⟨t + 1, by omega, ?_, ?_, ?_, by go_size, ?_⟩
            · have h6 := HDG4.out
              rw [Nat.sub_sub, ← Nat.succ_mul] at h6
              exact h6.away (HNW4.out.mono (Nat.le_refl _)) hwi _ _
            · exact HNW4.out.mono hwi
            · have h6 := (HBKI.out.below hb4' hwi).set_ m (.int .i64 ((t : Int) + 1))
              rw [← List.map_set, List.set_set] at h6
              exact h6
            · exact (hbeli.trans (hb4'.mono (Nat.le_of_lt hwi))).setCell (Nat.le_refl _) _
        · have hcc : ¬ (0 : Int) ≤ cmpN (X - t * M) M := by unfold cmpN; split; omega; split; omega; omega
          generalize cmpN (X - t * M) M = cc at *
          have HGE := Lib.hid hge
          clear hge
          go_wp2_with fail
          go_roundg m
          case measure => omega
          case rel =>
            have h0 : X = t * M + (X - t * M) := by
              have h1 : t * M ≤ X := by
                have h2 := HK2.out
                have h3 : t * M ≤ X / M * M := Nat.mul_le_mul_right _ (by omega)
                have h4 := Nat.div_mul_le_self X M
                omega
              omega
            have hq := quo_step P M d.toNat t (X - t * M) HP.out (by have := HGE.out; omega) (by rw [← HX.out]; exact h0)
            rw [← HQH.out] at hq
            obtain ⟨hq1, hq2⟩ := hq
            have hdsl := HDSL.out
            refine ⟨ds.set m (t : Int), by omega, rfl, ?_, HNL.out, HBKI.out.drewN nn, by rw [List.length_set]; exact HL.out, HDD.out.set_ m (by omega) (by omega), ?_, ?_, hwi, by (repeat' (first | (with_reducible exact Below.refl _ _) | (with_reducible assumption) | (with_reducible refine Below.drew ?_) | (with_reducible refine below_drewN ?_ _) | ((with_reducible refine Below.alloc ?_ ?_ _); rotate_left; focus (go_size; done)) | ((with_reducible refine Below.setCell ?_ ?_ _); rotate_left; focus (go_size; done)) | ((with_reducible refine Below.trans ?_ (Below.mono (by with_reducible assumption) ?_)); rotate_left; focus (go_size; done))))⟩
            · rw [hq2]; exact HDL2.out.drewN nn
            · intro j hj
              rw [getD_set _ _ _ _ hdsl, if_neg (by omega)]
              exact HZ.out j (by omega)
            · rw [drop_set _ _ _ hdsl, hq1]
              have h5 := HVL.out
              show (t : Int) + 10 * dval (ds.drop (m + 1)) = _
              rw [h5]
              generalize P / M = Y
              omega
end Go.Proofs.Ythkgjodidkpaeaa

set_option linter.unusedSimpArgs false
set_option linter.unusedVariables false
namespace Go.Proofs.Ythkgjodidkpaeaa
open Go.RowKit

theorem IsDg.one : IsDg [1] 1 := ⟨by intro d hd; rw [List.mem_singleton.1 hd]; decide, by simp [Top], rfl⟩
theorem dg_one {w : World} {g : Nat} (h : Bk w g 3 [.int .i64 1]) : Dg w (.slice (some ⟨g, 0, none⟩) 1 1) 1 :=
  ⟨[1], IsSl.of_bk (ds := [1]) h rfl (Nat.le_refl _), IsDg.one⟩
theorem near_up (N M : Nat) (h : M < N % M + N % M ∨ (N % M + N % M = M ∧ N / M % 2 = 1)) : near N M = N / M + 1 := by
  unfold near; rw [if_pos (by omega)]
theorem near_stay (N M : Nat) (h : N % M + N % M < M ∨ (N % M + N % M = M ∧ N / M % 2 = 0)) : near N M = N / M := by
  unfold near; rw [if_neg (by omega)]; rfl
theorem dg_first {w : World} {v : Value} {n : Nat} (h : Dg w v n) (hn : n ≠ 0) : ∃ g o k c, v = .slice (some ⟨g, o, none⟩) (k + 1) c ∧ k + 1 ≤ c ∧ w.cell? ⟨g, o, none⟩ = some (.int .i64 ((n % 10 : Nat) : Int)) ∧ g < w.heap.size := by
  obtain ⟨xs, ⟨A, c, rfl, hc, hs⟩, hd⟩ := h
  have hz := hd.zero_iff
  obtain ⟨k, hk⟩ : ∃ k, xs.length = k + 1 := ⟨xs.length - 1, by omega⟩
  obtain ⟨g, o, rfl, hg, hcell⟩ := hs.at_ (k := 0) (by omega)
  refine ⟨g, o, k, c, by rw [hk], by omega, ?_, hg⟩
  rw [Nat.add_zero] at hcell
  rw [hcell, dval_digit hd.1 0 (by omega), hd.2.2, Int.pow_zero, Int.ediv_one]
  rfl
/-- a bound that is a little nearer -/
def Tiny (n : Nat) : Prop := True → n < 10 ^ 999
theorem ten_lt (a b : Nat) (h : a < b) : (10 : Nat) ^ a < 10 ^ b := Nat.pow_lt_pow_right (by decide) h
theorem one_lt_ten (a : Nat) (h : 0 < a) : 1 < (10 : Nat) ^ a := Nat.one_lt_pow (by omega) (by decide)
theorem ten_next (a b : Nat) (h : b = a + 1) : (10 : Nat) ^ b = 10 * 10 ^ a := by rw [h, Nat.pow_succ, Nat.mul_comm]
theorem small_add {n m : Nat} (hn : Tiny n) (hm : Tiny m) : Small (n + m) := by
  intro _
  have e := ten_next 999 1000 rfl
  have h1 := hn trivial
  have h2 := hm trivial
  rw [e]
  generalize (10 : Nat) ^ 999 = T at *
  omega
theorem Tiny.of_le {n m : Nat} (h : Tiny n) (hm : m ≤ n) : Tiny m := fun t => Nat.lt_of_le_of_lt hm (h t)
theorem Tiny.small {n : Nat} (h : Tiny n) : Small n := fun t => Nat.lt_trans (h t) (ten_lt 999 1000 (by decide))
theorem near_le (N M : Nat) : near N M ≤ N + 1 := by
  unfold near
  have := Nat.div_le_self N M
  split <;> omega
set_option maxHeartbeats 2000000 in
theorem near_any (N M : Nat) (hM : 0 < M) (u v : Value) (w : World) (hu : Dg w u N) (hv : Dg w v M) (hN : Tiny N) (hMs : Tiny M) :
    Calls Try.prog 73 #[u, v] w (RetDg (near N M) w) := by
  have HU := Lib.hid hu
  have HV := Lib.hid hv
  have HN := Lib.hid hN
  have HM := Lib.hid hMs
  have HP := Lib.hid hM
  have HR : Hid (Tiny (N % M)) := Lib.hid (hN.of_le (Nat.mod_le _ _))
  have HQ : Hid (Tiny (N / M)) := Lib.hid (hN.of_le (Nat.div_le_self _ _))
  have HO : Hid (Small (N / M + 1)) := Lib.hid (small_add HQ.out (fun _ => one_lt_ten 999 (by decide)))
  have hup := near_up N M
  have hst := near_stay N M
  clear hu hv hN hMs hM
  obtain ⟨q, hq⟩ : ∃ q, q = N / M := ⟨_, rfl⟩
  obtain ⟨r, hr⟩ : ∃ r, r = N % M := ⟨_, rfl⟩
  obtain ⟨z, hz⟩ : ∃ z, z = near N M := ⟨_, rfl⟩
  rw [← hz, ← hq, ← hr] at hup hst
  rw [← hr] at HR
  rw [← hq] at HQ HO
  rw [← hz]
  have H1 := Lib.hid hq
  have H2 := Lib.hid hr
  have H3 := Lib.hid hup
  have H4 := Lib.hid hst
  clear hq hr hz hup hst
  go_enter Try.func73, Try.ntmps73
  go_wp2_with fail
  refine (quo_any N M HP.out _ _ _ HU.out HV.out HN.out.small HM.out.small).mono ?_
  rw [← H1.out, ← H2.out]
  rintro _ w1 ⟨v1, v2, rfl, hq1, hr1, hb1⟩
  have HQ1 := Lib.hid hq1
  have HR1 := Lib.hid hr1
  have HV1 := Lib.hid (HV.out.below hb1)
  have hb1s := hb1.size
  clear hq1 hr1
  go_wp2_with fail
  refine (plus_any r r _ _ _ HR1.out HR1.out HR.out.small HR.out.small).mono ?_
  rintro _ w2 ⟨v3, rfl, hd3, hb2⟩
  have HD3 := Lib.hid hd3
  have HV2 := Lib.hid (HV1.out.below hb2)
  have HQ2 := Lib.hid (HQ1.out.below hb2)
  have hb2s := hb2.size
  clear hd3
  go_wp2_with fail
  refine (rcmp_any (r + r) M _ _ _ HD3.out HV2.out (small_add HR.out HR.out) HM.out.small).mono ?_
  rcases Nat.lt_trichotomy (r + r) M with hlt | heq | hgt
  · have hc : cmpN (r + r) M = -1 := by unfold cmpN; rw [if_neg (by omega), if_pos hlt]
    have hz := H4.out (.inl hlt)
    rw [hc]
    have HZ := Lib.hid hz
    clear hc hz hlt
    rintro _ w3 ⟨rfl, nn, rfl⟩
    go_wp2_with fail
    go_ret
    exact ⟨_, rfl, by rw [HZ.out]; exact HQ2.out.drewN nn, by (repeat' (first | (with_reducible exact Below.refl _ _) | (with_reducible assumption) | (with_reducible refine Below.drew ?_) | (with_reducible refine below_drewN ?_ _) | ((with_reducible refine Below.alloc ?_ ?_ _); rotate_left; focus (go_size; done)) | ((with_reducible refine Below.setCell ?_ ?_ _); rotate_left; focus (go_size; done)) | ((with_reducible refine Below.trans ?_ (Below.mono (by with_reducible assumption) ?_)); rotate_left; focus (go_size; done))))⟩
  · have hc : cmpN (r + r) M = 0 := by unfold cmpN; rw [if_pos heq]
    rw [hc]
    have HE := Lib.hid heq
    clear hc heq
    rintro _ w3 ⟨rfl, nn, rfl⟩
    by_cases h0 : q = 0
    · have hz := H4.out (.inr ⟨HE.out, by rw [h0]⟩)
      have HZ := Lib.hid hz
      clear hz
      subst h0
      obtain ⟨xs, ⟨A, c, rfl, hc, hs⟩, hd⟩ := HQ2.out
      have hx0 := hd.zero_iff.2 rfl
      obtain rfl : xs = [] := List.length_eq_zero_iff.1 hx0
      have HS := Lib.hid hs
      have HD := Lib.hid hd
      clear hs hd hx0
      go_wp2_with fail
      go_ret
      exact ⟨_, rfl, by rw [HZ.out]; exact HQ2.out.drewN nn, by (repeat' (first | (with_reducible exact Below.refl _ _) | (with_reducible assumption) | (with_reducible refine Below.drew ?_) | (with_reducible refine below_drewN ?_ _) | ((with_reducible refine Below.alloc ?_ ?_ _); rotate_left; focus (go_size; done)) | ((with_reducible refine Below.setCell ?_ ?_ _); rotate_left; focus (go_size; done)) | ((with_reducible refine Below.trans ?_ (Below.mono (by with_reducible assumption) ?_)); rotate_left; focus (go_size; done))))⟩
    · obtain ⟨g, o, k, c, rfl, hkc, hcell, hg⟩ := dg_first HQ2.out h0
      have k0 : (0 : Int) < (k : Int) + 1 := by omega
      have e1 : ((k + 1 : Nat) : Int) = (k : Int) + 1 := by omega
      rcases Nat.mod_two_eq_zero_or_one q with hp | hp
      · have hz := H4.out (.inr ⟨HE.out, hp⟩)
        have HZ := Lib.hid hz
        have g1 : (((q % 10 : Nat) : Int) % 2 == 1) = false := by simp; omega
        have d0 : (0 : Int) ≤ ((q % 10 : Nat) : Int) := by omega
        obtain ⟨d, hd⟩ : ∃ d : Int, d = ((q % 10 : Nat) : Int) := ⟨_, rfl⟩
        rw [← hd] at g1 hcell d0
        clear hz hp h0 hd
        go_wp2_with fail
        go_ret
        exact ⟨_, rfl, by rw [HZ.out]; exact HQ2.out.drewN nn, by (repeat' (first | (with_reducible exact Below.refl _ _) | (with_reducible assumption) | (with_reducible refine Below.drew ?_) | (with_reducible refine below_drewN ?_ _) | ((with_reducible refine Below.alloc ?_ ?_ _); rotate_left; focus (go_size; done)) | ((with_reducible refine Below.setCell ?_ ?_ _); rotate_left; focus (go_size; done)) | ((with_reducible refine Below.trans ?_ (Below.mono (by with_reducible assumption) ?_)); rotate_left; focus (go_size; done))))⟩
      · have hz := H3.out (.inr ⟨HE.out, hp⟩)
        have HZ := Lib.hid hz
        have g1 : (((q % 10 : Nat) : Int) % 2 == 1) = true := by simp; omega
        have d0 : (0 : Int) ≤ ((q % 10 : Nat) : Int) := by omega
        obtain ⟨d, hd⟩ : ∃ d : Int, d = ((q % 10 : Nat) : Int) := ⟨_, rfl⟩
        rw [← hd] at g1 hcell d0
        clear hz hp h0 hd
        go_wp2_with fail
        refine (plus_any q 1 _ _ _ (HQ2.out.below (by (repeat' (first | (with_reducible exact Below.refl _ _) | (with_reducible assumption) | (with_reducible refine Below.drew ?_) | (with_reducible refine below_drewN ?_ _) | ((with_reducible refine Below.alloc ?_ ?_ _); rotate_left; focus (go_size; done)) | ((with_reducible refine Below.setCell ?_ ?_ _); rotate_left; focus (go_size; done)) | ((with_reducible refine Below.trans ?_ (Below.mono (by with_reducible assumption) ?_)); rotate_left; focus (go_size; done)))))) (dg_one (Bk.new_ rfl)) HQ.out.small (Small.of_le HO.out (by omega))).mono ?_
        rintro _ w4 ⟨v4, rfl, hd4, hb4⟩
        have HD4 := Lib.hid hd4
        clear hd4
        go_wp2_with fail
        go_ret
        exact ⟨_, rfl, by rw [HZ.out]; exact HD4.out, by (repeat' (first | (with_reducible exact Below.refl _ _) | (with_reducible assumption) | (with_reducible refine Below.drew ?_) | (with_reducible refine below_drewN ?_ _) | ((with_reducible refine Below.alloc ?_ ?_ _); rotate_left; focus (go_size; done)) | ((with_reducible refine Below.setCell ?_ ?_ _); rotate_left; focus (go_size; done)) | ((with_reducible refine Below.trans ?_ (Below.mono (by with_reducible assumption) ?_)); rotate_left; focus (go_size; done))))⟩
  · have hc : cmpN (r + r) M = 1 := by unfold cmpN; rw [if_neg (by omega), if_neg (by omega)]
    have hz := H3.out (.inl hgt)
    rw [hc]
    have HZ := Lib.hid hz
    clear hc hz hgt
    rintro _ w3 ⟨rfl, nn, rfl⟩
    go_wp2_with fail
    refine (plus_any q 1 _ _ _ (HQ2.out.below (by (repeat' (first | (with_reducible exact Below.refl _ _) | (with_reducible assumption) | (with_reducible refine Below.drew ?_) | (with_reducible refine below_drewN ?_ _) | ((with_reducible refine Below.alloc ?_ ?_ _); rotate_left; focus (go_size; done)) | ((with_reducible refine Below.setCell ?_ ?_ _); rotate_left; focus (go_size; done)) | ((with_reducible refine Below.trans ?_ (Below.mono (by with_reducible assumption) ?_)); rotate_left; focus (go_size; done)))))) (dg_one (Bk.new_ rfl)) HQ.out.small (Small.of_le HO.out (by omega))).mono ?_
    rintro _ w4 ⟨v4, rfl, hd4, hb4⟩
    have HD4 := Lib.hid hd4
    clear hd4
    go_wp2_with fail
    go_ret
    exact ⟨_, rfl, by rw [HZ.out]; exact HD4.out, by (repeat' (first | (with_reducible exact Below.refl _ _) | (with_reducible assumption) | (with_reducible refine Below.drew ?_) | (with_reducible refine below_drewN ?_ _) | ((with_reducible refine Below.alloc ?_ ?_ _); rotate_left; focus (go_size; done)) | ((with_reducible refine Below.setCell ?_ ?_ _); rotate_left; focus (go_size; done)) | ((with_reducible refine Below.trans ?_ (Below.mono (by with_reducible assumption) ?_)); rotate_left; focus (go_size; done))))⟩
end Go.Proofs.Ythkgjodidkpaeaa

set_option linter.unusedSimpArgs false
set_option linter.unusedVariables false
namespace Go.Proofs.Ythkgjodidkpaeaa
open Go.RowKit

theorem ten_le (a b : Nat) (h : a ≤ b) : (10 : Nat) ^ a ≤ 10 ^ b := Nat.pow_le_pow_right (by decide) h
theorem lt_256_tiny {N : Nat} (h : N < 2 ^ 256) : Tiny N := fun _ => by
  have h1 : (2 : Nat) ^ 256 ≤ 10 ^ 78 := by decide
  exact Nat.lt_of_lt_of_le h (Nat.le_trans h1 (ten_le 78 999 (by decide)))
theorem ten_tiny {k : Nat} (h : k < 999) : Tiny (10 ^ k) := fun _ => ten_lt k 999 h
theorem small_one : Small 1 := fun _ => one_lt_ten 1000 (by decide)
theorem near_small {N : Nat} (h : Tiny N) (M : Nat) : Small (near N M) := (small_add h (fun _ => one_lt_ten 999 (by decide))).of_le (near_le N M)
end Go.Proofs.Ythkgjodidkpaeaa

set_option linter.unusedSimpArgs false
set_option linter.unusedVariables false
namespace Go.Proofs.Ythkgjodidkpaeaa
open Go.RowKit

theorem mul_bd {d e : Int} (d0 : 0 ≤ d) (d9 : d ≤ 9) (e0 : 0 ≤ e) (e9 : e ≤ 9) : 0 ≤ d * e ∧ d * e ≤ 81 :=
  ⟨Int.mul_nonneg d0 e0, by have h := Int.mul_le_mul d9 e9 e0 (by omega : (0 : Int) ≤ 9); omega⟩
/-- where no place is below nought, the top place times its weight is not above the value -/
theorem dval_top_le (zs : List Int) (L : Nat) (hL : zs.length = L + 1) (h0 : ∀ j, 0 ≤ zs.getD j 0) : 10 ^ L * zs.getD L 0 ≤ dval zs := by
  have a := dval_append (zs.take L) (zs.drop L)
  rw [List.take_append_drop, List.length_take, Nat.min_eq_left (by omega), dval_drop zs L (by omega), List.drop_of_length_le (by omega)] at a
  have hb : 0 ≤ dval (zs.take L) := by
    have key : ∀ l : List Int, (∀ d ∈ l, 0 ≤ d) → 0 ≤ dval l := by
      intro l
      induction l with
      | nil => intro _; simp [dval]
      | cons d r ih =>
        intro h
        have h1 := h d List.mem_cons_self
        have h2 := ih fun x hx => h x (List.mem_cons_of_mem _ hx)
        simp only [dval]; omega
    refine key _ fun d hd => ?_
    obtain ⟨i, hi, rfl⟩ := List.getElem_of_mem hd
    rw [List.length_take] at hi
    rw [List.getElem_take, ← getD_lt _ _ (by omega)]
    exact h0 i
  rw [a]
  show _ ≤ dval (zs.take L) + 10 ^ L * (zs.getD L 0 + 10 * dval [])
  simp only [dval]
  have e : zs.getD L 0 + 10 * 0 = zs.getD L 0 := by omega
  rw [e]; omega
theorem digs_of (zs : List Int) (h : ∀ j, j < zs.length → 0 ≤ zs.getD j 0 ∧ zs.getD j 0 ≤ 9) : Digs zs := by
  intro d hd
  obtain ⟨i, hi, rfl⟩ := List.getElem_of_mem hd
  rw [← getD_lt _ _ hi]
  exact h i hi
theorem IsDg.getD_zero {l : List Int} {n : Nat} (h : IsDg l n) (j : Nat) : 0 ≤ l.getD j 0 ∧ l.getD j 0 ≤ 9 := h.get j
theorem rep_getD (n j : Nat) : (List.replicate n (0 : Int)).getD j 0 = 0 := by
  rw [List.getD_eq_getElem?_getD, List.getElem?_replicate]
  split <;> rfl
set_option maxHeartbeats 4000000 in
theorem times_any (N M : Nat) (u v : Value) (w : World) (hu : Dg w u N) (hv : Dg w v M) (hN : Small N) (hM : Small M) :
    Calls Try.prog 76 #[u, v] w (RetDg (N * M) w) := by
  obtain ⟨xs, ⟨A, c, rfl, hc, hs⟩, hd⟩ := hu
  obtain ⟨ys, ⟨B, d, rfl, hc2, hs2⟩, hd2⟩ := hv
  have hlx := pow_big hN hd
  have hly := pow_big hM hd2
  have HX := Lib.hid hd
  have HY := Lib.hid hd2
  have HS := Lib.hid hs
  have HT := Lib.hid hs2
  obtain ⟨lx, ex⟩ : ∃ n, n = xs.length := ⟨_, rfl⟩
  obtain ⟨ly, ey⟩ : ∃ n, n = ys.length := ⟨_, rfl⟩
  rw [← ex] at hc hlx ⊢
  rw [← ey] at hc2 hly ⊢
  have hmk := fun W => make_ints (lx + ly + 1) (by omega) W
  have e1 : ((lx + ly + 1 : Nat) : Int) = (lx : Int) + (ly : Int) + 1 := by omega
  rw [e1] at hmk
  have EX := Lib.hid ex
  have EY := Lib.hid ey
  clear hd hd2 hs hs2 hN hM ex ey e1
  go_enter Try.func76, Try.ntmps76
  go_wp2_with fail
  clear hmk
  go_loopg [6] lx (fun k i wr => ∃ (t : Nat) (zs : List Int), k + t = lx ∧ i = .int .i64 t ∧ zs.length = lx + ly + 1 ∧ Bk wr w.heap.size 3 (zs.map (Value.int .i64)) ∧ (∀ j, 0 ≤ zs.getD j 0 ∧ zs.getD j 0 ≤ 81 * t) ∧
    dval zs = dval (xs.take t) * dval ys ∧ w.heap.size < wr.heap.size ∧ Below w.heap.size w wr)
  case atStart =>
    refine ⟨0, List.replicate (lx + ly + 1) 0, by omega, rfl, by simp, Bk.new_ rfl, fun j => by rw [rep_getD]; omega, ?_, by go_size, by (repeat' (first | (with_reducible exact Below.refl _ _) | (with_reducible assumption) | (with_reducible refine Below.drew ?_) | (with_reducible refine below_drewN ?_ _) | ((with_reducible refine Below.alloc ?_ ?_ _); rotate_left; focus (go_size; done)) | ((with_reducible refine Below.setCell ?_ ?_ _); rotate_left; focus (go_size; done)) | ((with_reducible refine Below.trans ?_ (Below.mono (by with_reducible assumption) ?_)); rotate_left; focus (go_size; done))))⟩
    rw [dval_replicate]; simp [dval]
  case round =>
    obtain ⟨t, zs, hk, rfl, hzl, hbk, hbd, hval, hsz, hbel⟩ := hrel
    have HK := Lib.hid hk
    have HZ := Lib.hid hzl
    have HB := Lib.hid hbk
    have HBD := Lib.hid hbd
    have HV := Lib.hid hval
    have ht : t ≤ lx := by omega
    clear hk hzl hbk hbd hval
    by_cases hlt : t < lx
    · obtain ⟨g, o, rfl, hg, hcell⟩ := HS.out.at_ (k := t) (by have := EX.out; omega)
      have hgx := HX.out.get t
      obtain ⟨p, hp⟩ : ∃ p, p = xs.getD t 0 := ⟨_, rfl⟩
      rw [← hp] at hcell hgx
      obtain ⟨p0, p9⟩ := hgx
      have HP := Lib.hid hp
      clear hp
      go_wp2_with fail
      obtain ⟨wo, hwo⟩ : ∃ wo : World, wo = wr := ⟨_, rfl⟩
      clear hwo
      obtain ⟨go, hgo⟩ : ∃ go : Nat, go = gk := ⟨_, rfl⟩
      rw [← hgo] at HK
      have HGO := Lib.hid hgo
      clear hgo
      go_loopg [7] ly (fun k i wr => ∃ (s : Nat) (zs : List Int), k + s = ly ∧ i = .int .i64 s ∧ zs.length = lx + ly + 1 ∧ Bk wr w.heap.size 3 (zs.map (Value.int .i64)) ∧ (∀ j, 0 ≤ zs.getD j 0 ∧ zs.getD j 0 ≤ 81 * t + if j < t + s then 81 else 0) ∧
        dval zs = dval (xs.take t) * dval ys + 10 ^ t * (p * dval (ys.take s)) ∧ w.heap.size < wr.heap.size ∧ Below w.heap.size w wr)
      case atStart =>
        refine ⟨0, zs, by omega, rfl, HZ.out, HB.out, fun j => ?_, ?_, hsz, hbel⟩
        · have := HBD.out j
          split <;> omega
        · rw [HV.out]; simp [dval]
      case round =>
        obtain ⟨s, zs2, hk2, rfl, hzl2, hbk2, hbd2, hval2, hsz2, hbel2⟩ := hrel
        have HK2 := Lib.hid hk2
        have HZ2 := Lib.hid hzl2
        have HB2 := Lib.hid hbk2
        have HBD2 := Lib.hid hbd2
        have HV2 := Lib.hid hval2
        have hs' : s ≤ ly := by omega
        clear hk2 hzl2 hbk2 hbd2 hval2
        by_cases hls : s < ly
        · obtain ⟨g2, o2, rfl, hg2, hcell2⟩ := HT.out.at_ (k := s) (by have := EY.out; omega)
          have hgy := HY.out.get s
          obtain ⟨q, hq⟩ : ∃ q, q = ys.getD s 0 := ⟨_, rfl⟩
          rw [← hq] at hcell2 hgy
          obtain ⟨q0, q9⟩ := hgy
          have HQ := Lib.hid hq
          have ca := (hbel2.cell (p := ⟨g, o + t, none⟩) hg).trans hcell
          have cb := (hbel2.cell (p := ⟨g2, o2 + s, none⟩) hg2).trans hcell2
          have hzi : t + s < zs2.length := by have := HZ2.out; omega
          have cz : wr.cell? ⟨w.heap.size, t + s, none⟩ = some (.int .i64 (zs2.getD (t + s) 0)) := by
            refine HB2.out.cell _ ?_
            rw [List.getElem?_map, List.getElem?_eq_getElem hzi, getD_lt _ _ hzi]; rfl
          have fz := HB2.out.frozen (t + s)
          have hzb := HBD2.out (t + s)
          rw [if_neg (by omega)] at hzb
          obtain ⟨z, hz⟩ : ∃ z, z = zs2.getD (t + s) 0 := ⟨_, rfl⟩
          rw [← hz] at cz hzb
          obtain ⟨z0, z9⟩ := hzb
          obtain ⟨m0, m9⟩ := mul_bd p0 p9 q0 q9
          have HZZ := Lib.hid hz
          have HZI := Lib.hid hzi
          have i0 : (t : Int) + (s : Int) < (lx : Int) + (ly : Int) + 1 := by omega
          clear hq hz hcell2 hzi
          go_wp2_with fail
          go_region
          go_wp2_with fail
          go_roundg (gk - 1)
          case measure => have := HK2.out; omega
          case rel =>
            have hzi := HZI.out
            refine ⟨s + 1, zs2.set (t + s) (z + p * q), by have := HK2.out; omega, by go_num, by rw [List.length_set]; exact HZ2.out, ?_, ?_, ?_, by go_size, by (repeat' (first | (with_reducible exact Below.refl _ _) | (with_reducible assumption) | (with_reducible refine Below.drew ?_) | (with_reducible refine below_drewN ?_ _) | ((with_reducible refine Below.alloc ?_ ?_ _); rotate_left; focus (go_size; done)) | ((with_reducible refine Below.setCell ?_ ?_ _); rotate_left; focus (go_size; done)) | ((with_reducible refine Below.trans ?_ (Below.mono (by with_reducible assumption) ?_)); rotate_left; focus (go_size; done))))⟩
            · have h6 := (HB2.out.set_ (t + s) (.int .i64 (z + p * q))).drew
              rw [← List.map_set] at h6
              exact h6
            · intro j
              rw [getD_set _ _ _ _ hzi]
              by_cases hj : j = t + s
              · rw [if_pos hj, if_pos (by omega)]; omega
              · rw [if_neg hj]
                have := HBD2.out j
                by_cases hj2 : j < t + s
                · rw [if_pos hj2] at this; rw [if_pos (by omega)]; exact this
                · rw [if_neg hj2] at this; rw [if_neg (by omega)]; exact this
            · rw [dval_set _ _ _ hzi, ← HZZ.out, HV2.out, dval_take_succ ys s (by have := EY.out; omega), ← HQ.out, Int.pow_add]
              have e : z + p * q - z = p * q := by omega
              rw [e]
              generalize dval (ys.take s) = Y
              generalize dval (xs.take t) * dval ys = XY
              grind
        · obtain rfl : s = ly := by omega
          go_wp2_with fail
          go_roundg (go - 1)
          case measure => have := HK.out; have := HGO.out; omega
          case rel =>
            refine ⟨t + 1, zs2, by have := HK.out; omega, by go_num, HZ2.out, HB2.out, fun j => ?_, ?_, hsz2, hbel2⟩
            · have := HBD2.out j
              split at this <;> omega
            · rw [HV2.out, dval_take_succ xs t (by have := EX.out; omega), ← HP.out, EY.out, List.take_length, Int.add_mul, Int.mul_assoc]
    · obtain rfl : t = lx := by omega
      have hval : dval zs = ((N * M : Nat) : Int) := by
        rw [HV.out, EX.out, List.take_length, HX.out.2.2, HY.out.2.2, Int.natCast_mul]
      have HV := Far.mk hval
      clear hval
      go_wp2_with fail
      obtain ⟨wo, hwo⟩ : ∃ wo : World, wo = wr := ⟨_, rfl⟩
      clear hwo
      go_loopg [8] (t + ly) (fun k i wr => ∃ (s : Nat) (zs : List Int), k + s = t + ly ∧ i = .int .i64 s ∧ zs.length = t + ly + 1 ∧ Bk wr w.heap.size 3 (zs.map (Value.int .i64)) ∧ (∀ j, 0 ≤ zs.getD j 0) ∧ (∀ j, j < s → zs.getD j 0 ≤ 9) ∧ zs.getD s 0 ≤ 100000 ∧
        (∀ j, s < j → zs.getD j 0 ≤ 81000) ∧ dval zs = ((N * M : Nat) : Int) ∧ w.heap.size < wr.heap.size ∧ Below w.heap.size w wr)
      case atStart =>
        refine ⟨0, zs, by omega, rfl, HZ.out, HB.out, fun j => (HBD.out j).1, fun j hj => absurd hj (by omega), ?_, fun j _ => ?_, HV.out, hsz, hbel⟩
        · have := HBD.out 0; omega
        · have := HBD.out j; omega
      case round =>
        obtain ⟨s, zs2, hk2, rfl, hzl2, hbk2, hnn, h9, hs9, hgt, hval2, hsz2, hbel2⟩ := hrel
        have HK2 := Lib.hid hk2
        have HZ2 := Lib.hid hzl2
        have HB2 := Lib.hid hbk2
        have HNN := Lib.hid hnn
        have H9 := Lib.hid h9
        have HGT := Lib.hid hgt
        have HV2 := Far.mk hval2
        have hs' : s ≤ t + ly := by omega
        clear hk2 hzl2 hbk2 hnn h9 hgt hval2
        by_cases hls : s < t + ly
        · have hzi : s < zs2.length := by have := HZ2.out; omega
          have hzi2 : s + 1 < zs2.length := by have := HZ2.out; omega
          have cz : wr.cell? ⟨w.heap.size, s, none⟩ = some (.int .i64 (zs2.getD s 0)) := by
            refine HB2.out.cell _ ?_
            rw [List.getElem?_map, List.getElem?_eq_getElem hzi, getD_lt _ _ hzi]; rfl
          have cz2 : wr.cell? ⟨w.heap.size, s + 1, none⟩ = some (.int .i64 (zs2.getD (s + 1) 0)) := by
            refine HB2.out.cell _ ?_
            rw [List.getElem?_map, List.getElem?_eq_getElem hzi2, getD_lt _ _ hzi2]; rfl
          have fz := HB2.out.frozen s
          have fz2 := HB2.out.frozen (s + 1)
          have a0 := HNN.out s
          have b0 := HNN.out (s + 1)
          have b9 := HGT.out (s + 1) (by omega)
          obtain ⟨a, ha⟩ : ∃ z, z = zs2.getD s 0 := ⟨_, rfl⟩
          obtain ⟨b, hb⟩ : ∃ z, z = zs2.getD (s + 1) 0 := ⟨_, rfl⟩
          rw [← ha] at cz a0 hs9
          rw [← hb] at cz2 b0 b9
          have HA := Lib.hid ha
          have HBB := Lib.hid hb
          have HZI := Lib.hid hzi
          have HZI2 := Lib.hid hzi2
          have i0 : (s : Int) + 1 < (t : Int) + (ly : Int) + 1 := by omega
          clear ha hb hzi hzi2
          go_wp2_with fail
          go_region
          go_wp2_with fail
          go_roundg (gk - 1)
          case measure => have := HK2.out; omega
          case rel =>
            have hzi := HZI.out
            have hzi2 := HZI2.out
            have hzi3 : s < (zs2.set (s + 1) (b + a / 10)).length := by rw [List.length_set]; exact hzi
            refine ⟨s + 1, (zs2.set (s + 1) (b + a / 10)).set s (a % 10), by have := HK2.out; omega, by go_num, by rw [List.length_set, List.length_set]; exact HZ2.out, ?_, ?_, ?_, ?_, ?_, ?_, by go_size, by (repeat' (first | (with_reducible exact Below.refl _ _) | (with_reducible assumption) | (with_reducible refine Below.drew ?_) | (with_reducible refine below_drewN ?_ _) | ((with_reducible refine Below.alloc ?_ ?_ _); rotate_left; focus (go_size; done)) | ((with_reducible refine Below.setCell ?_ ?_ _); rotate_left; focus (go_size; done)) | ((with_reducible refine Below.trans ?_ (Below.mono (by with_reducible assumption) ?_)); rotate_left; focus (go_size; done))))⟩
            · have h6 := ((HB2.out.set_ (s + 1) (.int .i64 (b + a / 10))).drew).set_ s (.int .i64 (a % 10))
              rw [← List.map_set, ← List.map_set] at h6
              exact h6
            · intro j
              rw [getD_set _ _ _ _ hzi3, getD_set _ _ _ _ hzi2]
              split
              · omega
              · split
                · omega
                · exact HNN.out j
            · intro j hj
              rw [getD_set _ _ _ _ hzi3, getD_set _ _ _ _ hzi2]
              split
              · omega
              · rw [if_neg (by omega)]
                exact H9.out j (by omega)
            · rw [getD_set _ _ _ _ hzi3, getD_set _ _ _ _ hzi2, if_neg (by omega), if_pos rfl]; omega
            · intro j hj
              rw [getD_set _ _ _ _ hzi3, getD_set _ _ _ _ hzi2, if_neg (by omega), if_neg (by omega)]
              exact HGT.out j (by omega)
            · rw [dval_set _ _ _ hzi3, getD_set _ _ _ _ hzi2, if_neg (by omega), dval_set _ _ _ hzi2, ← HA.out, ← HBB.out, HV2.out, Int.pow_succ]
              have e1 := carry_step (10 ^ s) a
              have e2 : (10 : Int) ^ s * 10 * (b + a / 10 - b) = 10 ^ s * 10 * (a / 10) := by congr 1; omega
              have e3 : (10 : Int) ^ s * (a % 10 - a) = 10 ^ s * (a % 10) - 10 ^ s * a := Int.mul_sub _ _ _
              rw [e2, e3]; omega
        · have hs2 : s = t + ly := by omega
          have hnn' : ¬ (s : Int) + 1 < (t : Int) + (ly : Int) + 1 := by omega
          have hdig : Digs zs2 := by
            refine digs_of zs2 fun j hj => ⟨HNN.out j, ?_⟩
            have hl := HZ2.out
            by_cases hj2 : j < s
            · exact H9.out j hj2
            · have hj3 : j = t + ly := by omega
              rw [hj3]
              have h1 := dval_top_le zs2 (t + ly) hl HNN.out
              have h2 : dval zs2 < 10 ^ (t + ly) := by
                rw [HV2.out, Int.natCast_mul, Int.pow_add]
                have a1 := (dval_bd HX.out.1)
                have b1 := (dval_bd HY.out.1)
                rw [HX.out.2.2, ← EX.out] at a1
                rw [HY.out.2.2, ← EY.out] at b1
                have c1 : (N : Int) * M ≤ 10 ^ t * M := Int.mul_le_mul_of_nonneg_right (Int.le_of_lt a1.2) b1.1
                have c2 : (10 : Int) ^ t * M < 10 ^ t * 10 ^ ly := Int.mul_lt_mul_of_pos_left b1.2 (ten_pos t)
                omega
              have h3 : zs2.getD (t + ly) 0 < 1 := by
                have h4 : (10 : Int) ^ (t + ly) * zs2.getD (t + ly) 0 < 10 ^ (t + ly) * 1 := by omega
                exact Int.lt_of_mul_lt_mul_left h4 (Int.le_of_lt (ten_pos _))
              omega
          have HD := Lib.hid hdig
          clear hdig hs2
          go_wp2_with fail
          refine (cut_any zs2 _ _ (IsSl.of_bk HB2.out HZ2.out (Nat.le_refl _)) HD.out (by rw [HZ2.out]; omega)).mono ?_
          rintro _ w2 ⟨v2, rfl, hdg, hb2⟩
          have HDG := Lib.hid hdg
          clear hdg
          go_wp2_with fail
          go_ret
          refine ⟨_, rfl, ?_, by (repeat' (first | (with_reducible exact Below.refl _ _) | (with_reducible assumption) | (with_reducible refine Below.drew ?_) | (with_reducible refine below_drewN ?_ _) | ((with_reducible refine Below.alloc ?_ ?_ _); rotate_left; focus (go_size; done)) | ((with_reducible refine Below.setCell ?_ ?_ _); rotate_left; focus (go_size; done)) | ((with_reducible refine Below.trans ?_ (Below.mono (by with_reducible assumption) ?_)); rotate_left; focus (go_size; done))))⟩
          have e : N * M = (dval zs2).toNat := by rw [HV2.out]; rfl
          rw [e]
          exact HDG.out
end Go.Proofs.Ythkgjodidkpaeaa

set_option linter.unusedSimpArgs false
set_option linter.unusedVariables false
namespace Go.Proofs.Ythkgjodidkpaeaa
open Go.RowKit

theorem rcmp_bel (n m : Nat) (u v : Value) (w : World) (hu : Dg w u n) (hv : Dg w v m) (hn : Small n) (hm : Small m) :
    Calls Try.prog 92 #[u, v] w fun e w' => e = .returned (.int .i64 (cmpN n m)) ∧ Below w.heap.size w w' :=
  (rcmp_any n m u v w hu hv hn hm).mono fun _ _ ⟨he, nn, hw⟩ => ⟨he, by rw [hw]; exact below_drewN (Below.refl _ _) nn⟩
theorem lt_128_tiny {N : Nat} (h : N < 2 ^ 128) : Tiny N := lt_256_tiny (Nat.lt_of_lt_of_le h (Nat.pow_le_pow_right (by decide) (by decide)))
theorem mul_lt_256 {n m : Nat} (hn : n < 2 ^ 128) (hm : m < 2 ^ 128) : n * m < 2 ^ 256 := by
  have h := Nat.mul_lt_mul'' hn hm
  rwa [← Nat.pow_add] at h
end Go.Proofs.Ythkgjodidkpaeaa

set_option linter.unusedSimpArgs false
set_option linter.unusedVariables false
namespace Go.Proofs.Ythkgjodidkpaeaa
open Go.RowKit

/-- the digits' slice: empty at nought alone -/
theorem dg_len {w : World} {v : Value} {n : Nat} (h : Dg w v n) : ∃ (A : Option Addr) (k c : Nat), v = .slice A k c ∧ (k = 0 ↔ n = 0) ∧ k ≤ c := by
  obtain ⟨xs, ⟨A, c, rfl, hc, hs⟩, hd⟩ := h
  exact ⟨A, xs.length, c, rfl, hd.zero_iff, hc⟩
end Go.Proofs.Ythkgjodidkpaeaa

set_option linter.unusedSimpArgs false
set_option linter.unusedVariables false
namespace Go.Proofs.Ythkgjodidkpaeaa
open Go.RowKit

theorem IsDg.drop_zeros {l : List Int} {N : Nat} (h : IsDg l N) (k : Nat) (hk : k ≤ l.length) (hz : ∀ j, j < k → l.getD j 0 = 0) : IsDg (l.drop k) (N / 10 ^ k) ∧ N = N / 10 ^ k * 10 ^ k := by
  have e := dval_append (l.take k) (l.drop k)
  rw [List.take_append_drop, List.length_take, Nat.min_eq_left hk] at e
  have hz0 : dval (l.take k) = 0 := dval_zeros (fun d hd => by
    obtain ⟨i, hi, rfl⟩ := List.getElem_of_mem hd
    rw [List.length_take] at hi
    rw [List.getElem_take, ← getD_lt _ _ (by omega)]
    exact hz i (by omega))
  rw [hz0, Int.zero_add, h.2.2] at e
  have hb := dval_bd (h.1.drop k)
  obtain ⟨V, hV⟩ : ∃ V : Nat, dval (l.drop k) = (V : Int) := ⟨(dval (l.drop k)).toNat, by omega⟩
  rw [hV] at e
  have e2 : N = 10 ^ k * V := by exact_mod_cast e
  have e3 : N / 10 ^ k = V := by rw [e2, Nat.mul_div_cancel_left _ (Nat.pow_pos (by decide))]
  refine ⟨⟨h.1.drop k, ?_, by rw [hV, e3]⟩, by rw [e3, Nat.mul_comm]; exact e2⟩
  have ht := h.2.1
  unfold Top at *
  by_cases hlt : k < l.length
  · rw [List.getLast?_drop, if_neg (by omega)]; exact ht
  · rw [List.drop_of_length_le (by omega)]; simp
theorem tz_dig {l : List Int} {N T k : Nat} (h : IsDg l N) (hz : IsTz N T k) : k < l.length ∧ (∀ j, j < k → l.getD j 0 = 0) ∧ l.getD k 0 ≠ 0 := by
  have hk : k < l.length := by
    rcases Nat.lt_or_ge k l.length with hk | hk
    · exact hk
    · exfalso
      have h1 := h.lt_of_len hk
      have h2 : 1 ≤ T := by
        rcases Nat.eq_zero_or_pos T with h0 | h0
        · subst h0; exact absurd rfl hz.2
        · exact h0
      have h3 : 10 ^ k ≤ N := by rw [hz.1]; exact Nat.le_mul_of_pos_left _ h2
      omega
  have hd : ∀ j, j < l.length → l.getD j 0 = ((N / 10 ^ j % 10 : Nat) : Int) := fun j hj => by
    rw [dval_digit h.1 j hj, h.2.2, Int.natCast_emod, Int.natCast_ediv, Int.natCast_pow]; rfl
  refine ⟨hk, fun j hj => by rw [hd j (by omega), hz.mod_lt hj]; rfl, ?_⟩
  rw [hd k hk, hz.mod_eq]
  have := hz.2
  omega
theorem sl_drop {w : World} {g o t c : Nat} {xs : List Int} (h : Sl w (some ⟨g, o, none⟩) xs) (ht : t < xs.length) (hc : xs.length ≤ c) : IsSl w (.slice (some ⟨g, o + t, none⟩) (xs.length - t) (c - t)) (xs.drop t) := by
  refine ⟨_, _, by rw [List.length_drop], by rw [List.length_drop]; omega, fun _ => ?_⟩
  obtain ⟨g', o', cs, e, hb, hcs⟩ := h (by intro e; subst e; simp at ht)
  injection e with e
  injection e with e1 e2
  subst e1 e2
  refine ⟨g, o + t, cs, rfl, hb, fun j hj => ?_⟩
  rw [List.length_drop] at hj
  rw [Nat.add_assoc, hcs (t + j) (by omega), getD_lt _ _ (by omega), getD_lt _ _ (by rw [List.length_drop]; omega), List.getElem_drop]
end Go.Proofs.Ythkgjodidkpaeaa

set_option linter.unusedSimpArgs false
set_option linter.unusedVariables false
namespace Go.Proofs.Ythkgjodidkpaeaa
open Go.RowKit

theorem len_34 {l : List Int} {n : Nat} (h : IsDg l n) : l.length ≤ 34 ↔ n < B34 := ⟨fun hl => h.lt_of_len hl, fun hn => h.len_le hn⟩
theorem B34_small {n : Nat} (h : n < B34) : Tiny n := lt_128_tiny (Nat.lt_trans h B34_lt)
set_option maxHeartbeats 1000000 in
theorem one_any (k : Nat) (hk : k ≤ 998) (w : World) : Calls Try.prog 61 #[.int .i64 k] w (RetDg (10 ^ k) w) := by
  have HS := Lib.hid (fun W v hv => shift_any 1 k (by omega) v W hv small_one)
  rw [Nat.one_mul] at HS
  go_enter Try.func61, Try.ntmps61
  go_wp2_with fail
  refine (HS.out _ _ (dg_one (Bk.new_ rfl))).mono ?_
  rintro _ w1 ⟨v1, rfl, d1, hb1⟩; have hb1s := hb1.size; (try simp only [World.size_alloc, World.size_setCell, World.size_drew, World.heap_drewN] at hb1s); obtain ⟨hb1c, hb1f⟩ := bcell hb1; (try have : w.heap.size < w1.heap.size := by omega); (try have : w.heap.size + 1 < w1.heap.size := by omega); (try have : w.heap.size + 1 + 1 < w1.heap.size := by omega); (try have : w.heap.size + 1 + 1 + 1 < w1.heap.size := by omega); have Hd1 := Lib.hid d1; clear d1
  go_wp2_with fail
  go_ret
  exact ⟨v1, rfl, Hd1.out, by (repeat' (first | (with_reducible exact Below.refl _ _) | (with_reducible assumption) | (with_reducible refine Below.drew ?_) | (with_reducible refine below_drewN ?_ _) | ((with_reducible refine Below.alloc ?_ ?_ _); rotate_left; focus (go_size; done)) | ((with_reducible refine Below.setCell ?_ ?_ _); rotate_left; focus (go_size; done)) | ((with_reducible refine Below.trans ?_ (Below.mono (by with_reducible assumption) ?_)); rotate_left; focus (go_size; done))))⟩
set_option maxHeartbeats 4000000 in
theorem make1_any (neg : Bool) (n s : Nat) (v : Value) (w : World) (hv : Dg w v n) (hn : n < B34) (hs : s ≤ 1000) : Calls Try.prog 58 #[.bool neg, v, .int .i64 s] w fun e w' => e = .returned (.agg #[.bool (sg neg (stripC n s)), .int .u64 (wd ((stripC n s)) 1), .int .u64 (wd ((stripC n s)) 0), .int .i64 (stripS n s)]) ∧ Below w.heap.size w w' := by
  have HB := B34_small hn
  by_cases h0 : n = 0
  · have e1 : stripC n s = 0 := stripC_zero.2 h0
    have e2 : stripS n s = 0 := by rw [h0]; exact (strip_nil s).2
    rw [e1, e2, wd_zero, wd_zero, sg_zero]
    obtain ⟨A, k, c, rfl, hk, hkc⟩ := dg_len hv
    obtain rfl : k = 0 := hk.2 h0
    clear hk hv h0 hn HB e1 e2
    go_enter Try.func58, Try.ntmps58
    go_wp2_with fail
    refine bodyPost_ret (by simp [results, Try.results58, go_sem, *]; try rfl) rfl ?_
    exact ⟨rfl, by (repeat' (first | (with_reducible exact Below.refl _ _) | (with_reducible assumption) | (with_reducible refine Below.drew ?_) | (with_reducible refine below_drewN ?_ _) | ((with_reducible refine Below.alloc ?_ ?_ _); rotate_left; focus (go_size; done)) | ((with_reducible refine Below.setCell ?_ ?_ _); rotate_left; focus (go_size; done)) | ((with_reducible refine Below.trans ?_ (Below.mono (by with_reducible assumption) ?_)); rotate_left; focus (go_size; done))))⟩
  · have hne : sg neg (stripC n s) = neg := sg_pos (fun e => h0 (stripC_zero.1 e))
    rw [hne]
    obtain ⟨C, hC⟩ : ∃ C, C = stripC n s := ⟨_, rfl⟩
    obtain ⟨S, hS⟩ : ∃ S, S = stripS n s := ⟨_, rfl⟩
    rw [← hC, ← hS]
    have EC := Far.mk hC
    have ES := Far.mk hS
    obtain ⟨A, k, c, rfl, hk, hkc⟩ := dg_len hv
    have hk0 : ((k : Int) == 0) = false := by simp; omega
    have hkp : (0 : Int) < (k : Int) := by omega
    have HV := Lib.hid hv
    have HH0 := Lib.hid h0
    have HN := Far.mk hn
    clear hC hS hv hn hne h0 hk
    go_enter Try.func58, Try.ntmps58
    go_wp2_with fail
    clear hkp hk0
    go_loopg [1, 2] s (fun kk v sv wr => ∃ m : Nat, sv = .int .i64 (kk : Int) ∧ kk ≤ 1000 ∧ Hid (m ≠ 0) ∧ Far (m < B34) ∧ Far (C = stripC m kk ∧ S = stripS m kk) ∧ Dg wr v m ∧ Bk wr w.heap.size 26 [.bool false, .int .u64 0, .int .u64 0, .int .i64 0] ∧ Below w.heap.size w wr)
    case atStart => exact ⟨n, rfl, hs, HH0, HN, Far.mk ⟨EC.out, ES.out⟩, HV.out.below (by (repeat' (first | (with_reducible exact Below.refl _ _) | (with_reducible assumption) | (with_reducible refine Below.drew ?_) | (with_reducible refine below_drewN ?_ _) | ((with_reducible refine Below.alloc ?_ ?_ _); rotate_left; focus (go_size; done)) | ((with_reducible refine Below.setCell ?_ ?_ _); rotate_left; focus (go_size; done)) | ((with_reducible refine Below.trans ?_ (Below.mono (by with_reducible assumption) ?_)); rotate_left; focus (go_size; done))))), by (repeat (first | (with_reducible assumption) | ((with_reducible refine Bk.new_ ?_); (first | rfl | (simp only [World.size_alloc, World.size_setCell, World.size_drew, World.heap_drewN]; done))) | (with_reducible refine Bk.alloc ?_ _) | (with_reducible refine Bk.drew ?_) | (with_reducible refine Bk.drewN ?_ _) | ((with_reducible refine Bk.far ?_ ?_ _); rotate_left; focus (simp only []; omega)) | ((with_reducible refine Bk.below ?_ (by with_reducible assumption) ?_); rotate_left; focus (go_size; done)))), by (repeat' (first | (with_reducible exact Below.refl _ _) | (with_reducible assumption) | (with_reducible refine Below.drew ?_) | (with_reducible refine below_drewN ?_ _) | ((with_reducible refine Below.alloc ?_ ?_ _); rotate_left; focus (go_size; done)) | ((with_reducible refine Below.setCell ?_ ?_ _); rotate_left; focus (go_size; done)) | ((with_reducible refine Below.trans ?_ (Below.mono (by with_reducible assumption) ?_)); rotate_left; focus (go_size; done))))⟩
    case round =>
      obtain ⟨m, rfl, hk1, hm0, hmb, hcs, hdg, b0, hbel⟩ := hrel
      have HB0 := Lib.hid b0
      have l0 := b0.lt
      obtain ⟨xs, ⟨A, c, rfl, hc, hs⟩, hd⟩ := hdg
      have hlen : xs.length ≤ 34 := (len_34 hd).2 hmb.out
      have hpos : 0 < xs.length := Nat.pos_of_ne_zero (fun e => hm0.out (hd.zero_iff.1 e))
      obtain ⟨g, o, rfl, hg, hcell⟩ := hs.at_ (k := 0) hpos
      have hdig := dval_digit hd.1 0 hpos
      rw [hd.2.2, Int.pow_zero, Int.ediv_one] at hdig
      have hdig2 : xs.getD 0 0 = ((m % 10 : Nat) : Int) := by rw [hdig]; rfl
      rw [hdig2, Nat.add_zero] at hcell
      have hl0 : (0 : Int) < (xs.length : Int) := by omega
      have HS := Lib.hid hs
      have HD := Lib.hid hd
      have HC := Lib.hid hc
      clear hs hd hdig hdig2 b0 hc
      by_cases hz : gk = 0
      · subst hz
        have hm10 : Far (C = m ∧ S = 0) := hcs
        have ht := hm10.out
        have HT := Lib.hid (fun W h => to_any m (.slice (some ⟨g, o, none⟩) xs.length c) W h (B34_small hmb.out).small)
        unfold RetWide at HT
        rw [Nat.mod_eq_of_lt (Nat.lt_trans (Nat.lt_trans hmb.out B34_lt) (by decide))] at HT
        generalize decide (m < 2 ^ 128) = fr at *
        have HDG : Hid (Dg wr (.slice (some ⟨g, o, none⟩) xs.length c) m) := Lib.hid ⟨xs, ⟨_, c, rfl, HC.out, HS.out⟩, HD.out⟩
        have hng : ¬ (0 : Int) < ((0 : Nat) : Int) := by omega
        clear ht
        go_wp2_with fail
        refine (HT.out _ HDG.out).mono ?_
        rintro _ w2 ⟨rfl, hb2⟩; have hb2s := hb2.size; (try simp only [World.size_alloc, World.size_setCell, World.size_drew, World.heap_drewN] at hb2s); obtain ⟨hb2c, hb2f⟩ := bcell hb2; (try have : w.heap.size < w2.heap.size := by omega); (try have : w.heap.size + 1 < w2.heap.size := by omega); (try have : w.heap.size + 1 + 1 < w2.heap.size := by omega); (try have : w.heap.size + 1 + 1 + 1 < w2.heap.size := by omega)
        have b0 := HB0.out
        have k0 : Bk w2 w.heap.size 26 [.bool false, .int .u64 0, .int .u64 0, .int .i64 0] := by (repeat (first | (with_reducible assumption) | ((with_reducible refine Bk.new_ ?_); (first | rfl | (simp only [World.size_alloc, World.size_setCell, World.size_drew, World.heap_drewN]; done))) | (with_reducible refine Bk.alloc ?_ _) | (with_reducible refine Bk.drew ?_) | (with_reducible refine Bk.drewN ?_ _) | ((with_reducible refine Bk.far ?_ ?_ _); rotate_left; focus (simp only []; omega)) | ((with_reducible refine Bk.below ?_ (by with_reducible assumption) ?_); rotate_left; focus (go_size; done))))
        have k_0 := k0.cell 0 rfl
        have k_1 := k0.cell 1 rfl
        have k_2 := k0.cell 2 rfl
        have k_3 := k0.cell 3 rfl
        have k_4 := k0.frozen 0
        have k_5 := k0.frozen 1
        have k_6 := k0.frozen 2
        have k_7 := k0.frozen 3
        have k0l := k0.lt
        clear b0 k0 hb2c hb2f
        go_wp2_with fail
        refine bodyPost_ret (by simp [results, Try.results58, go_sem, *]; try rfl) rfl ?_
        obtain ⟨e1, e2⟩ := hm10.out
        exact ⟨by rw [e1, e2]; rfl, by (repeat' (first | (with_reducible exact Below.refl _ _) | (with_reducible assumption) | (with_reducible refine Below.drew ?_) | (with_reducible refine below_drewN ?_ _) | ((with_reducible refine Below.alloc ?_ ?_ _); rotate_left; focus (go_size; done)) | ((with_reducible refine Below.setCell ?_ ?_ _); rotate_left; focus (go_size; done)) | ((with_reducible refine Below.trans ?_ (Below.mono (by with_reducible assumption) ?_)); rotate_left; focus (go_size; done))))⟩
      · obtain ⟨j, rfl⟩ : ∃ j, gk = j + 1 := ⟨gk - 1, by omega⟩
        have hj : (0 : Int) < ((j + 1 : Nat) : Int) := by omega
        by_cases hd10 : m % 10 = 0
        · have hcs' : Far (C = stripC (m / 10) j ∧ S = stripS (m / 10) j) := Far.mk (by
            obtain ⟨e1, e2⟩ := hcs.out
            rw [e1, e2]; exact strip_yes hd10 j)
          rw [hd10] at hcell
          obtain ⟨hdd, _⟩ := HD.out.drop_zeros 1 hpos (by
            intro t ht
            obtain rfl : t = 0 := by omega
            have := dval_digit HD.out.1 0 hpos
            rw [HD.out.2.2, Int.pow_zero, Int.ediv_one] at this
            rw [this]; omega)
          have hm1 : m / 10 ≠ 0 := by have := hm0.out; omega
          have hlen2 : 1 < xs.length := by
            rcases Nat.lt_or_ge 1 xs.length with h | h
            · exact h
            · have := HD.out.lt_of_len (k := 1) h
              omega
          have hsl : IsSl wr (.slice (some ⟨g, o + 1, none⟩) (xs.length - 1) (c - 1)) (xs.drop 1) := sl_drop HS.out hlen2 HC.out
          have HDG : Hid (Dg wr (.slice (some ⟨g, o + 1, none⟩) (xs.length - 1) (c - 1)) (m / 10)) := Lib.hid ⟨_, hsl, by rw [Nat.pow_one] at hdd; exact hdd⟩
          have hc1 : (1 : Int) ≤ (c : Int) := by have := HC.out; omega
          have hcne : ¬ c = 1 := by have := HC.out; omega
          have hl1 : (1 : Int) ≤ (xs.length : Int) := by omega
          have hmb' : Far (m / 10 < B34) := Far.mk (by have := hmb.out; omega)
          have HM1 := Lib.hid hm1
          clear hdd hsl hm1 hd10 hcs hmb hm0
          go_wp2_with fail
          go_roundg j
          case measure => omega
          case rel =>
            refine ⟨m / 10, ?_, by omega, HM1, hmb', hcs', ?_, HB0.out, hbel⟩
            · congr 1
            · exact HDG.out
        · have hm10 : Far (C = m ∧ S = j + 1) := Far.mk (by
            obtain ⟨e1, e2⟩ := hcs.out
            rw [e1, e2]; exact strip_no hd10 (j + 1))
          have hne : ((((m % 10 : Nat) : Int)) == 0) = false := by simp; omega
          obtain ⟨d, hdd⟩ : ∃ d : Int, d = ((m % 10 : Nat) : Int) := ⟨_, rfl⟩
          rw [← hdd] at hcell hne
          have HT := Lib.hid (fun W h => to_any m (.slice (some ⟨g, o, none⟩) xs.length c) W h (B34_small hmb.out).small)
          unfold RetWide at HT
          rw [Nat.mod_eq_of_lt (Nat.lt_trans (Nat.lt_trans hmb.out B34_lt) (by decide))] at HT
          generalize decide (m < 2 ^ 128) = fr at *
          have HDG : Hid (Dg wr (.slice (some ⟨g, o, none⟩) xs.length c) m) := Lib.hid ⟨xs, ⟨_, c, rfl, HC.out, HS.out⟩, HD.out⟩
          clear hdd hd10 hcs
          go_wp2_with fail
          refine (HT.out _ HDG.out).mono ?_
          rintro _ w2 ⟨rfl, hb2⟩; have hb2s := hb2.size; (try simp only [World.size_alloc, World.size_setCell, World.size_drew, World.heap_drewN] at hb2s); obtain ⟨hb2c, hb2f⟩ := bcell hb2; (try have : w.heap.size < w2.heap.size := by omega); (try have : w.heap.size + 1 < w2.heap.size := by omega); (try have : w.heap.size + 1 + 1 < w2.heap.size := by omega); (try have : w.heap.size + 1 + 1 + 1 < w2.heap.size := by omega)
          have b0 := HB0.out
          have k0 : Bk w2 w.heap.size 26 [.bool false, .int .u64 0, .int .u64 0, .int .i64 0] := by (repeat (first | (with_reducible assumption) | ((with_reducible refine Bk.new_ ?_); (first | rfl | (simp only [World.size_alloc, World.size_setCell, World.size_drew, World.heap_drewN]; done))) | (with_reducible refine Bk.alloc ?_ _) | (with_reducible refine Bk.drew ?_) | (with_reducible refine Bk.drewN ?_ _) | ((with_reducible refine Bk.far ?_ ?_ _); rotate_left; focus (simp only []; omega)) | ((with_reducible refine Bk.below ?_ (by with_reducible assumption) ?_); rotate_left; focus (go_size; done))))
          have k_0 := k0.cell 0 rfl
          have k_1 := k0.cell 1 rfl
          have k_2 := k0.cell 2 rfl
          have k_3 := k0.cell 3 rfl
          have k_4 := k0.frozen 0
          have k_5 := k0.frozen 1
          have k_6 := k0.frozen 2
          have k_7 := k0.frozen 3
          have k0l := k0.lt
          clear b0 k0 hb2c hb2f
          go_wp2_with fail
          refine bodyPost_ret (by simp [results, Try.results58, go_sem, *]; try rfl) rfl ?_
          obtain ⟨e1, e2⟩ := hm10.out
          exact ⟨by rw [e1, e2]; first | rfl | (congr; omega), by (repeat' (first | (with_reducible exact Below.refl _ _) | (with_reducible assumption) | (with_reducible refine Below.drew ?_) | (with_reducible refine below_drewN ?_ _) | ((with_reducible refine Below.alloc ?_ ?_ _); rotate_left; focus (go_size; done)) | ((with_reducible refine Below.setCell ?_ ?_ _); rotate_left; focus (go_size; done)) | ((with_reducible refine Below.trans ?_ (Below.mono (by with_reducible assumption) ?_)); rotate_left; focus (go_size; done))))⟩
end Go.Proofs.Ythkgjodidkpaeaa

set_option linter.unusedSimpArgs false
set_option linter.unusedVariables false
namespace Go.Proofs.Ythkgjodidkpaeaa
open Go.RowKit

/-- a bound that bears a shift by eighteen places -/
def Slim (n : Nat) : Prop := True → n < 10 ^ 900
theorem Slim.of_lt {n k : Nat} (h : n < 10 ^ k) (hk : k ≤ 900) : Slim n := fun _ => Nat.lt_of_lt_of_le h (ten_le k 900 hk)
theorem Slim.tiny {n : Nat} (h : Slim n) : Tiny n := fun t => Nat.lt_of_lt_of_le (h t) (ten_le 900 999 (by decide))
theorem slim_key {n s : Nat} (a : Nat) (h : n < 10 ^ a) : n * 10 ^ s < 10 ^ (a + s) := by
  have h1 := Nat.mul_lt_mul_of_pos_right h (show 0 < 10 ^ s from Nat.pow_pos (by decide))
  rwa [← Nat.pow_add] at h1
theorem Slim.shift {n s : Nat} (h : Slim n) (hs : s ≤ 18) : Tiny (n * 10 ^ s) := fun t =>
  Nat.lt_of_lt_of_le (slim_key 900 (h t)) (ten_le (900 + s) 999 (by omega))
theorem fitd_yes {n d j : Nat} (h : near (n * 10 ^ j) d < B34) (e : fin (fitK n d (K19 n)) = fin (fitK n d (j + 1))) :
    FitC n d = stripC (near (n * 10 ^ j) d) j ∧ FitS n d = stripS (near (n * 10 ^ j) d) j ∧ FitE n d = 0 := by
  unfold FitC FitS FitE
  rw [e, fitK_yes h]
  exact ⟨rfl, rfl, rfl⟩
theorem fitd_no {n d j : Nat} (h : ¬ near (n * 10 ^ j) d < B34) (e : fin (fitK n d (K19 n)) = fin (fitK n d (j + 1))) : fin (fitK n d (K19 n)) = fin (fitK n d j) := by
  rw [e, fitK_no h]
theorem fitd_end {n d : Nat} (e : fin (fitK n d (K19 n)) = fin (fitK n d 0)) : FitC n d = 0 ∧ FitS n d = 0 ∧ FitE n d = 3 := by
  unfold FitC FitS FitE
  rw [e]
  exact ⟨rfl, rfl, rfl⟩
set_option maxHeartbeats 4000000 in
theorem rfit_any (neg : Bool) (n d : Nat) (u v : Value) (w : World) (hu : Dg w u n) (hv : Dg w v d) (hn : Slim n) (hd : Slim d) (h0 : 0 < d) : Calls Try.prog 60 #[.bool neg, u, v] w fun e w' => e = .returned (.tuple #[.agg #[.bool (sg neg (FitC (n) (d))), .int .u64 (wd (FitC (n) (d)) 1), .int .u64 (wd (FitC (n) (d)) 0), .int .i64 (FitS (n) (d))], .int .i64 (FitE n d)]) ∧ Below w.heap.size w w' := by
  have HU := Lib.hid hu
  have HV := Lib.hid hv
  have HN := Lib.hid hn
  have HD := Lib.hid hd
  have HP := Lib.hid h0
  obtain ⟨C, hC⟩ : ∃ C, C = FitC n d := ⟨_, rfl⟩
  obtain ⟨S, hS⟩ : ∃ S, S = FitS n d := ⟨_, rfl⟩
  obtain ⟨E, hE⟩ : ∃ E, E = FitE n d := ⟨_, rfl⟩
  rw [← hC, ← hS, ← hE]
  have EC := Far.mk hC
  have ES := Far.mk hS
  have EE := Far.mk hE
  have H19 := Far.mk (K19_eq n)
  clear hC hS hE hu hv hn hd h0
  go_enter Try.func60, Try.ntmps60
  go_wp2_with fail
  go_loopg [8] 19 (fun kk sv wr => kk ≤ 19 ∧ sv = .int .i64 ((kk : Int) - 1) ∧ Far (fin (fitK n d (K19 n)) = fin (fitK n d kk)) ∧ Bk wr w.heap.size 26 [.bool false, .int .u64 0, .int .u64 0, .int .i64 0] ∧ Below w.heap.size w wr)
  case atStart => exact ⟨Nat.le_refl _, rfl, Far.mk (by rw [H19.out]), by (repeat (first | (with_reducible assumption) | ((with_reducible refine Bk.new_ ?_); (first | rfl | (simp only [World.size_alloc, World.size_setCell, World.size_drew, World.heap_drewN]; done))) | (with_reducible refine Bk.alloc ?_ _) | (with_reducible refine Bk.drew ?_) | (with_reducible refine Bk.drewN ?_ _) | ((with_reducible refine Bk.far ?_ ?_ _); rotate_left; focus (simp only []; omega)) | ((with_reducible refine Bk.below ?_ (by with_reducible assumption) ?_); rotate_left; focus (go_size; done)))), by (repeat' (first | (with_reducible exact Below.refl _ _) | (with_reducible assumption) | (with_reducible refine Below.drew ?_) | (with_reducible refine below_drewN ?_ _) | ((with_reducible refine Below.alloc ?_ ?_ _); rotate_left; focus (go_size; done)) | ((with_reducible refine Below.setCell ?_ ?_ _); rotate_left; focus (go_size; done)) | ((with_reducible refine Below.trans ?_ (Below.mono (by with_reducible assumption) ?_)); rotate_left; focus (go_size; done))))⟩
  case round =>
    obtain ⟨hk19, rfl, he, b0, hbel⟩ := hrel
    have HB0 := Lib.hid b0
    have l0 := b0.lt
    by_cases hz : gk = 0
    · subst hz
      have hm : ¬ (0 : Int) ≤ ((0 : Nat) : Int) - 1 := by omega
      have b0_0 := b0.cell 0 rfl
      have b0_1 := b0.cell 1 rfl
      have b0_2 := b0.cell 2 rfl
      have b0_3 := b0.cell 3 rfl
      have b0_4 := b0.frozen 0
      have b0_5 := b0.frozen 1
      have b0_6 := b0.frozen 2
      have b0_7 := b0.frozen 3
      clear b0
      go_wp2_with fail
      refine bodyPost_ret (by simp [results, Try.results60, go_sem, *]; try rfl) rfl ?_
      obtain ⟨e1, e2, e3⟩ := fitd_end he.out
      exact ⟨by rw [EC.out, ES.out, EE.out, e1, e2, e3, wd_zero, wd_zero, sg_zero]; rfl, by (repeat' (first | (with_reducible exact Below.refl _ _) | (with_reducible assumption) | (with_reducible refine Below.drew ?_) | (with_reducible refine below_drewN ?_ _) | ((with_reducible refine Below.alloc ?_ ?_ _); rotate_left; focus (go_size; done)) | ((with_reducible refine Below.setCell ?_ ?_ _); rotate_left; focus (go_size; done)) | ((with_reducible refine Below.trans ?_ (Below.mono (by with_reducible assumption) ?_)); rotate_left; focus (go_size; done))))⟩
    · obtain ⟨j, rfl⟩ : ∃ j, gk = j + 1 := ⟨gk - 1, by omega⟩
      have hx : ((j + 1 : Nat) : Int) - 1 = (j : Int) := by omega
      rw [hx]
      have j0 : (0 : Int) ≤ (j : Int) := by omega
      have hnear := near_small (HN.out.shift (s := j) (by omega)) d
      have HNS := Lib.hid hnear
      clear hx b0 hnear
      go_wp2_with fail
      refine (shift_any n j (by omega) _ _ (HU.out.below hbel) HN.out.tiny.small).mono ?_
      rintro _ w1 ⟨v1, rfl, d1, hb1⟩; have hb1s := hb1.size; (try simp only [World.size_alloc, World.size_setCell, World.size_drew, World.heap_drewN] at hb1s); obtain ⟨hb1c, hb1f⟩ := bcell hb1; (try have : w.heap.size < w1.heap.size := by omega); (try have : w.heap.size + 1 < w1.heap.size := by omega); (try have : w.heap.size + 1 + 1 < w1.heap.size := by omega); (try have : w.heap.size + 1 + 1 + 1 < w1.heap.size := by omega); have Hd1 := Lib.hid d1; clear d1
      go_wp2_with fail
      refine (near_any (n * 10 ^ j) d HP.out _ _ _ Hd1.out ((HV.out.below hbel).below hb1) (HN.out.shift (by omega)) HD.out.tiny).mono ?_
      rintro _ w2 ⟨v2, rfl, d2, hb2⟩; have hb2s := hb2.size; (try simp only [World.size_alloc, World.size_setCell, World.size_drew, World.heap_drewN] at hb2s); obtain ⟨hb2c, hb2f⟩ := bcell hb2; (try have : w.heap.size < w2.heap.size := by omega); (try have : w.heap.size + 1 < w2.heap.size := by omega); (try have : w.heap.size + 1 + 1 < w2.heap.size := by omega); (try have : w.heap.size + 1 + 1 + 1 < w2.heap.size := by omega); have Hd2 := Lib.hid d2; clear d2
      have hyes := fitd_yes (n := n) (d := d) (j := j)
      have hno := fitd_no (n := n) (d := d) (j := j)
      have HYES := Far.mk hyes
      have HNO := Far.mk hno
      generalize near (n * 10 ^ j) d = q at *
      have r0 : Bk w2 w.heap.size 26 [.bool false, .int .u64 0, .int .u64 0, .int .i64 0] := by
        have b0 := HB0.out
        (repeat (first | (with_reducible assumption) | ((with_reducible refine Bk.new_ ?_); (first | rfl | (simp only [World.size_alloc, World.size_setCell, World.size_drew, World.heap_drewN]; done))) | (with_reducible refine Bk.alloc ?_ _) | (with_reducible refine Bk.drew ?_) | (with_reducible refine Bk.drewN ?_ _) | ((with_reducible refine Bk.far ?_ ?_ _); rotate_left; focus (simp only []; omega)) | ((with_reducible refine Bk.below ?_ (by with_reducible assumption) ?_); rotate_left; focus (go_size; done))))
      have HR0 := Lib.hid r0
      have mb : Below w.heap.size w w2 := by (repeat' (first | (with_reducible exact Below.refl _ _) | (with_reducible assumption) | (with_reducible refine Below.drew ?_) | (with_reducible refine below_drewN ?_ _) | ((with_reducible refine Below.alloc ?_ ?_ _); rotate_left; focus (go_size; done)) | ((with_reducible refine Below.setCell ?_ ?_ _); rotate_left; focus (go_size; done)) | ((with_reducible refine Below.trans ?_ (Below.mono (by with_reducible assumption) ?_)); rotate_left; focus (go_size; done))))
      clear hyes hno hb1c hb1f hb2c hb2f r0
      obtain ⟨xs, ⟨A, c, rfl, hc, hs⟩, hd⟩ := Hd2.out
      have h34 := len_34 hd
      by_cases hq : q < B34
      · obtain ⟨e1, e2, e3⟩ := HYES.out hq he.out
        have HM := Lib.hid (fun W hv => make1_any neg q j (.slice A xs.length c) W hv hq (by omega))
        rw [← e1, ← e2, ← EC.out, ← ES.out] at HM
        have E3 := Far.mk e3
        have hl : (xs.length : Int) ≤ 34 := by have := h34.2 hq; omega
        clear hq e1 e2 e3 HYES HNO he h34 hc hs hd
        go_wp2_with fail
        refine (HM.out _ Hd2.out).mono ?_
        rintro _ w3 ⟨rfl, hb3⟩; have hb3s := hb3.size; (try simp only [World.size_alloc, World.size_setCell, World.size_drew, World.heap_drewN] at hb3s); obtain ⟨hb3c, hb3f⟩ := bcell hb3; (try have : w.heap.size < w3.heap.size := by omega); (try have : w.heap.size + 1 < w3.heap.size := by omega); (try have : w.heap.size + 1 + 1 < w3.heap.size := by omega); (try have : w.heap.size + 1 + 1 + 1 < w3.heap.size := by omega)
        have k0 : Bk w3 w.heap.size 26 [.bool false, .int .u64 0, .int .u64 0, .int .i64 0] := by
          have r0 := HR0.out
          (repeat (first | (with_reducible assumption) | ((with_reducible refine Bk.new_ ?_); (first | rfl | (simp only [World.size_alloc, World.size_setCell, World.size_drew, World.heap_drewN]; done))) | (with_reducible refine Bk.alloc ?_ _) | (with_reducible refine Bk.drew ?_) | (with_reducible refine Bk.drewN ?_ _) | ((with_reducible refine Bk.far ?_ ?_ _); rotate_left; focus (simp only []; omega)) | ((with_reducible refine Bk.below ?_ (by with_reducible assumption) ?_); rotate_left; focus (go_size; done))))
        have k0_0 := k0.cell 0 rfl
        have k0_1 := k0.cell 1 rfl
        have k0_2 := k0.cell 2 rfl
        have k0_3 := k0.cell 3 rfl
        have k0_4 := k0.frozen 0
        have k0_5 := k0.frozen 1
        have k0_6 := k0.frozen 2
        have k0_7 := k0.frozen 3
        have k0l := k0.lt
        clear k0 hb3c hb3f
        go_wp2_with fail
        refine bodyPost_ret (by simp [results, Try.results60, go_sem, *]; try rfl) rfl ?_
        exact ⟨by rw [EE.out, E3.out], by (repeat' (first | (with_reducible exact Below.refl _ _) | (with_reducible assumption) | (with_reducible refine Below.drew ?_) | (with_reducible refine below_drewN ?_ _) | ((with_reducible refine Below.alloc ?_ ?_ _); rotate_left; focus (go_size; done)) | ((with_reducible refine Below.setCell ?_ ?_ _); rotate_left; focus (go_size; done)) | ((with_reducible refine Below.trans ?_ (Below.mono (by with_reducible assumption) ?_)); rotate_left; focus (go_size; done))))⟩
      · have HNX := Far.mk (HNO.out hq he.out)
        have hl : ¬ (xs.length : Int) ≤ 34 := by
          have := mt h34.1 hq
          omega
        clear hq HYES HNO he h34 hc hs hd
        go_wp2_with fail
        go_roundg j
        case measure => omega
        case rel => exact ⟨by omega, rfl, HNX, HR0.out, mb⟩
end Go.Proofs.Ythkgjodidkpaeaa

set_option linter.unusedSimpArgs false
set_option linter.unusedVariables false
namespace Go.Proofs.Ythkgjodidkpaeaa
open Go.RowKit

set_option maxHeartbeats 4000000 in
theorem rform_any (b : Bool) (c : Nat) (s : Int) (hc : c < 2 ^ 128) (w : World) : Calls Try.prog 13 #[.agg #[.bool b, .int .u64 (wd (c) 1), .int .u64 (wd (c) 0), .int .i64 s]] w fun e w' => e = .returned (.bool (dform b c s)) ∧ Below w.heap.size w w' := by
  have HO := Lib.hid (fun W => of_any c hc W)
  obtain ⟨x0, hx0⟩ : ∃ x, x = wd c 0 := ⟨_, rfl⟩
  obtain ⟨x1, hx1⟩ : ∃ x, x = wd c 1 := ⟨_, rfl⟩
  rw [← hx0, ← hx1] at HO
  rw [← hx0, ← hx1]
  obtain ⟨f, hf⟩ : ∃ f, f = dform b c s := ⟨_, rfl⟩
  rw [← hf]
  have HF := Far.mk hf
  clear hx0 hx1 hc hf
  go_enter Try.func13, Try.ntmps13
  go_wp2_with fail
  refine (HO.out _).mono ?_
  rintro _ w1 ⟨v1, rfl, d1, hb1⟩; have hb1s := hb1.size; (try simp only [World.size_alloc, World.size_setCell, World.size_drew, World.heap_drewN] at hb1s); obtain ⟨hb1c, hb1f⟩ := bcell hb1; (try have : w.heap.size < w1.heap.size := by omega); (try have : w.heap.size + 1 < w1.heap.size := by omega); (try have : w.heap.size + 1 + 1 < w1.heap.size := by omega); (try have : w.heap.size + 1 + 1 + 1 < w1.heap.size := by omega); have Hd1 := Lib.hid d1; clear d1
  have k0 : Bk w1 w.heap.size 26 [.bool b, .int .u64 x1, .int .u64 x0, .int .i64 s] := by (repeat (first | (with_reducible assumption) | ((with_reducible refine Bk.new_ ?_); (first | rfl | (simp only [World.size_alloc, World.size_setCell, World.size_drew, World.heap_drewN]; done))) | (with_reducible refine Bk.alloc ?_ _) | (with_reducible refine Bk.drew ?_) | (with_reducible refine Bk.drewN ?_ _) | ((with_reducible refine Bk.far ?_ ?_ _); rotate_left; focus (simp only []; omega)) | ((with_reducible refine Bk.below ?_ (by with_reducible assumption) ?_); rotate_left; focus (go_size; done))))
  have k0_0 := k0.cell 0 rfl
  have k0_1 := k0.cell 1 rfl
  have k0_2 := k0.cell 2 rfl
  have k0_3 := k0.cell 3 rfl
  have k0_4 := k0.frozen 0
  have k0_5 := k0.frozen 1
  have k0_6 := k0.frozen 2
  have k0_7 := k0.frozen 3
  have k0l := k0.lt
  have mb : Below w.heap.size w w1 := by (repeat' (first | (with_reducible exact Below.refl _ _) | (with_reducible assumption) | (with_reducible refine Below.drew ?_) | (with_reducible refine below_drewN ?_ _) | ((with_reducible refine Below.alloc ?_ ?_ _); rotate_left; focus (go_size; done)) | ((with_reducible refine Below.setCell ?_ ?_ _); rotate_left; focus (go_size; done)) | ((with_reducible refine Below.trans ?_ (Below.mono (by with_reducible assumption) ?_)); rotate_left; focus (go_size; done))))
  clear k0 hb1c hb1f hb1 hb1s
  obtain ⟨xs, ⟨A, k, rfl, hk, hs⟩, hd⟩ := Hd1.out
  have h34 := len_34 hd
  by_cases hb : c < B34
  · have hl : (xs.length : Int) ≤ 34 := by have := h34.2 hb; omega
    have hl' : ¬ (34 : Int) < (xs.length : Int) := by omega
    by_cases h0 : s < 0
    · have e := HF.out
      rw [dform_neg h0] at e
      subst e
      clear hb h34 hk hs hd
      go_wp2_with fail
      go_ret
      exact ⟨rfl, by (repeat' (first | (with_reducible exact Below.refl _ _) | (with_reducible assumption) | (with_reducible refine Below.drew ?_) | (with_reducible refine below_drewN ?_ _) | ((with_reducible refine Below.alloc ?_ ?_ _); rotate_left; focus (go_size; done)) | ((with_reducible refine Below.setCell ?_ ?_ _); rotate_left; focus (go_size; done)) | ((with_reducible refine Below.trans ?_ (Below.mono (by with_reducible assumption) ?_)); rotate_left; focus (go_size; done))))⟩
    · by_cases h1 : 18 < s
      · have e := HF.out
        rw [dform_deep h1] at e
        subst e
        clear hb h34 hk hs hd
        go_wp2_with fail
        go_ret
        exact ⟨rfl, by (repeat' (first | (with_reducible exact Below.refl _ _) | (with_reducible assumption) | (with_reducible refine Below.drew ?_) | (with_reducible refine below_drewN ?_ _) | ((with_reducible refine Below.alloc ?_ ?_ _); rotate_left; focus (go_size; done)) | ((with_reducible refine Below.setCell ?_ ?_ _); rotate_left; focus (go_size; done)) | ((with_reducible refine Below.trans ?_ (Below.mono (by with_reducible assumption) ?_)); rotate_left; focus (go_size; done))))⟩
      · have e := HF.out
        rw [dform_in hb (by omega) (by omega)] at e
        by_cases hz : c = 0
        · rw [if_pos hz] at e
          have hl0 : xs.length = 0 := hd.zero_iff.2 hz
          have E := Lib.hid e
          clear hb h34 hk hs hd hz e HF
          rw [hl0]
          cases b
          · go_wp2_with fail
            go_ret
            exact ⟨ret_bool (by rw [E.out]; simp; first | rfl | omega | (rw [Bool.eq_iff_iff]; simp)), by (repeat' (first | (with_reducible exact Below.refl _ _) | (with_reducible assumption) | (with_reducible refine Below.drew ?_) | (with_reducible refine below_drewN ?_ _) | ((with_reducible refine Below.alloc ?_ ?_ _); rotate_left; focus (go_size; done)) | ((with_reducible refine Below.setCell ?_ ?_ _); rotate_left; focus (go_size; done)) | ((with_reducible refine Below.trans ?_ (Below.mono (by with_reducible assumption) ?_)); rotate_left; focus (go_size; done))))⟩
          · go_wp2_with fail
            go_ret
            exact ⟨ret_bool (by rw [E.out]; rfl), by (repeat' (first | (with_reducible exact Below.refl _ _) | (with_reducible assumption) | (with_reducible refine Below.drew ?_) | (with_reducible refine below_drewN ?_ _) | ((with_reducible refine Below.alloc ?_ ?_ _); rotate_left; focus (go_size; done)) | ((with_reducible refine Below.setCell ?_ ?_ _); rotate_left; focus (go_size; done)) | ((with_reducible refine Below.trans ?_ (Below.mono (by with_reducible assumption) ?_)); rotate_left; focus (go_size; done))))⟩
        · rw [if_neg hz] at e
          have E := Lib.hid e
          obtain ⟨g, o, k', c', e', hkc, hcell, hg⟩ := dg_first Hd1.out hz
          injection e' with e1 e2 e3
          subst e1
          have hlp : ((xs.length : Int) == 0) = false := by rw [beq_eq_false_iff_ne]; omega
          have hlq : (0 : Int) < (xs.length : Int) := by omega
          obtain ⟨d, hdd⟩ : ∃ d : Int, d = ((c % 10 : Nat) : Int) := ⟨_, rfl⟩
          rw [← hdd] at hcell
          have HDD := Lib.hid hdd
          clear hb h34 hk hs hd hz e HF hdd e2 e3
          by_cases hs0 : s = 0
          · have g2 : (s == 0) = true := by simpa using hs0
            have HS := Lib.hid hs0
            clear hs0
            go_wp2_with fail
            go_ret
            exact ⟨ret_bool (by rw [E.out, HS.out]; rfl), by (repeat' (first | (with_reducible exact Below.refl _ _) | (with_reducible assumption) | (with_reducible refine Below.drew ?_) | (with_reducible refine below_drewN ?_ _) | ((with_reducible refine Below.alloc ?_ ?_ _); rotate_left; focus (go_size; done)) | ((with_reducible refine Below.setCell ?_ ?_ _); rotate_left; focus (go_size; done)) | ((with_reducible refine Below.trans ?_ (Below.mono (by with_reducible assumption) ?_)); rotate_left; focus (go_size; done))))⟩
          · have g2 : (s == 0) = false := by simpa using hs0
            have HS := Lib.hid hs0
            clear hs0
            go_wp2_with fail
            go_ret
            exact ⟨ret_bool (by rw [E.out, decide_eq_false HS.out, Bool.false_or, Bool.eq_iff_iff]; have := HDD.out; simp; omega), by (repeat' (first | (with_reducible exact Below.refl _ _) | (with_reducible assumption) | (with_reducible refine Below.drew ?_) | (with_reducible refine below_drewN ?_ _) | ((with_reducible refine Below.alloc ?_ ?_ _); rotate_left; focus (go_size; done)) | ((with_reducible refine Below.setCell ?_ ?_ _); rotate_left; focus (go_size; done)) | ((with_reducible refine Below.trans ?_ (Below.mono (by with_reducible assumption) ?_)); rotate_left; focus (go_size; done))))⟩
  · have e := HF.out
    rw [dform_hi hb] at e
    subst e
    have hl : (34 : Int) < (xs.length : Int) := by have := mt h34.1 hb; omega
    clear hb h34 hk hs hd
    go_wp2_with fail
    go_ret
    exact ⟨rfl, by (repeat' (first | (with_reducible exact Below.refl _ _) | (with_reducible assumption) | (with_reducible refine Below.drew ?_) | (with_reducible refine below_drewN ?_ _) | ((with_reducible refine Below.alloc ?_ ?_ _); rotate_left; focus (go_size; done)) | ((with_reducible refine Below.setCell ?_ ?_ _); rotate_left; focus (go_size; done)) | ((with_reducible refine Below.trans ?_ (Below.mono (by with_reducible assumption) ?_)); rotate_left; focus (go_size; done))))⟩
set_option maxHeartbeats 2000000 in
theorem flip_any (b : Bool) (c : Nat) (s : Int) (hc : c < 2 ^ 128) (w : World) : Calls Try.prog 65 #[.agg #[.bool b, .int .u64 (wd (c) 1), .int .u64 (wd (c) 0), .int .i64 s]] w fun e w' => e = .returned (.agg #[.bool (sg (!b) c), .int .u64 (wd (c) 1), .int .u64 (wd (c) 0), .int .i64 s]) ∧ Below w.heap.size w w' := by
  have qz : ∀ W, (binOp .neq 24 (.agg #[.int .u64 (wd c 1), .int .u64 (wd c 0)]) (.agg #[.int .u64 0, .int .u64 0])).run Try.prog W = .ok (.bool (!(decide (c = 0)))) W := fun W => by rw [neq_wide, eq_nil hc]
  obtain ⟨z, hz⟩ : ∃ z, z = decide (c = 0) := ⟨_, rfl⟩
  obtain ⟨r, hr⟩ : ∃ r, r = sg (!b) c := ⟨_, rfl⟩
  have HR := Lib.hid (show r = (!b && !z) by rw [hr, hz]; unfold sg; simp)
  rw [← hz] at qz
  rw [← hr]
  generalize wd c 0 = x0 at *
  generalize wd c 1 = x1 at *
  clear hc hz hr
  cases b
  · go_enter Try.func65, Try.ntmps65
    go_wp2_with fail
    refine bodyPost_ret (by simp [results, Try.results65, go_sem, *]; try rfl) rfl ?_
    exact ⟨by rw [HR.out]; rfl, by (repeat' (first | (with_reducible exact Below.refl _ _) | (with_reducible assumption) | (with_reducible refine Below.drew ?_) | (with_reducible refine below_drewN ?_ _) | ((with_reducible refine Below.alloc ?_ ?_ _); rotate_left; focus (go_size; done)) | ((with_reducible refine Below.setCell ?_ ?_ _); rotate_left; focus (go_size; done)) | ((with_reducible refine Below.trans ?_ (Below.mono (by with_reducible assumption) ?_)); rotate_left; focus (go_size; done))))⟩
  · go_enter Try.func65, Try.ntmps65
    go_wp2_with fail
    refine bodyPost_ret (by simp [results, Try.results65, go_sem, *]; try rfl) rfl ?_
    exact ⟨by rw [HR.out]; rfl, by (repeat' (first | (with_reducible exact Below.refl _ _) | (with_reducible assumption) | (with_reducible refine Below.drew ?_) | (with_reducible refine below_drewN ?_ _) | ((with_reducible refine Below.alloc ?_ ?_ _); rotate_left; focus (go_size; done)) | ((with_reducible refine Below.setCell ?_ ?_ _); rotate_left; focus (go_size; done)) | ((with_reducible refine Below.trans ?_ (Below.mono (by with_reducible assumption) ?_)); rotate_left; focus (go_size; done))))⟩
def RetUnits (b : Bool) (n : Nat) (w : World) (e : Ending) (w' : World) : Prop := ∃ v, e = .returned (.tuple #[.bool b, v]) ∧ Dg w' v n ∧ Below w.heap.size w w'
set_option maxHeartbeats 4000000 in
theorem units_any (b : Bool) (c s : Nat) (hc : c < 2 ^ 128) (hs : s ≤ 18) (w : World) : Calls Try.prog 66 #[.agg #[.bool b, .int .u64 (wd (c) 1), .int .u64 (wd (c) 0), .int .i64 s]] w (RetUnits b (unit c s) w) := by
  have HO := Lib.hid (fun W => of_any c hc W)
  have HSM := Lib.hid (lt_128_tiny hc).small
  generalize wd c 0 = x0 at *
  generalize wd c 1 = x1 at *
  have gw : IntKind.i64.wrap (18 - (s : Int)) = 18 - (s : Int) := IntWalk.i64_in _ (by omega)
  have HX : Hid (∀ W v, Dg W v c → Calls Try.prog 91 #[v, .int .i64 (18 - (s : Int))] W (RetDg (unit c s) W)) := Lib.hid (fun W v hv => by
    rw [show (18 : Int) - (s : Int) = ((18 - s : Nat) : Int) by omega]
    exact shift_any c (18 - s) (by omega) v W hv HSM.out)
  generalize unit c s = U at *
  clear hc
  go_enter Try.func66, Try.ntmps66
  go_wp2_with fail
  go_region_held3 (fun w' => (w'.cell? ⟨w.heap.size, 0, none⟩ = some (.bool b) ∧ w'.cell? ⟨w.heap.size, 1, none⟩ = some (.int .u64 x1) ∧ w'.cell? ⟨w.heap.size, 2, none⟩ = some (.int .u64 x0) ∧ w'.cell? ⟨w.heap.size, 3, none⟩ = some (.int .i64 ((s : Int))))) (first | (first | (go_keep; done) | (simp [go_sem]; done) | ((try dsimp only); (repeat' apply And.intro) <;> (first | (with_reducible assumption) | ((rw [World.cell?_alloc_lt _ _ _ (by show _ < _; omega)]); go_split_ands; (first | with_reducible assumption | (refine (World.cell?_alloc_lt _ _ _ (by show _ < _; omega)).symm.trans ?_; with_reducible assumption))) | ((rw [World.cell?_setCell_other _ _ _ _ (by intro e; injection e; omega)]); with_reducible assumption) | (go_keep; done) | (simp [go_sem]; done) | (simp (disch := go_size) [*, World.cell?_alloc_some, World.cell?_setCell_far]; done)))) | ((refine ⟨Bk.cell (t := 26) (cs := [.bool b, .int .u64 x1, .int .u64 x0, .int .i64 ((s : Int))]) ?_ 0 rfl, Bk.cell (t := 26) (cs := [.bool b, .int .u64 x1, .int .u64 x0, .int .i64 ((s : Int))]) ?_ 1 rfl, Bk.cell (t := 26) (cs := [.bool b, .int .u64 x1, .int .u64 x0, .int .i64 ((s : Int))]) ?_ 2 rfl, Bk.cell (t := 26) (cs := [.bool b, .int .u64 x1, .int .u64 x0, .int .i64 ((s : Int))]) ?_ 3 rfl⟩) <;> ((repeat (first | (with_reducible assumption) | ((with_reducible refine Bk.new_ ?_); (first | rfl | (simp only [World.size_alloc, World.size_setCell, World.size_drew, World.heap_drewN]; done))) | (with_reducible refine Bk.alloc ?_ _) | (with_reducible refine Bk.drew ?_) | (with_reducible refine Bk.drewN ?_ _) | ((with_reducible refine Bk.far ?_ ?_ _); rotate_left; focus (simp only []; omega)) | ((with_reducible refine Bk.below ?_ (by with_reducible assumption) ?_); rotate_left; focus (go_size; done)))); done))) (first | (go_at_call 49; (with_reducible refine (HO.out _).mono ?_); rintro _ w1 ⟨v1, rfl, d1, hb1⟩; have hb1s := hb1.size; (try simp only [World.size_alloc, World.size_setCell, World.size_drew, World.heap_drewN] at hb1s); obtain ⟨hb1c, hb1f⟩ := bcell hb1; (try have : w.heap.size < w1.heap.size := by omega); (try have : w.heap.size + 1 < w1.heap.size := by omega); (try have : w.heap.size + 1 + 1 < w1.heap.size := by omega); (try have : w.heap.size + 1 + 1 + 1 < w1.heap.size := by omega); have Hd1 := Lib.hid d1; clear d1) | (go_at_call 91; (with_reducible refine (HX.out _ _ ?hx).mono ?_); (case hx => ((first | exact Hid.out (by assumption) | exact Dg.below (Hid.out (by assumption)) (by (repeat' (first | (with_reducible exact Below.refl _ _) | (with_reducible assumption) | (with_reducible refine Below.drew ?_) | (with_reducible refine below_drewN ?_ _) | ((with_reducible refine Below.alloc ?_ ?_ _); rotate_left; focus (go_size; done)) | ((with_reducible refine Below.setCell ?_ ?_ _); rotate_left; focus (go_size; done)) | ((with_reducible refine Below.trans ?_ (Below.mono (by with_reducible assumption) ?_)); rotate_left; focus (go_size; done)))))))); rintro _ w2 ⟨v2, rfl, d2, hb2⟩; have hb2s := hb2.size; (try simp only [World.size_alloc, World.size_setCell, World.size_drew, World.heap_drewN] at hb2s); obtain ⟨hb2c, hb2f⟩ := bcell hb2; (try have : w.heap.size < w2.heap.size := by omega); (try have : w.heap.size + 1 < w2.heap.size := by omega); (try have : w.heap.size + 1 + 1 < w2.heap.size := by omega); (try have : w.heap.size + 1 + 1 + 1 < w2.heap.size := by omega); have Hd2 := Lib.hid d2; clear d2; (try have : w1.heap.size < w2.heap.size := by omega); (try have : w1.heap.size + 1 < w2.heap.size := by omega); (try have : w1.heap.size + 1 + 1 < w2.heap.size := by omega); (try have : w1.heap.size + 1 + 1 + 1 < w2.heap.size := by omega)))
  all_goals
    go_wp2_with fail
    go_ret2
    exact ⟨_, rfl, by (first | exact Hid.out (by assumption) | exact Dg.below (Hid.out (by assumption)) (by (repeat' (first | (with_reducible exact Below.refl _ _) | (with_reducible assumption) | (with_reducible refine Below.drew ?_) | (with_reducible refine below_drewN ?_ _) | ((with_reducible refine Below.alloc ?_ ?_ _); rotate_left; focus (go_size; done)) | ((with_reducible refine Below.setCell ?_ ?_ _); rotate_left; focus (go_size; done)) | ((with_reducible refine Below.trans ?_ (Below.mono (by with_reducible assumption) ?_)); rotate_left; focus (go_size; done)))))), by (repeat' (first | (with_reducible exact Below.refl _ _) | (with_reducible assumption) | (with_reducible refine Below.drew ?_) | (with_reducible refine below_drewN ?_ _) | ((with_reducible refine Below.alloc ?_ ?_ _); rotate_left; focus (go_size; done)) | ((with_reducible refine Below.setCell ?_ ?_ _); rotate_left; focus (go_size; done)) | ((with_reducible refine Below.trans ?_ (Below.mono (by with_reducible assumption) ?_)); rotate_left; focus (go_size; done))))⟩
def RetSum (an : Bool) (x : Nat) (bn : Bool) (y : Nat) (w : World) (e : Ending) (w' : World) : Prop := ∃ v, e = .returned (.tuple #[.bool (sgn an x bn y), v]) ∧ Dg w' v (sab an x bn y) ∧ Below w.heap.size w w'
set_option maxHeartbeats 4000000 in
theorem rsum_any (an : Bool) (x : Nat) (bn : Bool) (y : Nat) (u v : Value) (w : World) (hu : Dg w u x) (hv : Dg w v y) (hx : Tiny x) (hy : Tiny y) :
    Calls Try.prog 67 #[.bool an, u, .bool bn, v] w (RetSum an x bn y w) := by
  have HU := Lib.hid hu
  have HV := Lib.hid hv
  have HX := Lib.hid hx.small
  have HY := Lib.hid hy.small
  obtain ⟨N, hN⟩ : ∃ N, N = sgn an x bn y := ⟨_, rfl⟩
  obtain ⟨U, hU⟩ : ∃ U, U = sab an x bn y := ⟨_, rfl⟩
  unfold RetSum
  rw [← hN, ← hU]
  clear hu hv hx hy
  by_cases hb : an = bn
  · have hbe : (an == bn) = true := by simpa using hb
    have e1 : N = an := by rw [hN]; unfold sgn; rw [if_pos hb]
    have e2 : U = x + y := by rw [hU]; unfold sab; rw [if_pos hb]
    subst e1
    have E2 := Lib.hid e2
    clear hb hN hU e2
    go_enter Try.func67, Try.ntmps67
    go_wp2_with fail
    refine (plus_any x y _ _ _ HU.out HV.out HX.out HY.out).mono ?_
    rintro _ w1 ⟨v1, rfl, d1, hb1⟩; have hb1s := hb1.size; (try simp only [World.size_alloc, World.size_setCell, World.size_drew, World.heap_drewN] at hb1s); obtain ⟨hb1c, hb1f⟩ := bcell hb1; (try have : w.heap.size < w1.heap.size := by omega); (try have : w.heap.size + 1 < w1.heap.size := by omega); (try have : w.heap.size + 1 + 1 < w1.heap.size := by omega); (try have : w.heap.size + 1 + 1 + 1 < w1.heap.size := by omega); have Hd1 := Lib.hid d1; clear d1
    go_wp2_with fail
    go_ret2
    exact ⟨_, rfl, by rw [E2.out]; exact Hd1.out, by (repeat' (first | (with_reducible exact Below.refl _ _) | (with_reducible assumption) | (with_reducible refine Below.drew ?_) | (with_reducible refine below_drewN ?_ _) | ((with_reducible refine Below.alloc ?_ ?_ _); rotate_left; focus (go_size; done)) | ((with_reducible refine Below.setCell ?_ ?_ _); rotate_left; focus (go_size; done)) | ((with_reducible refine Below.trans ?_ (Below.mono (by with_reducible assumption) ?_)); rotate_left; focus (go_size; done))))⟩
  · have hbe : (an == bn) = false := by simpa using hb
    by_cases hl : y ≤ x
    · have hc : 0 ≤ cmpN x y := by unfold cmpN; split <;> (try split) <;> omega
      have e1 : N = an := by rw [hN]; unfold sgn; rw [if_neg hb, if_pos hl]
      have e2 : U = x - y := by rw [hU]; unfold sab; rw [if_neg hb, if_pos hl]
      subst e1
      have E2 := Lib.hid e2
      have HL := Lib.hid hl
      have HC := Lib.hid (fun W hu hv => rcmp_bel x y u v W hu hv HX.out HY.out)
      generalize cmpN x y = cc at *
      clear hb hN hU e2 hl
      go_enter Try.func67, Try.ntmps67
      go_wp2_with fail
      refine (HC.out _ HU.out HV.out).mono ?_
      rintro _ w1 ⟨rfl, hb1⟩; have hb1s := hb1.size; (try simp only [World.size_alloc, World.size_setCell, World.size_drew, World.heap_drewN] at hb1s); obtain ⟨hb1c, hb1f⟩ := bcell hb1; (try have : w.heap.size < w1.heap.size := by omega); (try have : w.heap.size + 1 < w1.heap.size := by omega); (try have : w.heap.size + 1 + 1 < w1.heap.size := by omega); (try have : w.heap.size + 1 + 1 + 1 < w1.heap.size := by omega)
      go_wp2_with fail
      refine (rless_any x y HL.out _ _ _ (HU.out.below hb1) (HV.out.below hb1) HX.out HY.out).mono ?_
      rintro _ w2 ⟨v2, rfl, d2, hb2⟩; have hb2s := hb2.size; (try simp only [World.size_alloc, World.size_setCell, World.size_drew, World.heap_drewN] at hb2s); obtain ⟨hb2c, hb2f⟩ := bcell hb2; (try have : w.heap.size < w2.heap.size := by omega); (try have : w.heap.size + 1 < w2.heap.size := by omega); (try have : w.heap.size + 1 + 1 < w2.heap.size := by omega); (try have : w.heap.size + 1 + 1 + 1 < w2.heap.size := by omega); have Hd2 := Lib.hid d2; clear d2
      go_wp2_with fail
      go_ret2
      exact ⟨_, rfl, by rw [E2.out]; exact Hd2.out, by (repeat' (first | (with_reducible exact Below.refl _ _) | (with_reducible assumption) | (with_reducible refine Below.drew ?_) | (with_reducible refine below_drewN ?_ _) | ((with_reducible refine Below.alloc ?_ ?_ _); rotate_left; focus (go_size; done)) | ((with_reducible refine Below.setCell ?_ ?_ _); rotate_left; focus (go_size; done)) | ((with_reducible refine Below.trans ?_ (Below.mono (by with_reducible assumption) ?_)); rotate_left; focus (go_size; done))))⟩
    · have hc : ¬ 0 ≤ cmpN x y := by unfold cmpN; rw [if_neg (by omega), if_pos (by omega)]; decide
      have e1 : N = bn := by rw [hN]; unfold sgn; rw [if_neg hb, if_neg hl]
      have e2 : U = y - x := by rw [hU]; unfold sab; rw [if_neg hb, if_neg hl]
      subst e1
      have E2 := Lib.hid e2
      have HL : Hid (x ≤ y) := Lib.hid (by omega)
      have HC := Lib.hid (fun W hu hv => rcmp_bel x y u v W hu hv HX.out HY.out)
      generalize cmpN x y = cc at *
      clear hb hN hU e2 hl
      go_enter Try.func67, Try.ntmps67
      go_wp2_with fail
      refine (HC.out _ HU.out HV.out).mono ?_
      rintro _ w1 ⟨rfl, hb1⟩; have hb1s := hb1.size; (try simp only [World.size_alloc, World.size_setCell, World.size_drew, World.heap_drewN] at hb1s); obtain ⟨hb1c, hb1f⟩ := bcell hb1; (try have : w.heap.size < w1.heap.size := by omega); (try have : w.heap.size + 1 < w1.heap.size := by omega); (try have : w.heap.size + 1 + 1 < w1.heap.size := by omega); (try have : w.heap.size + 1 + 1 + 1 < w1.heap.size := by omega)
      go_wp2_with fail
      refine (rless_any y x HL.out _ _ _ (HV.out.below hb1) (HU.out.below hb1) HY.out HX.out).mono ?_
      rintro _ w2 ⟨v2, rfl, d2, hb2⟩; have hb2s := hb2.size; (try simp only [World.size_alloc, World.size_setCell, World.size_drew, World.heap_drewN] at hb2s); obtain ⟨hb2c, hb2f⟩ := bcell hb2; (try have : w.heap.size < w2.heap.size := by omega); (try have : w.heap.size + 1 < w2.heap.size := by omega); (try have : w.heap.size + 1 + 1 < w2.heap.size := by omega); (try have : w.heap.size + 1 + 1 + 1 < w2.heap.size := by omega); have Hd2 := Lib.hid d2; clear d2
      go_wp2_with fail
      go_ret2
      exact ⟨_, rfl, by rw [E2.out]; exact Hd2.out, by (repeat' (first | (with_reducible exact Below.refl _ _) | (with_reducible assumption) | (with_reducible refine Below.drew ?_) | (with_reducible refine below_drewN ?_ _) | ((with_reducible refine Below.alloc ?_ ?_ _); rotate_left; focus (go_size; done)) | ((with_reducible refine Below.setCell ?_ ?_ _); rotate_left; focus (go_size; done)) | ((with_reducible refine Below.trans ?_ (Below.mono (by with_reducible assumption) ?_)); rotate_left; focus (go_size; done))))⟩
end Go.Proofs.Ythkgjodidkpaeaa
