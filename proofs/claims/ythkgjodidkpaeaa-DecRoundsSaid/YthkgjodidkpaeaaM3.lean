/- The contracts of the functions that the law reaches, part 3: what each returns and what becomes of memory. -/
import Derived.RegionTactic
import Derived.BigRegion
import Derived.StillTailTactics
import Derived.Deep.DeepCutAuto
import Derived.Test.YthkgjodidkpaeaaM1
import Derived.Test.YthkgjodidkpaeaaM2
set_option linter.unusedSimpArgs false
set_option linter.unusedVariables false
namespace Go.Proofs.Ythkgjodidkpaeaa
open Go.RowKit

set_option maxHeartbeats 2000000 in
theorem add_bad (b : Bool) (c : Nat) (s : Int) (b' : Bool) (c' : Nat) (s' : Int) (hc : c < 2 ^ 128) (hc' : c' < 2 ^ 128) (h : (dform b c s && dform b' c' s') = false) (w : World) :
    Calls Try.prog 15 #[.agg #[.bool b, .int .u64 (wd (c) 1), .int .u64 (wd (c) 0), .int .i64 s], .agg #[.bool b', .int .u64 (wd (c') 1), .int .u64 (wd (c') 0), .int .i64 s']] w fun e w' => e = .returned (.tuple #[.agg #[.bool false, .int .u64 0, .int .u64 0, .int .i64 0], .int .i64 2]) ∧ Below w.heap.size w w' := by
  have HF := Lib.hid (fun g W hg => formed_two b c s hc b' c' s' hc' g W hg)
  rw [h] at HF
  simp only [ferr, if_pos, if_neg, Bool.false_eq_true, if_true, if_false] at HF
  generalize wd c 0 = x0 at *
  generalize wd c 1 = x1 at *
  generalize wd c' 0 = y0 at *
  generalize wd c' 1 = y1 at *
  clear hc hc' h
  go_enter Try.func15, Try.ntmps15
  go_wp2_with fail
  (with_reducible refine (HF.out _ _ ?hg).mono ?_)
  case hg => ((repeat (first | (with_reducible assumption) | ((with_reducible refine Bk.new_ ?_); (first | rfl | (simp only [World.size_alloc, World.size_setCell, World.size_drew, World.heap_drewN]; done))) | (with_reducible refine Bk.alloc ?_ _) | (with_reducible refine Bk.drew ?_) | (with_reducible refine Bk.drewN ?_ _) | ((with_reducible refine Bk.far ?_ ?_ _); rotate_left; focus (simp only []; omega)) | ((with_reducible refine Bk.below ?_ (by with_reducible assumption) ?_); rotate_left; focus (go_size; done)))); done)
  rintro _ w1 ⟨rfl, hb1⟩; have hb1s := hb1.size; (try simp only [World.size_alloc, World.size_setCell, World.size_drew, World.heap_drewN] at hb1s); obtain ⟨hb1c, hb1f⟩ := bcell hb1; (try have : w.heap.size < w1.heap.size := by omega); (try have : w.heap.size + 1 < w1.heap.size := by omega); (try have : w.heap.size + 1 + 1 < w1.heap.size := by omega); (try have : w.heap.size + 1 + 1 + 1 < w1.heap.size := by omega)
  have ka : Bk w1 (w.heap.size) 26 [.bool b, .int .u64 x1, .int .u64 x0, .int .i64 s] := by (repeat (first | (with_reducible assumption) | ((with_reducible refine Bk.new_ ?_); (first | rfl | (simp only [World.size_alloc, World.size_setCell, World.size_drew, World.heap_drewN]; done))) | (with_reducible refine Bk.alloc ?_ _) | (with_reducible refine Bk.drew ?_) | (with_reducible refine Bk.drewN ?_ _) | ((with_reducible refine Bk.far ?_ ?_ _); rotate_left; focus (simp only []; omega)) | ((with_reducible refine Bk.below ?_ (by with_reducible assumption) ?_); rotate_left; focus (go_size; done))))
  have ka_0 := ka.cell 0 rfl
  have ka_1 := ka.cell 1 rfl
  have ka_2 := ka.cell 2 rfl
  have ka_3 := ka.cell 3 rfl
  have ka_4 := ka.frozen 0
  have ka_5 := ka.frozen 1
  have ka_6 := ka.frozen 2
  have ka_7 := ka.frozen 3
  have kal := ka.lt
  have kb : Bk w1 (w.heap.size + 1) 26 [.bool b', .int .u64 y1, .int .u64 y0, .int .i64 s'] := by (repeat (first | (with_reducible assumption) | ((with_reducible refine Bk.new_ ?_); (first | rfl | (simp only [World.size_alloc, World.size_setCell, World.size_drew, World.heap_drewN]; done))) | (with_reducible refine Bk.alloc ?_ _) | (with_reducible refine Bk.drew ?_) | (with_reducible refine Bk.drewN ?_ _) | ((with_reducible refine Bk.far ?_ ?_ _); rotate_left; focus (simp only []; omega)) | ((with_reducible refine Bk.below ?_ (by with_reducible assumption) ?_); rotate_left; focus (go_size; done))))
  have kb_0 := kb.cell 0 rfl
  have kb_1 := kb.cell 1 rfl
  have kb_2 := kb.cell 2 rfl
  have kb_3 := kb.cell 3 rfl
  have kb_4 := kb.frozen 0
  have kb_5 := kb.frozen 1
  have kb_6 := kb.frozen 2
  have kb_7 := kb.frozen 3
  have kbl := kb.lt
  have kr : Bk w1 (w.heap.size + 1 + 1) 26 [.bool false, .int .u64 0, .int .u64 0, .int .i64 0] := by (repeat (first | (with_reducible assumption) | ((with_reducible refine Bk.new_ ?_); (first | rfl | (simp only [World.size_alloc, World.size_setCell, World.size_drew, World.heap_drewN]; done))) | (with_reducible refine Bk.alloc ?_ _) | (with_reducible refine Bk.drew ?_) | (with_reducible refine Bk.drewN ?_ _) | ((with_reducible refine Bk.far ?_ ?_ _); rotate_left; focus (simp only []; omega)) | ((with_reducible refine Bk.below ?_ (by with_reducible assumption) ?_); rotate_left; focus (go_size; done))))
  have kr_0 := kr.cell 0 rfl
  have kr_1 := kr.cell 1 rfl
  have kr_2 := kr.cell 2 rfl
  have kr_3 := kr.cell 3 rfl
  have kr_4 := kr.frozen 0
  have kr_5 := kr.frozen 1
  have kr_6 := kr.frozen 2
  have kr_7 := kr.frozen 3
  have krl := kr.lt
  clear hb1c hb1f ka kb kr
  go_wp2_with fail
  refine bodyPost_ret (by simp [results, Try.results15, go_sem, *]; try rfl) rfl ?_
  exact ⟨rfl, by (repeat' (first | (with_reducible exact Below.refl _ _) | (with_reducible assumption) | (with_reducible refine Below.drew ?_) | (with_reducible refine below_drewN ?_ _) | ((with_reducible refine Below.alloc ?_ ?_ _); rotate_left; focus (go_size; done)) | ((with_reducible refine Below.setCell ?_ ?_ _); rotate_left; focus (go_size; done)) | ((with_reducible refine Below.trans ?_ (Below.mono (by with_reducible assumption) ?_)); rotate_left; focus (go_size; done))))⟩
theorem sgn_same {b b' : Bool} {x y : Nat} (h : b = b') : sgn b x b' y = b ∧ sab b x b' y = x + y := by unfold sgn sab; rw [if_pos h, if_pos h]; exact ⟨rfl, rfl⟩
theorem sgn_ge {b b' : Bool} {x y : Nat} (h : b ≠ b') (hl : y ≤ x) : sgn b x b' y = b ∧ sab b x b' y = x - y := by unfold sgn sab; rw [if_neg h, if_neg h, if_pos hl, if_pos hl]; exact ⟨rfl, rfl⟩
theorem sgn_lt {b b' : Bool} {x y : Nat} (h : b ≠ b') (hl : x < y) : sgn b x b' y = b' ∧ sab b x b' y = y - x := by unfold sgn sab; rw [if_neg h, if_neg h, if_neg (by omega), if_neg (by omega)]; exact ⟨rfl, rfl⟩
theorem cmpN_ge {x y : Nat} (h : y ≤ x) : 0 ≤ cmpN x y := by unfold cmpN; split <;> (try split) <;> omega
theorem cmpN_lt {x y : Nat} (h : x < y) : cmpN x y < 0 := by unfold cmpN; rw [if_neg (by omega), if_pos h]; decide
/-- the sum in the units of the greater scale -/
theorem add_units (b b' : Bool) (c c' s s' m : Nat) (hs : s ≤ 18) (hs' : s' ≤ 18) (hm : m = max s s') :
    FitC (sab b (unit c s) b' (unit c' s')) (10 ^ 18) = FitC (sab b (c * 10 ^ (m - s)) b' (c' * 10 ^ (m - s'))) (10 ^ m) ∧ FitS (sab b (unit c s) b' (unit c' s')) (10 ^ 18) = FitS (sab b (c * 10 ^ (m - s)) b' (c' * 10 ^ (m - s'))) (10 ^ m) ∧
    FitE (sab b (unit c s) b' (unit c' s')) (10 ^ 18) = FitE (sab b (c * 10 ^ (m - s)) b' (c' * 10 ^ (m - s'))) (10 ^ m) ∧ sgn b (unit c s) b' (unit c' s') = sgn b (c * 10 ^ (m - s)) b' (c' * 10 ^ (m - s')) := by
  obtain ⟨e1, e2⟩ := sum_units b b' c c' s s' m (by omega) (by omega) (by omega)
  obtain ⟨e3, e4, e5⟩ := fit_units (sab b (c * 10 ^ (m - s)) b' (c' * 10 ^ (m - s'))) m (by omega)
  rw [e1, e2, e3, e4, e5]
  exact ⟨rfl, rfl, rfl, rfl⟩
set_option maxRecDepth 100000 in
set_option maxHeartbeats 8000000 in
theorem add_ok (b : Bool) (c s : Nat) (b' : Bool) (c' s' : Nat) (h : dform b c s = true) (h' : dform b' c' s' = true) (hc : c < B34) (hc' : c' < B34) (hs : s ≤ 18) (hs' : s' ≤ 18) (w : World) :
    Calls Try.prog 15 #[.agg #[.bool b, .int .u64 (wd (c) 1), .int .u64 (wd (c) 0), .int .i64 s], .agg #[.bool b', .int .u64 (wd (c') 1), .int .u64 (wd (c') 0), .int .i64 s']] w fun e w' => e = .returned (.tuple #[.agg #[.bool (sg (sgn b (unit c s) b' (unit c' s')) (FitC ((sab b (unit c s) b' (unit c' s'))) (10 ^ 18))), .int .u64 (wd (FitC ((sab b (unit c s) b' (unit c' s'))) (10 ^ 18)) 1), .int .u64 (wd (FitC ((sab b (unit c s) b' (unit c' s'))) (10 ^ 18)) 0), .int .i64 (FitS ((sab b (unit c s) b' (unit c' s'))) (10 ^ 18))], .int .i64 (FitE (sab b (unit c s) b' (unit c' s')) (10 ^ 18))]) ∧ Below w.heap.size w w' := by
  obtain ⟨m, hm⟩ : ∃ m, m = max s s' := ⟨_, rfl⟩
  obtain ⟨e1, e2, e3, e4⟩ := add_units b b' c c' s s' m hs hs' hm
  rw [e1, e2, e3, e4]
  have HF := Lib.hid (fun g W hg => formed_two b c s (Nat.lt_trans hc B34_lt) b' c' s' (Nat.lt_trans hc' B34_lt) g W hg)
  rw [h, h'] at HF
  simp only [ferr, Bool.and_true, if_true] at HF
  have HB := Lib.hid (fun W => both_any b c s b' c' s' m hc hc' hs hs' hm W)
  have hX : c * 10 ^ (m - s) < 10 ^ 52 := scaled_lt hc (by omega)
  have hY : c' * 10 ^ (m - s') < 10 ^ 52 := scaled_lt hc' (by omega)
  generalize c * 10 ^ (m - s) = X at *
  generalize c' * 10 ^ (m - s') = Y at *
  have m76 : m ≤ 76 := by omega
  have hX2 : X < 2 ^ 256 := Nat.lt_trans hX (by decide)
  have hY2 : Y < 2 ^ 256 := Nat.lt_trans hY (by decide)
  have hXY : X + Y < 2 ^ 256 := Nat.lt_trans (Nat.add_lt_add hX hY) (by decide)
  have m0 : (0 : Int) ≤ (m : Int) := by omega
  clear e1 e2 e3 e4 h h' hm hX hY
  obtain ⟨sI, hsI⟩ : ∃ sI : Int, sI = (s : Int) := ⟨_, rfl⟩
  obtain ⟨sJ, hsJ⟩ : ∃ sJ : Int, sJ = (s' : Int) := ⟨_, rfl⟩
  rw [← hsI, ← hsJ] at HF HB ⊢
  clear hsI hsJ hs hs'
  obtain ⟨s, rfl⟩ : ∃ s, s = sI := ⟨_, rfl⟩
  obtain ⟨s', rfl⟩ : ∃ s', s' = sJ := ⟨_, rfl⟩
  by_cases hb : b = b'
  · obtain ⟨e1, e2⟩ := sgn_same (x := X) (y := Y) hb
    rw [e1, e2]
    have HP := Lib.hid (fun W => plus4_any X Y hXY W)
    have HT := Lib.hid (fun W => fit_any b (X + Y) m hXY m76 W)
    have hbe : (b == b') = true := by simpa using hb
    clear e1 e2 hX2 hY2 hb
    generalize FitC (X + Y) (10 ^ m) = C at *
    generalize FitS (X + Y) (10 ^ m) = S at *
    generalize FitE (X + Y) (10 ^ m) = E at *
    generalize X + Y = U at *
    generalize wd X 0 = p0 at *
    generalize wd X 1 = p1 at *
    generalize wd X 2 = p2 at *
    generalize wd X 3 = p3 at *
    generalize wd Y 0 = q0 at *
    generalize wd Y 1 = q1 at *
    generalize wd Y 2 = q2 at *
    generalize wd Y 3 = q3 at *
    generalize wd c 0 = x0 at *
    generalize wd c 1 = x1 at *
    generalize wd c' 0 = y0 at *
    generalize wd c' 1 = y1 at *
    clear hc hc'
    go_enter Try.func15, Try.ntmps15
    go_wp2_with fail
    (with_reducible refine (HF.out _ _ ?hg).mono ?_)
    case hg => ((repeat (first | (with_reducible assumption) | ((with_reducible refine Bk.new_ ?_); (first | rfl | (simp only [World.size_alloc, World.size_setCell, World.size_drew, World.heap_drewN]; done))) | (with_reducible refine Bk.alloc ?_ _) | (with_reducible refine Bk.drew ?_) | (with_reducible refine Bk.drewN ?_ _) | ((with_reducible refine Bk.far ?_ ?_ _); rotate_left; focus (simp only []; omega)) | ((with_reducible refine Bk.below ?_ (by with_reducible assumption) ?_); rotate_left; focus (go_size; done)))); done)
    rintro _ w1 ⟨rfl, hb1⟩; have hb1s := hb1.size; (try simp only [World.size_alloc, World.size_setCell, World.size_drew, World.heap_drewN] at hb1s); obtain ⟨hb1c, hb1f⟩ := bcell hb1; (try have : w.heap.size < w1.heap.size := by omega); (try have : w.heap.size + 1 < w1.heap.size := by omega); (try have : w.heap.size + 1 + 1 < w1.heap.size := by omega); (try have : w.heap.size + 1 + 1 + 1 < w1.heap.size := by omega)
    have ka : Bk w1 (w.heap.size) 26 [.bool b, .int .u64 x1, .int .u64 x0, .int .i64 s] := by (repeat (first | (with_reducible assumption) | ((with_reducible refine Bk.new_ ?_); (first | rfl | (simp only [World.size_alloc, World.size_setCell, World.size_drew, World.heap_drewN]; done))) | (with_reducible refine Bk.alloc ?_ _) | (with_reducible refine Bk.drew ?_) | (with_reducible refine Bk.drewN ?_ _) | ((with_reducible refine Bk.far ?_ ?_ _); rotate_left; focus (simp only []; omega)) | ((with_reducible refine Bk.below ?_ (by with_reducible assumption) ?_); rotate_left; focus (go_size; done))))
    have ka_0 := ka.cell 0 rfl
    have ka_1 := ka.cell 1 rfl
    have ka_2 := ka.cell 2 rfl
    have ka_3 := ka.cell 3 rfl
    have ka_4 := ka.frozen 0
    have ka_5 := ka.frozen 1
    have ka_6 := ka.frozen 2
    have ka_7 := ka.frozen 3
    have kal := ka.lt
    have kb : Bk w1 (w.heap.size + 1) 26 [.bool b', .int .u64 y1, .int .u64 y0, .int .i64 s'] := by (repeat (first | (with_reducible assumption) | ((with_reducible refine Bk.new_ ?_); (first | rfl | (simp only [World.size_alloc, World.size_setCell, World.size_drew, World.heap_drewN]; done))) | (with_reducible refine Bk.alloc ?_ _) | (with_reducible refine Bk.drew ?_) | (with_reducible refine Bk.drewN ?_ _) | ((with_reducible refine Bk.far ?_ ?_ _); rotate_left; focus (simp only []; omega)) | ((with_reducible refine Bk.below ?_ (by with_reducible assumption) ?_); rotate_left; focus (go_size; done))))
    have kb_0 := kb.cell 0 rfl
    have kb_1 := kb.cell 1 rfl
    have kb_2 := kb.cell 2 rfl
    have kb_3 := kb.cell 3 rfl
    have kb_4 := kb.frozen 0
    have kb_5 := kb.frozen 1
    have kb_6 := kb.frozen 2
    have kb_7 := kb.frozen 3
    have kbl := kb.lt
    have kr : Bk w1 (w.heap.size + 1 + 1) 26 [.bool false, .int .u64 0, .int .u64 0, .int .i64 0] := by (repeat (first | (with_reducible assumption) | ((with_reducible refine Bk.new_ ?_); (first | rfl | (simp only [World.size_alloc, World.size_setCell, World.size_drew, World.heap_drewN]; done))) | (with_reducible refine Bk.alloc ?_ _) | (with_reducible refine Bk.drew ?_) | (with_reducible refine Bk.drewN ?_ _) | ((with_reducible refine Bk.far ?_ ?_ _); rotate_left; focus (simp only []; omega)) | ((with_reducible refine Bk.below ?_ (by with_reducible assumption) ?_); rotate_left; focus (go_size; done))))
    have kr_0 := kr.cell 0 rfl
    have kr_1 := kr.cell 1 rfl
    have kr_2 := kr.cell 2 rfl
    have kr_3 := kr.cell 3 rfl
    have kr_4 := kr.frozen 0
    have kr_5 := kr.frozen 1
    have kr_6 := kr.frozen 2
    have kr_7 := kr.frozen 3
    have krl := kr.lt
    clear hb1c hb1f
    go_wp2_with fail
    refine (HB.out _).mono ?_
    rintro _ w2 ⟨rfl, hb2⟩; have hb2s := hb2.size; (try simp only [World.size_alloc, World.size_setCell, World.size_drew, World.heap_drewN] at hb2s); obtain ⟨hb2c, hb2f⟩ := bcell hb2; (try have : w.heap.size < w2.heap.size := by omega); (try have : w.heap.size + 1 < w2.heap.size := by omega); (try have : w.heap.size + 1 + 1 < w2.heap.size := by omega); (try have : w.heap.size + 1 + 1 + 1 < w2.heap.size := by omega)
    have ja : Bk w2 (w.heap.size) 26 [.bool b, .int .u64 x1, .int .u64 x0, .int .i64 s] := by (repeat (first | (with_reducible assumption) | ((with_reducible refine Bk.new_ ?_); (first | rfl | (simp only [World.size_alloc, World.size_setCell, World.size_drew, World.heap_drewN]; done))) | (with_reducible refine Bk.alloc ?_ _) | (with_reducible refine Bk.drew ?_) | (with_reducible refine Bk.drewN ?_ _) | ((with_reducible refine Bk.far ?_ ?_ _); rotate_left; focus (simp only []; omega)) | ((with_reducible refine Bk.below ?_ (by with_reducible assumption) ?_); rotate_left; focus (go_size; done))))
    have jb : Bk w2 (w.heap.size + 1) 26 [.bool b', .int .u64 y1, .int .u64 y0, .int .i64 s'] := by (repeat (first | (with_reducible assumption) | ((with_reducible refine Bk.new_ ?_); (first | rfl | (simp only [World.size_alloc, World.size_setCell, World.size_drew, World.heap_drewN]; done))) | (with_reducible refine Bk.alloc ?_ _) | (with_reducible refine Bk.drew ?_) | (with_reducible refine Bk.drewN ?_ _) | ((with_reducible refine Bk.far ?_ ?_ _); rotate_left; focus (simp only []; omega)) | ((with_reducible refine Bk.below ?_ (by with_reducible assumption) ?_); rotate_left; focus (go_size; done))))
    have jr : Bk w2 (w.heap.size + 1 + 1) 26 [.bool false, .int .u64 0, .int .u64 0, .int .i64 0] := by (repeat (first | (with_reducible assumption) | ((with_reducible refine Bk.new_ ?_); (first | rfl | (simp only [World.size_alloc, World.size_setCell, World.size_drew, World.heap_drewN]; done))) | (with_reducible refine Bk.alloc ?_ _) | (with_reducible refine Bk.drew ?_) | (with_reducible refine Bk.drewN ?_ _) | ((with_reducible refine Bk.far ?_ ?_ _); rotate_left; focus (simp only []; omega)) | ((with_reducible refine Bk.below ?_ (by with_reducible assumption) ?_); rotate_left; focus (go_size; done))))
    clear hb2c hb2f ka_0 ka_1 ka_2 ka_3 ka_4 ka_5 ka_6 ka_7 kb_0 kb_1 kb_2 kb_3 kb_4 kb_5 kb_6 kb_7 kr_0 kr_1 kr_2 kr_3 kr_4 kr_5 kr_6 kr_7
    have ja_0 := ja.cell 0 rfl
    have ja_1 := ja.cell 1 rfl
    have ja_2 := ja.cell 2 rfl
    have ja_3 := ja.cell 3 rfl
    have ja_4 := ja.frozen 0
    have ja_5 := ja.frozen 1
    have ja_6 := ja.frozen 2
    have ja_7 := ja.frozen 3
    have jb_0 := jb.cell 0 rfl
    have jb_1 := jb.cell 1 rfl
    have jb_2 := jb.cell 2 rfl
    have jb_3 := jb.cell 3 rfl
    have jb_4 := jb.frozen 0
    have jb_5 := jb.frozen 1
    have jb_6 := jb.frozen 2
    have jb_7 := jb.frozen 3
    have jr_0 := jr.cell 0 rfl
    have jr_1 := jr.cell 1 rfl
    have jr_2 := jr.cell 2 rfl
    have jr_3 := jr.cell 3 rfl
    have jr_4 := jr.frozen 0
    have jr_5 := jr.frozen 1
    have jr_6 := jr.frozen 2
    have jr_7 := jr.frozen 3
    have jal := ja.lt
    have jbl := jb.lt
    have jrl := jr.lt
    go_wp2_with fail
    go_region_held3 (fun w' => (w'.cell? ⟨w.heap.size, 0, none⟩ = some (.bool b) ∧ w'.cell? ⟨w.heap.size, 1, none⟩ = some (.int .u64 x1) ∧ w'.cell? ⟨w.heap.size, 2, none⟩ = some (.int .u64 x0) ∧ w'.cell? ⟨w.heap.size, 3, none⟩ = some (.int .i64 s)) ∧ (w'.cell? ⟨w2.heap.size, 0, none⟩ = some (.int .u64 p0) ∧ w'.cell? ⟨w2.heap.size, 1, none⟩ = some (.int .u64 p1) ∧ w'.cell? ⟨w2.heap.size, 2, none⟩ = some (.int .u64 p2) ∧ w'.cell? ⟨w2.heap.size, 3, none⟩ = some (.int .u64 p3)) ∧ (w'.cell? ⟨(w2.heap.size + 1), 0, none⟩ = some (.int .u64 q0) ∧ w'.cell? ⟨(w2.heap.size + 1), 1, none⟩ = some (.int .u64 q1) ∧ w'.cell? ⟨(w2.heap.size + 1), 2, none⟩ = some (.int .u64 q2) ∧ w'.cell? ⟨(w2.heap.size + 1), 3, none⟩ = some (.int .u64 q3))) (first | (first | (go_keep; done) | (simp [go_sem]; done) | ((try dsimp only); (repeat' apply And.intro) <;> (first | (with_reducible assumption) | ((rw [World.cell?_alloc_lt _ _ _ (by show _ < _; omega)]); go_split_ands; (first | with_reducible assumption | (refine (World.cell?_alloc_lt _ _ _ (by show _ < _; omega)).symm.trans ?_; with_reducible assumption))) | ((rw [World.cell?_setCell_other _ _ _ _ (by intro e; injection e; omega)]); with_reducible assumption) | (go_keep; done) | (simp [go_sem]; done) | (simp (disch := go_size) [*, World.cell?_alloc_some, World.cell?_setCell_far]; done)))) | ((refine ⟨?_, ?_, ?_⟩) <;> (first | ((refine ⟨Bk.cell (t := 26) (cs := [.bool b, .int .u64 x1, .int .u64 x0, .int .i64 s]) ?_ 0 rfl, Bk.cell (t := 26) (cs := [.bool b, .int .u64 x1, .int .u64 x0, .int .i64 s]) ?_ 1 rfl, Bk.cell (t := 26) (cs := [.bool b, .int .u64 x1, .int .u64 x0, .int .i64 s]) ?_ 2 rfl, Bk.cell (t := 26) (cs := [.bool b, .int .u64 x1, .int .u64 x0, .int .i64 s]) ?_ 3 rfl⟩) <;> ((repeat (first | (with_reducible assumption) | ((with_reducible refine Bk.new_ ?_); (first | rfl | (simp only [World.size_alloc, World.size_setCell, World.size_drew, World.heap_drewN]; done))) | (with_reducible refine Bk.alloc ?_ _) | (with_reducible refine Bk.drew ?_) | (with_reducible refine Bk.drewN ?_ _) | ((with_reducible refine Bk.far ?_ ?_ _); rotate_left; focus (simp only []; omega)) | ((with_reducible refine Bk.below ?_ (by with_reducible assumption) ?_); rotate_left; focus (go_size; done)))); done)) | ((refine ⟨Bk.cell (t := 45) (cs := [.int .u64 p0, .int .u64 p1, .int .u64 p2, .int .u64 p3]) ?_ 0 rfl, Bk.cell (t := 45) (cs := [.int .u64 p0, .int .u64 p1, .int .u64 p2, .int .u64 p3]) ?_ 1 rfl, Bk.cell (t := 45) (cs := [.int .u64 p0, .int .u64 p1, .int .u64 p2, .int .u64 p3]) ?_ 2 rfl, Bk.cell (t := 45) (cs := [.int .u64 p0, .int .u64 p1, .int .u64 p2, .int .u64 p3]) ?_ 3 rfl⟩) <;> ((repeat (first | (with_reducible assumption) | ((with_reducible refine Bk.new_ ?_); (first | rfl | (simp only [World.size_alloc, World.size_setCell, World.size_drew, World.heap_drewN]; done))) | (with_reducible refine Bk.alloc ?_ _) | (with_reducible refine Bk.drew ?_) | (with_reducible refine Bk.drewN ?_ _) | ((with_reducible refine Bk.far ?_ ?_ _); rotate_left; focus (simp only []; omega)) | ((with_reducible refine Bk.below ?_ (by with_reducible assumption) ?_); rotate_left; focus (go_size; done)))); done)) | ((refine ⟨Bk.cell (t := 45) (cs := [.int .u64 q0, .int .u64 q1, .int .u64 q2, .int .u64 q3]) ?_ 0 rfl, Bk.cell (t := 45) (cs := [.int .u64 q0, .int .u64 q1, .int .u64 q2, .int .u64 q3]) ?_ 1 rfl, Bk.cell (t := 45) (cs := [.int .u64 q0, .int .u64 q1, .int .u64 q2, .int .u64 q3]) ?_ 2 rfl, Bk.cell (t := 45) (cs := [.int .u64 q0, .int .u64 q1, .int .u64 q2, .int .u64 q3]) ?_ 3 rfl⟩) <;> ((repeat (first | (with_reducible assumption) | ((with_reducible refine Bk.new_ ?_); (first | rfl | (simp only [World.size_alloc, World.size_setCell, World.size_drew, World.heap_drewN]; done))) | (with_reducible refine Bk.alloc ?_ _) | (with_reducible refine Bk.drew ?_) | (with_reducible refine Bk.drewN ?_ _) | ((with_reducible refine Bk.far ?_ ?_ _); rotate_left; focus (simp only []; omega)) | ((with_reducible refine Bk.below ?_ (by with_reducible assumption) ?_); rotate_left; focus (go_size; done)))); done))))) (first | (go_at_call 52; (with_reducible refine (HP.out _).mono ?_); rintro _ w4 ⟨rfl, hb4⟩; have hb4s := hb4.size; (try simp only [World.size_alloc, World.size_setCell, World.size_drew, World.heap_drewN] at hb4s); obtain ⟨hb4c, hb4f⟩ := bcell hb4; (try have : w.heap.size < w4.heap.size := by omega); (try have : w.heap.size + 1 < w4.heap.size := by omega); (try have : w.heap.size + 1 + 1 < w4.heap.size := by omega); (try have : w.heap.size + 1 + 1 + 1 < w4.heap.size := by omega); (try have : w2.heap.size < w4.heap.size := by omega); (try have : w2.heap.size + 1 < w4.heap.size := by omega); (try have : w2.heap.size + 1 + 1 < w4.heap.size := by omega); (try have : w2.heap.size + 1 + 1 + 1 < w4.heap.size := by omega)) | (go_at_call 51; (with_reducible refine (HT.out _).mono ?_); rintro _ w5 ⟨rfl, hb5⟩; have hb5s := hb5.size; (try simp only [World.size_alloc, World.size_setCell, World.size_drew, World.heap_drewN] at hb5s); obtain ⟨hb5c, hb5f⟩ := bcell hb5; (try have : w.heap.size < w5.heap.size := by omega); (try have : w.heap.size + 1 < w5.heap.size := by omega); (try have : w.heap.size + 1 + 1 < w5.heap.size := by omega); (try have : w.heap.size + 1 + 1 + 1 < w5.heap.size := by omega); have zr : Bk w5 (w.heap.size + 1 + 1) 26 [.bool false, .int .u64 0, .int .u64 0, .int .i64 0] := (by (repeat (first | (with_reducible assumption) | ((with_reducible refine Bk.new_ ?_); (first | rfl | (simp only [World.size_alloc, World.size_setCell, World.size_drew, World.heap_drewN]; done))) | (with_reducible refine Bk.alloc ?_ _) | (with_reducible refine Bk.drew ?_) | (with_reducible refine Bk.drewN ?_ _) | ((with_reducible refine Bk.far ?_ ?_ _); rotate_left; focus (simp only []; omega)) | ((with_reducible refine Bk.below ?_ (by with_reducible assumption) ?_); rotate_left; focus (go_size; done))))); have zr_0 := zr.cell 0 rfl; have zr_1 := zr.cell 1 rfl; have zr_2 := zr.cell 2 rfl; have zr_3 := zr.cell 3 rfl; have zr_4 := zr.frozen 0; have zr_5 := zr.frozen 1; have zr_6 := zr.frozen 2; have zr_7 := zr.frozen 3; have zrl := zr.lt; clear hb5c hb5f; (try have : w2.heap.size < w5.heap.size := by omega); (try have : w2.heap.size + 1 < w5.heap.size := by omega); (try have : w2.heap.size + 1 + 1 < w5.heap.size := by omega); (try have : w2.heap.size + 1 + 1 + 1 < w5.heap.size := by omega); (try have : w4.heap.size < w5.heap.size := by omega); (try have : w4.heap.size + 1 < w5.heap.size := by omega); (try have : w4.heap.size + 1 + 1 < w5.heap.size := by omega); (try have : w4.heap.size + 1 + 1 + 1 < w5.heap.size := by omega)))
    all_goals
      refine wp_named (fun W => Bk W (w.heap.size + 1 + 1) 26 [.bool (sg b C), .int .u64 (wd C 1), .int .u64 (wd C 0), .int .i64 (S : Int)] ∧ Below w.heap.size w W) ⟨?h1, ?h2⟩ ?_
      case h1 => (first | ((repeat (first | (with_reducible assumption) | ((with_reducible refine Bk.new_ ?_); (first | rfl | (simp only [World.size_alloc, World.size_setCell, World.size_drew, World.heap_drewN]; done))) | (with_reducible refine Bk.alloc ?_ _) | (with_reducible refine Bk.drew ?_) | (with_reducible refine Bk.drewN ?_ _) | ((with_reducible refine Bk.far ?_ ?_ _); rotate_left; focus (simp only []; omega)) | ((with_reducible refine Bk.below ?_ (by with_reducible assumption) ?_); rotate_left; focus (go_size; done)))); done) | ((repeat (first | (with_reducible refine Bk.alloc ?_ _) | (with_reducible refine Bk.drew ?_) | ((with_reducible refine Bk.far ?_ ?_ _); rotate_left; focus (simp only []; omega)))); (refine ((((?_ : Bk _ _ _ [.bool false, .int .u64 0, .int .u64 0, .int .i64 0]).set_ 0 _).set_ 1 _).set_ 2 _).set_ 3 _); (repeat (first | (with_reducible assumption) | ((with_reducible refine Bk.new_ ?_); (first | rfl | (simp only [World.size_alloc, World.size_setCell, World.size_drew, World.heap_drewN]; done))) | (with_reducible refine Bk.alloc ?_ _) | (with_reducible refine Bk.drew ?_) | (with_reducible refine Bk.drewN ?_ _) | ((with_reducible refine Bk.far ?_ ?_ _); rotate_left; focus (simp only []; omega)) | ((with_reducible refine Bk.below ?_ (by with_reducible assumption) ?_); rotate_left; focus (go_size; done))))); done)
      case h2 => ((repeat' (first | (with_reducible exact Below.refl _ _) | (with_reducible assumption) | (with_reducible refine Below.drew ?_) | (with_reducible refine below_drewN ?_ _) | ((with_reducible refine Below.alloc ?_ ?_ _); rotate_left; focus (go_size; done)) | ((with_reducible refine Below.setCell ?_ ?_ _); rotate_left; focus (go_size; done)) | ((with_reducible refine Below.trans ?_ (Below.mono (by with_reducible assumption) ?_)); rotate_left; focus (go_size; done)))); done)
      rintro W ⟨k1, mb⟩
      have k1_0 := k1.cell 0 rfl
      have k1_1 := k1.cell 1 rfl
      have k1_2 := k1.cell 2 rfl
      have k1_3 := k1.cell 3 rfl
      have k1_4 := k1.frozen 0
      have k1_5 := k1.frozen 1
      have k1_6 := k1.frozen 2
      have k1_7 := k1.frozen 3
      go_wp2_with fail
      refine bodyPost_ret (by simp [results, Try.results15, go_sem, *]; try rfl) rfl ?_
      exact ⟨rfl, by (repeat' (first | (with_reducible exact Below.refl _ _) | (with_reducible assumption) | (with_reducible refine Below.drew ?_) | (with_reducible refine below_drewN ?_ _) | ((with_reducible refine Below.alloc ?_ ?_ _); rotate_left; focus (go_size; done)) | ((with_reducible refine Below.setCell ?_ ?_ _); rotate_left; focus (go_size; done)) | ((with_reducible refine Below.trans ?_ (Below.mono (by with_reducible assumption) ?_)); rotate_left; focus (go_size; done))))⟩
  · have hbe : (b == b') = false := by simpa using hb
    have HO := Lib.hid (fun W => order_any X Y hX2 hY2 W)
    by_cases hl : Y ≤ X
    · obtain ⟨e1, e2⟩ := sgn_ge (x := X) (y := Y) hb hl
      rw [e1, e2]
      have hXd : X - Y < 2 ^ 256 := by omega
      have HP := Lib.hid (fun W => minus4_any X Y hX2 hl W)
      have HT := Lib.hid (fun W => fit_any b (X - Y) m hXd m76 W)
      have ho := cmpN_ge hl
      clear e1 e2 hX2 hY2 hXY hXd hl hb
      generalize cmpN X Y = cc at *
      generalize FitC (X - Y) (10 ^ m) = C at *
      generalize FitS (X - Y) (10 ^ m) = S at *
      generalize FitE (X - Y) (10 ^ m) = E at *
      generalize X - Y = U at *
      generalize wd X 0 = p0 at *
      generalize wd X 1 = p1 at *
      generalize wd X 2 = p2 at *
      generalize wd X 3 = p3 at *
      generalize wd Y 0 = q0 at *
      generalize wd Y 1 = q1 at *
      generalize wd Y 2 = q2 at *
      generalize wd Y 3 = q3 at *
      generalize wd c 0 = x0 at *
      generalize wd c 1 = x1 at *
      generalize wd c' 0 = y0 at *
      generalize wd c' 1 = y1 at *
      clear hc hc'
      go_enter Try.func15, Try.ntmps15
      go_wp2_with fail
      (with_reducible refine (HF.out _ _ ?hg).mono ?_)
      case hg => ((repeat (first | (with_reducible assumption) | ((with_reducible refine Bk.new_ ?_); (first | rfl | (simp only [World.size_alloc, World.size_setCell, World.size_drew, World.heap_drewN]; done))) | (with_reducible refine Bk.alloc ?_ _) | (with_reducible refine Bk.drew ?_) | (with_reducible refine Bk.drewN ?_ _) | ((with_reducible refine Bk.far ?_ ?_ _); rotate_left; focus (simp only []; omega)) | ((with_reducible refine Bk.below ?_ (by with_reducible assumption) ?_); rotate_left; focus (go_size; done)))); done)
      rintro _ w1 ⟨rfl, hb1⟩; have hb1s := hb1.size; (try simp only [World.size_alloc, World.size_setCell, World.size_drew, World.heap_drewN] at hb1s); obtain ⟨hb1c, hb1f⟩ := bcell hb1; (try have : w.heap.size < w1.heap.size := by omega); (try have : w.heap.size + 1 < w1.heap.size := by omega); (try have : w.heap.size + 1 + 1 < w1.heap.size := by omega); (try have : w.heap.size + 1 + 1 + 1 < w1.heap.size := by omega)
      have ka : Bk w1 (w.heap.size) 26 [.bool b, .int .u64 x1, .int .u64 x0, .int .i64 s] := by (repeat (first | (with_reducible assumption) | ((with_reducible refine Bk.new_ ?_); (first | rfl | (simp only [World.size_alloc, World.size_setCell, World.size_drew, World.heap_drewN]; done))) | (with_reducible refine Bk.alloc ?_ _) | (with_reducible refine Bk.drew ?_) | (with_reducible refine Bk.drewN ?_ _) | ((with_reducible refine Bk.far ?_ ?_ _); rotate_left; focus (simp only []; omega)) | ((with_reducible refine Bk.below ?_ (by with_reducible assumption) ?_); rotate_left; focus (go_size; done))))
      have ka_0 := ka.cell 0 rfl
      have ka_1 := ka.cell 1 rfl
      have ka_2 := ka.cell 2 rfl
      have ka_3 := ka.cell 3 rfl
      have ka_4 := ka.frozen 0
      have ka_5 := ka.frozen 1
      have ka_6 := ka.frozen 2
      have ka_7 := ka.frozen 3
      have kal := ka.lt
      have kb : Bk w1 (w.heap.size + 1) 26 [.bool b', .int .u64 y1, .int .u64 y0, .int .i64 s'] := by (repeat (first | (with_reducible assumption) | ((with_reducible refine Bk.new_ ?_); (first | rfl | (simp only [World.size_alloc, World.size_setCell, World.size_drew, World.heap_drewN]; done))) | (with_reducible refine Bk.alloc ?_ _) | (with_reducible refine Bk.drew ?_) | (with_reducible refine Bk.drewN ?_ _) | ((with_reducible refine Bk.far ?_ ?_ _); rotate_left; focus (simp only []; omega)) | ((with_reducible refine Bk.below ?_ (by with_reducible assumption) ?_); rotate_left; focus (go_size; done))))
      have kb_0 := kb.cell 0 rfl
      have kb_1 := kb.cell 1 rfl
      have kb_2 := kb.cell 2 rfl
      have kb_3 := kb.cell 3 rfl
      have kb_4 := kb.frozen 0
      have kb_5 := kb.frozen 1
      have kb_6 := kb.frozen 2
      have kb_7 := kb.frozen 3
      have kbl := kb.lt
      have kr : Bk w1 (w.heap.size + 1 + 1) 26 [.bool false, .int .u64 0, .int .u64 0, .int .i64 0] := by (repeat (first | (with_reducible assumption) | ((with_reducible refine Bk.new_ ?_); (first | rfl | (simp only [World.size_alloc, World.size_setCell, World.size_drew, World.heap_drewN]; done))) | (with_reducible refine Bk.alloc ?_ _) | (with_reducible refine Bk.drew ?_) | (with_reducible refine Bk.drewN ?_ _) | ((with_reducible refine Bk.far ?_ ?_ _); rotate_left; focus (simp only []; omega)) | ((with_reducible refine Bk.below ?_ (by with_reducible assumption) ?_); rotate_left; focus (go_size; done))))
      have kr_0 := kr.cell 0 rfl
      have kr_1 := kr.cell 1 rfl
      have kr_2 := kr.cell 2 rfl
      have kr_3 := kr.cell 3 rfl
      have kr_4 := kr.frozen 0
      have kr_5 := kr.frozen 1
      have kr_6 := kr.frozen 2
      have kr_7 := kr.frozen 3
      have krl := kr.lt
      clear hb1c hb1f
      go_wp2_with fail
      refine (HB.out _).mono ?_
      rintro _ w2 ⟨rfl, hb2⟩; have hb2s := hb2.size; (try simp only [World.size_alloc, World.size_setCell, World.size_drew, World.heap_drewN] at hb2s); obtain ⟨hb2c, hb2f⟩ := bcell hb2; (try have : w.heap.size < w2.heap.size := by omega); (try have : w.heap.size + 1 < w2.heap.size := by omega); (try have : w.heap.size + 1 + 1 < w2.heap.size := by omega); (try have : w.heap.size + 1 + 1 + 1 < w2.heap.size := by omega)
      have ja : Bk w2 (w.heap.size) 26 [.bool b, .int .u64 x1, .int .u64 x0, .int .i64 s] := by (repeat (first | (with_reducible assumption) | ((with_reducible refine Bk.new_ ?_); (first | rfl | (simp only [World.size_alloc, World.size_setCell, World.size_drew, World.heap_drewN]; done))) | (with_reducible refine Bk.alloc ?_ _) | (with_reducible refine Bk.drew ?_) | (with_reducible refine Bk.drewN ?_ _) | ((with_reducible refine Bk.far ?_ ?_ _); rotate_left; focus (simp only []; omega)) | ((with_reducible refine Bk.below ?_ (by with_reducible assumption) ?_); rotate_left; focus (go_size; done))))
      have jb : Bk w2 (w.heap.size + 1) 26 [.bool b', .int .u64 y1, .int .u64 y0, .int .i64 s'] := by (repeat (first | (with_reducible assumption) | ((with_reducible refine Bk.new_ ?_); (first | rfl | (simp only [World.size_alloc, World.size_setCell, World.size_drew, World.heap_drewN]; done))) | (with_reducible refine Bk.alloc ?_ _) | (with_reducible refine Bk.drew ?_) | (with_reducible refine Bk.drewN ?_ _) | ((with_reducible refine Bk.far ?_ ?_ _); rotate_left; focus (simp only []; omega)) | ((with_reducible refine Bk.below ?_ (by with_reducible assumption) ?_); rotate_left; focus (go_size; done))))
      have jr : Bk w2 (w.heap.size + 1 + 1) 26 [.bool false, .int .u64 0, .int .u64 0, .int .i64 0] := by (repeat (first | (with_reducible assumption) | ((with_reducible refine Bk.new_ ?_); (first | rfl | (simp only [World.size_alloc, World.size_setCell, World.size_drew, World.heap_drewN]; done))) | (with_reducible refine Bk.alloc ?_ _) | (with_reducible refine Bk.drew ?_) | (with_reducible refine Bk.drewN ?_ _) | ((with_reducible refine Bk.far ?_ ?_ _); rotate_left; focus (simp only []; omega)) | ((with_reducible refine Bk.below ?_ (by with_reducible assumption) ?_); rotate_left; focus (go_size; done))))
      clear hb2c hb2f ka_0 ka_1 ka_2 ka_3 ka_4 ka_5 ka_6 ka_7 kb_0 kb_1 kb_2 kb_3 kb_4 kb_5 kb_6 kb_7 kr_0 kr_1 kr_2 kr_3 kr_4 kr_5 kr_6 kr_7
      have ja_0 := ja.cell 0 rfl
      have ja_1 := ja.cell 1 rfl
      have ja_2 := ja.cell 2 rfl
      have ja_3 := ja.cell 3 rfl
      have ja_4 := ja.frozen 0
      have ja_5 := ja.frozen 1
      have ja_6 := ja.frozen 2
      have ja_7 := ja.frozen 3
      have jb_0 := jb.cell 0 rfl
      have jb_1 := jb.cell 1 rfl
      have jb_2 := jb.cell 2 rfl
      have jb_3 := jb.cell 3 rfl
      have jb_4 := jb.frozen 0
      have jb_5 := jb.frozen 1
      have jb_6 := jb.frozen 2
      have jb_7 := jb.frozen 3
      have jr_0 := jr.cell 0 rfl
      have jr_1 := jr.cell 1 rfl
      have jr_2 := jr.cell 2 rfl
      have jr_3 := jr.cell 3 rfl
      have jr_4 := jr.frozen 0
      have jr_5 := jr.frozen 1
      have jr_6 := jr.frozen 2
      have jr_7 := jr.frozen 3
      have jal := ja.lt
      have jbl := jb.lt
      have jrl := jr.lt
      go_wp2_with fail
      refine (HO.out _).mono ?_
      rintro _ w3 ⟨rfl, hb3⟩; have hb3s := hb3.size; (try simp only [World.size_alloc, World.size_setCell, World.size_drew, World.heap_drewN] at hb3s); obtain ⟨hb3c, hb3f⟩ := bcell hb3; (try have : w.heap.size < w3.heap.size := by omega); (try have : w.heap.size + 1 < w3.heap.size := by omega); (try have : w.heap.size + 1 + 1 < w3.heap.size := by omega); (try have : w.heap.size + 1 + 1 + 1 < w3.heap.size := by omega)
      have la : Bk w3 (w.heap.size) 26 [.bool b, .int .u64 x1, .int .u64 x0, .int .i64 s] := by (repeat (first | (with_reducible assumption) | ((with_reducible refine Bk.new_ ?_); (first | rfl | (simp only [World.size_alloc, World.size_setCell, World.size_drew, World.heap_drewN]; done))) | (with_reducible refine Bk.alloc ?_ _) | (with_reducible refine Bk.drew ?_) | (with_reducible refine Bk.drewN ?_ _) | ((with_reducible refine Bk.far ?_ ?_ _); rotate_left; focus (simp only []; omega)) | ((with_reducible refine Bk.below ?_ (by with_reducible assumption) ?_); rotate_left; focus (go_size; done))))
      have lb : Bk w3 (w.heap.size + 1) 26 [.bool b', .int .u64 y1, .int .u64 y0, .int .i64 s'] := by (repeat (first | (with_reducible assumption) | ((with_reducible refine Bk.new_ ?_); (first | rfl | (simp only [World.size_alloc, World.size_setCell, World.size_drew, World.heap_drewN]; done))) | (with_reducible refine Bk.alloc ?_ _) | (with_reducible refine Bk.drew ?_) | (with_reducible refine Bk.drewN ?_ _) | ((with_reducible refine Bk.far ?_ ?_ _); rotate_left; focus (simp only []; omega)) | ((with_reducible refine Bk.below ?_ (by with_reducible assumption) ?_); rotate_left; focus (go_size; done))))
      have lr : Bk w3 (w.heap.size + 1 + 1) 26 [.bool false, .int .u64 0, .int .u64 0, .int .i64 0] := by (repeat (first | (with_reducible assumption) | ((with_reducible refine Bk.new_ ?_); (first | rfl | (simp only [World.size_alloc, World.size_setCell, World.size_drew, World.heap_drewN]; done))) | (with_reducible refine Bk.alloc ?_ _) | (with_reducible refine Bk.drew ?_) | (with_reducible refine Bk.drewN ?_ _) | ((with_reducible refine Bk.far ?_ ?_ _); rotate_left; focus (simp only []; omega)) | ((with_reducible refine Bk.below ?_ (by with_reducible assumption) ?_); rotate_left; focus (go_size; done))))
      have lx : Bk w3 (w2.heap.size) 45 [.int .u64 p0, .int .u64 p1, .int .u64 p2, .int .u64 p3] := by (repeat (first | (with_reducible assumption) | ((with_reducible refine Bk.new_ ?_); (first | rfl | (simp only [World.size_alloc, World.size_setCell, World.size_drew, World.heap_drewN]; done))) | (with_reducible refine Bk.alloc ?_ _) | (with_reducible refine Bk.drew ?_) | (with_reducible refine Bk.drewN ?_ _) | ((with_reducible refine Bk.far ?_ ?_ _); rotate_left; focus (simp only []; omega)) | ((with_reducible refine Bk.below ?_ (by with_reducible assumption) ?_); rotate_left; focus (go_size; done))))
      have ly : Bk w3 (w2.heap.size + 1) 45 [.int .u64 q0, .int .u64 q1, .int .u64 q2, .int .u64 q3] := by (repeat (first | (with_reducible assumption) | ((with_reducible refine Bk.new_ ?_); (first | rfl | (simp only [World.size_alloc, World.size_setCell, World.size_drew, World.heap_drewN]; done))) | (with_reducible refine Bk.alloc ?_ _) | (with_reducible refine Bk.drew ?_) | (with_reducible refine Bk.drewN ?_ _) | ((with_reducible refine Bk.far ?_ ?_ _); rotate_left; focus (simp only []; omega)) | ((with_reducible refine Bk.below ?_ (by with_reducible assumption) ?_); rotate_left; focus (go_size; done))))
      clear hb3c hb3f ja_0 ja_1 ja_2 ja_3 ja_4 ja_5 ja_6 ja_7 jb_0 jb_1 jb_2 jb_3 jb_4 jb_5 jb_6 jb_7 jr_0 jr_1 jr_2 jr_3 jr_4 jr_5 jr_6 jr_7
      have la_0 := la.cell 0 rfl
      have la_1 := la.cell 1 rfl
      have la_2 := la.cell 2 rfl
      have la_3 := la.cell 3 rfl
      have la_4 := la.frozen 0
      have la_5 := la.frozen 1
      have la_6 := la.frozen 2
      have la_7 := la.frozen 3
      have lb_0 := lb.cell 0 rfl
      have lb_1 := lb.cell 1 rfl
      have lb_2 := lb.cell 2 rfl
      have lb_3 := lb.cell 3 rfl
      have lb_4 := lb.frozen 0
      have lb_5 := lb.frozen 1
      have lb_6 := lb.frozen 2
      have lb_7 := lb.frozen 3
      have lr_0 := lr.cell 0 rfl
      have lr_1 := lr.cell 1 rfl
      have lr_2 := lr.cell 2 rfl
      have lr_3 := lr.cell 3 rfl
      have lr_4 := lr.frozen 0
      have lr_5 := lr.frozen 1
      have lr_6 := lr.frozen 2
      have lr_7 := lr.frozen 3
      have lx_0 := lx.cell 0 rfl
      have lx_1 := lx.cell 1 rfl
      have lx_2 := lx.cell 2 rfl
      have lx_3 := lx.cell 3 rfl
      have lx_4 := lx.frozen 0
      have lx_5 := lx.frozen 1
      have lx_6 := lx.frozen 2
      have lx_7 := lx.frozen 3
      have ly_0 := ly.cell 0 rfl
      have ly_1 := ly.cell 1 rfl
      have ly_2 := ly.cell 2 rfl
      have ly_3 := ly.cell 3 rfl
      have ly_4 := ly.frozen 0
      have ly_5 := ly.frozen 1
      have ly_6 := ly.frozen 2
      have ly_7 := ly.frozen 3
      go_wp2_with fail
      go_region_held3 (fun w' => (w'.cell? ⟨w.heap.size, 0, none⟩ = some (.bool b) ∧ w'.cell? ⟨w.heap.size, 1, none⟩ = some (.int .u64 x1) ∧ w'.cell? ⟨w.heap.size, 2, none⟩ = some (.int .u64 x0) ∧ w'.cell? ⟨w.heap.size, 3, none⟩ = some (.int .i64 s)) ∧ (w'.cell? ⟨w2.heap.size, 0, none⟩ = some (.int .u64 p0) ∧ w'.cell? ⟨w2.heap.size, 1, none⟩ = some (.int .u64 p1) ∧ w'.cell? ⟨w2.heap.size, 2, none⟩ = some (.int .u64 p2) ∧ w'.cell? ⟨w2.heap.size, 3, none⟩ = some (.int .u64 p3)) ∧ (w'.cell? ⟨(w2.heap.size + 1), 0, none⟩ = some (.int .u64 q0) ∧ w'.cell? ⟨(w2.heap.size + 1), 1, none⟩ = some (.int .u64 q1) ∧ w'.cell? ⟨(w2.heap.size + 1), 2, none⟩ = some (.int .u64 q2) ∧ w'.cell? ⟨(w2.heap.size + 1), 3, none⟩ = some (.int .u64 q3))) (first | (first | (go_keep; done) | (simp [go_sem]; done) | ((try dsimp only); (repeat' apply And.intro) <;> (first | (with_reducible assumption) | ((rw [World.cell?_alloc_lt _ _ _ (by show _ < _; omega)]); go_split_ands; (first | with_reducible assumption | (refine (World.cell?_alloc_lt _ _ _ (by show _ < _; omega)).symm.trans ?_; with_reducible assumption))) | ((rw [World.cell?_setCell_other _ _ _ _ (by intro e; injection e; omega)]); with_reducible assumption) | (go_keep; done) | (simp [go_sem]; done) | (simp (disch := go_size) [*, World.cell?_alloc_some, World.cell?_setCell_far]; done)))) | ((refine ⟨?_, ?_, ?_⟩) <;> (first | ((refine ⟨Bk.cell (t := 26) (cs := [.bool b, .int .u64 x1, .int .u64 x0, .int .i64 s]) ?_ 0 rfl, Bk.cell (t := 26) (cs := [.bool b, .int .u64 x1, .int .u64 x0, .int .i64 s]) ?_ 1 rfl, Bk.cell (t := 26) (cs := [.bool b, .int .u64 x1, .int .u64 x0, .int .i64 s]) ?_ 2 rfl, Bk.cell (t := 26) (cs := [.bool b, .int .u64 x1, .int .u64 x0, .int .i64 s]) ?_ 3 rfl⟩) <;> ((repeat (first | (with_reducible assumption) | ((with_reducible refine Bk.new_ ?_); (first | rfl | (simp only [World.size_alloc, World.size_setCell, World.size_drew, World.heap_drewN]; done))) | (with_reducible refine Bk.alloc ?_ _) | (with_reducible refine Bk.drew ?_) | (with_reducible refine Bk.drewN ?_ _) | ((with_reducible refine Bk.far ?_ ?_ _); rotate_left; focus (simp only []; omega)) | ((with_reducible refine Bk.below ?_ (by with_reducible assumption) ?_); rotate_left; focus (go_size; done)))); done)) | ((refine ⟨Bk.cell (t := 45) (cs := [.int .u64 p0, .int .u64 p1, .int .u64 p2, .int .u64 p3]) ?_ 0 rfl, Bk.cell (t := 45) (cs := [.int .u64 p0, .int .u64 p1, .int .u64 p2, .int .u64 p3]) ?_ 1 rfl, Bk.cell (t := 45) (cs := [.int .u64 p0, .int .u64 p1, .int .u64 p2, .int .u64 p3]) ?_ 2 rfl, Bk.cell (t := 45) (cs := [.int .u64 p0, .int .u64 p1, .int .u64 p2, .int .u64 p3]) ?_ 3 rfl⟩) <;> ((repeat (first | (with_reducible assumption) | ((with_reducible refine Bk.new_ ?_); (first | rfl | (simp only [World.size_alloc, World.size_setCell, World.size_drew, World.heap_drewN]; done))) | (with_reducible refine Bk.alloc ?_ _) | (with_reducible refine Bk.drew ?_) | (with_reducible refine Bk.drewN ?_ _) | ((with_reducible refine Bk.far ?_ ?_ _); rotate_left; focus (simp only []; omega)) | ((with_reducible refine Bk.below ?_ (by with_reducible assumption) ?_); rotate_left; focus (go_size; done)))); done)) | ((refine ⟨Bk.cell (t := 45) (cs := [.int .u64 q0, .int .u64 q1, .int .u64 q2, .int .u64 q3]) ?_ 0 rfl, Bk.cell (t := 45) (cs := [.int .u64 q0, .int .u64 q1, .int .u64 q2, .int .u64 q3]) ?_ 1 rfl, Bk.cell (t := 45) (cs := [.int .u64 q0, .int .u64 q1, .int .u64 q2, .int .u64 q3]) ?_ 2 rfl, Bk.cell (t := 45) (cs := [.int .u64 q0, .int .u64 q1, .int .u64 q2, .int .u64 q3]) ?_ 3 rfl⟩) <;> ((repeat (first | (with_reducible assumption) | ((with_reducible refine Bk.new_ ?_); (first | rfl | (simp only [World.size_alloc, World.size_setCell, World.size_drew, World.heap_drewN]; done))) | (with_reducible refine Bk.alloc ?_ _) | (with_reducible refine Bk.drew ?_) | (with_reducible refine Bk.drewN ?_ _) | ((with_reducible refine Bk.far ?_ ?_ _); rotate_left; focus (simp only []; omega)) | ((with_reducible refine Bk.below ?_ (by with_reducible assumption) ?_); rotate_left; focus (go_size; done)))); done))))) (first | (go_at_call 53; (with_reducible refine (HP.out _).mono ?_); rintro _ w4 ⟨rfl, hb4⟩; have hb4s := hb4.size; (try simp only [World.size_alloc, World.size_setCell, World.size_drew, World.heap_drewN] at hb4s); obtain ⟨hb4c, hb4f⟩ := bcell hb4; (try have : w.heap.size < w4.heap.size := by omega); (try have : w.heap.size + 1 < w4.heap.size := by omega); (try have : w.heap.size + 1 + 1 < w4.heap.size := by omega); (try have : w.heap.size + 1 + 1 + 1 < w4.heap.size := by omega); (try have : w2.heap.size < w4.heap.size := by omega); (try have : w2.heap.size + 1 < w4.heap.size := by omega); (try have : w2.heap.size + 1 + 1 < w4.heap.size := by omega); (try have : w2.heap.size + 1 + 1 + 1 < w4.heap.size := by omega); (try have : w3.heap.size < w4.heap.size := by omega); (try have : w3.heap.size + 1 < w4.heap.size := by omega); (try have : w3.heap.size + 1 + 1 < w4.heap.size := by omega); (try have : w3.heap.size + 1 + 1 + 1 < w4.heap.size := by omega)) | (go_at_call 51; (with_reducible refine (HT.out _).mono ?_); rintro _ w5 ⟨rfl, hb5⟩; have hb5s := hb5.size; (try simp only [World.size_alloc, World.size_setCell, World.size_drew, World.heap_drewN] at hb5s); obtain ⟨hb5c, hb5f⟩ := bcell hb5; (try have : w.heap.size < w5.heap.size := by omega); (try have : w.heap.size + 1 < w5.heap.size := by omega); (try have : w.heap.size + 1 + 1 < w5.heap.size := by omega); (try have : w.heap.size + 1 + 1 + 1 < w5.heap.size := by omega); have zr : Bk w5 (w.heap.size + 1 + 1) 26 [.bool false, .int .u64 0, .int .u64 0, .int .i64 0] := (by (repeat (first | (with_reducible assumption) | ((with_reducible refine Bk.new_ ?_); (first | rfl | (simp only [World.size_alloc, World.size_setCell, World.size_drew, World.heap_drewN]; done))) | (with_reducible refine Bk.alloc ?_ _) | (with_reducible refine Bk.drew ?_) | (with_reducible refine Bk.drewN ?_ _) | ((with_reducible refine Bk.far ?_ ?_ _); rotate_left; focus (simp only []; omega)) | ((with_reducible refine Bk.below ?_ (by with_reducible assumption) ?_); rotate_left; focus (go_size; done))))); have zr_0 := zr.cell 0 rfl; have zr_1 := zr.cell 1 rfl; have zr_2 := zr.cell 2 rfl; have zr_3 := zr.cell 3 rfl; have zr_4 := zr.frozen 0; have zr_5 := zr.frozen 1; have zr_6 := zr.frozen 2; have zr_7 := zr.frozen 3; have zrl := zr.lt; clear hb5c hb5f; (try have : w2.heap.size < w5.heap.size := by omega); (try have : w2.heap.size + 1 < w5.heap.size := by omega); (try have : w2.heap.size + 1 + 1 < w5.heap.size := by omega); (try have : w2.heap.size + 1 + 1 + 1 < w5.heap.size := by omega); (try have : w3.heap.size < w5.heap.size := by omega); (try have : w3.heap.size + 1 < w5.heap.size := by omega); (try have : w3.heap.size + 1 + 1 < w5.heap.size := by omega); (try have : w3.heap.size + 1 + 1 + 1 < w5.heap.size := by omega); (try have : w4.heap.size < w5.heap.size := by omega); (try have : w4.heap.size + 1 < w5.heap.size := by omega); (try have : w4.heap.size + 1 + 1 < w5.heap.size := by omega); (try have : w4.heap.size + 1 + 1 + 1 < w5.heap.size := by omega)))
      all_goals
        refine wp_named (fun W => Bk W (w.heap.size + 1 + 1) 26 [.bool (sg b C), .int .u64 (wd C 1), .int .u64 (wd C 0), .int .i64 (S : Int)] ∧ Below w.heap.size w W) ⟨?h1, ?h2⟩ ?_
        case h1 => (first | ((repeat (first | (with_reducible assumption) | ((with_reducible refine Bk.new_ ?_); (first | rfl | (simp only [World.size_alloc, World.size_setCell, World.size_drew, World.heap_drewN]; done))) | (with_reducible refine Bk.alloc ?_ _) | (with_reducible refine Bk.drew ?_) | (with_reducible refine Bk.drewN ?_ _) | ((with_reducible refine Bk.far ?_ ?_ _); rotate_left; focus (simp only []; omega)) | ((with_reducible refine Bk.below ?_ (by with_reducible assumption) ?_); rotate_left; focus (go_size; done)))); done) | ((repeat (first | (with_reducible refine Bk.alloc ?_ _) | (with_reducible refine Bk.drew ?_) | ((with_reducible refine Bk.far ?_ ?_ _); rotate_left; focus (simp only []; omega)))); (refine ((((?_ : Bk _ _ _ [.bool false, .int .u64 0, .int .u64 0, .int .i64 0]).set_ 0 _).set_ 1 _).set_ 2 _).set_ 3 _); (repeat (first | (with_reducible assumption) | ((with_reducible refine Bk.new_ ?_); (first | rfl | (simp only [World.size_alloc, World.size_setCell, World.size_drew, World.heap_drewN]; done))) | (with_reducible refine Bk.alloc ?_ _) | (with_reducible refine Bk.drew ?_) | (with_reducible refine Bk.drewN ?_ _) | ((with_reducible refine Bk.far ?_ ?_ _); rotate_left; focus (simp only []; omega)) | ((with_reducible refine Bk.below ?_ (by with_reducible assumption) ?_); rotate_left; focus (go_size; done))))); done)
        case h2 => ((repeat' (first | (with_reducible exact Below.refl _ _) | (with_reducible assumption) | (with_reducible refine Below.drew ?_) | (with_reducible refine below_drewN ?_ _) | ((with_reducible refine Below.alloc ?_ ?_ _); rotate_left; focus (go_size; done)) | ((with_reducible refine Below.setCell ?_ ?_ _); rotate_left; focus (go_size; done)) | ((with_reducible refine Below.trans ?_ (Below.mono (by with_reducible assumption) ?_)); rotate_left; focus (go_size; done)))); done)
        rintro W ⟨k1, mb⟩
        have k1_0 := k1.cell 0 rfl
        have k1_1 := k1.cell 1 rfl
        have k1_2 := k1.cell 2 rfl
        have k1_3 := k1.cell 3 rfl
        have k1_4 := k1.frozen 0
        have k1_5 := k1.frozen 1
        have k1_6 := k1.frozen 2
        have k1_7 := k1.frozen 3
        go_wp2_with fail
        refine bodyPost_ret (by simp [results, Try.results15, go_sem, *]; try rfl) rfl ?_
        exact ⟨rfl, by (repeat' (first | (with_reducible exact Below.refl _ _) | (with_reducible assumption) | (with_reducible refine Below.drew ?_) | (with_reducible refine below_drewN ?_ _) | ((with_reducible refine Below.alloc ?_ ?_ _); rotate_left; focus (go_size; done)) | ((with_reducible refine Below.setCell ?_ ?_ _); rotate_left; focus (go_size; done)) | ((with_reducible refine Below.trans ?_ (Below.mono (by with_reducible assumption) ?_)); rotate_left; focus (go_size; done))))⟩
    · obtain ⟨e1, e2⟩ := sgn_lt (x := X) (y := Y) hb (by omega)
      rw [e1, e2]
      have hXd : Y - X < 2 ^ 256 := by omega
      have HP := Lib.hid (fun W => minus4_any Y X hY2 (by omega) W)
      have HT := Lib.hid (fun W => fit_any b' (Y - X) m hXd m76 W)
      have ho := cmpN_lt (show X < Y by omega)
      have ho' : ¬ 0 ≤ cmpN X Y := by omega
      clear e1 e2 hX2 hY2 hXY hXd hl hb
      generalize cmpN X Y = cc at *
      generalize FitC (Y - X) (10 ^ m) = C at *
      generalize FitS (Y - X) (10 ^ m) = S at *
      generalize FitE (Y - X) (10 ^ m) = E at *
      generalize Y - X = U at *
      generalize wd X 0 = p0 at *
      generalize wd X 1 = p1 at *
      generalize wd X 2 = p2 at *
      generalize wd X 3 = p3 at *
      generalize wd Y 0 = q0 at *
      generalize wd Y 1 = q1 at *
      generalize wd Y 2 = q2 at *
      generalize wd Y 3 = q3 at *
      generalize wd c 0 = x0 at *
      generalize wd c 1 = x1 at *
      generalize wd c' 0 = y0 at *
      generalize wd c' 1 = y1 at *
      clear hc hc'
      go_enter Try.func15, Try.ntmps15
      go_wp2_with fail
      (with_reducible refine (HF.out _ _ ?hg).mono ?_)
      case hg => ((repeat (first | (with_reducible assumption) | ((with_reducible refine Bk.new_ ?_); (first | rfl | (simp only [World.size_alloc, World.size_setCell, World.size_drew, World.heap_drewN]; done))) | (with_reducible refine Bk.alloc ?_ _) | (with_reducible refine Bk.drew ?_) | (with_reducible refine Bk.drewN ?_ _) | ((with_reducible refine Bk.far ?_ ?_ _); rotate_left; focus (simp only []; omega)) | ((with_reducible refine Bk.below ?_ (by with_reducible assumption) ?_); rotate_left; focus (go_size; done)))); done)
      rintro _ w1 ⟨rfl, hb1⟩; have hb1s := hb1.size; (try simp only [World.size_alloc, World.size_setCell, World.size_drew, World.heap_drewN] at hb1s); obtain ⟨hb1c, hb1f⟩ := bcell hb1; (try have : w.heap.size < w1.heap.size := by omega); (try have : w.heap.size + 1 < w1.heap.size := by omega); (try have : w.heap.size + 1 + 1 < w1.heap.size := by omega); (try have : w.heap.size + 1 + 1 + 1 < w1.heap.size := by omega)
      have ka : Bk w1 (w.heap.size) 26 [.bool b, .int .u64 x1, .int .u64 x0, .int .i64 s] := by (repeat (first | (with_reducible assumption) | ((with_reducible refine Bk.new_ ?_); (first | rfl | (simp only [World.size_alloc, World.size_setCell, World.size_drew, World.heap_drewN]; done))) | (with_reducible refine Bk.alloc ?_ _) | (with_reducible refine Bk.drew ?_) | (with_reducible refine Bk.drewN ?_ _) | ((with_reducible refine Bk.far ?_ ?_ _); rotate_left; focus (simp only []; omega)) | ((with_reducible refine Bk.below ?_ (by with_reducible assumption) ?_); rotate_left; focus (go_size; done))))
      have ka_0 := ka.cell 0 rfl
      have ka_1 := ka.cell 1 rfl
      have ka_2 := ka.cell 2 rfl
      have ka_3 := ka.cell 3 rfl
      have ka_4 := ka.frozen 0
      have ka_5 := ka.frozen 1
      have ka_6 := ka.frozen 2
      have ka_7 := ka.frozen 3
      have kal := ka.lt
      have kb : Bk w1 (w.heap.size + 1) 26 [.bool b', .int .u64 y1, .int .u64 y0, .int .i64 s'] := by (repeat (first | (with_reducible assumption) | ((with_reducible refine Bk.new_ ?_); (first | rfl | (simp only [World.size_alloc, World.size_setCell, World.size_drew, World.heap_drewN]; done))) | (with_reducible refine Bk.alloc ?_ _) | (with_reducible refine Bk.drew ?_) | (with_reducible refine Bk.drewN ?_ _) | ((with_reducible refine Bk.far ?_ ?_ _); rotate_left; focus (simp only []; omega)) | ((with_reducible refine Bk.below ?_ (by with_reducible assumption) ?_); rotate_left; focus (go_size; done))))
      have kb_0 := kb.cell 0 rfl
      have kb_1 := kb.cell 1 rfl
      have kb_2 := kb.cell 2 rfl
      have kb_3 := kb.cell 3 rfl
      have kb_4 := kb.frozen 0
      have kb_5 := kb.frozen 1
      have kb_6 := kb.frozen 2
      have kb_7 := kb.frozen 3
      have kbl := kb.lt
      have kr : Bk w1 (w.heap.size + 1 + 1) 26 [.bool false, .int .u64 0, .int .u64 0, .int .i64 0] := by (repeat (first | (with_reducible assumption) | ((with_reducible refine Bk.new_ ?_); (first | rfl | (simp only [World.size_alloc, World.size_setCell, World.size_drew, World.heap_drewN]; done))) | (with_reducible refine Bk.alloc ?_ _) | (with_reducible refine Bk.drew ?_) | (with_reducible refine Bk.drewN ?_ _) | ((with_reducible refine Bk.far ?_ ?_ _); rotate_left; focus (simp only []; omega)) | ((with_reducible refine Bk.below ?_ (by with_reducible assumption) ?_); rotate_left; focus (go_size; done))))
      have kr_0 := kr.cell 0 rfl
      have kr_1 := kr.cell 1 rfl
      have kr_2 := kr.cell 2 rfl
      have kr_3 := kr.cell 3 rfl
      have kr_4 := kr.frozen 0
      have kr_5 := kr.frozen 1
      have kr_6 := kr.frozen 2
      have kr_7 := kr.frozen 3
      have krl := kr.lt
      clear hb1c hb1f
      go_wp2_with fail
      refine (HB.out _).mono ?_
      rintro _ w2 ⟨rfl, hb2⟩; have hb2s := hb2.size; (try simp only [World.size_alloc, World.size_setCell, World.size_drew, World.heap_drewN] at hb2s); obtain ⟨hb2c, hb2f⟩ := bcell hb2; (try have : w.heap.size < w2.heap.size := by omega); (try have : w.heap.size + 1 < w2.heap.size := by omega); (try have : w.heap.size + 1 + 1 < w2.heap.size := by omega); (try have : w.heap.size + 1 + 1 + 1 < w2.heap.size := by omega)
      have ja : Bk w2 (w.heap.size) 26 [.bool b, .int .u64 x1, .int .u64 x0, .int .i64 s] := by (repeat (first | (with_reducible assumption) | ((with_reducible refine Bk.new_ ?_); (first | rfl | (simp only [World.size_alloc, World.size_setCell, World.size_drew, World.heap_drewN]; done))) | (with_reducible refine Bk.alloc ?_ _) | (with_reducible refine Bk.drew ?_) | (with_reducible refine Bk.drewN ?_ _) | ((with_reducible refine Bk.far ?_ ?_ _); rotate_left; focus (simp only []; omega)) | ((with_reducible refine Bk.below ?_ (by with_reducible assumption) ?_); rotate_left; focus (go_size; done))))
      have jb : Bk w2 (w.heap.size + 1) 26 [.bool b', .int .u64 y1, .int .u64 y0, .int .i64 s'] := by (repeat (first | (with_reducible assumption) | ((with_reducible refine Bk.new_ ?_); (first | rfl | (simp only [World.size_alloc, World.size_setCell, World.size_drew, World.heap_drewN]; done))) | (with_reducible refine Bk.alloc ?_ _) | (with_reducible refine Bk.drew ?_) | (with_reducible refine Bk.drewN ?_ _) | ((with_reducible refine Bk.far ?_ ?_ _); rotate_left; focus (simp only []; omega)) | ((with_reducible refine Bk.below ?_ (by with_reducible assumption) ?_); rotate_left; focus (go_size; done))))
      have jr : Bk w2 (w.heap.size + 1 + 1) 26 [.bool false, .int .u64 0, .int .u64 0, .int .i64 0] := by (repeat (first | (with_reducible assumption) | ((with_reducible refine Bk.new_ ?_); (first | rfl | (simp only [World.size_alloc, World.size_setCell, World.size_drew, World.heap_drewN]; done))) | (with_reducible refine Bk.alloc ?_ _) | (with_reducible refine Bk.drew ?_) | (with_reducible refine Bk.drewN ?_ _) | ((with_reducible refine Bk.far ?_ ?_ _); rotate_left; focus (simp only []; omega)) | ((with_reducible refine Bk.below ?_ (by with_reducible assumption) ?_); rotate_left; focus (go_size; done))))
      clear hb2c hb2f ka_0 ka_1 ka_2 ka_3 ka_4 ka_5 ka_6 ka_7 kb_0 kb_1 kb_2 kb_3 kb_4 kb_5 kb_6 kb_7 kr_0 kr_1 kr_2 kr_3 kr_4 kr_5 kr_6 kr_7
      have ja_0 := ja.cell 0 rfl
      have ja_1 := ja.cell 1 rfl
      have ja_2 := ja.cell 2 rfl
      have ja_3 := ja.cell 3 rfl
      have ja_4 := ja.frozen 0
      have ja_5 := ja.frozen 1
      have ja_6 := ja.frozen 2
      have ja_7 := ja.frozen 3
      have jb_0 := jb.cell 0 rfl
      have jb_1 := jb.cell 1 rfl
      have jb_2 := jb.cell 2 rfl
      have jb_3 := jb.cell 3 rfl
      have jb_4 := jb.frozen 0
      have jb_5 := jb.frozen 1
      have jb_6 := jb.frozen 2
      have jb_7 := jb.frozen 3
      have jr_0 := jr.cell 0 rfl
      have jr_1 := jr.cell 1 rfl
      have jr_2 := jr.cell 2 rfl
      have jr_3 := jr.cell 3 rfl
      have jr_4 := jr.frozen 0
      have jr_5 := jr.frozen 1
      have jr_6 := jr.frozen 2
      have jr_7 := jr.frozen 3
      have jal := ja.lt
      have jbl := jb.lt
      have jrl := jr.lt
      go_wp2_with fail
      refine (HO.out _).mono ?_
      rintro _ w3 ⟨rfl, hb3⟩; have hb3s := hb3.size; (try simp only [World.size_alloc, World.size_setCell, World.size_drew, World.heap_drewN] at hb3s); obtain ⟨hb3c, hb3f⟩ := bcell hb3; (try have : w.heap.size < w3.heap.size := by omega); (try have : w.heap.size + 1 < w3.heap.size := by omega); (try have : w.heap.size + 1 + 1 < w3.heap.size := by omega); (try have : w.heap.size + 1 + 1 + 1 < w3.heap.size := by omega)
      have la : Bk w3 (w.heap.size) 26 [.bool b, .int .u64 x1, .int .u64 x0, .int .i64 s] := by (repeat (first | (with_reducible assumption) | ((with_reducible refine Bk.new_ ?_); (first | rfl | (simp only [World.size_alloc, World.size_setCell, World.size_drew, World.heap_drewN]; done))) | (with_reducible refine Bk.alloc ?_ _) | (with_reducible refine Bk.drew ?_) | (with_reducible refine Bk.drewN ?_ _) | ((with_reducible refine Bk.far ?_ ?_ _); rotate_left; focus (simp only []; omega)) | ((with_reducible refine Bk.below ?_ (by with_reducible assumption) ?_); rotate_left; focus (go_size; done))))
      have lb : Bk w3 (w.heap.size + 1) 26 [.bool b', .int .u64 y1, .int .u64 y0, .int .i64 s'] := by (repeat (first | (with_reducible assumption) | ((with_reducible refine Bk.new_ ?_); (first | rfl | (simp only [World.size_alloc, World.size_setCell, World.size_drew, World.heap_drewN]; done))) | (with_reducible refine Bk.alloc ?_ _) | (with_reducible refine Bk.drew ?_) | (with_reducible refine Bk.drewN ?_ _) | ((with_reducible refine Bk.far ?_ ?_ _); rotate_left; focus (simp only []; omega)) | ((with_reducible refine Bk.below ?_ (by with_reducible assumption) ?_); rotate_left; focus (go_size; done))))
      have lr : Bk w3 (w.heap.size + 1 + 1) 26 [.bool false, .int .u64 0, .int .u64 0, .int .i64 0] := by (repeat (first | (with_reducible assumption) | ((with_reducible refine Bk.new_ ?_); (first | rfl | (simp only [World.size_alloc, World.size_setCell, World.size_drew, World.heap_drewN]; done))) | (with_reducible refine Bk.alloc ?_ _) | (with_reducible refine Bk.drew ?_) | (with_reducible refine Bk.drewN ?_ _) | ((with_reducible refine Bk.far ?_ ?_ _); rotate_left; focus (simp only []; omega)) | ((with_reducible refine Bk.below ?_ (by with_reducible assumption) ?_); rotate_left; focus (go_size; done))))
      have lx : Bk w3 (w2.heap.size) 45 [.int .u64 p0, .int .u64 p1, .int .u64 p2, .int .u64 p3] := by (repeat (first | (with_reducible assumption) | ((with_reducible refine Bk.new_ ?_); (first | rfl | (simp only [World.size_alloc, World.size_setCell, World.size_drew, World.heap_drewN]; done))) | (with_reducible refine Bk.alloc ?_ _) | (with_reducible refine Bk.drew ?_) | (with_reducible refine Bk.drewN ?_ _) | ((with_reducible refine Bk.far ?_ ?_ _); rotate_left; focus (simp only []; omega)) | ((with_reducible refine Bk.below ?_ (by with_reducible assumption) ?_); rotate_left; focus (go_size; done))))
      have ly : Bk w3 (w2.heap.size + 1) 45 [.int .u64 q0, .int .u64 q1, .int .u64 q2, .int .u64 q3] := by (repeat (first | (with_reducible assumption) | ((with_reducible refine Bk.new_ ?_); (first | rfl | (simp only [World.size_alloc, World.size_setCell, World.size_drew, World.heap_drewN]; done))) | (with_reducible refine Bk.alloc ?_ _) | (with_reducible refine Bk.drew ?_) | (with_reducible refine Bk.drewN ?_ _) | ((with_reducible refine Bk.far ?_ ?_ _); rotate_left; focus (simp only []; omega)) | ((with_reducible refine Bk.below ?_ (by with_reducible assumption) ?_); rotate_left; focus (go_size; done))))
      clear hb3c hb3f ja_0 ja_1 ja_2 ja_3 ja_4 ja_5 ja_6 ja_7 jb_0 jb_1 jb_2 jb_3 jb_4 jb_5 jb_6 jb_7 jr_0 jr_1 jr_2 jr_3 jr_4 jr_5 jr_6 jr_7
      have la_0 := la.cell 0 rfl
      have la_1 := la.cell 1 rfl
      have la_2 := la.cell 2 rfl
      have la_3 := la.cell 3 rfl
      have la_4 := la.frozen 0
      have la_5 := la.frozen 1
      have la_6 := la.frozen 2
      have la_7 := la.frozen 3
      have lb_0 := lb.cell 0 rfl
      have lb_1 := lb.cell 1 rfl
      have lb_2 := lb.cell 2 rfl
      have lb_3 := lb.cell 3 rfl
      have lb_4 := lb.frozen 0
      have lb_5 := lb.frozen 1
      have lb_6 := lb.frozen 2
      have lb_7 := lb.frozen 3
      have lr_0 := lr.cell 0 rfl
      have lr_1 := lr.cell 1 rfl
      have lr_2 := lr.cell 2 rfl
      have lr_3 := lr.cell 3 rfl
      have lr_4 := lr.frozen 0
      have lr_5 := lr.frozen 1
      have lr_6 := lr.frozen 2
      have lr_7 := lr.frozen 3
      have lx_0 := lx.cell 0 rfl
      have lx_1 := lx.cell 1 rfl
      have lx_2 := lx.cell 2 rfl
      have lx_3 := lx.cell 3 rfl
      have lx_4 := lx.frozen 0
      have lx_5 := lx.frozen 1
      have lx_6 := lx.frozen 2
      have lx_7 := lx.frozen 3
      have ly_0 := ly.cell 0 rfl
      have ly_1 := ly.cell 1 rfl
      have ly_2 := ly.cell 2 rfl
      have ly_3 := ly.cell 3 rfl
      have ly_4 := ly.frozen 0
      have ly_5 := ly.frozen 1
      have ly_6 := ly.frozen 2
      have ly_7 := ly.frozen 3
      go_wp2_with fail
      go_region_held3 (fun w' => (w'.cell? ⟨(w.heap.size + 1), 0, none⟩ = some (.bool b') ∧ w'.cell? ⟨(w.heap.size + 1), 1, none⟩ = some (.int .u64 y1) ∧ w'.cell? ⟨(w.heap.size + 1), 2, none⟩ = some (.int .u64 y0) ∧ w'.cell? ⟨(w.heap.size + 1), 3, none⟩ = some (.int .i64 s')) ∧ (w'.cell? ⟨w2.heap.size, 0, none⟩ = some (.int .u64 p0) ∧ w'.cell? ⟨w2.heap.size, 1, none⟩ = some (.int .u64 p1) ∧ w'.cell? ⟨w2.heap.size, 2, none⟩ = some (.int .u64 p2) ∧ w'.cell? ⟨w2.heap.size, 3, none⟩ = some (.int .u64 p3)) ∧ (w'.cell? ⟨(w2.heap.size + 1), 0, none⟩ = some (.int .u64 q0) ∧ w'.cell? ⟨(w2.heap.size + 1), 1, none⟩ = some (.int .u64 q1) ∧ w'.cell? ⟨(w2.heap.size + 1), 2, none⟩ = some (.int .u64 q2) ∧ w'.cell? ⟨(w2.heap.size + 1), 3, none⟩ = some (.int .u64 q3))) (first | (first | (go_keep; done) | (simp [go_sem]; done) | ((try dsimp only); (repeat' apply And.intro) <;> (first | (with_reducible assumption) | ((rw [World.cell?_alloc_lt _ _ _ (by show _ < _; omega)]); go_split_ands; (first | with_reducible assumption | (refine (World.cell?_alloc_lt _ _ _ (by show _ < _; omega)).symm.trans ?_; with_reducible assumption))) | ((rw [World.cell?_setCell_other _ _ _ _ (by intro e; injection e; omega)]); with_reducible assumption) | (go_keep; done) | (simp [go_sem]; done) | (simp (disch := go_size) [*, World.cell?_alloc_some, World.cell?_setCell_far]; done)))) | ((refine ⟨?_, ?_, ?_⟩) <;> (first | ((refine ⟨Bk.cell (t := 26) (cs := [.bool b', .int .u64 y1, .int .u64 y0, .int .i64 s']) ?_ 0 rfl, Bk.cell (t := 26) (cs := [.bool b', .int .u64 y1, .int .u64 y0, .int .i64 s']) ?_ 1 rfl, Bk.cell (t := 26) (cs := [.bool b', .int .u64 y1, .int .u64 y0, .int .i64 s']) ?_ 2 rfl, Bk.cell (t := 26) (cs := [.bool b', .int .u64 y1, .int .u64 y0, .int .i64 s']) ?_ 3 rfl⟩) <;> ((repeat (first | (with_reducible assumption) | ((with_reducible refine Bk.new_ ?_); (first | rfl | (simp only [World.size_alloc, World.size_setCell, World.size_drew, World.heap_drewN]; done))) | (with_reducible refine Bk.alloc ?_ _) | (with_reducible refine Bk.drew ?_) | (with_reducible refine Bk.drewN ?_ _) | ((with_reducible refine Bk.far ?_ ?_ _); rotate_left; focus (simp only []; omega)) | ((with_reducible refine Bk.below ?_ (by with_reducible assumption) ?_); rotate_left; focus (go_size; done)))); done)) | ((refine ⟨Bk.cell (t := 45) (cs := [.int .u64 p0, .int .u64 p1, .int .u64 p2, .int .u64 p3]) ?_ 0 rfl, Bk.cell (t := 45) (cs := [.int .u64 p0, .int .u64 p1, .int .u64 p2, .int .u64 p3]) ?_ 1 rfl, Bk.cell (t := 45) (cs := [.int .u64 p0, .int .u64 p1, .int .u64 p2, .int .u64 p3]) ?_ 2 rfl, Bk.cell (t := 45) (cs := [.int .u64 p0, .int .u64 p1, .int .u64 p2, .int .u64 p3]) ?_ 3 rfl⟩) <;> ((repeat (first | (with_reducible assumption) | ((with_reducible refine Bk.new_ ?_); (first | rfl | (simp only [World.size_alloc, World.size_setCell, World.size_drew, World.heap_drewN]; done))) | (with_reducible refine Bk.alloc ?_ _) | (with_reducible refine Bk.drew ?_) | (with_reducible refine Bk.drewN ?_ _) | ((with_reducible refine Bk.far ?_ ?_ _); rotate_left; focus (simp only []; omega)) | ((with_reducible refine Bk.below ?_ (by with_reducible assumption) ?_); rotate_left; focus (go_size; done)))); done)) | ((refine ⟨Bk.cell (t := 45) (cs := [.int .u64 q0, .int .u64 q1, .int .u64 q2, .int .u64 q3]) ?_ 0 rfl, Bk.cell (t := 45) (cs := [.int .u64 q0, .int .u64 q1, .int .u64 q2, .int .u64 q3]) ?_ 1 rfl, Bk.cell (t := 45) (cs := [.int .u64 q0, .int .u64 q1, .int .u64 q2, .int .u64 q3]) ?_ 2 rfl, Bk.cell (t := 45) (cs := [.int .u64 q0, .int .u64 q1, .int .u64 q2, .int .u64 q3]) ?_ 3 rfl⟩) <;> ((repeat (first | (with_reducible assumption) | ((with_reducible refine Bk.new_ ?_); (first | rfl | (simp only [World.size_alloc, World.size_setCell, World.size_drew, World.heap_drewN]; done))) | (with_reducible refine Bk.alloc ?_ _) | (with_reducible refine Bk.drew ?_) | (with_reducible refine Bk.drewN ?_ _) | ((with_reducible refine Bk.far ?_ ?_ _); rotate_left; focus (simp only []; omega)) | ((with_reducible refine Bk.below ?_ (by with_reducible assumption) ?_); rotate_left; focus (go_size; done)))); done))))) (first | (go_at_call 53; (with_reducible refine (HP.out _).mono ?_); rintro _ w4 ⟨rfl, hb4⟩; have hb4s := hb4.size; (try simp only [World.size_alloc, World.size_setCell, World.size_drew, World.heap_drewN] at hb4s); obtain ⟨hb4c, hb4f⟩ := bcell hb4; (try have : w.heap.size < w4.heap.size := by omega); (try have : w.heap.size + 1 < w4.heap.size := by omega); (try have : w.heap.size + 1 + 1 < w4.heap.size := by omega); (try have : w.heap.size + 1 + 1 + 1 < w4.heap.size := by omega); (try have : w2.heap.size < w4.heap.size := by omega); (try have : w2.heap.size + 1 < w4.heap.size := by omega); (try have : w2.heap.size + 1 + 1 < w4.heap.size := by omega); (try have : w2.heap.size + 1 + 1 + 1 < w4.heap.size := by omega); (try have : w3.heap.size < w4.heap.size := by omega); (try have : w3.heap.size + 1 < w4.heap.size := by omega); (try have : w3.heap.size + 1 + 1 < w4.heap.size := by omega); (try have : w3.heap.size + 1 + 1 + 1 < w4.heap.size := by omega)) | (go_at_call 51; (with_reducible refine (HT.out _).mono ?_); rintro _ w5 ⟨rfl, hb5⟩; have hb5s := hb5.size; (try simp only [World.size_alloc, World.size_setCell, World.size_drew, World.heap_drewN] at hb5s); obtain ⟨hb5c, hb5f⟩ := bcell hb5; (try have : w.heap.size < w5.heap.size := by omega); (try have : w.heap.size + 1 < w5.heap.size := by omega); (try have : w.heap.size + 1 + 1 < w5.heap.size := by omega); (try have : w.heap.size + 1 + 1 + 1 < w5.heap.size := by omega); have zr : Bk w5 (w.heap.size + 1 + 1) 26 [.bool false, .int .u64 0, .int .u64 0, .int .i64 0] := (by (repeat (first | (with_reducible assumption) | ((with_reducible refine Bk.new_ ?_); (first | rfl | (simp only [World.size_alloc, World.size_setCell, World.size_drew, World.heap_drewN]; done))) | (with_reducible refine Bk.alloc ?_ _) | (with_reducible refine Bk.drew ?_) | (with_reducible refine Bk.drewN ?_ _) | ((with_reducible refine Bk.far ?_ ?_ _); rotate_left; focus (simp only []; omega)) | ((with_reducible refine Bk.below ?_ (by with_reducible assumption) ?_); rotate_left; focus (go_size; done))))); have zr_0 := zr.cell 0 rfl; have zr_1 := zr.cell 1 rfl; have zr_2 := zr.cell 2 rfl; have zr_3 := zr.cell 3 rfl; have zr_4 := zr.frozen 0; have zr_5 := zr.frozen 1; have zr_6 := zr.frozen 2; have zr_7 := zr.frozen 3; have zrl := zr.lt; clear hb5c hb5f; (try have : w2.heap.size < w5.heap.size := by omega); (try have : w2.heap.size + 1 < w5.heap.size := by omega); (try have : w2.heap.size + 1 + 1 < w5.heap.size := by omega); (try have : w2.heap.size + 1 + 1 + 1 < w5.heap.size := by omega); (try have : w3.heap.size < w5.heap.size := by omega); (try have : w3.heap.size + 1 < w5.heap.size := by omega); (try have : w3.heap.size + 1 + 1 < w5.heap.size := by omega); (try have : w3.heap.size + 1 + 1 + 1 < w5.heap.size := by omega); (try have : w4.heap.size < w5.heap.size := by omega); (try have : w4.heap.size + 1 < w5.heap.size := by omega); (try have : w4.heap.size + 1 + 1 < w5.heap.size := by omega); (try have : w4.heap.size + 1 + 1 + 1 < w5.heap.size := by omega)))
      all_goals
        refine wp_named (fun W => Bk W (w.heap.size + 1 + 1) 26 [.bool (sg b' C), .int .u64 (wd C 1), .int .u64 (wd C 0), .int .i64 (S : Int)] ∧ Below w.heap.size w W) ⟨?h1, ?h2⟩ ?_
        case h1 => (first | ((repeat (first | (with_reducible assumption) | ((with_reducible refine Bk.new_ ?_); (first | rfl | (simp only [World.size_alloc, World.size_setCell, World.size_drew, World.heap_drewN]; done))) | (with_reducible refine Bk.alloc ?_ _) | (with_reducible refine Bk.drew ?_) | (with_reducible refine Bk.drewN ?_ _) | ((with_reducible refine Bk.far ?_ ?_ _); rotate_left; focus (simp only []; omega)) | ((with_reducible refine Bk.below ?_ (by with_reducible assumption) ?_); rotate_left; focus (go_size; done)))); done) | ((repeat (first | (with_reducible refine Bk.alloc ?_ _) | (with_reducible refine Bk.drew ?_) | ((with_reducible refine Bk.far ?_ ?_ _); rotate_left; focus (simp only []; omega)))); (refine ((((?_ : Bk _ _ _ [.bool false, .int .u64 0, .int .u64 0, .int .i64 0]).set_ 0 _).set_ 1 _).set_ 2 _).set_ 3 _); (repeat (first | (with_reducible assumption) | ((with_reducible refine Bk.new_ ?_); (first | rfl | (simp only [World.size_alloc, World.size_setCell, World.size_drew, World.heap_drewN]; done))) | (with_reducible refine Bk.alloc ?_ _) | (with_reducible refine Bk.drew ?_) | (with_reducible refine Bk.drewN ?_ _) | ((with_reducible refine Bk.far ?_ ?_ _); rotate_left; focus (simp only []; omega)) | ((with_reducible refine Bk.below ?_ (by with_reducible assumption) ?_); rotate_left; focus (go_size; done))))); done)
        case h2 => ((repeat' (first | (with_reducible exact Below.refl _ _) | (with_reducible assumption) | (with_reducible refine Below.drew ?_) | (with_reducible refine below_drewN ?_ _) | ((with_reducible refine Below.alloc ?_ ?_ _); rotate_left; focus (go_size; done)) | ((with_reducible refine Below.setCell ?_ ?_ _); rotate_left; focus (go_size; done)) | ((with_reducible refine Below.trans ?_ (Below.mono (by with_reducible assumption) ?_)); rotate_left; focus (go_size; done)))); done)
        rintro W ⟨k1, mb⟩
        have k1_0 := k1.cell 0 rfl
        have k1_1 := k1.cell 1 rfl
        have k1_2 := k1.cell 2 rfl
        have k1_3 := k1.cell 3 rfl
        have k1_4 := k1.frozen 0
        have k1_5 := k1.frozen 1
        have k1_6 := k1.frozen 2
        have k1_7 := k1.frozen 3
        go_wp2_with fail
        refine bodyPost_ret (by simp [results, Try.results15, go_sem, *]; try rfl) rfl ?_
        exact ⟨rfl, by (repeat' (first | (with_reducible exact Below.refl _ _) | (with_reducible assumption) | (with_reducible refine Below.drew ?_) | (with_reducible refine below_drewN ?_ _) | ((with_reducible refine Below.alloc ?_ ?_ _); rotate_left; focus (go_size; done)) | ((with_reducible refine Below.setCell ?_ ?_ _); rotate_left; focus (go_size; done)) | ((with_reducible refine Below.trans ?_ (Below.mono (by with_reducible assumption) ?_)); rotate_left; focus (go_size; done))))⟩
end Go.Proofs.Ythkgjodidkpaeaa

set_option linter.unusedSimpArgs false
set_option linter.unusedVariables false
namespace Go.Proofs.Ythkgjodidkpaeaa
open Go.RowKit

set_option maxHeartbeats 2000000 in
theorem dcmp_bad (b : Bool) (c : Nat) (s : Int) (b' : Bool) (c' : Nat) (s' : Int) (hc : c < 2 ^ 128) (hc' : c' < 2 ^ 128) (h : (dform b c s && dform b' c' s') = false) (w : World) :
    Calls Try.prog 12 #[.agg #[.bool b, .int .u64 (wd (c) 1), .int .u64 (wd (c) 0), .int .i64 s], .agg #[.bool b', .int .u64 (wd (c') 1), .int .u64 (wd (c') 0), .int .i64 s']] w fun e w' => e = .returned (.tuple #[.int .i64 0, .int .i64 2]) ∧ Below w.heap.size w w' := by
  have HF := Lib.hid (fun g W hg => formed_two b c s hc b' c' s' hc' g W hg)
  rw [h] at HF
  simp only [ferr, if_pos, if_neg, Bool.false_eq_true, if_true, if_false] at HF
  generalize wd c 0 = x0 at *
  generalize wd c 1 = x1 at *
  generalize wd c' 0 = y0 at *
  generalize wd c' 1 = y1 at *
  clear hc hc' h
  go_enter Try.func12, Try.ntmps12
  go_wp2_with fail
  (with_reducible refine (HF.out _ _ ?hg).mono ?_)
  case hg => ((repeat (first | (with_reducible assumption) | ((with_reducible refine Bk.new_ ?_); (first | rfl | (simp only [World.size_alloc, World.size_setCell, World.size_drew, World.heap_drewN]; done))) | (with_reducible refine Bk.alloc ?_ _) | (with_reducible refine Bk.drew ?_) | (with_reducible refine Bk.drewN ?_ _) | ((with_reducible refine Bk.far ?_ ?_ _); rotate_left; focus (simp only []; omega)) | ((with_reducible refine Bk.below ?_ (by with_reducible assumption) ?_); rotate_left; focus (go_size; done)))); done)
  rintro _ w1 ⟨rfl, hb1⟩; have hb1s := hb1.size; (try simp only [World.size_alloc, World.size_setCell, World.size_drew, World.heap_drewN] at hb1s); obtain ⟨hb1c, hb1f⟩ := bcell hb1; (try have : w.heap.size < w1.heap.size := by omega); (try have : w.heap.size + 1 < w1.heap.size := by omega); (try have : w.heap.size + 1 + 1 < w1.heap.size := by omega); (try have : w.heap.size + 1 + 1 + 1 < w1.heap.size := by omega)
  have ka : Bk w1 (w.heap.size) 26 [.bool b, .int .u64 x1, .int .u64 x0, .int .i64 s] := by (repeat (first | (with_reducible assumption) | ((with_reducible refine Bk.new_ ?_); (first | rfl | (simp only [World.size_alloc, World.size_setCell, World.size_drew, World.heap_drewN]; done))) | (with_reducible refine Bk.alloc ?_ _) | (with_reducible refine Bk.drew ?_) | (with_reducible refine Bk.drewN ?_ _) | ((with_reducible refine Bk.far ?_ ?_ _); rotate_left; focus (simp only []; omega)) | ((with_reducible refine Bk.below ?_ (by with_reducible assumption) ?_); rotate_left; focus (go_size; done))))
  have ka_0 := ka.cell 0 rfl
  have ka_1 := ka.cell 1 rfl
  have ka_2 := ka.cell 2 rfl
  have ka_3 := ka.cell 3 rfl
  have ka_4 := ka.frozen 0
  have ka_5 := ka.frozen 1
  have ka_6 := ka.frozen 2
  have ka_7 := ka.frozen 3
  have kal := ka.lt
  have kb : Bk w1 (w.heap.size + 1) 26 [.bool b', .int .u64 y1, .int .u64 y0, .int .i64 s'] := by (repeat (first | (with_reducible assumption) | ((with_reducible refine Bk.new_ ?_); (first | rfl | (simp only [World.size_alloc, World.size_setCell, World.size_drew, World.heap_drewN]; done))) | (with_reducible refine Bk.alloc ?_ _) | (with_reducible refine Bk.drew ?_) | (with_reducible refine Bk.drewN ?_ _) | ((with_reducible refine Bk.far ?_ ?_ _); rotate_left; focus (simp only []; omega)) | ((with_reducible refine Bk.below ?_ (by with_reducible assumption) ?_); rotate_left; focus (go_size; done))))
  have kb_0 := kb.cell 0 rfl
  have kb_1 := kb.cell 1 rfl
  have kb_2 := kb.cell 2 rfl
  have kb_3 := kb.cell 3 rfl
  have kb_4 := kb.frozen 0
  have kb_5 := kb.frozen 1
  have kb_6 := kb.frozen 2
  have kb_7 := kb.frozen 3
  have kbl := kb.lt
  clear hb1c hb1f ka kb
  go_wp2_with fail
  go_ret2
  exact ⟨rfl, by (repeat' (first | (with_reducible exact Below.refl _ _) | (with_reducible assumption) | (with_reducible refine Below.drew ?_) | (with_reducible refine below_drewN ?_ _) | ((with_reducible refine Below.alloc ?_ ?_ _); rotate_left; focus (go_size; done)) | ((with_reducible refine Below.setCell ?_ ?_ _); rotate_left; focus (go_size; done)) | ((with_reducible refine Below.trans ?_ (Below.mono (by with_reducible assumption) ?_)); rotate_left; focus (go_size; done))))⟩
set_option maxHeartbeats 2000000 in
theorem sub_bad (b : Bool) (c : Nat) (s : Int) (b' : Bool) (c' : Nat) (s' : Int) (hc : c < 2 ^ 128) (hc' : c' < 2 ^ 128) (h : (dform b c s && dform b' c' s') = false) (w : World) :
    Calls Try.prog 29 #[.agg #[.bool b, .int .u64 (wd (c) 1), .int .u64 (wd (c) 0), .int .i64 s], .agg #[.bool b', .int .u64 (wd (c') 1), .int .u64 (wd (c') 0), .int .i64 s']] w fun e w' => e = .returned (.tuple #[.agg #[.bool false, .int .u64 0, .int .u64 0, .int .i64 0], .int .i64 2]) ∧ Below w.heap.size w w' := by
  have HF := Lib.hid (fun g W hg => formed_two b c s hc b' c' s' hc' g W hg)
  rw [h] at HF
  simp only [ferr, if_pos, if_neg, Bool.false_eq_true, if_true, if_false] at HF
  generalize wd c 0 = x0 at *
  generalize wd c 1 = x1 at *
  generalize wd c' 0 = y0 at *
  generalize wd c' 1 = y1 at *
  clear hc hc' h
  go_enter Try.func29, Try.ntmps29
  go_wp2_with fail
  (with_reducible refine (HF.out _ _ ?hg).mono ?_)
  case hg => ((repeat (first | (with_reducible assumption) | ((with_reducible refine Bk.new_ ?_); (first | rfl | (simp only [World.size_alloc, World.size_setCell, World.size_drew, World.heap_drewN]; done))) | (with_reducible refine Bk.alloc ?_ _) | (with_reducible refine Bk.drew ?_) | (with_reducible refine Bk.drewN ?_ _) | ((with_reducible refine Bk.far ?_ ?_ _); rotate_left; focus (simp only []; omega)) | ((with_reducible refine Bk.below ?_ (by with_reducible assumption) ?_); rotate_left; focus (go_size; done)))); done)
  rintro _ w1 ⟨rfl, hb1⟩; have hb1s := hb1.size; (try simp only [World.size_alloc, World.size_setCell, World.size_drew, World.heap_drewN] at hb1s); obtain ⟨hb1c, hb1f⟩ := bcell hb1; (try have : w.heap.size < w1.heap.size := by omega); (try have : w.heap.size + 1 < w1.heap.size := by omega); (try have : w.heap.size + 1 + 1 < w1.heap.size := by omega); (try have : w.heap.size + 1 + 1 + 1 < w1.heap.size := by omega)
  have ka : Bk w1 (w.heap.size) 26 [.bool b, .int .u64 x1, .int .u64 x0, .int .i64 s] := by (repeat (first | (with_reducible assumption) | ((with_reducible refine Bk.new_ ?_); (first | rfl | (simp only [World.size_alloc, World.size_setCell, World.size_drew, World.heap_drewN]; done))) | (with_reducible refine Bk.alloc ?_ _) | (with_reducible refine Bk.drew ?_) | (with_reducible refine Bk.drewN ?_ _) | ((with_reducible refine Bk.far ?_ ?_ _); rotate_left; focus (simp only []; omega)) | ((with_reducible refine Bk.below ?_ (by with_reducible assumption) ?_); rotate_left; focus (go_size; done))))
  have ka_0 := ka.cell 0 rfl
  have ka_1 := ka.cell 1 rfl
  have ka_2 := ka.cell 2 rfl
  have ka_3 := ka.cell 3 rfl
  have ka_4 := ka.frozen 0
  have ka_5 := ka.frozen 1
  have ka_6 := ka.frozen 2
  have ka_7 := ka.frozen 3
  have kal := ka.lt
  have kb : Bk w1 (w.heap.size + 1) 26 [.bool b', .int .u64 y1, .int .u64 y0, .int .i64 s'] := by (repeat (first | (with_reducible assumption) | ((with_reducible refine Bk.new_ ?_); (first | rfl | (simp only [World.size_alloc, World.size_setCell, World.size_drew, World.heap_drewN]; done))) | (with_reducible refine Bk.alloc ?_ _) | (with_reducible refine Bk.drew ?_) | (with_reducible refine Bk.drewN ?_ _) | ((with_reducible refine Bk.far ?_ ?_ _); rotate_left; focus (simp only []; omega)) | ((with_reducible refine Bk.below ?_ (by with_reducible assumption) ?_); rotate_left; focus (go_size; done))))
  have kb_0 := kb.cell 0 rfl
  have kb_1 := kb.cell 1 rfl
  have kb_2 := kb.cell 2 rfl
  have kb_3 := kb.cell 3 rfl
  have kb_4 := kb.frozen 0
  have kb_5 := kb.frozen 1
  have kb_6 := kb.frozen 2
  have kb_7 := kb.frozen 3
  have kbl := kb.lt
  have kr : Bk w1 (w.heap.size + 1 + 1) 26 [.bool false, .int .u64 0, .int .u64 0, .int .i64 0] := by (repeat (first | (with_reducible assumption) | ((with_reducible refine Bk.new_ ?_); (first | rfl | (simp only [World.size_alloc, World.size_setCell, World.size_drew, World.heap_drewN]; done))) | (with_reducible refine Bk.alloc ?_ _) | (with_reducible refine Bk.drew ?_) | (with_reducible refine Bk.drewN ?_ _) | ((with_reducible refine Bk.far ?_ ?_ _); rotate_left; focus (simp only []; omega)) | ((with_reducible refine Bk.below ?_ (by with_reducible assumption) ?_); rotate_left; focus (go_size; done))))
  have kr_0 := kr.cell 0 rfl
  have kr_1 := kr.cell 1 rfl
  have kr_2 := kr.cell 2 rfl
  have kr_3 := kr.cell 3 rfl
  have kr_4 := kr.frozen 0
  have kr_5 := kr.frozen 1
  have kr_6 := kr.frozen 2
  have kr_7 := kr.frozen 3
  have krl := kr.lt
  clear hb1c hb1f ka kb kr
  go_wp2_with fail
  refine bodyPost_ret (by simp [results, Try.results29, go_sem, *]; try rfl) rfl ?_
  exact ⟨rfl, by (repeat' (first | (with_reducible exact Below.refl _ _) | (with_reducible assumption) | (with_reducible refine Below.drew ?_) | (with_reducible refine below_drewN ?_ _) | ((with_reducible refine Below.alloc ?_ ?_ _); rotate_left; focus (go_size; done)) | ((with_reducible refine Below.setCell ?_ ?_ _); rotate_left; focus (go_size; done)) | ((with_reducible refine Below.trans ?_ (Below.mono (by with_reducible assumption) ?_)); rotate_left; focus (go_size; done))))⟩
theorem dform_turn {b : Bool} {c : Nat} {s : Int} (h : dform b c s = true) : dform (sg (!b) c) c s = true := by
  obtain ⟨t, rfl, h1, h2, h3, h4⟩ := (dform_iff b c s).1 h
  refine (dform_iff _ _ _).2 ⟨t, rfl, h1, h2, fun h0 => ⟨by rw [h0]; exact sg_zero _, (h3 h0).2⟩, h4⟩
set_option maxRecDepth 100000 in
set_option maxHeartbeats 8000000 in
theorem sub_ok (b : Bool) (c s : Nat) (b' : Bool) (c' s' : Nat) (h : dform b c s = true) (h' : dform b' c' s' = true) (hc : c < B34) (hc' : c' < B34) (hs : s ≤ 18) (hs' : s' ≤ 18) (w : World) :
    Calls Try.prog 29 #[.agg #[.bool b, .int .u64 (wd (c) 1), .int .u64 (wd (c) 0), .int .i64 s], .agg #[.bool b', .int .u64 (wd (c') 1), .int .u64 (wd (c') 0), .int .i64 s']] w fun e w' => e = .returned (.tuple #[.agg #[.bool (sg (sgn b (unit c s) (sg (!b') c') (unit c' s')) (FitC ((sab b (unit c s) (sg (!b') c') (unit c' s'))) (10 ^ 18))), .int .u64 (wd (FitC ((sab b (unit c s) (sg (!b') c') (unit c' s'))) (10 ^ 18)) 1), .int .u64 (wd (FitC ((sab b (unit c s) (sg (!b') c') (unit c' s'))) (10 ^ 18)) 0), .int .i64 (FitS ((sab b (unit c s) (sg (!b') c') (unit c' s'))) (10 ^ 18))], .int .i64 (FitE (sab b (unit c s) (sg (!b') c') (unit c' s')) (10 ^ 18))]) ∧ Below w.heap.size w w' := by
  have HF := Lib.hid (fun g W hg => formed_two b c s (Nat.lt_trans hc B34_lt) b' c' s' (Nat.lt_trans hc' B34_lt) g W hg)
  rw [h, h'] at HF
  simp only [ferr, Bool.and_true, if_true] at HF
  have HT := Lib.hid (fun W => turned_any b' c' s' (Nat.lt_trans hc' B34_lt) W)
  have HA := Lib.hid (fun W => add_ok b c s (sg (!b') c') c' s' h (dform_turn h') hc hc' hs hs' W)
  generalize sg (!b') c' = r at *
  generalize FitC (sab b (unit c s) r (unit c' s')) (10 ^ 18) = C at *
  generalize FitS (sab b (unit c s) r (unit c' s')) (10 ^ 18) = S at *
  generalize FitE (sab b (unit c s) r (unit c' s')) (10 ^ 18) = E at *
  generalize sgn b (unit c s) r (unit c' s') = N at *
  generalize wd c 0 = x0 at *
  generalize wd c 1 = x1 at *
  generalize wd c' 0 = y0 at *
  generalize wd c' 1 = y1 at *
  clear hc hc' h h' hs hs'
  obtain ⟨sI, hsI⟩ : ∃ sI : Int, sI = (s : Int) := ⟨_, rfl⟩
  obtain ⟨sJ, hsJ⟩ : ∃ sJ : Int, sJ = (s' : Int) := ⟨_, rfl⟩
  rw [← hsI, ← hsJ] at HF HA ⊢
  rw [← hsJ] at HT
  clear hsI hsJ
  obtain ⟨s, rfl⟩ : ∃ s, s = sI := ⟨_, rfl⟩
  obtain ⟨s', rfl⟩ : ∃ s', s' = sJ := ⟨_, rfl⟩
  go_enter Try.func29, Try.ntmps29
  go_wp2_with fail
  (with_reducible refine (HF.out _ _ ?hg).mono ?_)
  case hg => ((repeat (first | (with_reducible assumption) | ((with_reducible refine Bk.new_ ?_); (first | rfl | (simp only [World.size_alloc, World.size_setCell, World.size_drew, World.heap_drewN]; done))) | (with_reducible refine Bk.alloc ?_ _) | (with_reducible refine Bk.drew ?_) | (with_reducible refine Bk.drewN ?_ _) | ((with_reducible refine Bk.far ?_ ?_ _); rotate_left; focus (simp only []; omega)) | ((with_reducible refine Bk.below ?_ (by with_reducible assumption) ?_); rotate_left; focus (go_size; done)))); done)
  rintro _ w1 ⟨rfl, hb1⟩; have hb1s := hb1.size; (try simp only [World.size_alloc, World.size_setCell, World.size_drew, World.heap_drewN] at hb1s); obtain ⟨hb1c, hb1f⟩ := bcell hb1; (try have : w.heap.size < w1.heap.size := by omega); (try have : w.heap.size + 1 < w1.heap.size := by omega); (try have : w.heap.size + 1 + 1 < w1.heap.size := by omega); (try have : w.heap.size + 1 + 1 + 1 < w1.heap.size := by omega)
  have ka : Bk w1 (w.heap.size) 26 [.bool b, .int .u64 x1, .int .u64 x0, .int .i64 s] := by (repeat (first | (with_reducible assumption) | ((with_reducible refine Bk.new_ ?_); (first | rfl | (simp only [World.size_alloc, World.size_setCell, World.size_drew, World.heap_drewN]; done))) | (with_reducible refine Bk.alloc ?_ _) | (with_reducible refine Bk.drew ?_) | (with_reducible refine Bk.drewN ?_ _) | ((with_reducible refine Bk.far ?_ ?_ _); rotate_left; focus (simp only []; omega)) | ((with_reducible refine Bk.below ?_ (by with_reducible assumption) ?_); rotate_left; focus (go_size; done))))
  have ka_0 := ka.cell 0 rfl
  have ka_1 := ka.cell 1 rfl
  have ka_2 := ka.cell 2 rfl
  have ka_3 := ka.cell 3 rfl
  have ka_4 := ka.frozen 0
  have ka_5 := ka.frozen 1
  have ka_6 := ka.frozen 2
  have ka_7 := ka.frozen 3
  have kal := ka.lt
  have kb : Bk w1 (w.heap.size + 1) 26 [.bool b', .int .u64 y1, .int .u64 y0, .int .i64 s'] := by (repeat (first | (with_reducible assumption) | ((with_reducible refine Bk.new_ ?_); (first | rfl | (simp only [World.size_alloc, World.size_setCell, World.size_drew, World.heap_drewN]; done))) | (with_reducible refine Bk.alloc ?_ _) | (with_reducible refine Bk.drew ?_) | (with_reducible refine Bk.drewN ?_ _) | ((with_reducible refine Bk.far ?_ ?_ _); rotate_left; focus (simp only []; omega)) | ((with_reducible refine Bk.below ?_ (by with_reducible assumption) ?_); rotate_left; focus (go_size; done))))
  have kb_0 := kb.cell 0 rfl
  have kb_1 := kb.cell 1 rfl
  have kb_2 := kb.cell 2 rfl
  have kb_3 := kb.cell 3 rfl
  have kb_4 := kb.frozen 0
  have kb_5 := kb.frozen 1
  have kb_6 := kb.frozen 2
  have kb_7 := kb.frozen 3
  have kbl := kb.lt
  have kr : Bk w1 (w.heap.size + 1 + 1) 26 [.bool false, .int .u64 0, .int .u64 0, .int .i64 0] := by (repeat (first | (with_reducible assumption) | ((with_reducible refine Bk.new_ ?_); (first | rfl | (simp only [World.size_alloc, World.size_setCell, World.size_drew, World.heap_drewN]; done))) | (with_reducible refine Bk.alloc ?_ _) | (with_reducible refine Bk.drew ?_) | (with_reducible refine Bk.drewN ?_ _) | ((with_reducible refine Bk.far ?_ ?_ _); rotate_left; focus (simp only []; omega)) | ((with_reducible refine Bk.below ?_ (by with_reducible assumption) ?_); rotate_left; focus (go_size; done))))
  have kr_0 := kr.cell 0 rfl
  have kr_1 := kr.cell 1 rfl
  have kr_2 := kr.cell 2 rfl
  have kr_3 := kr.cell 3 rfl
  have kr_4 := kr.frozen 0
  have kr_5 := kr.frozen 1
  have kr_6 := kr.frozen 2
  have kr_7 := kr.frozen 3
  have krl := kr.lt
  clear hb1c hb1f
  go_wp2_with fail
  go_region_held3 (fun w' => (w'.cell? ⟨w.heap.size, 0, none⟩ = some (.bool b) ∧ w'.cell? ⟨w.heap.size, 1, none⟩ = some (.int .u64 x1) ∧ w'.cell? ⟨w.heap.size, 2, none⟩ = some (.int .u64 x0) ∧ w'.cell? ⟨w.heap.size, 3, none⟩ = some (.int .i64 s)) ∧ (w'.cell? ⟨(w.heap.size + 1), 0, none⟩ = some (.bool b') ∧ w'.cell? ⟨(w.heap.size + 1), 1, none⟩ = some (.int .u64 y1) ∧ w'.cell? ⟨(w.heap.size + 1), 2, none⟩ = some (.int .u64 y0) ∧ w'.cell? ⟨(w.heap.size + 1), 3, none⟩ = some (.int .i64 s'))) (first | (first | (go_keep; done) | (simp [go_sem]; done) | ((try dsimp only); (repeat' apply And.intro) <;> (first | (with_reducible assumption) | ((rw [World.cell?_alloc_lt _ _ _ (by show _ < _; omega)]); go_split_ands; (first | with_reducible assumption | (refine (World.cell?_alloc_lt _ _ _ (by show _ < _; omega)).symm.trans ?_; with_reducible assumption))) | ((rw [World.cell?_setCell_other _ _ _ _ (by intro e; injection e; omega)]); with_reducible assumption) | (go_keep; done) | (simp [go_sem]; done) | (simp (disch := go_size) [*, World.cell?_alloc_some, World.cell?_setCell_far]; done)))) | ((refine ⟨?_, ?_⟩) <;> (first | ((refine ⟨Bk.cell (t := 26) (cs := [.bool b, .int .u64 x1, .int .u64 x0, .int .i64 s]) ?_ 0 rfl, Bk.cell (t := 26) (cs := [.bool b, .int .u64 x1, .int .u64 x0, .int .i64 s]) ?_ 1 rfl, Bk.cell (t := 26) (cs := [.bool b, .int .u64 x1, .int .u64 x0, .int .i64 s]) ?_ 2 rfl, Bk.cell (t := 26) (cs := [.bool b, .int .u64 x1, .int .u64 x0, .int .i64 s]) ?_ 3 rfl⟩) <;> ((repeat (first | (with_reducible assumption) | ((with_reducible refine Bk.new_ ?_); (first | rfl | (simp only [World.size_alloc, World.size_setCell, World.size_drew, World.heap_drewN]; done))) | (with_reducible refine Bk.alloc ?_ _) | (with_reducible refine Bk.drew ?_) | (with_reducible refine Bk.drewN ?_ _) | ((with_reducible refine Bk.far ?_ ?_ _); rotate_left; focus (simp only []; omega)) | ((with_reducible refine Bk.below ?_ (by with_reducible assumption) ?_); rotate_left; focus (go_size; done)))); done)) | ((refine ⟨Bk.cell (t := 26) (cs := [.bool b', .int .u64 y1, .int .u64 y0, .int .i64 s']) ?_ 0 rfl, Bk.cell (t := 26) (cs := [.bool b', .int .u64 y1, .int .u64 y0, .int .i64 s']) ?_ 1 rfl, Bk.cell (t := 26) (cs := [.bool b', .int .u64 y1, .int .u64 y0, .int .i64 s']) ?_ 2 rfl, Bk.cell (t := 26) (cs := [.bool b', .int .u64 y1, .int .u64 y0, .int .i64 s']) ?_ 3 rfl⟩) <;> ((repeat (first | (with_reducible assumption) | ((with_reducible refine Bk.new_ ?_); (first | rfl | (simp only [World.size_alloc, World.size_setCell, World.size_drew, World.heap_drewN]; done))) | (with_reducible refine Bk.alloc ?_ _) | (with_reducible refine Bk.drew ?_) | (with_reducible refine Bk.drewN ?_ _) | ((with_reducible refine Bk.far ?_ ?_ _); rotate_left; focus (simp only []; omega)) | ((with_reducible refine Bk.below ?_ (by with_reducible assumption) ?_); rotate_left; focus (go_size; done)))); done))))) (first | (go_at_call 50; (with_reducible refine (HT.out _).mono ?_); rintro _ w4 ⟨rfl, hb4⟩; have hb4s := hb4.size; (try simp only [World.size_alloc, World.size_setCell, World.size_drew, World.heap_drewN] at hb4s); obtain ⟨hb4c, hb4f⟩ := bcell hb4; (try have : w.heap.size < w4.heap.size := by omega); (try have : w.heap.size + 1 < w4.heap.size := by omega); (try have : w.heap.size + 1 + 1 < w4.heap.size := by omega); (try have : w.heap.size + 1 + 1 + 1 < w4.heap.size := by omega); (try have : w1.heap.size < w4.heap.size := by omega); (try have : w1.heap.size + 1 < w4.heap.size := by omega); (try have : w1.heap.size + 1 + 1 < w4.heap.size := by omega); (try have : w1.heap.size + 1 + 1 + 1 < w4.heap.size := by omega)) | (go_at_call 15; (with_reducible refine (HA.out _).mono ?_); rintro _ w5 ⟨rfl, hb5⟩; have hb5s := hb5.size; (try simp only [World.size_alloc, World.size_setCell, World.size_drew, World.heap_drewN] at hb5s); obtain ⟨hb5c, hb5f⟩ := bcell hb5; (try have : w.heap.size < w5.heap.size := by omega); (try have : w.heap.size + 1 < w5.heap.size := by omega); (try have : w.heap.size + 1 + 1 < w5.heap.size := by omega); (try have : w.heap.size + 1 + 1 + 1 < w5.heap.size := by omega); have zr : Bk w5 (w.heap.size + 1 + 1) 26 [.bool false, .int .u64 0, .int .u64 0, .int .i64 0] := (by (repeat (first | (with_reducible assumption) | ((with_reducible refine Bk.new_ ?_); (first | rfl | (simp only [World.size_alloc, World.size_setCell, World.size_drew, World.heap_drewN]; done))) | (with_reducible refine Bk.alloc ?_ _) | (with_reducible refine Bk.drew ?_) | (with_reducible refine Bk.drewN ?_ _) | ((with_reducible refine Bk.far ?_ ?_ _); rotate_left; focus (simp only []; omega)) | ((with_reducible refine Bk.below ?_ (by with_reducible assumption) ?_); rotate_left; focus (go_size; done))))); have zr_0 := zr.cell 0 rfl; have zr_1 := zr.cell 1 rfl; have zr_2 := zr.cell 2 rfl; have zr_3 := zr.cell 3 rfl; have zr_4 := zr.frozen 0; have zr_5 := zr.frozen 1; have zr_6 := zr.frozen 2; have zr_7 := zr.frozen 3; have zrl := zr.lt; clear hb5c hb5f; (try have : w1.heap.size < w5.heap.size := by omega); (try have : w1.heap.size + 1 < w5.heap.size := by omega); (try have : w1.heap.size + 1 + 1 < w5.heap.size := by omega); (try have : w1.heap.size + 1 + 1 + 1 < w5.heap.size := by omega); (try have : w4.heap.size < w5.heap.size := by omega); (try have : w4.heap.size + 1 < w5.heap.size := by omega); (try have : w4.heap.size + 1 + 1 < w5.heap.size := by omega); (try have : w4.heap.size + 1 + 1 + 1 < w5.heap.size := by omega)))
  all_goals
    refine wp_named (fun W => Bk W (w.heap.size + 1 + 1) 26 [.bool (sg N C), .int .u64 (wd C 1), .int .u64 (wd C 0), .int .i64 (S : Int)] ∧ Below w.heap.size w W) ⟨?h1, ?h2⟩ ?_
    case h1 => (first | ((repeat (first | (with_reducible assumption) | ((with_reducible refine Bk.new_ ?_); (first | rfl | (simp only [World.size_alloc, World.size_setCell, World.size_drew, World.heap_drewN]; done))) | (with_reducible refine Bk.alloc ?_ _) | (with_reducible refine Bk.drew ?_) | (with_reducible refine Bk.drewN ?_ _) | ((with_reducible refine Bk.far ?_ ?_ _); rotate_left; focus (simp only []; omega)) | ((with_reducible refine Bk.below ?_ (by with_reducible assumption) ?_); rotate_left; focus (go_size; done)))); done) | ((repeat (first | (with_reducible refine Bk.alloc ?_ _) | (with_reducible refine Bk.drew ?_) | ((with_reducible refine Bk.far ?_ ?_ _); rotate_left; focus (simp only []; omega)))); (refine ((((?_ : Bk _ _ _ [.bool false, .int .u64 0, .int .u64 0, .int .i64 0]).set_ 0 _).set_ 1 _).set_ 2 _).set_ 3 _); (repeat (first | (with_reducible assumption) | ((with_reducible refine Bk.new_ ?_); (first | rfl | (simp only [World.size_alloc, World.size_setCell, World.size_drew, World.heap_drewN]; done))) | (with_reducible refine Bk.alloc ?_ _) | (with_reducible refine Bk.drew ?_) | (with_reducible refine Bk.drewN ?_ _) | ((with_reducible refine Bk.far ?_ ?_ _); rotate_left; focus (simp only []; omega)) | ((with_reducible refine Bk.below ?_ (by with_reducible assumption) ?_); rotate_left; focus (go_size; done))))); done)
    case h2 => ((repeat' (first | (with_reducible exact Below.refl _ _) | (with_reducible assumption) | (with_reducible refine Below.drew ?_) | (with_reducible refine below_drewN ?_ _) | ((with_reducible refine Below.alloc ?_ ?_ _); rotate_left; focus (go_size; done)) | ((with_reducible refine Below.setCell ?_ ?_ _); rotate_left; focus (go_size; done)) | ((with_reducible refine Below.trans ?_ (Below.mono (by with_reducible assumption) ?_)); rotate_left; focus (go_size; done)))); done)
    rintro W ⟨k1, mb⟩
    have k1_0 := k1.cell 0 rfl
    have k1_1 := k1.cell 1 rfl
    have k1_2 := k1.cell 2 rfl
    have k1_3 := k1.cell 3 rfl
    have k1_4 := k1.frozen 0
    have k1_5 := k1.frozen 1
    have k1_6 := k1.frozen 2
    have k1_7 := k1.frozen 3
    go_wp2_with fail
    refine bodyPost_ret (by simp [results, Try.results29, go_sem, *]; try rfl) rfl ?_
    exact ⟨rfl, by (repeat' (first | (with_reducible exact Below.refl _ _) | (with_reducible assumption) | (with_reducible refine Below.drew ?_) | (with_reducible refine below_drewN ?_ _) | ((with_reducible refine Below.alloc ?_ ?_ _); rotate_left; focus (go_size; done)) | ((with_reducible refine Below.setCell ?_ ?_ _); rotate_left; focus (go_size; done)) | ((with_reducible refine Below.trans ?_ (Below.mono (by with_reducible assumption) ?_)); rotate_left; focus (go_size; done))))⟩
set_option maxRecDepth 100000 in
set_option maxHeartbeats 8000000 in
theorem dcmp_ok (b : Bool) (c s : Nat) (b' : Bool) (c' s' : Nat) (h : dform b c s = true) (h' : dform b' c' s' = true) (hc : c < B34) (hc' : c' < B34) (hs : s ≤ 18) (hs' : s' ≤ 18) (w : World) :
    Calls Try.prog 12 #[.agg #[.bool b, .int .u64 (wd (c) 1), .int .u64 (wd (c) 0), .int .i64 s], .agg #[.bool b', .int .u64 (wd (c') 1), .int .u64 (wd (c') 0), .int .i64 s']] w fun e w' => e = .returned (.tuple #[.int .i64 (ordD b (unit c s) b' (unit c' s')), .int .i64 0]) ∧ Below w.heap.size w w' := by
  obtain ⟨m, hm⟩ : ∃ m, m = max s s' := ⟨_, rfl⟩
  rw [ord_units b b' c c' s s' m (by omega) (by omega) (by omega)]
  have HF := Lib.hid (fun g W hg => formed_two b c s (Nat.lt_trans hc B34_lt) b' c' s' (Nat.lt_trans hc' B34_lt) g W hg)
  rw [h, h'] at HF
  simp only [ferr, Bool.and_true, if_true] at HF
  have HB := Lib.hid (fun W => both_any b c s b' c' s' m hc hc' hs hs' hm W)
  have hX : c * 10 ^ (m - s) < 10 ^ 52 := scaled_lt hc (by omega)
  have hY : c' * 10 ^ (m - s') < 10 ^ 52 := scaled_lt hc' (by omega)
  generalize c * 10 ^ (m - s) = X at *
  generalize c' * 10 ^ (m - s') = Y at *
  have hX2 : X < 2 ^ 256 := Nat.lt_trans hX (by decide)
  have hY2 : Y < 2 ^ 256 := Nat.lt_trans hY (by decide)
  have HO := Lib.hid (fun W => order_any X Y hX2 hY2 W)
  have HP := Lib.hid (fun W => order_any Y X hY2 hX2 W)
  clear h h' hm hX hY hX2 hY2
  unfold ordD
  generalize cmpN X Y = c1 at *
  generalize cmpN Y X = c2 at *
  obtain ⟨sI, hsI⟩ : ∃ sI : Int, sI = (s : Int) := ⟨_, rfl⟩
  obtain ⟨sJ, hsJ⟩ : ∃ sJ : Int, sJ = (s' : Int) := ⟨_, rfl⟩
  rw [← hsI, ← hsJ] at HF HB
  rw [← hsI, ← hsJ]
  clear hsI hsJ hs hs'
  obtain ⟨s, rfl⟩ : ∃ s, s = sI := ⟨_, rfl⟩
  obtain ⟨s', rfl⟩ : ∃ s', s' = sJ := ⟨_, rfl⟩
  generalize wd X 0 = p0 at *
  generalize wd X 1 = p1 at *
  generalize wd X 2 = p2 at *
  generalize wd X 3 = p3 at *
  generalize wd Y 0 = q0 at *
  generalize wd Y 1 = q1 at *
  generalize wd Y 2 = q2 at *
  generalize wd Y 3 = q3 at *
  generalize wd c 0 = x0 at *
  generalize wd c 1 = x1 at *
  generalize wd c' 0 = y0 at *
  generalize wd c' 1 = y1 at *
  clear hc hc'
  cases b <;> cases b' <;> simp only [Bool.false_eq_true, if_true, if_false, reduceCtorEq]
  · obtain ⟨b, hb⟩ : ∃ b, b = false := ⟨_, rfl⟩
    go_enter Try.func12, Try.ntmps12
    go_wp2_with fail
    (with_reducible refine (HF.out _ _ ?hg).mono ?_)
    case hg => ((repeat (first | (with_reducible assumption) | ((with_reducible refine Bk.new_ ?_); (first | rfl | (simp only [World.size_alloc, World.size_setCell, World.size_drew, World.heap_drewN]; done))) | (with_reducible refine Bk.alloc ?_ _) | (with_reducible refine Bk.drew ?_) | (with_reducible refine Bk.drewN ?_ _) | ((with_reducible refine Bk.far ?_ ?_ _); rotate_left; focus (simp only []; omega)) | ((with_reducible refine Bk.below ?_ (by with_reducible assumption) ?_); rotate_left; focus (go_size; done)))); done)
    rintro _ w1 ⟨rfl, hb1⟩; have hb1s := hb1.size; (try simp only [World.size_alloc, World.size_setCell, World.size_drew, World.heap_drewN] at hb1s); obtain ⟨hb1c, hb1f⟩ := bcell hb1; (try have : w.heap.size < w1.heap.size := by omega); (try have : w.heap.size + 1 < w1.heap.size := by omega); (try have : w.heap.size + 1 + 1 < w1.heap.size := by omega); (try have : w.heap.size + 1 + 1 + 1 < w1.heap.size := by omega)
    have ka : Bk w1 (w.heap.size) 26 [.bool false, .int .u64 x1, .int .u64 x0, .int .i64 s] := by (repeat (first | (with_reducible assumption) | ((with_reducible refine Bk.new_ ?_); (first | rfl | (simp only [World.size_alloc, World.size_setCell, World.size_drew, World.heap_drewN]; done))) | (with_reducible refine Bk.alloc ?_ _) | (with_reducible refine Bk.drew ?_) | (with_reducible refine Bk.drewN ?_ _) | ((with_reducible refine Bk.far ?_ ?_ _); rotate_left; focus (simp only []; omega)) | ((with_reducible refine Bk.below ?_ (by with_reducible assumption) ?_); rotate_left; focus (go_size; done))))
    have ka_0 := ka.cell 0 rfl
    have ka_1 := ka.cell 1 rfl
    have ka_2 := ka.cell 2 rfl
    have ka_3 := ka.cell 3 rfl
    have ka_4 := ka.frozen 0
    have ka_5 := ka.frozen 1
    have ka_6 := ka.frozen 2
    have ka_7 := ka.frozen 3
    have kal := ka.lt
    have kb : Bk w1 (w.heap.size + 1) 26 [.bool false, .int .u64 y1, .int .u64 y0, .int .i64 s'] := by (repeat (first | (with_reducible assumption) | ((with_reducible refine Bk.new_ ?_); (first | rfl | (simp only [World.size_alloc, World.size_setCell, World.size_drew, World.heap_drewN]; done))) | (with_reducible refine Bk.alloc ?_ _) | (with_reducible refine Bk.drew ?_) | (with_reducible refine Bk.drewN ?_ _) | ((with_reducible refine Bk.far ?_ ?_ _); rotate_left; focus (simp only []; omega)) | ((with_reducible refine Bk.below ?_ (by with_reducible assumption) ?_); rotate_left; focus (go_size; done))))
    have kb_0 := kb.cell 0 rfl
    have kb_1 := kb.cell 1 rfl
    have kb_2 := kb.cell 2 rfl
    have kb_3 := kb.cell 3 rfl
    have kb_4 := kb.frozen 0
    have kb_5 := kb.frozen 1
    have kb_6 := kb.frozen 2
    have kb_7 := kb.frozen 3
    have kbl := kb.lt
    clear hb1c hb1f
    go_wp2_with fail
    refine (HB.out _).mono ?_
    rintro _ w2 ⟨rfl, hb2⟩; have hb2s := hb2.size; (try simp only [World.size_alloc, World.size_setCell, World.size_drew, World.heap_drewN] at hb2s); obtain ⟨hb2c, hb2f⟩ := bcell hb2; (try have : w.heap.size < w2.heap.size := by omega); (try have : w.heap.size + 1 < w2.heap.size := by omega); (try have : w.heap.size + 1 + 1 < w2.heap.size := by omega); (try have : w.heap.size + 1 + 1 + 1 < w2.heap.size := by omega)
    have ja : Bk w2 (w.heap.size) 26 [.bool false, .int .u64 x1, .int .u64 x0, .int .i64 s] := by (repeat (first | (with_reducible assumption) | ((with_reducible refine Bk.new_ ?_); (first | rfl | (simp only [World.size_alloc, World.size_setCell, World.size_drew, World.heap_drewN]; done))) | (with_reducible refine Bk.alloc ?_ _) | (with_reducible refine Bk.drew ?_) | (with_reducible refine Bk.drewN ?_ _) | ((with_reducible refine Bk.far ?_ ?_ _); rotate_left; focus (simp only []; omega)) | ((with_reducible refine Bk.below ?_ (by with_reducible assumption) ?_); rotate_left; focus (go_size; done))))
    have jb : Bk w2 (w.heap.size + 1) 26 [.bool false, .int .u64 y1, .int .u64 y0, .int .i64 s'] := by (repeat (first | (with_reducible assumption) | ((with_reducible refine Bk.new_ ?_); (first | rfl | (simp only [World.size_alloc, World.size_setCell, World.size_drew, World.heap_drewN]; done))) | (with_reducible refine Bk.alloc ?_ _) | (with_reducible refine Bk.drew ?_) | (with_reducible refine Bk.drewN ?_ _) | ((with_reducible refine Bk.far ?_ ?_ _); rotate_left; focus (simp only []; omega)) | ((with_reducible refine Bk.below ?_ (by with_reducible assumption) ?_); rotate_left; focus (go_size; done))))
    clear hb2c hb2f ka_0 ka_1 ka_2 ka_3 ka_4 ka_5 ka_6 ka_7 kb_0 kb_1 kb_2 kb_3 kb_4 kb_5 kb_6 kb_7 ka kb
    have ja_0 := ja.cell 0 rfl
    have ja_1 := ja.cell 1 rfl
    have ja_2 := ja.cell 2 rfl
    have ja_3 := ja.cell 3 rfl
    have ja_4 := ja.frozen 0
    have ja_5 := ja.frozen 1
    have ja_6 := ja.frozen 2
    have ja_7 := ja.frozen 3
    have jb_0 := jb.cell 0 rfl
    have jb_1 := jb.cell 1 rfl
    have jb_2 := jb.cell 2 rfl
    have jb_3 := jb.cell 3 rfl
    have jb_4 := jb.frozen 0
    have jb_5 := jb.frozen 1
    have jb_6 := jb.frozen 2
    have jb_7 := jb.frozen 3
    have jal := ja.lt
    have jbl := jb.lt
    clear ja jb
    go_wp2_with fail
    refine (HO.out _).mono ?_
    rintro _ w3 ⟨rfl, hb3⟩; have hb3s := hb3.size; (try simp only [World.size_alloc, World.size_setCell, World.size_drew, World.heap_drewN] at hb3s); obtain ⟨hb3c, hb3f⟩ := bcell hb3; (try have : w.heap.size < w3.heap.size := by omega); (try have : w.heap.size + 1 < w3.heap.size := by omega); (try have : w.heap.size + 1 + 1 < w3.heap.size := by omega); (try have : w.heap.size + 1 + 1 + 1 < w3.heap.size := by omega)
    go_wp2_with fail
    go_ret2
    exact ⟨rfl, by (repeat' (first | (with_reducible exact Below.refl _ _) | (with_reducible assumption) | (with_reducible refine Below.drew ?_) | (with_reducible refine below_drewN ?_ _) | ((with_reducible refine Below.alloc ?_ ?_ _); rotate_left; focus (go_size; done)) | ((with_reducible refine Below.setCell ?_ ?_ _); rotate_left; focus (go_size; done)) | ((with_reducible refine Below.trans ?_ (Below.mono (by with_reducible assumption) ?_)); rotate_left; focus (go_size; done))))⟩
  ·
    go_enter Try.func12, Try.ntmps12
    go_wp2_with fail
    (with_reducible refine (HF.out _ _ ?hg).mono ?_)
    case hg => ((repeat (first | (with_reducible assumption) | ((with_reducible refine Bk.new_ ?_); (first | rfl | (simp only [World.size_alloc, World.size_setCell, World.size_drew, World.heap_drewN]; done))) | (with_reducible refine Bk.alloc ?_ _) | (with_reducible refine Bk.drew ?_) | (with_reducible refine Bk.drewN ?_ _) | ((with_reducible refine Bk.far ?_ ?_ _); rotate_left; focus (simp only []; omega)) | ((with_reducible refine Bk.below ?_ (by with_reducible assumption) ?_); rotate_left; focus (go_size; done)))); done)
    rintro _ w1 ⟨rfl, hb1⟩; have hb1s := hb1.size; (try simp only [World.size_alloc, World.size_setCell, World.size_drew, World.heap_drewN] at hb1s); obtain ⟨hb1c, hb1f⟩ := bcell hb1; (try have : w.heap.size < w1.heap.size := by omega); (try have : w.heap.size + 1 < w1.heap.size := by omega); (try have : w.heap.size + 1 + 1 < w1.heap.size := by omega); (try have : w.heap.size + 1 + 1 + 1 < w1.heap.size := by omega)
    have ka : Bk w1 (w.heap.size) 26 [.bool false, .int .u64 x1, .int .u64 x0, .int .i64 s] := by (repeat (first | (with_reducible assumption) | ((with_reducible refine Bk.new_ ?_); (first | rfl | (simp only [World.size_alloc, World.size_setCell, World.size_drew, World.heap_drewN]; done))) | (with_reducible refine Bk.alloc ?_ _) | (with_reducible refine Bk.drew ?_) | (with_reducible refine Bk.drewN ?_ _) | ((with_reducible refine Bk.far ?_ ?_ _); rotate_left; focus (simp only []; omega)) | ((with_reducible refine Bk.below ?_ (by with_reducible assumption) ?_); rotate_left; focus (go_size; done))))
    have ka_0 := ka.cell 0 rfl
    have ka_1 := ka.cell 1 rfl
    have ka_2 := ka.cell 2 rfl
    have ka_3 := ka.cell 3 rfl
    have ka_4 := ka.frozen 0
    have ka_5 := ka.frozen 1
    have ka_6 := ka.frozen 2
    have ka_7 := ka.frozen 3
    have kal := ka.lt
    have kb : Bk w1 (w.heap.size + 1) 26 [.bool true, .int .u64 y1, .int .u64 y0, .int .i64 s'] := by (repeat (first | (with_reducible assumption) | ((with_reducible refine Bk.new_ ?_); (first | rfl | (simp only [World.size_alloc, World.size_setCell, World.size_drew, World.heap_drewN]; done))) | (with_reducible refine Bk.alloc ?_ _) | (with_reducible refine Bk.drew ?_) | (with_reducible refine Bk.drewN ?_ _) | ((with_reducible refine Bk.far ?_ ?_ _); rotate_left; focus (simp only []; omega)) | ((with_reducible refine Bk.below ?_ (by with_reducible assumption) ?_); rotate_left; focus (go_size; done))))
    have kb_0 := kb.cell 0 rfl
    have kb_1 := kb.cell 1 rfl
    have kb_2 := kb.cell 2 rfl
    have kb_3 := kb.cell 3 rfl
    have kb_4 := kb.frozen 0
    have kb_5 := kb.frozen 1
    have kb_6 := kb.frozen 2
    have kb_7 := kb.frozen 3
    have kbl := kb.lt
    clear hb1c hb1f ka kb
    go_wp2_with fail
    go_ret2
    exact ⟨rfl, by (repeat' (first | (with_reducible exact Below.refl _ _) | (with_reducible assumption) | (with_reducible refine Below.drew ?_) | (with_reducible refine below_drewN ?_ _) | ((with_reducible refine Below.alloc ?_ ?_ _); rotate_left; focus (go_size; done)) | ((with_reducible refine Below.setCell ?_ ?_ _); rotate_left; focus (go_size; done)) | ((with_reducible refine Below.trans ?_ (Below.mono (by with_reducible assumption) ?_)); rotate_left; focus (go_size; done))))⟩
  ·
    go_enter Try.func12, Try.ntmps12
    go_wp2_with fail
    (with_reducible refine (HF.out _ _ ?hg).mono ?_)
    case hg => ((repeat (first | (with_reducible assumption) | ((with_reducible refine Bk.new_ ?_); (first | rfl | (simp only [World.size_alloc, World.size_setCell, World.size_drew, World.heap_drewN]; done))) | (with_reducible refine Bk.alloc ?_ _) | (with_reducible refine Bk.drew ?_) | (with_reducible refine Bk.drewN ?_ _) | ((with_reducible refine Bk.far ?_ ?_ _); rotate_left; focus (simp only []; omega)) | ((with_reducible refine Bk.below ?_ (by with_reducible assumption) ?_); rotate_left; focus (go_size; done)))); done)
    rintro _ w1 ⟨rfl, hb1⟩; have hb1s := hb1.size; (try simp only [World.size_alloc, World.size_setCell, World.size_drew, World.heap_drewN] at hb1s); obtain ⟨hb1c, hb1f⟩ := bcell hb1; (try have : w.heap.size < w1.heap.size := by omega); (try have : w.heap.size + 1 < w1.heap.size := by omega); (try have : w.heap.size + 1 + 1 < w1.heap.size := by omega); (try have : w.heap.size + 1 + 1 + 1 < w1.heap.size := by omega)
    have ka : Bk w1 (w.heap.size) 26 [.bool true, .int .u64 x1, .int .u64 x0, .int .i64 s] := by (repeat (first | (with_reducible assumption) | ((with_reducible refine Bk.new_ ?_); (first | rfl | (simp only [World.size_alloc, World.size_setCell, World.size_drew, World.heap_drewN]; done))) | (with_reducible refine Bk.alloc ?_ _) | (with_reducible refine Bk.drew ?_) | (with_reducible refine Bk.drewN ?_ _) | ((with_reducible refine Bk.far ?_ ?_ _); rotate_left; focus (simp only []; omega)) | ((with_reducible refine Bk.below ?_ (by with_reducible assumption) ?_); rotate_left; focus (go_size; done))))
    have ka_0 := ka.cell 0 rfl
    have ka_1 := ka.cell 1 rfl
    have ka_2 := ka.cell 2 rfl
    have ka_3 := ka.cell 3 rfl
    have ka_4 := ka.frozen 0
    have ka_5 := ka.frozen 1
    have ka_6 := ka.frozen 2
    have ka_7 := ka.frozen 3
    have kal := ka.lt
    have kb : Bk w1 (w.heap.size + 1) 26 [.bool false, .int .u64 y1, .int .u64 y0, .int .i64 s'] := by (repeat (first | (with_reducible assumption) | ((with_reducible refine Bk.new_ ?_); (first | rfl | (simp only [World.size_alloc, World.size_setCell, World.size_drew, World.heap_drewN]; done))) | (with_reducible refine Bk.alloc ?_ _) | (with_reducible refine Bk.drew ?_) | (with_reducible refine Bk.drewN ?_ _) | ((with_reducible refine Bk.far ?_ ?_ _); rotate_left; focus (simp only []; omega)) | ((with_reducible refine Bk.below ?_ (by with_reducible assumption) ?_); rotate_left; focus (go_size; done))))
    have kb_0 := kb.cell 0 rfl
    have kb_1 := kb.cell 1 rfl
    have kb_2 := kb.cell 2 rfl
    have kb_3 := kb.cell 3 rfl
    have kb_4 := kb.frozen 0
    have kb_5 := kb.frozen 1
    have kb_6 := kb.frozen 2
    have kb_7 := kb.frozen 3
    have kbl := kb.lt
    clear hb1c hb1f ka kb
    go_wp2_with fail
    go_ret2
    exact ⟨rfl, by (repeat' (first | (with_reducible exact Below.refl _ _) | (with_reducible assumption) | (with_reducible refine Below.drew ?_) | (with_reducible refine below_drewN ?_ _) | ((with_reducible refine Below.alloc ?_ ?_ _); rotate_left; focus (go_size; done)) | ((with_reducible refine Below.setCell ?_ ?_ _); rotate_left; focus (go_size; done)) | ((with_reducible refine Below.trans ?_ (Below.mono (by with_reducible assumption) ?_)); rotate_left; focus (go_size; done))))⟩
  · obtain ⟨b, hb⟩ : ∃ b, b = true := ⟨_, rfl⟩
    go_enter Try.func12, Try.ntmps12
    go_wp2_with fail
    (with_reducible refine (HF.out _ _ ?hg).mono ?_)
    case hg => ((repeat (first | (with_reducible assumption) | ((with_reducible refine Bk.new_ ?_); (first | rfl | (simp only [World.size_alloc, World.size_setCell, World.size_drew, World.heap_drewN]; done))) | (with_reducible refine Bk.alloc ?_ _) | (with_reducible refine Bk.drew ?_) | (with_reducible refine Bk.drewN ?_ _) | ((with_reducible refine Bk.far ?_ ?_ _); rotate_left; focus (simp only []; omega)) | ((with_reducible refine Bk.below ?_ (by with_reducible assumption) ?_); rotate_left; focus (go_size; done)))); done)
    rintro _ w1 ⟨rfl, hb1⟩; have hb1s := hb1.size; (try simp only [World.size_alloc, World.size_setCell, World.size_drew, World.heap_drewN] at hb1s); obtain ⟨hb1c, hb1f⟩ := bcell hb1; (try have : w.heap.size < w1.heap.size := by omega); (try have : w.heap.size + 1 < w1.heap.size := by omega); (try have : w.heap.size + 1 + 1 < w1.heap.size := by omega); (try have : w.heap.size + 1 + 1 + 1 < w1.heap.size := by omega)
    have ka : Bk w1 (w.heap.size) 26 [.bool true, .int .u64 x1, .int .u64 x0, .int .i64 s] := by (repeat (first | (with_reducible assumption) | ((with_reducible refine Bk.new_ ?_); (first | rfl | (simp only [World.size_alloc, World.size_setCell, World.size_drew, World.heap_drewN]; done))) | (with_reducible refine Bk.alloc ?_ _) | (with_reducible refine Bk.drew ?_) | (with_reducible refine Bk.drewN ?_ _) | ((with_reducible refine Bk.far ?_ ?_ _); rotate_left; focus (simp only []; omega)) | ((with_reducible refine Bk.below ?_ (by with_reducible assumption) ?_); rotate_left; focus (go_size; done))))
    have ka_0 := ka.cell 0 rfl
    have ka_1 := ka.cell 1 rfl
    have ka_2 := ka.cell 2 rfl
    have ka_3 := ka.cell 3 rfl
    have ka_4 := ka.frozen 0
    have ka_5 := ka.frozen 1
    have ka_6 := ka.frozen 2
    have ka_7 := ka.frozen 3
    have kal := ka.lt
    have kb : Bk w1 (w.heap.size + 1) 26 [.bool true, .int .u64 y1, .int .u64 y0, .int .i64 s'] := by (repeat (first | (with_reducible assumption) | ((with_reducible refine Bk.new_ ?_); (first | rfl | (simp only [World.size_alloc, World.size_setCell, World.size_drew, World.heap_drewN]; done))) | (with_reducible refine Bk.alloc ?_ _) | (with_reducible refine Bk.drew ?_) | (with_reducible refine Bk.drewN ?_ _) | ((with_reducible refine Bk.far ?_ ?_ _); rotate_left; focus (simp only []; omega)) | ((with_reducible refine Bk.below ?_ (by with_reducible assumption) ?_); rotate_left; focus (go_size; done))))
    have kb_0 := kb.cell 0 rfl
    have kb_1 := kb.cell 1 rfl
    have kb_2 := kb.cell 2 rfl
    have kb_3 := kb.cell 3 rfl
    have kb_4 := kb.frozen 0
    have kb_5 := kb.frozen 1
    have kb_6 := kb.frozen 2
    have kb_7 := kb.frozen 3
    have kbl := kb.lt
    clear hb1c hb1f
    go_wp2_with fail
    refine (HB.out _).mono ?_
    rintro _ w2 ⟨rfl, hb2⟩; have hb2s := hb2.size; (try simp only [World.size_alloc, World.size_setCell, World.size_drew, World.heap_drewN] at hb2s); obtain ⟨hb2c, hb2f⟩ := bcell hb2; (try have : w.heap.size < w2.heap.size := by omega); (try have : w.heap.size + 1 < w2.heap.size := by omega); (try have : w.heap.size + 1 + 1 < w2.heap.size := by omega); (try have : w.heap.size + 1 + 1 + 1 < w2.heap.size := by omega)
    have ja : Bk w2 (w.heap.size) 26 [.bool true, .int .u64 x1, .int .u64 x0, .int .i64 s] := by (repeat (first | (with_reducible assumption) | ((with_reducible refine Bk.new_ ?_); (first | rfl | (simp only [World.size_alloc, World.size_setCell, World.size_drew, World.heap_drewN]; done))) | (with_reducible refine Bk.alloc ?_ _) | (with_reducible refine Bk.drew ?_) | (with_reducible refine Bk.drewN ?_ _) | ((with_reducible refine Bk.far ?_ ?_ _); rotate_left; focus (simp only []; omega)) | ((with_reducible refine Bk.below ?_ (by with_reducible assumption) ?_); rotate_left; focus (go_size; done))))
    have jb : Bk w2 (w.heap.size + 1) 26 [.bool true, .int .u64 y1, .int .u64 y0, .int .i64 s'] := by (repeat (first | (with_reducible assumption) | ((with_reducible refine Bk.new_ ?_); (first | rfl | (simp only [World.size_alloc, World.size_setCell, World.size_drew, World.heap_drewN]; done))) | (with_reducible refine Bk.alloc ?_ _) | (with_reducible refine Bk.drew ?_) | (with_reducible refine Bk.drewN ?_ _) | ((with_reducible refine Bk.far ?_ ?_ _); rotate_left; focus (simp only []; omega)) | ((with_reducible refine Bk.below ?_ (by with_reducible assumption) ?_); rotate_left; focus (go_size; done))))
    clear hb2c hb2f ka_0 ka_1 ka_2 ka_3 ka_4 ka_5 ka_6 ka_7 kb_0 kb_1 kb_2 kb_3 kb_4 kb_5 kb_6 kb_7 ka kb
    have ja_0 := ja.cell 0 rfl
    have ja_1 := ja.cell 1 rfl
    have ja_2 := ja.cell 2 rfl
    have ja_3 := ja.cell 3 rfl
    have ja_4 := ja.frozen 0
    have ja_5 := ja.frozen 1
    have ja_6 := ja.frozen 2
    have ja_7 := ja.frozen 3
    have jb_0 := jb.cell 0 rfl
    have jb_1 := jb.cell 1 rfl
    have jb_2 := jb.cell 2 rfl
    have jb_3 := jb.cell 3 rfl
    have jb_4 := jb.frozen 0
    have jb_5 := jb.frozen 1
    have jb_6 := jb.frozen 2
    have jb_7 := jb.frozen 3
    have jal := ja.lt
    have jbl := jb.lt
    clear ja jb
    go_wp2_with fail
    refine (HP.out _).mono ?_
    rintro _ w3 ⟨rfl, hb3⟩; have hb3s := hb3.size; (try simp only [World.size_alloc, World.size_setCell, World.size_drew, World.heap_drewN] at hb3s); obtain ⟨hb3c, hb3f⟩ := bcell hb3; (try have : w.heap.size < w3.heap.size := by omega); (try have : w.heap.size + 1 < w3.heap.size := by omega); (try have : w.heap.size + 1 + 1 < w3.heap.size := by omega); (try have : w.heap.size + 1 + 1 + 1 < w3.heap.size := by omega)
    go_wp2_with fail
    go_ret2
    exact ⟨rfl, by (repeat' (first | (with_reducible exact Below.refl _ _) | (with_reducible assumption) | (with_reducible refine Below.drew ?_) | (with_reducible refine below_drewN ?_ _) | ((with_reducible refine Below.alloc ?_ ?_ _); rotate_left; focus (go_size; done)) | ((with_reducible refine Below.setCell ?_ ?_ _); rotate_left; focus (go_size; done)) | ((with_reducible refine Below.trans ?_ (Below.mono (by with_reducible assumption) ?_)); rotate_left; focus (go_size; done))))⟩
end Go.Proofs.Ythkgjodidkpaeaa

set_option linter.unusedSimpArgs false
set_option linter.unusedVariables false
namespace Go.Proofs.Ythkgjodidkpaeaa
open Go.RowKit

set_option maxHeartbeats 2000000 in
theorem forms_any (b : Bool) (c : Nat) (s : Int) (b' : Bool) (c' : Nat) (s' : Int) (hc : c < 2 ^ 128) (hc' : c' < 2 ^ 128) (w : World) :
    Calls Try.prog 63 #[.agg #[.bool b, .int .u64 (wd (c) 1), .int .u64 (wd (c) 0), .int .i64 s], .agg #[.bool b', .int .u64 (wd (c') 1), .int .u64 (wd (c') 0), .int .i64 s']] w fun e w' => e = .returned (.bool (dform b c s && dform b' c' s')) ∧ Below w.heap.size w w' := by
  have HF := Lib.hid (fun W => rform_any b c s hc W)
  have HG := Lib.hid (fun W => rform_any b' c' s' hc' W)
  generalize dform b c s = f at *
  generalize dform b' c' s' = f' at *
  generalize wd c 0 = x0 at *
  generalize wd c 1 = x1 at *
  generalize wd c' 0 = y0 at *
  generalize wd c' 1 = y1 at *
  clear hc hc'
  cases f
  · go_enter Try.func63, Try.ntmps63
    go_wp2_with fail
    refine (HF.out _).mono ?_
    rintro _ w1 ⟨rfl, hb1⟩; have hb1s := hb1.size; (try simp only [World.size_alloc, World.size_setCell, World.size_drew, World.heap_drewN] at hb1s); obtain ⟨hb1c, hb1f⟩ := bcell hb1; (try have : w.heap.size < w1.heap.size := by omega); (try have : w.heap.size + 1 < w1.heap.size := by omega); (try have : w.heap.size + 1 + 1 < w1.heap.size := by omega); (try have : w.heap.size + 1 + 1 + 1 < w1.heap.size := by omega)
    go_wp2_with fail
    go_ret
    exact ⟨rfl, by (repeat' (first | (with_reducible exact Below.refl _ _) | (with_reducible assumption) | (with_reducible refine Below.drew ?_) | (with_reducible refine below_drewN ?_ _) | ((with_reducible refine Below.alloc ?_ ?_ _); rotate_left; focus (go_size; done)) | ((with_reducible refine Below.setCell ?_ ?_ _); rotate_left; focus (go_size; done)) | ((with_reducible refine Below.trans ?_ (Below.mono (by with_reducible assumption) ?_)); rotate_left; focus (go_size; done))))⟩
  · go_enter Try.func63, Try.ntmps63
    go_wp2_with fail
    refine (HF.out _).mono ?_
    rintro _ w1 ⟨rfl, hb1⟩; have hb1s := hb1.size; (try simp only [World.size_alloc, World.size_setCell, World.size_drew, World.heap_drewN] at hb1s); obtain ⟨hb1c, hb1f⟩ := bcell hb1; (try have : w.heap.size < w1.heap.size := by omega); (try have : w.heap.size + 1 < w1.heap.size := by omega); (try have : w.heap.size + 1 + 1 < w1.heap.size := by omega); (try have : w.heap.size + 1 + 1 + 1 < w1.heap.size := by omega)
    have kb : Bk w1 (w.heap.size + 1) 26 [.bool b', .int .u64 y1, .int .u64 y0, .int .i64 s'] := by (repeat (first | (with_reducible assumption) | ((with_reducible refine Bk.new_ ?_); (first | rfl | (simp only [World.size_alloc, World.size_setCell, World.size_drew, World.heap_drewN]; done))) | (with_reducible refine Bk.alloc ?_ _) | (with_reducible refine Bk.drew ?_) | (with_reducible refine Bk.drewN ?_ _) | ((with_reducible refine Bk.far ?_ ?_ _); rotate_left; focus (simp only []; omega)) | ((with_reducible refine Bk.below ?_ (by with_reducible assumption) ?_); rotate_left; focus (go_size; done))))
    have kb_0 := kb.cell 0 rfl
    have kb_1 := kb.cell 1 rfl
    have kb_2 := kb.cell 2 rfl
    have kb_3 := kb.cell 3 rfl
    have kb_4 := kb.frozen 0
    have kb_5 := kb.frozen 1
    have kb_6 := kb.frozen 2
    have kb_7 := kb.frozen 3
    have kbl := kb.lt
    clear hb1c hb1f kb
    go_wp2_with fail
    refine (HG.out _).mono ?_
    rintro _ w2 ⟨rfl, hb2⟩; have hb2s := hb2.size; (try simp only [World.size_alloc, World.size_setCell, World.size_drew, World.heap_drewN] at hb2s); obtain ⟨hb2c, hb2f⟩ := bcell hb2; (try have : w.heap.size < w2.heap.size := by omega); (try have : w.heap.size + 1 < w2.heap.size := by omega); (try have : w.heap.size + 1 + 1 < w2.heap.size := by omega); (try have : w.heap.size + 1 + 1 + 1 < w2.heap.size := by omega)
    go_wp2_with fail
    go_ret
    exact ⟨rfl, by (repeat' (first | (with_reducible exact Below.refl _ _) | (with_reducible assumption) | (with_reducible refine Below.drew ?_) | (with_reducible refine below_drewN ?_ _) | ((with_reducible refine Below.alloc ?_ ?_ _); rotate_left; focus (go_size; done)) | ((with_reducible refine Below.setCell ?_ ?_ _); rotate_left; focus (go_size; done)) | ((with_reducible refine Below.trans ?_ (Below.mono (by with_reducible assumption) ?_)); rotate_left; focus (go_size; done))))⟩
theorem unit_tiny {c s : Nat} (h : c < B34) : Tiny (unit c s) := (Slim.of_lt (unit_lt h) (by decide)).tiny
theorem sab_slim {b b' : Bool} {x y : Nat} (hx : x < 10 ^ 52) (hy : y < 10 ^ 52) : Slim (sab b x b' y) :=
  Slim.of_lt (k := 53) (Nat.lt_of_le_of_lt (sab_le b b' x y) (Nat.lt_of_lt_of_le (Nat.add_lt_add hx hy) (by decide))) (by decide)
theorem ten_slim {k : Nat} (h : k < 900) : Slim (10 ^ k) := fun _ => ten_lt k 900 h
set_option maxHeartbeats 2000000 in
theorem order2_any (b : Bool) (c s : Nat) (b' : Bool) (c' s' : Nat) (hc : c < B34) (hc' : c' < B34) (hs : s ≤ 18) (hs' : s' ≤ 18) (h1 : c = 0 → b = false) (h2 : c' = 0 → b' = false) (w : World) :
    Calls Try.prog 64 #[.agg #[.bool b, .int .u64 (wd (c) 1), .int .u64 (wd (c) 0), .int .i64 s], .agg #[.bool b', .int .u64 (wd (c') 1), .int .u64 (wd (c') 0), .int .i64 s']] w fun e w' => e = .returned (.int .i64 (ordD b (unit c s) b' (unit c' s'))) ∧ Below w.heap.size w w' := by
  have hz1 : unit c s = 0 → b = false := fun h => h1 (by
    rcases Nat.mul_eq_zero.1 h with h | h
    · exact h
    · exact absurd h (Nat.ne_of_gt (Nat.pow_pos (by decide))))
  have hz2 : unit c' s' = 0 → b' = false := fun h => h2 (by
    rcases Nat.mul_eq_zero.1 h with h | h
    · exact h
    · exact absurd h (Nat.ne_of_gt (Nat.pow_pos (by decide))))
  rw [ord_sum b b' _ _ hz1 hz2]
  have HU := Lib.hid (fun W => units_any b c s (Nat.lt_trans hc B34_lt) hs W)
  have HV := Lib.hid (fun W => units_any b' c' s' (Nat.lt_trans hc' B34_lt) hs' W)
  have HS := Lib.hid (fun W u v hu hv => rsum_any b (unit c s) (!b') (unit c' s') u v W hu hv (unit_tiny hc) (unit_tiny hc'))
  unfold RetSum at HS
  unfold RetUnits at HU HV
  generalize sab b (unit c s) (!b') (unit c' s') = U at *
  generalize sgn b (unit c s) (!b') (unit c' s') = N at *
  generalize unit c s = X at *
  generalize unit c' s' = Y at *
  generalize wd c 0 = x0 at *
  generalize wd c 1 = x1 at *
  generalize wd c' 0 = y0 at *
  generalize wd c' 1 = y1 at *
  obtain ⟨r, hr⟩ : ∃ r : Int, r = if U = 0 then 0 else if N = true then -1 else 1 := ⟨_, rfl⟩
  rw [← hr]
  have HR := Lib.hid hr
  clear hc hc' h1 h2 hz1 hz2 hs hs' hr
  go_enter Try.func64, Try.ntmps64
  go_wp2_with fail
  refine (HU.out _).mono ?_
  rintro _ w1 ⟨v1, rfl, d1, hb1⟩
  have hb1s := hb1.size
  have Hd1 := Lib.hid d1
  have kb : Bk w1 (w.heap.size + 1) 26 [.bool b', .int .u64 y1, .int .u64 y0, .int .i64 (s' : Int)] := by (repeat (first | (with_reducible assumption) | ((with_reducible refine Bk.new_ ?_); (first | rfl | (simp only [World.size_alloc, World.size_setCell, World.size_drew, World.heap_drewN]; done))) | (with_reducible refine Bk.alloc ?_ _) | (with_reducible refine Bk.drew ?_) | (with_reducible refine Bk.drewN ?_ _) | ((with_reducible refine Bk.far ?_ ?_ _); rotate_left; focus (simp only []; omega)) | ((with_reducible refine Bk.below ?_ (by with_reducible assumption) ?_); rotate_left; focus (go_size; done))))
  have kb_0 := kb.cell 0 rfl
  have kb_1 := kb.cell 1 rfl
  have kb_2 := kb.cell 2 rfl
  have kb_3 := kb.cell 3 rfl
  have kb_4 := kb.frozen 0
  have kb_5 := kb.frozen 1
  have kb_6 := kb.frozen 2
  have kb_7 := kb.frozen 3
  have kbl := kb.lt
  clear d1 kb
  go_wp2_with fail
  refine (HV.out _).mono ?_
  rintro _ w2 ⟨v2, rfl, d2, hb2⟩
  have hb2s := hb2.size
  have Hd2 := Lib.hid d2
  clear d2
  go_wp2_with fail
  refine (HS.out _ _ _ (Hd1.out.below hb2) Hd2.out).mono ?_
  rintro _ w3 ⟨v3, rfl, d3, hb3⟩
  have hb3s := hb3.size
  obtain ⟨A, k, c, rfl, hk, hkc⟩ := dg_len d3
  clear d3
  by_cases h0 : U = 0
  · have e := HR.out
    rw [if_pos h0] at e
    obtain rfl : k = 0 := hk.2 h0
    have E := Lib.hid e
    clear h0 hk e
    go_wp2_with fail
    go_ret
    exact ⟨ret_int E.out.symm, by (repeat' (first | (with_reducible exact Below.refl _ _) | (with_reducible assumption) | (with_reducible refine Below.drew ?_) | (with_reducible refine below_drewN ?_ _) | ((with_reducible refine Below.alloc ?_ ?_ _); rotate_left; focus (go_size; done)) | ((with_reducible refine Below.setCell ?_ ?_ _); rotate_left; focus (go_size; done)) | ((with_reducible refine Below.trans ?_ (Below.mono (by with_reducible assumption) ?_)); rotate_left; focus (go_size; done))))⟩
  · have e := HR.out
    rw [if_neg h0] at e
    have hk1 : ((k : Int) == 0) = false := by rw [beq_eq_false_iff_ne]; have := mt hk.1 h0; omega
    have E := Lib.hid e
    clear h0 hk e HR
    cases N
    · go_wp2_with fail
      go_ret
      exact ⟨ret_int E.out.symm, by (repeat' (first | (with_reducible exact Below.refl _ _) | (with_reducible assumption) | (with_reducible refine Below.drew ?_) | (with_reducible refine below_drewN ?_ _) | ((with_reducible refine Below.alloc ?_ ?_ _); rotate_left; focus (go_size; done)) | ((with_reducible refine Below.setCell ?_ ?_ _); rotate_left; focus (go_size; done)) | ((with_reducible refine Below.trans ?_ (Below.mono (by with_reducible assumption) ?_)); rotate_left; focus (go_size; done))))⟩
    · go_wp2_with fail
      go_ret
      exact ⟨ret_int E.out.symm, by (repeat' (first | (with_reducible exact Below.refl _ _) | (with_reducible assumption) | (with_reducible refine Below.drew ?_) | (with_reducible refine below_drewN ?_ _) | ((with_reducible refine Below.alloc ?_ ?_ _); rotate_left; focus (go_size; done)) | ((with_reducible refine Below.setCell ?_ ?_ _); rotate_left; focus (go_size; done)) | ((with_reducible refine Below.trans ?_ (Below.mono (by with_reducible assumption) ?_)); rotate_left; focus (go_size; done))))⟩
end Go.Proofs.Ythkgjodidkpaeaa

set_option linter.unusedSimpArgs false
set_option linter.unusedVariables false
namespace Go.Proofs.Ythkgjodidkpaeaa
open Go.RowKit

theorem or_two (x b : Int) (hx0 : 0 ≤ x) (hx : x < 18446744073709551616) (hb0 : 0 ≤ b) (hb : b ≤ 1) : bits .or .u64 (IntKind.u64.wrap (x * 2)) b = (2 * x + b) % 18446744073709551616 := by
  obtain ⟨x, rfl⟩ := Int.eq_ofNat_of_zero_le hx0
  obtain ⟨b, rfl⟩ := Int.eq_ofNat_of_zero_le hb0
  have e : IntKind.u64.wrap ((x : Int) * 2) = ((x % 9223372036854775808 * 2 : Nat) : Int) := by rw [IntKind.wrap_u64]; omega
  have h := or_gen 1 (x % 9223372036854775808) b (by omega)
  rw [Nat.pow_one] at h
  rw [e, or_sum _ _ (by omega) (by omega) h]
  omega
theorem dv_hi (R b : Nat) (hR : R < 2 ^ 128) (hb : b < 2) : bits .or .u64 (IntKind.u64.wrap (wd R 1 * 2)) (wd R 0 / 9223372036854775808) = wd ((2 * R + b) % 2 ^ 128) 1 := by
  have h := wd_two hR
  have a0 := wd_nn R 0
  have a1 := wd_lt R 0
  have b0 := wd_nn R 1
  have b1 := wd_lt R 1
  rw [or_two _ _ b0 b1 (by omega) (by omega), wd1 ((2 * R + b) % 2 ^ 128)]
  generalize wd R 0 = x0 at *
  generalize wd R 1 = x1 at *
  omega
theorem dv_lo (R b : Nat) (hR : R < 2 ^ 128) (hb : b < 2) : bits .or .u64 (IntKind.u64.wrap (wd R 0 * 2)) (b : Int) = wd ((2 * R + b) % 2 ^ 128) 0 := by
  have h := wd_two hR
  have a0 := wd_nn R 0
  have a1 := wd_lt R 0
  have b0 := wd_nn R 1
  have b1 := wd_lt R 1
  rw [or_two _ _ a0 a1 (by omega) (by omega), wd0 ((2 * R + b) % 2 ^ 128)]
  generalize wd R 0 = x0 at *
  generalize wd R 1 = x1 at *
  omega
theorem dv_over (R b : Nat) (hR : R < 2 ^ 128) (hb : b < 2) : (wd R 1 / 9223372036854775808 == 1) = decide (2 ^ 128 ≤ 2 * R + b) := by
  have h := wd_two hR
  have a0 := wd_nn R 0
  have a1 := wd_lt R 0
  have b0 := wd_nn R 1
  have b1 := wd_lt R 1
  rw [Bool.eq_iff_iff]
  simp only [beq_iff_eq, decide_eq_true_eq]
  generalize wd R 0 = x0 at *
  generalize wd R 1 = x1 at *
  omega
theorem dv_bit (n j : Nat) : bits .and .u64 (wd n (j / 64) / 2 ^ (j % 64)) 1 = ((n / 2 ^ j % 2 : Nat) : Int) := by
  unfold wd
  have hx : n / 2 ^ (64 * (j / 64)) % 2 ^ 64 < 18446744073709551616 := Nat.mod_lt _ (by decide)
  have hm : j % 64 < 64 := Nat.mod_lt _ (by decide)
  have e2 : n / 2 ^ (64 * (j / 64)) % 2 ^ 64 / 2 ^ (j % 64) % 2 = n / 2 ^ j % 2 := by
    have e1 : 2 ^ 64 = 2 ^ (j % 64) * 2 ^ (64 - j % 64) := by rw [← Nat.pow_add]; congr 1; omega
    have e3 : 2 ^ j = 2 ^ (64 * (j / 64)) * 2 ^ (j % 64) := by rw [← Nat.pow_add]; congr 1; omega
    rw [e1, Nat.mod_mul_right_div_self, Nat.div_div_eq_div_mul, ← e3]
    have hd : 2 ^ 1 ∣ 2 ^ (64 - j % 64) := Nat.pow_dvd_pow 2 (by omega)
    exact Nat.mod_mod_of_dvd _ hd
  rw [← e2]
  generalize n / 2 ^ (64 * (j / 64)) % 2 ^ 64 = x at *
  have e : ((x : Nat) : Int) / 2 ^ (j % 64) = ((x / 2 ^ (j % 64) : Nat) : Int) := by
    rw [Int.natCast_ediv, Int.natCast_pow]; rfl
  have hy : x / 2 ^ (j % 64) ≤ x := Nat.div_le_self _ _
  rw [e]
  generalize x / 2 ^ (j % 64) = y at *
  have h := bits_and_u64_nat y 1 (by omega) (by decide)
  rw [Nat.and_one_is_mod] at h
  have e1 : ((1 : Nat) : Int) = 1 := rfl
  rw [e1] at h
  rw [h]
theorem dv_next (N j : Nat) : N / 2 ^ j = 2 * (N / 2 ^ (j + 1)) + N / 2 ^ j % 2 := by
  rw [Nat.pow_succ, ← Nat.div_div_eq_div_mul]; omega
theorem dv_in (P D b : Nat) (hD : 0 < D) (h : D ≤ 2 * (P % D) + b) (hb : b < 2) : (2 * P + b) / D = 2 * (P / D) + 1 ∧ (2 * P + b) % D = 2 * (P % D) + b - D := by
  have hl := Nat.mod_lt P hD
  have e : 2 * P + b = (2 * (P % D) + b - D) + D * (2 * (P / D) + 1) := by
    have h1 := Nat.div_add_mod P D
    rw [Nat.mul_add, Nat.mul_left_comm]
    omega
  have hr : 2 * (P % D) + b - D < D := by omega
  rw [e, Nat.add_mul_div_left _ _ hD, Nat.div_eq_of_lt hr, Nat.zero_add, Nat.add_mul_mod_self_left, Nat.mod_eq_of_lt hr]
  exact ⟨rfl, rfl⟩
theorem dv_out (P D b : Nat) (hD : 0 < D) (h : 2 * (P % D) + b < D) : (2 * P + b) / D = 2 * (P / D) ∧ (2 * P + b) % D = 2 * (P % D) + b := by
  have e : 2 * P + b = (2 * (P % D) + b) + D * (2 * (P / D)) := by
    have h1 := Nat.div_add_mod P D
    rw [Nat.mul_left_comm]
    omega
  rw [e, Nat.add_mul_div_left _ _ hD, Nat.div_eq_of_lt h, Nat.zero_add, Nat.add_mul_mod_self_left, Nat.mod_eq_of_lt h]
  exact ⟨rfl, rfl⟩
/-- a bit that is not there is set: the word -/
theorem dv_set (Y j : Nat) : bits .or .u64 (wd (Y * 2 ^ (j + 1)) (j / 64)) (IntKind.u64.wrap (2 ^ (j % 64))) = wd (Y * 2 ^ (j + 1)) (j / 64) + 2 ^ (j % 64) ∧ wd (Y * 2 ^ (j + 1)) (j / 64) + 2 ^ (j % 64) < 18446744073709551616 := by
  have hm : j % 64 < 64 := Nat.mod_lt _ (by decide)
  have e0 : 2 ^ (j + 1) = 2 ^ (64 * (j / 64)) * 2 ^ (j % 64 + 1) := by rw [← Nat.pow_add]; congr 1; omega
  have e1 : Y * 2 ^ (j + 1) / 2 ^ (64 * (j / 64)) = Y * 2 ^ (j % 64 + 1) := by
    rw [e0, Nat.mul_left_comm, Nat.mul_div_cancel_left _ (Nat.two_pow_pos _)]
  have e2 : Y * 2 ^ (j % 64 + 1) % 2 ^ 64 = Y % 2 ^ (63 - j % 64) * 2 ^ (j % 64 + 1) := by
    have e3 : (2 : Nat) ^ 64 = 2 ^ (63 - j % 64) * 2 ^ (j % 64 + 1) := by rw [← Nat.pow_add]; congr 1; omega
    rw [e3, Nat.mul_mod_mul_right]
  unfold wd
  rw [e1, e2]
  have hlt : Y % 2 ^ (63 - j % 64) < 2 ^ (63 - j % 64) := Nat.mod_lt _ (Nat.two_pow_pos _)
  have e4 : (2 : Nat) ^ 64 = 2 ^ (63 - j % 64) * 2 ^ (j % 64 + 1) := by rw [← Nat.pow_add]; congr 1; omega
  generalize Y % 2 ^ (63 - j % 64) = a at *
  have h1 : (a + 1) * 2 ^ (j % 64 + 1) ≤ 2 ^ 64 := by rw [e4]; exact Nat.mul_le_mul_right _ hlt
  rw [Nat.add_mul, Nat.one_mul] at h1
  have h2 : (2 : Nat) ^ (j % 64 + 1) = 2 * 2 ^ (j % 64) := by rw [Nat.pow_succ]; omega
  have h3 : (0 : Nat) < 2 ^ (j % 64) := Nat.two_pow_pos _
  have e5 : (2 : Int) ^ (j % 64) = ((2 ^ (j % 64) : Nat) : Int) := by rw [Int.natCast_pow]; rfl
  have hor := or_gen (j % 64 + 1) a (2 ^ (j % 64)) (by omega)
  rw [e5]
  generalize a * 2 ^ (j % 64 + 1) = A at *
  generalize 2 ^ (j % 64) = B at *
  have e6 : IntKind.u64.wrap (B : Int) = (B : Int) := by rw [IntKind.wrap_u64]; omega
  rw [e6, or_sum A B (by omega) (by omega) hor]
  exact ⟨rfl, by omega⟩
theorem dv_cells (Y j : Nat) (hj : j < 256) (h : Y * 2 ^ (j + 1) < 2 ^ 256) :
    (lcells (Y * 2 ^ (j + 1))).set (j / 64) (.int .u64 (bits .or .u64 (wd (Y * 2 ^ (j + 1)) (j / 64)) (IntKind.u64.wrap (2 ^ (j % 64))))) = lcells ((2 * Y + 1) * 2 ^ j) := by
  obtain ⟨e, hlt⟩ := dv_set Y j
  rw [e]
  have h0 := wd_nn (Y * 2 ^ (j + 1)) (j / 64)
  have hp : (0 : Int) < 2 ^ (j % 64) := Int.pow_pos (by decide)
  obtain ⟨V', v1, v2, v3, v4, v5⟩ := lcells_set (Y * 2 ^ (j + 1)) (j / 64) (by omega) h (wd (Y * 2 ^ (j + 1)) (j / 64) + 2 ^ (j % 64)) (by omega) hlt
  rw [v3]
  congr 1
  have e1 : wd (Y * 2 ^ (j + 1)) (j / 64) + 2 ^ (j % 64) - wd (Y * 2 ^ (j + 1)) (j / 64) = ((2 ^ (j % 64) : Nat) : Int) := by
    rw [Int.natCast_pow]; show _ = (2 : Int) ^ (j % 64); omega
  rw [e1, ← Int.natCast_mul, ← Int.natCast_add, ← Nat.pow_add] at v2
  rw [show j % 64 + 64 * (j / 64) = j by omega] at v2
  have e2 : V' = Y * 2 ^ (j + 1) + 2 ^ j := by exact_mod_cast v2
  rw [e2, Nat.pow_succ, Nat.add_mul, Nat.one_mul, Nat.mul_comm (2 ^ j) 2, ← Nat.mul_assoc, Nat.mul_comm Y 2]
theorem dv_zero (Y j : Nat) : Y * 2 ^ (j + 1) = (2 * Y) * 2 ^ j := by
  rw [Nat.pow_succ, Nat.mul_comm (2 ^ j) 2, ← Nat.mul_assoc, Nat.mul_comm Y 2]
theorem dv_q256 {N : Nat} (hN : N < 2 ^ 256) (D j : Nat) : N / 2 ^ (j + 1) / D * 2 ^ (j + 1) < 2 ^ 256 := by
  have h1 : N / 2 ^ (j + 1) / D ≤ N / 2 ^ (j + 1) := Nat.div_le_self _ _
  have h2 : N / 2 ^ (j + 1) / D * 2 ^ (j + 1) ≤ N / 2 ^ (j + 1) * 2 ^ (j + 1) := Nat.mul_le_mul_right _ h1
  exact Nat.lt_of_le_of_lt (Nat.le_trans h2 (Nat.div_mul_le_self _ _)) hN
theorem dv_yes {N D j R b T : Nat} (hD : 0 < D) (eR : R = N / 2 ^ (j + 1) % D) (eb : b = N / 2 ^ j % 2) (eT : T = 2 * R + b) (hb : b < 2) (h : D ≤ T) :
    N / 2 ^ j / D = 2 * (N / 2 ^ (j + 1) / D) + 1 ∧ N / 2 ^ j % D = T - D := by
  have e := dv_next N j
  rw [← eb] at e
  have h2 := dv_in (N / 2 ^ (j + 1)) D b hD (by rw [← eR, ← eT]; exact h) hb
  rw [← eR, ← eT, ← e] at h2
  exact h2
theorem dv_no {N D j R b T : Nat} (hD : 0 < D) (eR : R = N / 2 ^ (j + 1) % D) (eb : b = N / 2 ^ j % 2) (eT : T = 2 * R + b) (h : T < D) :
    N / 2 ^ j / D = 2 * (N / 2 ^ (j + 1) / D) ∧ N / 2 ^ j % D = T := by
  have e := dv_next N j
  rw [← eb] at e
  have h2 := dv_out (N / 2 ^ (j + 1)) D b hD (by rw [← eR, ← eT]; exact h)
  rw [← eR, ← eT, ← e] at h2
  exact h2
end Go.Proofs.Ythkgjodidkpaeaa

set_option linter.unusedSimpArgs false
set_option linter.unusedVariables false
namespace Go.Proofs.Ythkgjodidkpaeaa
open Go.RowKit

theorem dv_less {D T T' R b : Nat} (hD : D < 2 ^ 128) (e1 : T' = T % 2 ^ 128) (hR : R < D) (e2 : T = 2 * R + b) (hb : b < 2) (h : D ≤ T) : lessW T' D = T - D := by
  unfold lessW
  split <;> omega
set_option maxHeartbeats 1000000 in
theorem div_zero (N : Nat) (w : World) : Calls Try.prog 78 #[.agg #[.int .u64 (wd N 0), .int .u64 (wd N 1), .int .u64 (wd N 2), .int .u64 (wd N 3)], .agg #[.int .u64 0, .int .u64 0]] w fun e w' => e = .returned (.tuple #[.agg #[.int .u64 0, .int .u64 0, .int .u64 0, .int .u64 0], .agg #[.int .u64 0, .int .u64 0], .int .i64 4]) ∧ Below w.heap.size w w' := by
  generalize wd N 0 = x0 at *
  generalize wd N 1 = x1 at *
  generalize wd N 2 = x2 at *
  generalize wd N 3 = x3 at *
  go_enter Try.func78, Try.ntmps78
  go_wp2_with fail
  refine bodyPost_ret (by simp [results, Try.results78, go_sem, *]; try rfl) rfl ?_
  exact ⟨rfl, by (repeat' (first | (with_reducible exact Below.refl _ _) | (with_reducible assumption) | (with_reducible refine Below.drew ?_) | (with_reducible refine below_drewN ?_ _) | ((with_reducible refine Below.alloc ?_ ?_ _); rotate_left; focus (go_size; done)) | ((with_reducible refine Below.setCell ?_ ?_ _); rotate_left; focus (go_size; done)) | ((with_reducible refine Below.trans ?_ (Below.mono (by with_reducible assumption) ?_)); rotate_left; focus (go_size; done))))⟩
set_option maxHeartbeats 4000000 in
theorem div_any (N D : Nat) (hN : N < 2 ^ 256) (hD : D < 2 ^ 128) (h0 : D ≠ 0) (w : World) :
    Calls Try.prog 78 #[.agg #[.int .u64 (wd N 0), .int .u64 (wd N 1), .int .u64 (wd N 2), .int .u64 (wd N 3)], .agg #[.int .u64 (wd D 1), .int .u64 (wd D 0)]] w fun e w' => e = .returned (.tuple #[.agg #[.int .u64 (wd (N / D) 0), .int .u64 (wd (N / D) 1), .int .u64 (wd (N / D) 2), .int .u64 (wd (N / D) 3)], .agg #[.int .u64 (wd (N % D) 1), .int .u64 (wd (N % D) 0)], .int .i64 0]) ∧ Below w.heap.size w w' := by
  have g0 : ((wd D 1 == 0) && (wd D 0 == 0)) = false := by
    have e := wd_eq_iff hD (show 0 < 2 ^ 128 by decide)
    rw [wd_zero, wd_zero] at e
    rw [e]; simpa using h0
  have HN := Far.mk hN
  have HD := Far.mk hD
  have H0 : Hid (0 < D) := Lib.hid (by omega)
  clear hN hD h0
  obtain ⟨d1, hd1⟩ : ∃ x, x = wd D 1 := ⟨_, rfl⟩
  obtain ⟨d0, hd0⟩ : ∃ x, x = wd D 0 := ⟨_, rfl⟩
  rw [← hd1, ← hd0] at g0 ⊢
  have q0 := fun W => eq_wide d1 d0 0 0 W
  rw [g0] at q0
  clear g0
  have E1 := Lib.hid hd1
  have E0 := Lib.hid hd0
  clear hd1 hd0
  go_enter Try.func78, Try.ntmps78
  go_wp2_with fail
  go_loopg [9] 256 (fun k i wr => k ≤ 256 ∧ i = .int .i64 ((k : Int) - 1) ∧ Bk wr (w.heap.size + 1 + 1 + 1 + 1) 45 (lcells (N / 2 ^ k / D * 2 ^ k)) ∧
    Bk wr (w.heap.size + 1 + 1 + 1 + 1 + 1) 24 [.int .u64 (wd (N / 2 ^ k % D) 1), .int .u64 (wd (N / 2 ^ k % D) 0)] ∧ Bk wr w.heap.size 45 (lcells N) ∧ Bk wr (w.heap.size + 1) 24 [.int .u64 d1, .int .u64 d0] ∧
    Bk wr (w.heap.size + 1 + 1) 45 [.int .u64 0, .int .u64 0, .int .u64 0, .int .u64 0] ∧ Bk wr (w.heap.size + 1 + 1 + 1) 24 [.int .u64 0, .int .u64 0] ∧ w.heap.size + 6 ≤ wr.heap.size ∧ Below w.heap.size w wr)
  case atStart =>
    refine ⟨Nat.le_refl _, rfl, ?_, ?_, by rw [lcells_eq]; (repeat (first | (with_reducible assumption) | ((with_reducible refine Bk.new_ ?_); (first | rfl | (simp only [World.size_alloc, World.size_setCell, World.size_drew, World.heap_drewN]; done))) | (with_reducible refine Bk.alloc ?_ _) | (with_reducible refine Bk.drew ?_) | (with_reducible refine Bk.drewN ?_ _) | ((with_reducible refine Bk.far ?_ ?_ _); rotate_left; focus (simp only []; omega)) | ((with_reducible refine Bk.below ?_ (by with_reducible assumption) ?_); rotate_left; focus (go_size; done)))), by (repeat (first | (with_reducible assumption) | ((with_reducible refine Bk.new_ ?_); (first | rfl | (simp only [World.size_alloc, World.size_setCell, World.size_drew, World.heap_drewN]; done))) | (with_reducible refine Bk.alloc ?_ _) | (with_reducible refine Bk.drew ?_) | (with_reducible refine Bk.drewN ?_ _) | ((with_reducible refine Bk.far ?_ ?_ _); rotate_left; focus (simp only []; omega)) | ((with_reducible refine Bk.below ?_ (by with_reducible assumption) ?_); rotate_left; focus (go_size; done)))), by (repeat (first | (with_reducible assumption) | ((with_reducible refine Bk.new_ ?_); (first | rfl | (simp only [World.size_alloc, World.size_setCell, World.size_drew, World.heap_drewN]; done))) | (with_reducible refine Bk.alloc ?_ _) | (with_reducible refine Bk.drew ?_) | (with_reducible refine Bk.drewN ?_ _) | ((with_reducible refine Bk.far ?_ ?_ _); rotate_left; focus (simp only []; omega)) | ((with_reducible refine Bk.below ?_ (by with_reducible assumption) ?_); rotate_left; focus (go_size; done)))), by (repeat (first | (with_reducible assumption) | ((with_reducible refine Bk.new_ ?_); (first | rfl | (simp only [World.size_alloc, World.size_setCell, World.size_drew, World.heap_drewN]; done))) | (with_reducible refine Bk.alloc ?_ _) | (with_reducible refine Bk.drew ?_) | (with_reducible refine Bk.drewN ?_ _) | ((with_reducible refine Bk.far ?_ ?_ _); rotate_left; focus (simp only []; omega)) | ((with_reducible refine Bk.below ?_ (by with_reducible assumption) ?_); rotate_left; focus (go_size; done)))), by go_size, by (repeat' (first | (with_reducible exact Below.refl _ _) | (with_reducible assumption) | (with_reducible refine Below.drew ?_) | (with_reducible refine below_drewN ?_ _) | ((with_reducible refine Below.alloc ?_ ?_ _); rotate_left; focus (go_size; done)) | ((with_reducible refine Below.setCell ?_ ?_ _); rotate_left; focus (go_size; done)) | ((with_reducible refine Below.trans ?_ (Below.mono (by with_reducible assumption) ?_)); rotate_left; focus (go_size; done))))⟩
    · rw [Nat.div_eq_of_lt HN.out, Nat.zero_div, Nat.zero_mul]
      show Bk _ _ _ [.int .u64 0, .int .u64 0, .int .u64 0, .int .u64 0]
      (repeat (first | (with_reducible assumption) | ((with_reducible refine Bk.new_ ?_); (first | rfl | (simp only [World.size_alloc, World.size_setCell, World.size_drew, World.heap_drewN]; done))) | (with_reducible refine Bk.alloc ?_ _) | (with_reducible refine Bk.drew ?_) | (with_reducible refine Bk.drewN ?_ _) | ((with_reducible refine Bk.far ?_ ?_ _); rotate_left; focus (simp only []; omega)) | ((with_reducible refine Bk.below ?_ (by with_reducible assumption) ?_); rotate_left; focus (go_size; done))))
    · rw [Nat.div_eq_of_lt HN.out, Nat.zero_mod]
      show Bk _ _ _ [.int .u64 0, .int .u64 0]
      (repeat (first | (with_reducible assumption) | ((with_reducible refine Bk.new_ ?_); (first | rfl | (simp only [World.size_alloc, World.size_setCell, World.size_drew, World.heap_drewN]; done))) | (with_reducible refine Bk.alloc ?_ _) | (with_reducible refine Bk.drew ?_) | (with_reducible refine Bk.drewN ?_ _) | ((with_reducible refine Bk.far ?_ ?_ _); rotate_left; focus (simp only []; omega)) | ((with_reducible refine Bk.below ?_ (by with_reducible assumption) ?_); rotate_left; focus (go_size; done))))
  case round =>
    obtain ⟨hk, rfl, b4, b5, b0, b1, b2, b3, hsz, hbel⟩ := hrel
    have B4 := Lib.hid b4
    have B5 := Lib.hid b5
    have B0 := Lib.hid b0
    have B1 := Lib.hid b1
    have B2 := Lib.hid b2
    have B3 := Lib.hid b3
    clear b4 b5 b0 b1 b2 b3
    (try have : w.heap.size < wr.heap.size := by omega); (try have : w.heap.size + 1 < wr.heap.size := by omega); (try have : w.heap.size + 1 + 1 < wr.heap.size := by omega); (try have : w.heap.size + 1 + 1 + 1 < wr.heap.size := by omega)
    have s4 : w.heap.size + 1 + 1 + 1 + 1 < wr.heap.size := by omega
    have s5 : w.heap.size + 1 + 1 + 1 + 1 + 1 < wr.heap.size := by omega
    by_cases hk0 : gk = 0
    · subst hk0
      have hm : ¬ (0 : Int) ≤ ((0 : Nat) : Int) - 1 := by omega
      rw [Nat.pow_zero, Nat.div_one, Nat.mul_one] at B4
      rw [Nat.pow_zero, Nat.div_one] at B5
      have b4 := B4.out
      rw [lcells_eq] at b4
      have q0 := b4.cell 0 rfl
      have q1 := b4.cell 1 rfl
      have q2 := b4.cell 2 rfl
      have q3 := b4.cell 3 rfl
      have r0 := B5.out.cell 0 rfl
      have r1 := B5.out.cell 1 rfl
      have p0 := B2.out.frozen 0
      have p1 := B2.out.frozen 1
      have p2 := B2.out.frozen 2
      have p3 := B2.out.frozen 3
      have o0 := B3.out.frozen 0
      have o1 := B3.out.frozen 1
      have u0 := B2.out.cell 0 rfl
      have u1 := B2.out.cell 1 rfl
      have u2 := B2.out.cell 2 rfl
      have u3 := B2.out.cell 3 rfl
      have v0 := B3.out.cell 0 rfl
      have v1 := B3.out.cell 1 rfl
      clear b4
      go_wp2_with fail
      go_region
      go_wp2_with fail
      refine bodyPost_ret (by simp [results, Try.results78, go_sem, *]; try rfl) rfl ?_
      exact ⟨rfl, by (repeat' (first | (with_reducible exact Below.refl _ _) | (with_reducible assumption) | (with_reducible refine Below.drew ?_) | (with_reducible refine below_drewN ?_ _) | ((with_reducible refine Below.alloc ?_ ?_ _); rotate_left; focus (go_size; done)) | ((with_reducible refine Below.setCell ?_ ?_ _); rotate_left; focus (go_size; done)) | ((with_reducible refine Below.trans ?_ (Below.mono (by with_reducible assumption) ?_)); rotate_left; focus (go_size; done))))⟩
    · obtain ⟨j, rfl⟩ : ∃ j, gk = j + 1 := ⟨gk - 1, by omega⟩
      have hp : (0 : Int) < ((j + 1 : Nat) : Int) := by omega
      have hx : ((j + 1 : Nat) : Int) - 1 = (j : Int) := by omega
      have j0 : (0 : Int) ≤ (j : Int) := by omega
      have hj : j < 256 := by omega
      obtain ⟨R, hR⟩ : ∃ R, R = N / 2 ^ (j + 1) % D := ⟨_, rfl⟩
      have hRD : R < D := by rw [hR]; exact Nat.mod_lt _ H0.out
      have hRw : R < 2 ^ 128 := Nat.lt_trans hRD HD.out
      obtain ⟨b, hb⟩ : ∃ b, b = N / 2 ^ j % 2 := ⟨_, rfl⟩
      have hb2' : b < 2 := by omega
      have L1 := Lib.hid (dv_hi R b hRw hb2')
      have L0 := Lib.hid (dv_lo R b hRw hb2')
      have LV := Lib.hid (dv_over R b hRw hb2')
      have LB := Lib.hid (dv_bit N j)
      rw [← hb] at LB
      rw [← hR] at B5
      obtain ⟨T, hT⟩ : ∃ T, T = 2 * R + b := ⟨_, rfl⟩
      obtain ⟨T', hT'⟩ : ∃ T', T' = T % 2 ^ 128 := ⟨_, rfl⟩
      rw [← hT, ← hT'] at L1 L0
      rw [← hT] at LV
      have ER := Far.mk hR
      have EB := Far.mk hb
      have ET := Far.mk hT
      have ET' := Far.mk hT'
      have ERD := Far.mk hRD
      have c5 := B5.out.cell 0 rfl
      have c5' := B5.out.cell 1 rfl
      have f5 := B5.out.frozen 0
      have f5' := B5.out.frozen 1
      have c0 : wr.cell? ⟨w.heap.size, j / 64, none⟩ = some (.int .u64 (wd N (j / 64))) := B0.out.cell _ (lcells_at N _ (by omega))
      clear hk0 hR hRD hRw hb hT hT' 
      obtain ⟨x1, hx1⟩ : ∃ x, x = wd R 1 := ⟨_, rfl⟩
      obtain ⟨x0, hx0⟩ : ∃ x, x = wd R 0 := ⟨_, rfl⟩
      rw [← hx1] at c5 L1 LV
      rw [← hx0] at c5' L1 L0
      clear hx1 hx0
      go_wp2_with fail
      go_region
      rw [LB.out, L1.out, L0.out]
      obtain ⟨y1, hy1⟩ : ∃ x, x = wd T' 1 := ⟨_, rfl⟩
      obtain ⟨y0, hy0⟩ : ∃ x, x = wd T' 0 := ⟨_, rfl⟩
      rw [← hy1, ← hy0]
      have m5 : Bk (((wr.setCell ⟨w.heap.size + 1 + 1 + 1 + 1 + 1, 0, none⟩ (.int .u64 y1)).setCell ⟨w.heap.size + 1 + 1 + 1 + 1 + 1, 1, none⟩ (.int .u64 y0)).drew) (w.heap.size + 1 + 1 + 1 + 1 + 1) 24 [.int .u64 y1, .int .u64 y0] := ((B5.out.set_ 0 _).set_ 1 _).drew
      have m4 : Bk (((wr.setCell ⟨w.heap.size + 1 + 1 + 1 + 1 + 1, 0, none⟩ (.int .u64 y1)).setCell ⟨w.heap.size + 1 + 1 + 1 + 1 + 1, 1, none⟩ (.int .u64 y0)).drew) (w.heap.size + 1 + 1 + 1 + 1) 45 (lcells (N / 2 ^ (j + 1) / D * 2 ^ (j + 1))) := ((B4.out.far (by simp only []; omega) _).far (by simp only []; omega) _).drew
      have m0 : Bk (((wr.setCell ⟨w.heap.size + 1 + 1 + 1 + 1 + 1, 0, none⟩ (.int .u64 y1)).setCell ⟨w.heap.size + 1 + 1 + 1 + 1 + 1, 1, none⟩ (.int .u64 y0)).drew) w.heap.size 45 (lcells N) := ((B0.out.far (by simp only []; omega) _).far (by simp only []; omega) _).drew
      have m1 : Bk (((wr.setCell ⟨w.heap.size + 1 + 1 + 1 + 1 + 1, 0, none⟩ (.int .u64 y1)).setCell ⟨w.heap.size + 1 + 1 + 1 + 1 + 1, 1, none⟩ (.int .u64 y0)).drew) (w.heap.size + 1) 24 [.int .u64 d1, .int .u64 d0] := ((B1.out.far (by simp only []; omega) _).far (by simp only []; omega) _).drew
      have m2 : Bk (((wr.setCell ⟨w.heap.size + 1 + 1 + 1 + 1 + 1, 0, none⟩ (.int .u64 y1)).setCell ⟨w.heap.size + 1 + 1 + 1 + 1 + 1, 1, none⟩ (.int .u64 y0)).drew) (w.heap.size + 1 + 1) 45 [.int .u64 0, .int .u64 0, .int .u64 0, .int .u64 0] := ((B2.out.far (by simp only []; omega) _).far (by simp only []; omega) _).drew
      have m3 : Bk (((wr.setCell ⟨w.heap.size + 1 + 1 + 1 + 1 + 1, 0, none⟩ (.int .u64 y1)).setCell ⟨w.heap.size + 1 + 1 + 1 + 1 + 1, 1, none⟩ (.int .u64 y0)).drew) (w.heap.size + 1 + 1 + 1) 24 [.int .u64 0, .int .u64 0] := ((B3.out.far (by simp only []; omega) _).far (by simp only []; omega) _).drew
      have ms : w.heap.size + 6 ≤ (((wr.setCell ⟨w.heap.size + 1 + 1 + 1 + 1 + 1, 0, none⟩ (.int .u64 y1)).setCell ⟨w.heap.size + 1 + 1 + 1 + 1 + 1, 1, none⟩ (.int .u64 y0)).drew).heap.size := by go_size
      have mb : Below w.heap.size w (((wr.setCell ⟨w.heap.size + 1 + 1 + 1 + 1 + 1, 0, none⟩ (.int .u64 y1)).setCell ⟨w.heap.size + 1 + 1 + 1 + 1 + 1, 1, none⟩ (.int .u64 y0)).drew) := by (repeat' (first | (with_reducible exact Below.refl _ _) | (with_reducible assumption) | (with_reducible refine Below.drew ?_) | (with_reducible refine below_drewN ?_ _) | ((with_reducible refine Below.alloc ?_ ?_ _); rotate_left; focus (go_size; done)) | ((with_reducible refine Below.setCell ?_ ?_ _); rotate_left; focus (go_size; done)) | ((with_reducible refine Below.trans ?_ (Below.mono (by with_reducible assumption) ?_)); rotate_left; focus (go_size; done))))
      generalize hw9 : (((wr.setCell ⟨w.heap.size + 1 + 1 + 1 + 1 + 1, 0, none⟩ (.int .u64 y1)).setCell ⟨w.heap.size + 1 + 1 + 1 + 1 + 1, 1, none⟩ (.int .u64 y0)).drew) = w9 at *
      clear hw9
      have M5 := Lib.hid m5
      have M4 := Lib.hid m4
      have M0 := Lib.hid m0
      have M2 := Lib.hid m2
      have M3 := Lib.hid m3
      have M1 := Lib.hid m1
      have cr0 := m5.cell 0 rfl
      have cr1 := m5.cell 1 rfl
      have fr0 := m5.frozen 0
      have fr1 := m5.frozen 1
      have cd0 := m1.cell 0 rfl
      have cd1 := m1.cell 1 rfl
      clear m5 m4 m0 m2 m3 m1 c5 c5' f5 f5' c0
      have hT1 : T' < 2 ^ 128 := by rw [ET'.out]; exact Nat.mod_lt _ (by decide)
      have GT1 := Far.mk hT1
      have EY1 := Lib.hid hy1
      have EY0 := Lib.hid hy0
      clear hT1 hy1 hy0
      obtain ⟨ov, hov⟩ : ∃ ov, ov = x1 / 9223372036854775808 := ⟨_, rfl⟩
      rw [← hov] at LV ⊢
      clear hov
      have HL := Lib.hid (fun W => less_any T' D GT1.out HD.out W)
      rw [← EY1.out, ← EY0.out, ← E1.out, ← E0.out] at HL
      have HC := Lib.hid (fun W => cmp_any T' D GT1.out HD.out W)
      rw [← EY1.out, ← EY0.out, ← E1.out, ← E0.out] at HC
      by_cases hv : (ov == 1) = true
      · go_wp2_with fail
        have hTD : D ≤ T := by
          have h1 := LV.out
          rw [hv] at h1
          have h2 : 2 ^ 128 ≤ T := of_decide_eq_true h1.symm
          exact Nat.le_trans (Nat.le_of_lt HD.out) h2
        have HTD := Far.mk hTD
        clear hTD
        refine (HL.out _).mono ?_
        rintro _ w2 ⟨rfl, hb2⟩
        have hb2s := hb2.size
        have n5 := M5.out.below hb2 (by omega)
        have n4 := M4.out.below hb2 (by omega)
        have n3 := M3.out.below hb2 (by omega)
        have n2 := M2.out.below hb2 (by omega)
        have n1 := M1.out.below hb2 (by omega)
        have n0 := M0.out.below hb2 (by omega)
        have N5 := Lib.hid n5
        have N4 := Lib.hid n4
        have N3 := Lib.hid n3
        have N2 := Lib.hid n2
        have N1 := Lib.hid n1
        have N0 := Lib.hid n0
        have nb : Below w.heap.size w w2 := by (repeat' (first | (with_reducible exact Below.refl _ _) | (with_reducible assumption) | (with_reducible refine Below.drew ?_) | (with_reducible refine below_drewN ?_ _) | ((with_reducible refine Below.alloc ?_ ?_ _); rotate_left; focus (go_size; done)) | ((with_reducible refine Below.setCell ?_ ?_ _); rotate_left; focus (go_size; done)) | ((with_reducible refine Below.trans ?_ (Below.mono (by with_reducible assumption) ?_)); rotate_left; focus (go_size; done))))
        have cr0 := n5.cell 0 rfl
        have cr1 := n5.cell 1 rfl
        have fr0 := n5.frozen 0
        have fr1 := n5.frozen 1
        have cd0 := n1.cell 0 rfl
        have cd1 := n1.cell 1 rfl
        have cq := n4.cell (j / 64) (lcells_at _ _ (by omega))
        have fq := n4.frozen (j / 64)
        have hq4 : j / 64 < 4 := by omega
        clear n5 n4 n3 n2 n1 n0
        go_wp2_with fail
        go_region
        go_wp2_with fail
        go_roundg j
        case measure => omega
        case rel =>
          obtain ⟨q1, q2⟩ := dv_yes H0.out ER.out EB.out ET.out hb2' HTD.out
          have n0 := N0.out
          have n1 := N1.out
          have n2 := N2.out
          have n3 := N3.out
          refine ⟨by omega, rfl, ?_, ?_, by (repeat (first | (with_reducible assumption) | ((with_reducible refine Bk.new_ ?_); (first | rfl | (simp only [World.size_alloc, World.size_setCell, World.size_drew, World.heap_drewN]; done))) | (with_reducible refine Bk.alloc ?_ _) | (with_reducible refine Bk.drew ?_) | (with_reducible refine Bk.drewN ?_ _) | ((with_reducible refine Bk.far ?_ ?_ _); rotate_left; focus (simp only []; omega)) | ((with_reducible refine Bk.below ?_ (by with_reducible assumption) ?_); rotate_left; focus (go_size; done)))), by (repeat (first | (with_reducible assumption) | ((with_reducible refine Bk.new_ ?_); (first | rfl | (simp only [World.size_alloc, World.size_setCell, World.size_drew, World.heap_drewN]; done))) | (with_reducible refine Bk.alloc ?_ _) | (with_reducible refine Bk.drew ?_) | (with_reducible refine Bk.drewN ?_ _) | ((with_reducible refine Bk.far ?_ ?_ _); rotate_left; focus (simp only []; omega)) | ((with_reducible refine Bk.below ?_ (by with_reducible assumption) ?_); rotate_left; focus (go_size; done)))), by (repeat (first | (with_reducible assumption) | ((with_reducible refine Bk.new_ ?_); (first | rfl | (simp only [World.size_alloc, World.size_setCell, World.size_drew, World.heap_drewN]; done))) | (with_reducible refine Bk.alloc ?_ _) | (with_reducible refine Bk.drew ?_) | (with_reducible refine Bk.drewN ?_ _) | ((with_reducible refine Bk.far ?_ ?_ _); rotate_left; focus (simp only []; omega)) | ((with_reducible refine Bk.below ?_ (by with_reducible assumption) ?_); rotate_left; focus (go_size; done)))), by (repeat (first | (with_reducible assumption) | ((with_reducible refine Bk.new_ ?_); (first | rfl | (simp only [World.size_alloc, World.size_setCell, World.size_drew, World.heap_drewN]; done))) | (with_reducible refine Bk.alloc ?_ _) | (with_reducible refine Bk.drew ?_) | (with_reducible refine Bk.drewN ?_ _) | ((with_reducible refine Bk.far ?_ ?_ _); rotate_left; focus (simp only []; omega)) | ((with_reducible refine Bk.below ?_ (by with_reducible assumption) ?_); rotate_left; focus (go_size; done)))), by go_size, by (repeat' (first | (with_reducible exact Below.refl _ _) | (with_reducible assumption) | (with_reducible refine Below.drew ?_) | (with_reducible refine below_drewN ?_ _) | ((with_reducible refine Below.alloc ?_ ?_ _); rotate_left; focus (go_size; done)) | ((with_reducible refine Below.setCell ?_ ?_ _); rotate_left; focus (go_size; done)) | ((with_reducible refine Below.trans ?_ (Below.mono (by with_reducible assumption) ?_)); rotate_left; focus (go_size; done))))⟩
          · rw [q1, ← dv_cells _ _ hj (dv_q256 HN.out D j)]
            exact (((N4.out.far (by simp only []; omega) _).far (by simp only []; omega) _).set_ _ _).drew
          · have e : lessW T' D = T - D := dv_less HD.out ET'.out ERD.out ET.out hb2' HTD.out
            rw [q2, ← e]
            exact (((N5.out.set_ 0 _).set_ 1 _).far (by simp only []; omega) _).drew
      · have hv' : (ov == 1) = false := by simpa using hv
        have hTs : T < 2 ^ 128 := by
          have h1 := LV.out
          rw [hv'] at h1
          have h2 := of_decide_eq_false h1.symm
          omega
        have HTS := Far.mk hTs
        clear hv hTs
        go_wp2_with fail
        refine (HC.out _).mono ?_
        rintro _ w3 ⟨rfl, hb3⟩
        have hb3s := hb3.size
        have M5 := Lib.hid (M5.out.below hb3 (by omega))
        have M4 := Lib.hid (M4.out.below hb3 (by omega))
        have M3 := Lib.hid (M3.out.below hb3 (by omega))
        have M2 := Lib.hid (M2.out.below hb3 (by omega))
        have M1 := Lib.hid (M1.out.below hb3 (by omega))
        have M0 := Lib.hid (M0.out.below hb3 (by omega))
        have mb : Below w.heap.size w w3 := by (repeat' (first | (with_reducible exact Below.refl _ _) | (with_reducible assumption) | (with_reducible refine Below.drew ?_) | (with_reducible refine below_drewN ?_ _) | ((with_reducible refine Below.alloc ?_ ?_ _); rotate_left; focus (go_size; done)) | ((with_reducible refine Below.setCell ?_ ?_ _); rotate_left; focus (go_size; done)) | ((with_reducible refine Below.trans ?_ (Below.mono (by with_reducible assumption) ?_)); rotate_left; focus (go_size; done))))
        have ms : w.heap.size + 6 ≤ w3.heap.size := by omega
        have cr0 := M5.out.cell 0 rfl
        have cr1 := M5.out.cell 1 rfl
        have fr0 := M5.out.frozen 0
        have fr1 := M5.out.frozen 1
        have cd0 := M1.out.cell 0 rfl
        have cd1 := M1.out.cell 1 rfl
        by_cases hge : D ≤ T'
        · have hcc : (0 : Int) ≤ cmpN T' D := by unfold cmpN; split; omega; split; omega; omega
          generalize cmpN T' D = cc at *
          have HTD : Far (D ≤ T) := Far.mk (by rw [ET'.out, Nat.mod_eq_of_lt HTS.out] at hge; exact hge)
          clear hge
          go_wp2_with fail
          refine (HL.out _).mono ?_
          rintro _ w2 ⟨rfl, hb2⟩
          have hb2s := hb2.size
          have n5 := M5.out.below hb2 (by omega)
          have n4 := M4.out.below hb2 (by omega)
          have n3 := M3.out.below hb2 (by omega)
          have n2 := M2.out.below hb2 (by omega)
          have n1 := M1.out.below hb2 (by omega)
          have n0 := M0.out.below hb2 (by omega)
          have N5 := Lib.hid n5
          have N4 := Lib.hid n4
          have N3 := Lib.hid n3
          have N2 := Lib.hid n2
          have N1 := Lib.hid n1
          have N0 := Lib.hid n0
          have nb : Below w.heap.size w w2 := by (repeat' (first | (with_reducible exact Below.refl _ _) | (with_reducible assumption) | (with_reducible refine Below.drew ?_) | (with_reducible refine below_drewN ?_ _) | ((with_reducible refine Below.alloc ?_ ?_ _); rotate_left; focus (go_size; done)) | ((with_reducible refine Below.setCell ?_ ?_ _); rotate_left; focus (go_size; done)) | ((with_reducible refine Below.trans ?_ (Below.mono (by with_reducible assumption) ?_)); rotate_left; focus (go_size; done))))
          have cr0 := n5.cell 0 rfl
          have cr1 := n5.cell 1 rfl
          have fr0 := n5.frozen 0
          have fr1 := n5.frozen 1
          have cd0 := n1.cell 0 rfl
          have cd1 := n1.cell 1 rfl
          have cq := n4.cell (j / 64) (lcells_at _ _ (by omega))
          have fq := n4.frozen (j / 64)
          have hq4 : j / 64 < 4 := by omega
          clear n5 n4 n3 n2 n1 n0
          go_wp2_with fail
          go_region
          go_wp2_with fail
          go_roundg j
          case measure => omega
          case rel =>
            obtain ⟨q1, q2⟩ := dv_yes H0.out ER.out EB.out ET.out hb2' HTD.out
            have n0 := N0.out
            have n1 := N1.out
            have n2 := N2.out
            have n3 := N3.out
            refine ⟨by omega, rfl, ?_, ?_, by (repeat (first | (with_reducible assumption) | ((with_reducible refine Bk.new_ ?_); (first | rfl | (simp only [World.size_alloc, World.size_setCell, World.size_drew, World.heap_drewN]; done))) | (with_reducible refine Bk.alloc ?_ _) | (with_reducible refine Bk.drew ?_) | (with_reducible refine Bk.drewN ?_ _) | ((with_reducible refine Bk.far ?_ ?_ _); rotate_left; focus (simp only []; omega)) | ((with_reducible refine Bk.below ?_ (by with_reducible assumption) ?_); rotate_left; focus (go_size; done)))), by (repeat (first | (with_reducible assumption) | ((with_reducible refine Bk.new_ ?_); (first | rfl | (simp only [World.size_alloc, World.size_setCell, World.size_drew, World.heap_drewN]; done))) | (with_reducible refine Bk.alloc ?_ _) | (with_reducible refine Bk.drew ?_) | (with_reducible refine Bk.drewN ?_ _) | ((with_reducible refine Bk.far ?_ ?_ _); rotate_left; focus (simp only []; omega)) | ((with_reducible refine Bk.below ?_ (by with_reducible assumption) ?_); rotate_left; focus (go_size; done)))), by (repeat (first | (with_reducible assumption) | ((with_reducible refine Bk.new_ ?_); (first | rfl | (simp only [World.size_alloc, World.size_setCell, World.size_drew, World.heap_drewN]; done))) | (with_reducible refine Bk.alloc ?_ _) | (with_reducible refine Bk.drew ?_) | (with_reducible refine Bk.drewN ?_ _) | ((with_reducible refine Bk.far ?_ ?_ _); rotate_left; focus (simp only []; omega)) | ((with_reducible refine Bk.below ?_ (by with_reducible assumption) ?_); rotate_left; focus (go_size; done)))), by (repeat (first | (with_reducible assumption) | ((with_reducible refine Bk.new_ ?_); (first | rfl | (simp only [World.size_alloc, World.size_setCell, World.size_drew, World.heap_drewN]; done))) | (with_reducible refine Bk.alloc ?_ _) | (with_reducible refine Bk.drew ?_) | (with_reducible refine Bk.drewN ?_ _) | ((with_reducible refine Bk.far ?_ ?_ _); rotate_left; focus (simp only []; omega)) | ((with_reducible refine Bk.below ?_ (by with_reducible assumption) ?_); rotate_left; focus (go_size; done)))), by go_size, by (repeat' (first | (with_reducible exact Below.refl _ _) | (with_reducible assumption) | (with_reducible refine Below.drew ?_) | (with_reducible refine below_drewN ?_ _) | ((with_reducible refine Below.alloc ?_ ?_ _); rotate_left; focus (go_size; done)) | ((with_reducible refine Below.setCell ?_ ?_ _); rotate_left; focus (go_size; done)) | ((with_reducible refine Below.trans ?_ (Below.mono (by with_reducible assumption) ?_)); rotate_left; focus (go_size; done))))⟩
            · rw [q1, ← dv_cells _ _ hj (dv_q256 HN.out D j)]
              exact (((N4.out.far (by simp only []; omega) _).far (by simp only []; omega) _).set_ _ _).drew
            · have e : lessW T' D = T - D := dv_less HD.out ET'.out ERD.out ET.out hb2' HTD.out
              rw [q2, ← e]
              exact (((N5.out.set_ 0 _).set_ 1 _).far (by simp only []; omega) _).drew
        · have hcc : ¬ (0 : Int) ≤ cmpN T' D := by unfold cmpN; split; omega; split; omega; omega
          generalize cmpN T' D = cc at *
          have HTD : Far (T < D) := Far.mk (by rw [ET'.out, Nat.mod_eq_of_lt HTS.out] at hge; omega)
          clear hge
          go_wp2_with fail
          go_roundg j
          case measure => omega
          case rel =>
            obtain ⟨q1, q2⟩ := dv_no H0.out ER.out EB.out ET.out HTD.out
            have m0 := M0.out
            have m1 := M1.out
            have m2 := M2.out
            have m3 := M3.out
            refine ⟨by omega, rfl, ?_, ?_, m0, m1, m2, m3, ms, mb⟩
            · rw [q1, ← dv_zero]; exact M4.out
            · have e : T' = T := by rw [ET'.out, Nat.mod_eq_of_lt HTS.out]
              rw [q2, ← e, ← EY1.out, ← EY0.out]; exact M5.out
end Go.Proofs.Ythkgjodidkpaeaa

set_option linter.unusedSimpArgs false
set_option linter.unusedVariables false
namespace Go.Proofs.Ythkgjodidkpaeaa
open Go.RowKit

def wholeV (c s : Nat) (up : Bool) : Nat := c / 10 ^ s + if up = true ∧ c % 10 ^ s ≠ 0 then 1 else 0
theorem wholeV_lt {c s : Nat} (up : Bool) (h : c < B34) : wholeV c s up < B34 := by
  unfold wholeV
  rcases Nat.eq_zero_or_pos s with h0 | h0
  · subst h0
    rw [Nat.pow_zero, Nat.div_one, Nat.mod_one]; simp; exact h
  · have h1 : c / 10 ^ s ≤ c / 10 := by
      refine Nat.div_le_div_left ?_ (by decide)
      calc (10 : Nat) = 10 ^ 1 := rfl
        _ ≤ 10 ^ s := Nat.pow_le_pow_right (by decide) h0
    have h2 : 100 ≤ B34 := by unfold B34; decide
    split <;> omega
theorem wholeV_up {c s : Nat} (h : c % 10 ^ s ≠ 0) : wholeV c s true = c / 10 ^ s + 1 := by unfold wholeV; rw [if_pos ⟨rfl, h⟩]
theorem wholeV_flat {c s : Nat} {up : Bool} (h : up = false ∨ c % 10 ^ s = 0) : wholeV c s up = c / 10 ^ s := by
  unfold wholeV; rw [if_neg (by rintro ⟨h1, h2⟩; rcases h with h | h; (rw [h] at h1; cases h1); exact h2 h)]; rfl
theorem strip_0 (c : Nat) : stripC c 0 = c ∧ stripS c 0 = 0 := ⟨rfl, rfl⟩
theorem canon_0 (neg : Bool) (c : Nat) (hc : c < B34) (W : World) : Calls Try.prog 75 #[.bool neg, .agg #[.int .u64 (wd c 1), .int .u64 (wd c 0)], .int .i64 0] W fun e w' => e = .returned (.agg #[.bool (sg neg c), .int .u64 (wd (c) 1), .int .u64 (wd (c) 0), .int .i64 0]) ∧ Below W.heap.size W w' := canon_any neg c 0 hc (by decide) W
theorem wd_one : wd 1 0 = 1 ∧ wd 1 1 = 0 := ⟨by rw [wd0]; rfl, by rw [wd1]; rfl⟩
set_option maxRecDepth 100000 in
set_option maxHeartbeats 8000000 in
theorem whole_any (b : Bool) (c s : Nat) (up : Bool) (hc : c < B34) (hs : s ≤ 18) (w : World) :
    Calls Try.prog 72 #[.agg #[.bool b, .int .u64 (wd (c) 1), .int .u64 (wd (c) 0), .int .i64 s], .bool up] w fun e w' => e = .returned (.agg #[.bool (sg b (wholeV c s up)), .int .u64 (wd ((wholeV c s up)) 1), .int .u64 (wd ((wholeV c s up)) 0), .int .i64 0]) ∧ Below w.heap.size w w' := by
  have hc2 : c < 2 ^ 128 := Nat.lt_trans hc B34_lt
  have HL := Lib.hid (fun W => long_any c hc2 W)
  have HP := Lib.hid (fun W => power_any s (by omega) W)
  have HV := Lib.hid (fun W => div_any c (10 ^ s) (Nat.lt_trans hc2 (by decide)) (ten_38 (by omega)) (Nat.ne_of_gt (Nat.pow_pos (by decide))) W)
  have hq : c / 10 ^ s < 2 ^ 128 := Nat.lt_of_le_of_lt (Nat.div_le_self _ _) hc2
  have HN := Lib.hid (fun W => narrow_any (c / 10 ^ s) (Nat.lt_trans hq (by decide)) W)
  rw [fit_id hq, over_id hq] at HN
  have hr : c % 10 ^ s < 2 ^ 128 := Nat.lt_of_le_of_lt (Nat.mod_le _ _) hc2
  have qz : ∀ W, (binOp .neq 24 (.agg #[.int .u64 (wd (c % 10 ^ s) 1), .int .u64 (wd (c % 10 ^ s) 0)]) (.agg #[.int .u64 0, .int .u64 0])).run Try.prog W = .ok (.bool (!(decide (c % 10 ^ s = 0)))) W := fun W => by rw [neq_wide, eq_nil hr]
  have hV := wholeV_lt (s := s) up hc
  have HC := Lib.hid (fun W => canon_0 b (wholeV c s up) hV W)
  have HA := Lib.hid (fun W => add_any (c / 10 ^ s) 1 hq (by decide) W)
  have hup := wholeV_up (c := c) (s := s)
  have hfl := wholeV_flat (c := c) (s := s) (up := up)
  have hle : wholeV c s up < 2 ^ 128 := Nat.lt_trans hV B34_lt
  generalize c / 10 ^ s = q at *
  generalize c % 10 ^ s = r at *
  generalize 10 ^ s = D at *
  have hsum : up = true → r ≠ 0 → Hid (∀ W, Calls Try.prog 95 #[.agg #[.int .u64 (wd q 1), .int .u64 (wd q 0)], .agg #[.int .u64 0, .int .u64 1]] W fun e w' => e = .returned (.tuple #[.agg #[.int .u64 (wd (wholeV c s up) 1), .int .u64 (wd (wholeV c s up) 0)], .int .i64 0]) ∧ Below W.heap.size W w') := by
    intro h1 h2
    subst h1
    have e := hup h2
    rw [e] at hle
    rw [fit_id hle, over_id hle, wd_one.1, wd_one.2] at HA
    rw [e]
    exact HA
  have hflat : (up = false ∨ r = 0) → wholeV c s up = q := hfl
  have hz : ∃ z, z = decide (r = 0) := ⟨_, rfl⟩
  obtain ⟨z, hz⟩ := hz
  rw [← hz] at qz
  have HZ := Far.mk hz
  have HSUM := Far.mk hsum
  have HFLAT := Far.mk hflat
  clear hup hfl hV hr hq hc hc2 hle HA hsum hflat hz
  obtain ⟨V, eV⟩ : ∃ V, V = wholeV c s up := ⟨_, rfl⟩
  rw [← eV] at HC HSUM HFLAT
  rw [← eV]
  clear eV
  generalize sg b V = sb at *
  generalize wd c 0 = x0 at *
  generalize wd c 1 = x1 at *
  generalize wd c 2 = x2 at *
  generalize wd c 3 = x3 at *
  generalize wd D 0 = d0 at *
  generalize wd D 1 = d1 at *
  go_enter Try.func72, Try.ntmps72
  go_upto_region 1 with fail
  go_cut [5, 6] (fun s5 s6 wx => ∃ g5 g6 : Nat, s5 = .pointer (some ⟨g5, 0, none⟩) ∧ s6 = .pointer (some ⟨g6, 0, none⟩) ∧ Bk wx g5 45 [.int .u64 (wd q 0), .int .u64 (wd q 1), .int .u64 (wd q 2), .int .u64 (wd q 3)] ∧ Bk wx g6 24 [.int .u64 (wd r 1), .int .u64 (wd r 0)] ∧ Bk wx w.heap.size 26 [.bool b, .int .u64 x1, .int .u64 x0, .int .i64 s] ∧ Bk wx (w.heap.size + 1) 26 [.bool false, .int .u64 0, .int .u64 0, .int .i64 0] ∧ Below w.heap.size w wx)
  case first =>
    go_region_held3 (fun w' => (w'.cell? ⟨w.heap.size, 0, none⟩ = some (.bool b) ∧ w'.cell? ⟨w.heap.size, 1, none⟩ = some (.int .u64 x1) ∧ w'.cell? ⟨w.heap.size, 2, none⟩ = some (.int .u64 x0) ∧ w'.cell? ⟨w.heap.size, 3, none⟩ = some (.int .i64 ((s : Int))))) (first | (first | (go_keep; done) | (simp [go_sem]; done) | ((try dsimp only); (repeat' apply And.intro) <;> (first | (with_reducible assumption) | ((rw [World.cell?_alloc_lt _ _ _ (by show _ < _; omega)]); go_split_ands; (first | with_reducible assumption | (refine (World.cell?_alloc_lt _ _ _ (by show _ < _; omega)).symm.trans ?_; with_reducible assumption))) | ((rw [World.cell?_setCell_other _ _ _ _ (by intro e; injection e; omega)]); with_reducible assumption) | (go_keep; done) | (simp [go_sem]; done) | (simp (disch := go_size) [*, World.cell?_alloc_some, World.cell?_setCell_far]; done)))) | ((refine ⟨Bk.cell (t := 26) (cs := [.bool b, .int .u64 x1, .int .u64 x0, .int .i64 ((s : Int))]) ?_ 0 rfl, Bk.cell (t := 26) (cs := [.bool b, .int .u64 x1, .int .u64 x0, .int .i64 ((s : Int))]) ?_ 1 rfl, Bk.cell (t := 26) (cs := [.bool b, .int .u64 x1, .int .u64 x0, .int .i64 ((s : Int))]) ?_ 2 rfl, Bk.cell (t := 26) (cs := [.bool b, .int .u64 x1, .int .u64 x0, .int .i64 ((s : Int))]) ?_ 3 rfl⟩) <;> ((repeat (first | (with_reducible assumption) | ((with_reducible refine Bk.new_ ?_); (first | rfl | (simp only [World.size_alloc, World.size_setCell, World.size_drew, World.heap_drewN]; done))) | (with_reducible refine Bk.alloc ?_ _) | (with_reducible refine Bk.drew ?_) | (with_reducible refine Bk.drewN ?_ _) | ((with_reducible refine Bk.far ?_ ?_ _); rotate_left; focus (simp only []; omega)) | ((with_reducible refine Bk.below ?_ (by with_reducible assumption) ?_); rotate_left; focus (go_size; done)))); done))) (first | (go_at_call 62; (with_reducible refine (HL.out _).mono ?_); rintro _ w1 ⟨rfl, hb1⟩; have hb1s := hb1.size; (try simp only [World.size_alloc, World.size_setCell, World.size_drew, World.heap_drewN] at hb1s); obtain ⟨hb1c, hb1f⟩ := bcell hb1; (try have : w.heap.size < w1.heap.size := by omega); (try have : w.heap.size + 1 < w1.heap.size := by omega); (try have : w.heap.size + 1 + 1 < w1.heap.size := by omega); (try have : w.heap.size + 1 + 1 + 1 < w1.heap.size := by omega); (try have : w2.heap.size < w1.heap.size := by omega); (try have : w2.heap.size + 1 < w1.heap.size := by omega); (try have : w2.heap.size + 1 + 1 < w1.heap.size := by omega); (try have : w2.heap.size + 1 + 1 + 1 < w1.heap.size := by omega)) | (go_at_call 88; (with_reducible refine (HP.out _).mono ?_); rintro _ w2 ⟨rfl, hb2⟩; have hb2s := hb2.size; (try simp only [World.size_alloc, World.size_setCell, World.size_drew, World.heap_drewN] at hb2s); obtain ⟨hb2c, hb2f⟩ := bcell hb2; (try have : w.heap.size < w2.heap.size := by omega); (try have : w.heap.size + 1 < w2.heap.size := by omega); (try have : w.heap.size + 1 + 1 < w2.heap.size := by omega); (try have : w.heap.size + 1 + 1 + 1 < w2.heap.size := by omega); (try have : w1.heap.size < w2.heap.size := by omega); (try have : w1.heap.size + 1 < w2.heap.size := by omega); (try have : w1.heap.size + 1 + 1 < w2.heap.size := by omega); (try have : w1.heap.size + 1 + 1 + 1 < w2.heap.size := by omega)) | (go_at_call 78; (with_reducible refine (HV.out _).mono ?_); rintro _ w9 ⟨rfl, hb9⟩; have hb9s := hb9.size; (try simp only [World.size_alloc, World.size_setCell, World.size_drew, World.heap_drewN] at hb9s); obtain ⟨hb9c, hb9f⟩ := bcell hb9; (try have : w.heap.size < w9.heap.size := by omega); (try have : w.heap.size + 1 < w9.heap.size := by omega); (try have : w.heap.size + 1 + 1 < w9.heap.size := by omega); (try have : w.heap.size + 1 + 1 + 1 < w9.heap.size := by omega); (try have : w1.heap.size < w9.heap.size := by omega); (try have : w1.heap.size + 1 < w9.heap.size := by omega); (try have : w1.heap.size + 1 + 1 < w9.heap.size := by omega); (try have : w1.heap.size + 1 + 1 + 1 < w9.heap.size := by omega); (try have : w2.heap.size < w9.heap.size := by omega); (try have : w2.heap.size + 1 < w9.heap.size := by omega); (try have : w2.heap.size + 1 + 1 < w9.heap.size := by omega); (try have : w2.heap.size + 1 + 1 + 1 < w9.heap.size := by omega)))
    all_goals
      go_wp2_with fail
      go_meet
      exact ⟨_, _, rfl, rfl, by first | ((repeat (first | (with_reducible assumption) | ((with_reducible refine Bk.new_ ?_); (first | rfl | (simp only [World.size_alloc, World.size_setCell, World.size_drew, World.heap_drewN]; done))) | (with_reducible refine Bk.alloc ?_ _) | (with_reducible refine Bk.drew ?_) | (with_reducible refine Bk.drewN ?_ _) | ((with_reducible refine Bk.far ?_ ?_ _); rotate_left; focus (simp only []; omega)) | ((with_reducible refine Bk.below ?_ (by with_reducible assumption) ?_); rotate_left; focus (go_size; done)))); done) | ((repeat (first | (with_reducible refine Bk.alloc ?_ _) | (with_reducible refine Bk.drew ?_) | ((with_reducible refine Bk.far ?_ ?_ _); rotate_left; focus (simp only []; omega)))); (refine ((((?_ : Bk _ _ _ [.int .u64 0, .int .u64 0, .int .u64 0, .int .u64 0]).set_ 0 _).set_ 1 _).set_ 2 _).set_ 3 _); (repeat (first | (with_reducible assumption) | ((with_reducible refine Bk.new_ ?_); (first | rfl | (simp only [World.size_alloc, World.size_setCell, World.size_drew, World.heap_drewN]; done))) | (with_reducible refine Bk.alloc ?_ _) | (with_reducible refine Bk.drew ?_) | (with_reducible refine Bk.drewN ?_ _) | ((with_reducible refine Bk.far ?_ ?_ _); rotate_left; focus (simp only []; omega)) | ((with_reducible refine Bk.below ?_ (by with_reducible assumption) ?_); rotate_left; focus (go_size; done))))), by first | ((repeat (first | (with_reducible assumption) | ((with_reducible refine Bk.new_ ?_); (first | rfl | (simp only [World.size_alloc, World.size_setCell, World.size_drew, World.heap_drewN]; done))) | (with_reducible refine Bk.alloc ?_ _) | (with_reducible refine Bk.drew ?_) | (with_reducible refine Bk.drewN ?_ _) | ((with_reducible refine Bk.far ?_ ?_ _); rotate_left; focus (simp only []; omega)) | ((with_reducible refine Bk.below ?_ (by with_reducible assumption) ?_); rotate_left; focus (go_size; done)))); done) | ((repeat (first | (with_reducible refine Bk.alloc ?_ _) | (with_reducible refine Bk.drew ?_) | ((with_reducible refine Bk.far ?_ ?_ _); rotate_left; focus (simp only []; omega)))); (refine ((?_ : Bk _ _ _ [.int .u64 0, .int .u64 0]).set_ 0 _).set_ 1 _); (repeat (first | (with_reducible assumption) | ((with_reducible refine Bk.new_ ?_); (first | rfl | (simp only [World.size_alloc, World.size_setCell, World.size_drew, World.heap_drewN]; done))) | (with_reducible refine Bk.alloc ?_ _) | (with_reducible refine Bk.drew ?_) | (with_reducible refine Bk.drewN ?_ _) | ((with_reducible refine Bk.far ?_ ?_ _); rotate_left; focus (simp only []; omega)) | ((with_reducible refine Bk.below ?_ (by with_reducible assumption) ?_); rotate_left; focus (go_size; done))))), by (repeat (first | (with_reducible assumption) | ((with_reducible refine Bk.new_ ?_); (first | rfl | (simp only [World.size_alloc, World.size_setCell, World.size_drew, World.heap_drewN]; done))) | (with_reducible refine Bk.alloc ?_ _) | (with_reducible refine Bk.drew ?_) | (with_reducible refine Bk.drewN ?_ _) | ((with_reducible refine Bk.far ?_ ?_ _); rotate_left; focus (simp only []; omega)) | ((with_reducible refine Bk.below ?_ (by with_reducible assumption) ?_); rotate_left; focus (go_size; done)))), by (repeat (first | (with_reducible assumption) | ((with_reducible refine Bk.new_ ?_); (first | rfl | (simp only [World.size_alloc, World.size_setCell, World.size_drew, World.heap_drewN]; done))) | (with_reducible refine Bk.alloc ?_ _) | (with_reducible refine Bk.drew ?_) | (with_reducible refine Bk.drewN ?_ _) | ((with_reducible refine Bk.far ?_ ?_ _); rotate_left; focus (simp only []; omega)) | ((with_reducible refine Bk.below ?_ (by with_reducible assumption) ?_); rotate_left; focus (go_size; done)))), by (repeat' (first | (with_reducible exact Below.refl _ _) | (with_reducible assumption) | (with_reducible refine Below.drew ?_) | (with_reducible refine below_drewN ?_ _) | ((with_reducible refine Below.alloc ?_ ?_ _); rotate_left; focus (go_size; done)) | ((with_reducible refine Below.setCell ?_ ?_ _); rotate_left; focus (go_size; done)) | ((with_reducible refine Below.trans ?_ (Below.mono (by with_reducible assumption) ?_)); rotate_left; focus (go_size; done))))⟩
  case rest =>
    obtain ⟨g5, g6, rfl, rfl, k5, k6, ka, kr, kw⟩ := hcut
    have c50 := k5.cell 0 rfl
    have c51 := k5.cell 1 rfl
    have c52 := k5.cell 2 rfl
    have c53 := k5.cell 3 rfl
    have k5l := k5.lt
    have k6l := k6.lt
    have kal := ka.lt
    have krl := kr.lt
    clear k5 k5l
    cases z
    · cases up
      · have e : V = q := HFLAT.out (.inl rfl)
        subst e
        go_wp2_with fail
        refine (HN.out _).mono ?_
        rintro _ w3 ⟨rfl, hb3⟩; have hb3s := hb3.size; (try simp only [World.size_alloc, World.size_setCell, World.size_drew, World.heap_drewN] at hb3s); obtain ⟨hb3c, hb3f⟩ := bcell hb3; (try have : w.heap.size < w3.heap.size := by omega); (try have : w.heap.size + 1 < w3.heap.size := by omega); (try have : w.heap.size + 1 + 1 < w3.heap.size := by omega); (try have : w.heap.size + 1 + 1 + 1 < w3.heap.size := by omega)
        have j6 : Bk w3 g6 24 [.int .u64 (wd r 1), .int .u64 (wd r 0)] := by (repeat (first | (with_reducible assumption) | ((with_reducible refine Bk.new_ ?_); (first | rfl | (simp only [World.size_alloc, World.size_setCell, World.size_drew, World.heap_drewN]; done))) | (with_reducible refine Bk.alloc ?_ _) | (with_reducible refine Bk.drew ?_) | (with_reducible refine Bk.drewN ?_ _) | ((with_reducible refine Bk.far ?_ ?_ _); rotate_left; focus (simp only []; omega)) | ((with_reducible refine Bk.below ?_ (by with_reducible assumption) ?_); rotate_left; focus (go_size; done))))
        have ja : Bk w3 w.heap.size 26 [.bool b, .int .u64 x1, .int .u64 x0, .int .i64 s] := by (repeat (first | (with_reducible assumption) | ((with_reducible refine Bk.new_ ?_); (first | rfl | (simp only [World.size_alloc, World.size_setCell, World.size_drew, World.heap_drewN]; done))) | (with_reducible refine Bk.alloc ?_ _) | (with_reducible refine Bk.drew ?_) | (with_reducible refine Bk.drewN ?_ _) | ((with_reducible refine Bk.far ?_ ?_ _); rotate_left; focus (simp only []; omega)) | ((with_reducible refine Bk.below ?_ (by with_reducible assumption) ?_); rotate_left; focus (go_size; done))))
        have jr : Bk w3 (w.heap.size + 1) 26 [.bool false, .int .u64 0, .int .u64 0, .int .i64 0] := by (repeat (first | (with_reducible assumption) | ((with_reducible refine Bk.new_ ?_); (first | rfl | (simp only [World.size_alloc, World.size_setCell, World.size_drew, World.heap_drewN]; done))) | (with_reducible refine Bk.alloc ?_ _) | (with_reducible refine Bk.drew ?_) | (with_reducible refine Bk.drewN ?_ _) | ((with_reducible refine Bk.far ?_ ?_ _); rotate_left; focus (simp only []; omega)) | ((with_reducible refine Bk.below ?_ (by with_reducible assumption) ?_); rotate_left; focus (go_size; done))))
        have c60 := j6.cell 0 rfl
        have c61 := j6.cell 1 rfl
        have ja_0 := ja.cell 0 rfl
        have ja_1 := ja.cell 1 rfl
        have ja_2 := ja.cell 2 rfl
        have ja_3 := ja.cell 3 rfl
        have ja_4 := ja.frozen 0
        have ja_5 := ja.frozen 1
        have ja_6 := ja.frozen 2
        have ja_7 := ja.frozen 3
        have jal := ja.lt
        have j6l := j6.lt
        have jrl := jr.lt
        clear hb3c hb3f
        go_wp2_with fail
        refine calls_named (fun W => Bk W (w.heap.size + 1) 26 [.bool false, .int .u64 0, .int .u64 0, .int .i64 0] ∧ Below w.heap.size w W) ⟨?h1, ?h2⟩ ?_
        case h1 => ((repeat (first | (with_reducible assumption) | ((with_reducible refine Bk.new_ ?_); (first | rfl | (simp only [World.size_alloc, World.size_setCell, World.size_drew, World.heap_drewN]; done))) | (with_reducible refine Bk.alloc ?_ _) | (with_reducible refine Bk.drew ?_) | (with_reducible refine Bk.drewN ?_ _) | ((with_reducible refine Bk.far ?_ ?_ _); rotate_left; focus (simp only []; omega)) | ((with_reducible refine Bk.below ?_ (by with_reducible assumption) ?_); rotate_left; focus (go_size; done)))); done)
        case h2 => ((repeat' (first | (with_reducible exact Below.refl _ _) | (with_reducible assumption) | (with_reducible refine Below.drew ?_) | (with_reducible refine below_drewN ?_ _) | ((with_reducible refine Below.alloc ?_ ?_ _); rotate_left; focus (go_size; done)) | ((with_reducible refine Below.setCell ?_ ?_ _); rotate_left; focus (go_size; done)) | ((with_reducible refine Below.trans ?_ (Below.mono (by with_reducible assumption) ?_)); rotate_left; focus (go_size; done)))); done)
        rintro W5 ⟨kr5, kw5⟩
        have kr5l := kr5.lt
        refine (HC.out _).mono ?_
        rintro _ w6 ⟨rfl, hb6⟩; have hb6s := hb6.size; (try simp only [World.size_alloc, World.size_setCell, World.size_drew, World.heap_drewN] at hb6s); obtain ⟨hb6c, hb6f⟩ := bcell hb6; (try have : w.heap.size < w6.heap.size := by omega); (try have : w.heap.size + 1 < w6.heap.size := by omega); (try have : w.heap.size + 1 + 1 < w6.heap.size := by omega); (try have : w.heap.size + 1 + 1 + 1 < w6.heap.size := by omega)
        have m6 : Bk w6 (w.heap.size + 1) 26 [.bool false, .int .u64 0, .int .u64 0, .int .i64 0] := by (repeat (first | (with_reducible assumption) | ((with_reducible refine Bk.new_ ?_); (first | rfl | (simp only [World.size_alloc, World.size_setCell, World.size_drew, World.heap_drewN]; done))) | (with_reducible refine Bk.alloc ?_ _) | (with_reducible refine Bk.drew ?_) | (with_reducible refine Bk.drewN ?_ _) | ((with_reducible refine Bk.far ?_ ?_ _); rotate_left; focus (simp only []; omega)) | ((with_reducible refine Bk.below ?_ (by with_reducible assumption) ?_); rotate_left; focus (go_size; done))))
        have m6_0 := m6.cell 0 rfl
        have m6_1 := m6.cell 1 rfl
        have m6_2 := m6.cell 2 rfl
        have m6_3 := m6.cell 3 rfl
        have m6_4 := m6.frozen 0
        have m6_5 := m6.frozen 1
        have m6_6 := m6.frozen 2
        have m6_7 := m6.frozen 3
        clear hb6c hb6f
        go_wp2_with fail
        refine bodyPost_ret (by simp [results, Try.results72, go_sem, *]; try rfl) rfl ?_
        exact ⟨rfl, by (repeat' (first | (with_reducible exact Below.refl _ _) | (with_reducible assumption) | (with_reducible refine Below.drew ?_) | (with_reducible refine below_drewN ?_ _) | ((with_reducible refine Below.alloc ?_ ?_ _); rotate_left; focus (go_size; done)) | ((with_reducible refine Below.setCell ?_ ?_ _); rotate_left; focus (go_size; done)) | ((with_reducible refine Below.trans ?_ (Below.mono (by with_reducible assumption) ?_)); rotate_left; focus (go_size; done))))⟩
      · have hsum := HSUM.out rfl (by have := HZ.out; intro h; rw [decide_eq_true h] at this; cases this)
        clear HSUM HFLAT HZ
        go_wp2_with fail
        refine (HN.out _).mono ?_
        rintro _ w3 ⟨rfl, hb3⟩; have hb3s := hb3.size; (try simp only [World.size_alloc, World.size_setCell, World.size_drew, World.heap_drewN] at hb3s); obtain ⟨hb3c, hb3f⟩ := bcell hb3; (try have : w.heap.size < w3.heap.size := by omega); (try have : w.heap.size + 1 < w3.heap.size := by omega); (try have : w.heap.size + 1 + 1 < w3.heap.size := by omega); (try have : w.heap.size + 1 + 1 + 1 < w3.heap.size := by omega)
        have j6 : Bk w3 g6 24 [.int .u64 (wd r 1), .int .u64 (wd r 0)] := by (repeat (first | (with_reducible assumption) | ((with_reducible refine Bk.new_ ?_); (first | rfl | (simp only [World.size_alloc, World.size_setCell, World.size_drew, World.heap_drewN]; done))) | (with_reducible refine Bk.alloc ?_ _) | (with_reducible refine Bk.drew ?_) | (with_reducible refine Bk.drewN ?_ _) | ((with_reducible refine Bk.far ?_ ?_ _); rotate_left; focus (simp only []; omega)) | ((with_reducible refine Bk.below ?_ (by with_reducible assumption) ?_); rotate_left; focus (go_size; done))))
        have ja : Bk w3 w.heap.size 26 [.bool b, .int .u64 x1, .int .u64 x0, .int .i64 s] := by (repeat (first | (with_reducible assumption) | ((with_reducible refine Bk.new_ ?_); (first | rfl | (simp only [World.size_alloc, World.size_setCell, World.size_drew, World.heap_drewN]; done))) | (with_reducible refine Bk.alloc ?_ _) | (with_reducible refine Bk.drew ?_) | (with_reducible refine Bk.drewN ?_ _) | ((with_reducible refine Bk.far ?_ ?_ _); rotate_left; focus (simp only []; omega)) | ((with_reducible refine Bk.below ?_ (by with_reducible assumption) ?_); rotate_left; focus (go_size; done))))
        have jr : Bk w3 (w.heap.size + 1) 26 [.bool false, .int .u64 0, .int .u64 0, .int .i64 0] := by (repeat (first | (with_reducible assumption) | ((with_reducible refine Bk.new_ ?_); (first | rfl | (simp only [World.size_alloc, World.size_setCell, World.size_drew, World.heap_drewN]; done))) | (with_reducible refine Bk.alloc ?_ _) | (with_reducible refine Bk.drew ?_) | (with_reducible refine Bk.drewN ?_ _) | ((with_reducible refine Bk.far ?_ ?_ _); rotate_left; focus (simp only []; omega)) | ((with_reducible refine Bk.below ?_ (by with_reducible assumption) ?_); rotate_left; focus (go_size; done))))
        have c60 := j6.cell 0 rfl
        have c61 := j6.cell 1 rfl
        have jal := ja.lt
        have j6l := j6.lt
        have jrl := jr.lt
        clear hb3c hb3f
        go_wp2_with fail
        refine (hsum.out _).mono ?_
        rintro _ w4 ⟨rfl, hb4⟩; have hb4s := hb4.size; (try simp only [World.size_alloc, World.size_setCell, World.size_drew, World.heap_drewN] at hb4s); obtain ⟨hb4c, hb4f⟩ := bcell hb4; (try have : w.heap.size < w4.heap.size := by omega); (try have : w.heap.size + 1 < w4.heap.size := by omega); (try have : w.heap.size + 1 + 1 < w4.heap.size := by omega); (try have : w.heap.size + 1 + 1 + 1 < w4.heap.size := by omega)
        have la : Bk w4 w.heap.size 26 [.bool b, .int .u64 x1, .int .u64 x0, .int .i64 s] := by (repeat (first | (with_reducible assumption) | ((with_reducible refine Bk.new_ ?_); (first | rfl | (simp only [World.size_alloc, World.size_setCell, World.size_drew, World.heap_drewN]; done))) | (with_reducible refine Bk.alloc ?_ _) | (with_reducible refine Bk.drew ?_) | (with_reducible refine Bk.drewN ?_ _) | ((with_reducible refine Bk.far ?_ ?_ _); rotate_left; focus (simp only []; omega)) | ((with_reducible refine Bk.below ?_ (by with_reducible assumption) ?_); rotate_left; focus (go_size; done))))
        have lr : Bk w4 (w.heap.size + 1) 26 [.bool false, .int .u64 0, .int .u64 0, .int .i64 0] := by (repeat (first | (with_reducible assumption) | ((with_reducible refine Bk.new_ ?_); (first | rfl | (simp only [World.size_alloc, World.size_setCell, World.size_drew, World.heap_drewN]; done))) | (with_reducible refine Bk.alloc ?_ _) | (with_reducible refine Bk.drew ?_) | (with_reducible refine Bk.drewN ?_ _) | ((with_reducible refine Bk.far ?_ ?_ _); rotate_left; focus (simp only []; omega)) | ((with_reducible refine Bk.below ?_ (by with_reducible assumption) ?_); rotate_left; focus (go_size; done))))
        have l8 : Bk w4 w3.heap.size 24 [.int .u64 (wd q 1), .int .u64 (wd q 0)] := by (repeat (first | (with_reducible assumption) | ((with_reducible refine Bk.new_ ?_); (first | rfl | (simp only [World.size_alloc, World.size_setCell, World.size_drew, World.heap_drewN]; done))) | (with_reducible refine Bk.alloc ?_ _) | (with_reducible refine Bk.drew ?_) | (with_reducible refine Bk.drewN ?_ _) | ((with_reducible refine Bk.far ?_ ?_ _); rotate_left; focus (simp only []; omega)) | ((with_reducible refine Bk.below ?_ (by with_reducible assumption) ?_); rotate_left; focus (go_size; done))))
        have c80 := l8.cell 0 rfl
        have c81 := l8.cell 1 rfl
        have f80 := l8.frozen 0
        have f81 := l8.frozen 1
        have l8l := l8.lt
        have la_0 := la.cell 0 rfl
        have la_1 := la.cell 1 rfl
        have la_2 := la.cell 2 rfl
        have la_3 := la.cell 3 rfl
        have la_4 := la.frozen 0
        have la_5 := la.frozen 1
        have la_6 := la.frozen 2
        have la_7 := la.frozen 3
        clear hb4c hb4f c60 c61
        go_wp2_with fail
        refine calls_named (fun W => Bk W (w.heap.size + 1) 26 [.bool false, .int .u64 0, .int .u64 0, .int .i64 0] ∧ Below w.heap.size w W) ⟨?h1, ?h2⟩ ?_
        case h1 => ((repeat (first | (with_reducible assumption) | ((with_reducible refine Bk.new_ ?_); (first | rfl | (simp only [World.size_alloc, World.size_setCell, World.size_drew, World.heap_drewN]; done))) | (with_reducible refine Bk.alloc ?_ _) | (with_reducible refine Bk.drew ?_) | (with_reducible refine Bk.drewN ?_ _) | ((with_reducible refine Bk.far ?_ ?_ _); rotate_left; focus (simp only []; omega)) | ((with_reducible refine Bk.below ?_ (by with_reducible assumption) ?_); rotate_left; focus (go_size; done)))); done)
        case h2 => ((repeat' (first | (with_reducible exact Below.refl _ _) | (with_reducible assumption) | (with_reducible refine Below.drew ?_) | (with_reducible refine below_drewN ?_ _) | ((with_reducible refine Below.alloc ?_ ?_ _); rotate_left; focus (go_size; done)) | ((with_reducible refine Below.setCell ?_ ?_ _); rotate_left; focus (go_size; done)) | ((with_reducible refine Below.trans ?_ (Below.mono (by with_reducible assumption) ?_)); rotate_left; focus (go_size; done)))); done)
        rintro W5 ⟨kr5, kw5⟩
        have kr5l := kr5.lt
        refine (HC.out _).mono ?_
        rintro _ w6 ⟨rfl, hb6⟩; have hb6s := hb6.size; (try simp only [World.size_alloc, World.size_setCell, World.size_drew, World.heap_drewN] at hb6s); obtain ⟨hb6c, hb6f⟩ := bcell hb6; (try have : w.heap.size < w6.heap.size := by omega); (try have : w.heap.size + 1 < w6.heap.size := by omega); (try have : w.heap.size + 1 + 1 < w6.heap.size := by omega); (try have : w.heap.size + 1 + 1 + 1 < w6.heap.size := by omega)
        have m6 : Bk w6 (w.heap.size + 1) 26 [.bool false, .int .u64 0, .int .u64 0, .int .i64 0] := by (repeat (first | (with_reducible assumption) | ((with_reducible refine Bk.new_ ?_); (first | rfl | (simp only [World.size_alloc, World.size_setCell, World.size_drew, World.heap_drewN]; done))) | (with_reducible refine Bk.alloc ?_ _) | (with_reducible refine Bk.drew ?_) | (with_reducible refine Bk.drewN ?_ _) | ((with_reducible refine Bk.far ?_ ?_ _); rotate_left; focus (simp only []; omega)) | ((with_reducible refine Bk.below ?_ (by with_reducible assumption) ?_); rotate_left; focus (go_size; done))))
        have m6_0 := m6.cell 0 rfl
        have m6_1 := m6.cell 1 rfl
        have m6_2 := m6.cell 2 rfl
        have m6_3 := m6.cell 3 rfl
        have m6_4 := m6.frozen 0
        have m6_5 := m6.frozen 1
        have m6_6 := m6.frozen 2
        have m6_7 := m6.frozen 3
        clear hb6c hb6f
        go_wp2_with fail
        refine bodyPost_ret (by simp [results, Try.results72, go_sem, *]; try rfl) rfl ?_
        exact ⟨rfl, by (repeat' (first | (with_reducible exact Below.refl _ _) | (with_reducible assumption) | (with_reducible refine Below.drew ?_) | (with_reducible refine below_drewN ?_ _) | ((with_reducible refine Below.alloc ?_ ?_ _); rotate_left; focus (go_size; done)) | ((with_reducible refine Below.setCell ?_ ?_ _); rotate_left; focus (go_size; done)) | ((with_reducible refine Below.trans ?_ (Below.mono (by with_reducible assumption) ?_)); rotate_left; focus (go_size; done))))⟩
    · have hr0 : r = 0 := by have := HZ.out; exact of_decide_eq_true this.symm
      have e : V = q := HFLAT.out (.inr hr0)
      subst e
      clear HSUM HFLAT HZ
      cases up
      ·
        go_wp2_with fail
        refine (HN.out _).mono ?_
        rintro _ w3 ⟨rfl, hb3⟩; have hb3s := hb3.size; (try simp only [World.size_alloc, World.size_setCell, World.size_drew, World.heap_drewN] at hb3s); obtain ⟨hb3c, hb3f⟩ := bcell hb3; (try have : w.heap.size < w3.heap.size := by omega); (try have : w.heap.size + 1 < w3.heap.size := by omega); (try have : w.heap.size + 1 + 1 < w3.heap.size := by omega); (try have : w.heap.size + 1 + 1 + 1 < w3.heap.size := by omega)
        have j6 : Bk w3 g6 24 [.int .u64 (wd r 1), .int .u64 (wd r 0)] := by (repeat (first | (with_reducible assumption) | ((with_reducible refine Bk.new_ ?_); (first | rfl | (simp only [World.size_alloc, World.size_setCell, World.size_drew, World.heap_drewN]; done))) | (with_reducible refine Bk.alloc ?_ _) | (with_reducible refine Bk.drew ?_) | (with_reducible refine Bk.drewN ?_ _) | ((with_reducible refine Bk.far ?_ ?_ _); rotate_left; focus (simp only []; omega)) | ((with_reducible refine Bk.below ?_ (by with_reducible assumption) ?_); rotate_left; focus (go_size; done))))
        have ja : Bk w3 w.heap.size 26 [.bool b, .int .u64 x1, .int .u64 x0, .int .i64 s] := by (repeat (first | (with_reducible assumption) | ((with_reducible refine Bk.new_ ?_); (first | rfl | (simp only [World.size_alloc, World.size_setCell, World.size_drew, World.heap_drewN]; done))) | (with_reducible refine Bk.alloc ?_ _) | (with_reducible refine Bk.drew ?_) | (with_reducible refine Bk.drewN ?_ _) | ((with_reducible refine Bk.far ?_ ?_ _); rotate_left; focus (simp only []; omega)) | ((with_reducible refine Bk.below ?_ (by with_reducible assumption) ?_); rotate_left; focus (go_size; done))))
        have jr : Bk w3 (w.heap.size + 1) 26 [.bool false, .int .u64 0, .int .u64 0, .int .i64 0] := by (repeat (first | (with_reducible assumption) | ((with_reducible refine Bk.new_ ?_); (first | rfl | (simp only [World.size_alloc, World.size_setCell, World.size_drew, World.heap_drewN]; done))) | (with_reducible refine Bk.alloc ?_ _) | (with_reducible refine Bk.drew ?_) | (with_reducible refine Bk.drewN ?_ _) | ((with_reducible refine Bk.far ?_ ?_ _); rotate_left; focus (simp only []; omega)) | ((with_reducible refine Bk.below ?_ (by with_reducible assumption) ?_); rotate_left; focus (go_size; done))))
        have c60 := j6.cell 0 rfl
        have c61 := j6.cell 1 rfl
        have ja_0 := ja.cell 0 rfl
        have ja_1 := ja.cell 1 rfl
        have ja_2 := ja.cell 2 rfl
        have ja_3 := ja.cell 3 rfl
        have ja_4 := ja.frozen 0
        have ja_5 := ja.frozen 1
        have ja_6 := ja.frozen 2
        have ja_7 := ja.frozen 3
        have jal := ja.lt
        have j6l := j6.lt
        have jrl := jr.lt
        clear hb3c hb3f
        go_wp2_with fail
        refine calls_named (fun W => Bk W (w.heap.size + 1) 26 [.bool false, .int .u64 0, .int .u64 0, .int .i64 0] ∧ Below w.heap.size w W) ⟨?h1, ?h2⟩ ?_
        case h1 => ((repeat (first | (with_reducible assumption) | ((with_reducible refine Bk.new_ ?_); (first | rfl | (simp only [World.size_alloc, World.size_setCell, World.size_drew, World.heap_drewN]; done))) | (with_reducible refine Bk.alloc ?_ _) | (with_reducible refine Bk.drew ?_) | (with_reducible refine Bk.drewN ?_ _) | ((with_reducible refine Bk.far ?_ ?_ _); rotate_left; focus (simp only []; omega)) | ((with_reducible refine Bk.below ?_ (by with_reducible assumption) ?_); rotate_left; focus (go_size; done)))); done)
        case h2 => ((repeat' (first | (with_reducible exact Below.refl _ _) | (with_reducible assumption) | (with_reducible refine Below.drew ?_) | (with_reducible refine below_drewN ?_ _) | ((with_reducible refine Below.alloc ?_ ?_ _); rotate_left; focus (go_size; done)) | ((with_reducible refine Below.setCell ?_ ?_ _); rotate_left; focus (go_size; done)) | ((with_reducible refine Below.trans ?_ (Below.mono (by with_reducible assumption) ?_)); rotate_left; focus (go_size; done)))); done)
        rintro W5 ⟨kr5, kw5⟩
        have kr5l := kr5.lt
        refine (HC.out _).mono ?_
        rintro _ w6 ⟨rfl, hb6⟩; have hb6s := hb6.size; (try simp only [World.size_alloc, World.size_setCell, World.size_drew, World.heap_drewN] at hb6s); obtain ⟨hb6c, hb6f⟩ := bcell hb6; (try have : w.heap.size < w6.heap.size := by omega); (try have : w.heap.size + 1 < w6.heap.size := by omega); (try have : w.heap.size + 1 + 1 < w6.heap.size := by omega); (try have : w.heap.size + 1 + 1 + 1 < w6.heap.size := by omega)
        have m6 : Bk w6 (w.heap.size + 1) 26 [.bool false, .int .u64 0, .int .u64 0, .int .i64 0] := by (repeat (first | (with_reducible assumption) | ((with_reducible refine Bk.new_ ?_); (first | rfl | (simp only [World.size_alloc, World.size_setCell, World.size_drew, World.heap_drewN]; done))) | (with_reducible refine Bk.alloc ?_ _) | (with_reducible refine Bk.drew ?_) | (with_reducible refine Bk.drewN ?_ _) | ((with_reducible refine Bk.far ?_ ?_ _); rotate_left; focus (simp only []; omega)) | ((with_reducible refine Bk.below ?_ (by with_reducible assumption) ?_); rotate_left; focus (go_size; done))))
        have m6_0 := m6.cell 0 rfl
        have m6_1 := m6.cell 1 rfl
        have m6_2 := m6.cell 2 rfl
        have m6_3 := m6.cell 3 rfl
        have m6_4 := m6.frozen 0
        have m6_5 := m6.frozen 1
        have m6_6 := m6.frozen 2
        have m6_7 := m6.frozen 3
        clear hb6c hb6f
        go_wp2_with fail
        refine bodyPost_ret (by simp [results, Try.results72, go_sem, *]; try rfl) rfl ?_
        exact ⟨rfl, by (repeat' (first | (with_reducible exact Below.refl _ _) | (with_reducible assumption) | (with_reducible refine Below.drew ?_) | (with_reducible refine below_drewN ?_ _) | ((with_reducible refine Below.alloc ?_ ?_ _); rotate_left; focus (go_size; done)) | ((with_reducible refine Below.setCell ?_ ?_ _); rotate_left; focus (go_size; done)) | ((with_reducible refine Below.trans ?_ (Below.mono (by with_reducible assumption) ?_)); rotate_left; focus (go_size; done))))⟩
      ·
        go_wp2_with fail
        refine (HN.out _).mono ?_
        rintro _ w3 ⟨rfl, hb3⟩; have hb3s := hb3.size; (try simp only [World.size_alloc, World.size_setCell, World.size_drew, World.heap_drewN] at hb3s); obtain ⟨hb3c, hb3f⟩ := bcell hb3; (try have : w.heap.size < w3.heap.size := by omega); (try have : w.heap.size + 1 < w3.heap.size := by omega); (try have : w.heap.size + 1 + 1 < w3.heap.size := by omega); (try have : w.heap.size + 1 + 1 + 1 < w3.heap.size := by omega)
        have j6 : Bk w3 g6 24 [.int .u64 (wd r 1), .int .u64 (wd r 0)] := by (repeat (first | (with_reducible assumption) | ((with_reducible refine Bk.new_ ?_); (first | rfl | (simp only [World.size_alloc, World.size_setCell, World.size_drew, World.heap_drewN]; done))) | (with_reducible refine Bk.alloc ?_ _) | (with_reducible refine Bk.drew ?_) | (with_reducible refine Bk.drewN ?_ _) | ((with_reducible refine Bk.far ?_ ?_ _); rotate_left; focus (simp only []; omega)) | ((with_reducible refine Bk.below ?_ (by with_reducible assumption) ?_); rotate_left; focus (go_size; done))))
        have ja : Bk w3 w.heap.size 26 [.bool b, .int .u64 x1, .int .u64 x0, .int .i64 s] := by (repeat (first | (with_reducible assumption) | ((with_reducible refine Bk.new_ ?_); (first | rfl | (simp only [World.size_alloc, World.size_setCell, World.size_drew, World.heap_drewN]; done))) | (with_reducible refine Bk.alloc ?_ _) | (with_reducible refine Bk.drew ?_) | (with_reducible refine Bk.drewN ?_ _) | ((with_reducible refine Bk.far ?_ ?_ _); rotate_left; focus (simp only []; omega)) | ((with_reducible refine Bk.below ?_ (by with_reducible assumption) ?_); rotate_left; focus (go_size; done))))
        have jr : Bk w3 (w.heap.size + 1) 26 [.bool false, .int .u64 0, .int .u64 0, .int .i64 0] := by (repeat (first | (with_reducible assumption) | ((with_reducible refine Bk.new_ ?_); (first | rfl | (simp only [World.size_alloc, World.size_setCell, World.size_drew, World.heap_drewN]; done))) | (with_reducible refine Bk.alloc ?_ _) | (with_reducible refine Bk.drew ?_) | (with_reducible refine Bk.drewN ?_ _) | ((with_reducible refine Bk.far ?_ ?_ _); rotate_left; focus (simp only []; omega)) | ((with_reducible refine Bk.below ?_ (by with_reducible assumption) ?_); rotate_left; focus (go_size; done))))
        have c60 := j6.cell 0 rfl
        have c61 := j6.cell 1 rfl
        have ja_0 := ja.cell 0 rfl
        have ja_1 := ja.cell 1 rfl
        have ja_2 := ja.cell 2 rfl
        have ja_3 := ja.cell 3 rfl
        have ja_4 := ja.frozen 0
        have ja_5 := ja.frozen 1
        have ja_6 := ja.frozen 2
        have ja_7 := ja.frozen 3
        have jal := ja.lt
        have j6l := j6.lt
        have jrl := jr.lt
        clear hb3c hb3f
        go_wp2_with fail
        refine calls_named (fun W => Bk W (w.heap.size + 1) 26 [.bool false, .int .u64 0, .int .u64 0, .int .i64 0] ∧ Below w.heap.size w W) ⟨?h1, ?h2⟩ ?_
        case h1 => ((repeat (first | (with_reducible assumption) | ((with_reducible refine Bk.new_ ?_); (first | rfl | (simp only [World.size_alloc, World.size_setCell, World.size_drew, World.heap_drewN]; done))) | (with_reducible refine Bk.alloc ?_ _) | (with_reducible refine Bk.drew ?_) | (with_reducible refine Bk.drewN ?_ _) | ((with_reducible refine Bk.far ?_ ?_ _); rotate_left; focus (simp only []; omega)) | ((with_reducible refine Bk.below ?_ (by with_reducible assumption) ?_); rotate_left; focus (go_size; done)))); done)
        case h2 => ((repeat' (first | (with_reducible exact Below.refl _ _) | (with_reducible assumption) | (with_reducible refine Below.drew ?_) | (with_reducible refine below_drewN ?_ _) | ((with_reducible refine Below.alloc ?_ ?_ _); rotate_left; focus (go_size; done)) | ((with_reducible refine Below.setCell ?_ ?_ _); rotate_left; focus (go_size; done)) | ((with_reducible refine Below.trans ?_ (Below.mono (by with_reducible assumption) ?_)); rotate_left; focus (go_size; done)))); done)
        rintro W5 ⟨kr5, kw5⟩
        have kr5l := kr5.lt
        refine (HC.out _).mono ?_
        rintro _ w6 ⟨rfl, hb6⟩; have hb6s := hb6.size; (try simp only [World.size_alloc, World.size_setCell, World.size_drew, World.heap_drewN] at hb6s); obtain ⟨hb6c, hb6f⟩ := bcell hb6; (try have : w.heap.size < w6.heap.size := by omega); (try have : w.heap.size + 1 < w6.heap.size := by omega); (try have : w.heap.size + 1 + 1 < w6.heap.size := by omega); (try have : w.heap.size + 1 + 1 + 1 < w6.heap.size := by omega)
        have m6 : Bk w6 (w.heap.size + 1) 26 [.bool false, .int .u64 0, .int .u64 0, .int .i64 0] := by (repeat (first | (with_reducible assumption) | ((with_reducible refine Bk.new_ ?_); (first | rfl | (simp only [World.size_alloc, World.size_setCell, World.size_drew, World.heap_drewN]; done))) | (with_reducible refine Bk.alloc ?_ _) | (with_reducible refine Bk.drew ?_) | (with_reducible refine Bk.drewN ?_ _) | ((with_reducible refine Bk.far ?_ ?_ _); rotate_left; focus (simp only []; omega)) | ((with_reducible refine Bk.below ?_ (by with_reducible assumption) ?_); rotate_left; focus (go_size; done))))
        have m6_0 := m6.cell 0 rfl
        have m6_1 := m6.cell 1 rfl
        have m6_2 := m6.cell 2 rfl
        have m6_3 := m6.cell 3 rfl
        have m6_4 := m6.frozen 0
        have m6_5 := m6.frozen 1
        have m6_6 := m6.frozen 2
        have m6_7 := m6.frozen 3
        clear hb6c hb6f
        go_wp2_with fail
        refine bodyPost_ret (by simp [results, Try.results72, go_sem, *]; try rfl) rfl ?_
        exact ⟨rfl, by (repeat' (first | (with_reducible exact Below.refl _ _) | (with_reducible assumption) | (with_reducible refine Below.drew ?_) | (with_reducible refine below_drewN ?_ _) | ((with_reducible refine Below.alloc ?_ ?_ _); rotate_left; focus (go_size; done)) | ((with_reducible refine Below.setCell ?_ ?_ _); rotate_left; focus (go_size; done)) | ((with_reducible refine Below.trans ?_ (Below.mono (by with_reducible assumption) ?_)); rotate_left; focus (go_size; done))))⟩
end Go.Proofs.Ythkgjodidkpaeaa

set_option linter.unusedSimpArgs false
set_option linter.unusedVariables false
namespace Go.Proofs.Ythkgjodidkpaeaa
open Go.RowKit

set_option maxHeartbeats 2000000 in
theorem floor_bad (b : Bool) (c : Nat) (s : Int) (hc : c < 2 ^ 128) (h : dform b c s = false) (w : World) : Calls Try.prog 35 #[.agg #[.bool b, .int .u64 (wd (c) 1), .int .u64 (wd (c) 0), .int .i64 s]] w fun e w' => e = .returned (.tuple #[.agg #[.bool false, .int .u64 0, .int .u64 0, .int .i64 0], .int .i64 2]) ∧ Below w.heap.size w w' := by
  have HF := Lib.hid (fun g W hg => formed_one b c s hc g W hg)
  rw [h] at HF
  simp only [ferr, if_pos, if_neg, Bool.false_eq_true, if_true, if_false] at HF
  generalize wd c 0 = x0 at *
  generalize wd c 1 = x1 at *
  clear hc h
  go_enter Try.func35, Try.ntmps35
  go_wp2_with fail
  (with_reducible refine (HF.out _ _ ?hg).mono ?_)
  case hg => ((repeat (first | (with_reducible assumption) | ((with_reducible refine Bk.new_ ?_); (first | rfl | (simp only [World.size_alloc, World.size_setCell, World.size_drew, World.heap_drewN]; done))) | (with_reducible refine Bk.alloc ?_ _) | (with_reducible refine Bk.drew ?_) | (with_reducible refine Bk.drewN ?_ _) | ((with_reducible refine Bk.far ?_ ?_ _); rotate_left; focus (simp only []; omega)) | ((with_reducible refine Bk.below ?_ (by with_reducible assumption) ?_); rotate_left; focus (go_size; done)))); done)
  rintro _ w1 ⟨rfl, hb1⟩; have hb1s := hb1.size; (try simp only [World.size_alloc, World.size_setCell, World.size_drew, World.heap_drewN] at hb1s); obtain ⟨hb1c, hb1f⟩ := bcell hb1; (try have : w.heap.size < w1.heap.size := by omega); (try have : w.heap.size + 1 < w1.heap.size := by omega); (try have : w.heap.size + 1 + 1 < w1.heap.size := by omega); (try have : w.heap.size + 1 + 1 + 1 < w1.heap.size := by omega)
  have k : Bk w1 (w.heap.size) 26 [.bool b, .int .u64 x1, .int .u64 x0, .int .i64 s] := by (repeat (first | (with_reducible assumption) | ((with_reducible refine Bk.new_ ?_); (first | rfl | (simp only [World.size_alloc, World.size_setCell, World.size_drew, World.heap_drewN]; done))) | (with_reducible refine Bk.alloc ?_ _) | (with_reducible refine Bk.drew ?_) | (with_reducible refine Bk.drewN ?_ _) | ((with_reducible refine Bk.far ?_ ?_ _); rotate_left; focus (simp only []; omega)) | ((with_reducible refine Bk.below ?_ (by with_reducible assumption) ?_); rotate_left; focus (go_size; done))))
  have k_0 := k.cell 0 rfl
  have k_1 := k.cell 1 rfl
  have k_2 := k.cell 2 rfl
  have k_3 := k.cell 3 rfl
  have k_4 := k.frozen 0
  have k_5 := k.frozen 1
  have k_6 := k.frozen 2
  have k_7 := k.frozen 3
  have kl := k.lt
  have r0 : Bk w1 (w.heap.size + 1) 26 [.bool false, .int .u64 0, .int .u64 0, .int .i64 0] := by (repeat (first | (with_reducible assumption) | ((with_reducible refine Bk.new_ ?_); (first | rfl | (simp only [World.size_alloc, World.size_setCell, World.size_drew, World.heap_drewN]; done))) | (with_reducible refine Bk.alloc ?_ _) | (with_reducible refine Bk.drew ?_) | (with_reducible refine Bk.drewN ?_ _) | ((with_reducible refine Bk.far ?_ ?_ _); rotate_left; focus (simp only []; omega)) | ((with_reducible refine Bk.below ?_ (by with_reducible assumption) ?_); rotate_left; focus (go_size; done))))
  have r0_0 := r0.cell 0 rfl
  have r0_1 := r0.cell 1 rfl
  have r0_2 := r0.cell 2 rfl
  have r0_3 := r0.cell 3 rfl
  have r0_4 := r0.frozen 0
  have r0_5 := r0.frozen 1
  have r0_6 := r0.frozen 2
  have r0_7 := r0.frozen 3
  have r0l := r0.lt
  clear hb1c hb1f k r0
  go_wp2_with fail
  refine bodyPost_ret (by simp [results, Try.results35, go_sem, *]; try rfl) rfl ?_
  exact ⟨rfl, by (repeat' (first | (with_reducible exact Below.refl _ _) | (with_reducible assumption) | (with_reducible refine Below.drew ?_) | (with_reducible refine below_drewN ?_ _) | ((with_reducible refine Below.alloc ?_ ?_ _); rotate_left; focus (go_size; done)) | ((with_reducible refine Below.setCell ?_ ?_ _); rotate_left; focus (go_size; done)) | ((with_reducible refine Below.trans ?_ (Below.mono (by with_reducible assumption) ?_)); rotate_left; focus (go_size; done))))⟩
set_option maxHeartbeats 2000000 in
theorem ceil_bad (b : Bool) (c : Nat) (s : Int) (hc : c < 2 ^ 128) (h : dform b c s = false) (w : World) : Calls Try.prog 37 #[.agg #[.bool b, .int .u64 (wd (c) 1), .int .u64 (wd (c) 0), .int .i64 s]] w fun e w' => e = .returned (.tuple #[.agg #[.bool false, .int .u64 0, .int .u64 0, .int .i64 0], .int .i64 2]) ∧ Below w.heap.size w w' := by
  have HF := Lib.hid (fun g W hg => formed_one b c s hc g W hg)
  rw [h] at HF
  simp only [ferr, if_pos, if_neg, Bool.false_eq_true, if_true, if_false] at HF
  generalize wd c 0 = x0 at *
  generalize wd c 1 = x1 at *
  clear hc h
  go_enter Try.func37, Try.ntmps37
  go_wp2_with fail
  (with_reducible refine (HF.out _ _ ?hg).mono ?_)
  case hg => ((repeat (first | (with_reducible assumption) | ((with_reducible refine Bk.new_ ?_); (first | rfl | (simp only [World.size_alloc, World.size_setCell, World.size_drew, World.heap_drewN]; done))) | (with_reducible refine Bk.alloc ?_ _) | (with_reducible refine Bk.drew ?_) | (with_reducible refine Bk.drewN ?_ _) | ((with_reducible refine Bk.far ?_ ?_ _); rotate_left; focus (simp only []; omega)) | ((with_reducible refine Bk.below ?_ (by with_reducible assumption) ?_); rotate_left; focus (go_size; done)))); done)
  rintro _ w1 ⟨rfl, hb1⟩; have hb1s := hb1.size; (try simp only [World.size_alloc, World.size_setCell, World.size_drew, World.heap_drewN] at hb1s); obtain ⟨hb1c, hb1f⟩ := bcell hb1; (try have : w.heap.size < w1.heap.size := by omega); (try have : w.heap.size + 1 < w1.heap.size := by omega); (try have : w.heap.size + 1 + 1 < w1.heap.size := by omega); (try have : w.heap.size + 1 + 1 + 1 < w1.heap.size := by omega)
  have k : Bk w1 (w.heap.size) 26 [.bool b, .int .u64 x1, .int .u64 x0, .int .i64 s] := by (repeat (first | (with_reducible assumption) | ((with_reducible refine Bk.new_ ?_); (first | rfl | (simp only [World.size_alloc, World.size_setCell, World.size_drew, World.heap_drewN]; done))) | (with_reducible refine Bk.alloc ?_ _) | (with_reducible refine Bk.drew ?_) | (with_reducible refine Bk.drewN ?_ _) | ((with_reducible refine Bk.far ?_ ?_ _); rotate_left; focus (simp only []; omega)) | ((with_reducible refine Bk.below ?_ (by with_reducible assumption) ?_); rotate_left; focus (go_size; done))))
  have k_0 := k.cell 0 rfl
  have k_1 := k.cell 1 rfl
  have k_2 := k.cell 2 rfl
  have k_3 := k.cell 3 rfl
  have k_4 := k.frozen 0
  have k_5 := k.frozen 1
  have k_6 := k.frozen 2
  have k_7 := k.frozen 3
  have kl := k.lt
  have r0 : Bk w1 (w.heap.size + 1) 26 [.bool false, .int .u64 0, .int .u64 0, .int .i64 0] := by (repeat (first | (with_reducible assumption) | ((with_reducible refine Bk.new_ ?_); (first | rfl | (simp only [World.size_alloc, World.size_setCell, World.size_drew, World.heap_drewN]; done))) | (with_reducible refine Bk.alloc ?_ _) | (with_reducible refine Bk.drew ?_) | (with_reducible refine Bk.drewN ?_ _) | ((with_reducible refine Bk.far ?_ ?_ _); rotate_left; focus (simp only []; omega)) | ((with_reducible refine Bk.below ?_ (by with_reducible assumption) ?_); rotate_left; focus (go_size; done))))
  have r0_0 := r0.cell 0 rfl
  have r0_1 := r0.cell 1 rfl
  have r0_2 := r0.cell 2 rfl
  have r0_3 := r0.cell 3 rfl
  have r0_4 := r0.frozen 0
  have r0_5 := r0.frozen 1
  have r0_6 := r0.frozen 2
  have r0_7 := r0.frozen 3
  have r0l := r0.lt
  clear hb1c hb1f k r0
  go_wp2_with fail
  refine bodyPost_ret (by simp [results, Try.results37, go_sem, *]; try rfl) rfl ?_
  exact ⟨rfl, by (repeat' (first | (with_reducible exact Below.refl _ _) | (with_reducible assumption) | (with_reducible refine Below.drew ?_) | (with_reducible refine below_drewN ?_ _) | ((with_reducible refine Below.alloc ?_ ?_ _); rotate_left; focus (go_size; done)) | ((with_reducible refine Below.setCell ?_ ?_ _); rotate_left; focus (go_size; done)) | ((with_reducible refine Below.trans ?_ (Below.mono (by with_reducible assumption) ?_)); rotate_left; focus (go_size; done))))⟩
set_option maxHeartbeats 2000000 in
theorem floor_ok (b : Bool) (c s : Nat) (hc : c < B34) (hs : s ≤ 18) (h : dform b c s = true) (w : World) : Calls Try.prog 35 #[.agg #[.bool b, .int .u64 (wd (c) 1), .int .u64 (wd (c) 0), .int .i64 s]] w fun e w' => e = .returned (.tuple #[.agg #[.bool (sg b (wholeV c s b)), .int .u64 (wd ((wholeV c s b)) 1), .int .u64 (wd ((wholeV c s b)) 0), .int .i64 0], .int .i64 0]) ∧ Below w.heap.size w w' := by
  have HF := Lib.hid (fun g W hg => formed_one b c s (Nat.lt_trans hc B34_lt) g W hg)
  have HW := Lib.hid (fun W => whole_any b c s b hc hs W)
  generalize wholeV c s b = V at *
  generalize sg b V = sb at *
  rw [h] at HF
  simp only [ferr, if_pos, if_neg, Bool.false_eq_true, if_true, if_false] at HF
  generalize wd V 0 = V0 at *
  generalize wd V 1 = V1 at *
  generalize wd c 0 = x0 at *
  generalize wd c 1 = x1 at *
  clear hc h
  go_enter Try.func35, Try.ntmps35
  go_wp2_with fail
  (with_reducible refine (HF.out _ _ ?hg).mono ?_)
  case hg => ((repeat (first | (with_reducible assumption) | ((with_reducible refine Bk.new_ ?_); (first | rfl | (simp only [World.size_alloc, World.size_setCell, World.size_drew, World.heap_drewN]; done))) | (with_reducible refine Bk.alloc ?_ _) | (with_reducible refine Bk.drew ?_) | (with_reducible refine Bk.drewN ?_ _) | ((with_reducible refine Bk.far ?_ ?_ _); rotate_left; focus (simp only []; omega)) | ((with_reducible refine Bk.below ?_ (by with_reducible assumption) ?_); rotate_left; focus (go_size; done)))); done)
  rintro _ w1 ⟨rfl, hb1⟩; have hb1s := hb1.size; (try simp only [World.size_alloc, World.size_setCell, World.size_drew, World.heap_drewN] at hb1s); obtain ⟨hb1c, hb1f⟩ := bcell hb1; (try have : w.heap.size < w1.heap.size := by omega); (try have : w.heap.size + 1 < w1.heap.size := by omega); (try have : w.heap.size + 1 + 1 < w1.heap.size := by omega); (try have : w.heap.size + 1 + 1 + 1 < w1.heap.size := by omega)
  have k : Bk w1 (w.heap.size) 26 [.bool b, .int .u64 x1, .int .u64 x0, .int .i64 (s : Int)] := by (repeat (first | (with_reducible assumption) | ((with_reducible refine Bk.new_ ?_); (first | rfl | (simp only [World.size_alloc, World.size_setCell, World.size_drew, World.heap_drewN]; done))) | (with_reducible refine Bk.alloc ?_ _) | (with_reducible refine Bk.drew ?_) | (with_reducible refine Bk.drewN ?_ _) | ((with_reducible refine Bk.far ?_ ?_ _); rotate_left; focus (simp only []; omega)) | ((with_reducible refine Bk.below ?_ (by with_reducible assumption) ?_); rotate_left; focus (go_size; done))))
  have k_0 := k.cell 0 rfl
  have k_1 := k.cell 1 rfl
  have k_2 := k.cell 2 rfl
  have k_3 := k.cell 3 rfl
  have k_4 := k.frozen 0
  have k_5 := k.frozen 1
  have k_6 := k.frozen 2
  have k_7 := k.frozen 3
  have kl := k.lt
  have r0 : Bk w1 (w.heap.size + 1) 26 [.bool false, .int .u64 0, .int .u64 0, .int .i64 0] := by (repeat (first | (with_reducible assumption) | ((with_reducible refine Bk.new_ ?_); (first | rfl | (simp only [World.size_alloc, World.size_setCell, World.size_drew, World.heap_drewN]; done))) | (with_reducible refine Bk.alloc ?_ _) | (with_reducible refine Bk.drew ?_) | (with_reducible refine Bk.drewN ?_ _) | ((with_reducible refine Bk.far ?_ ?_ _); rotate_left; focus (simp only []; omega)) | ((with_reducible refine Bk.below ?_ (by with_reducible assumption) ?_); rotate_left; focus (go_size; done))))
  have r0_0 := r0.cell 0 rfl
  have r0_1 := r0.cell 1 rfl
  have r0_2 := r0.cell 2 rfl
  have r0_3 := r0.cell 3 rfl
  have r0_4 := r0.frozen 0
  have r0_5 := r0.frozen 1
  have r0_6 := r0.frozen 2
  have r0_7 := r0.frozen 3
  have r0l := r0.lt
  clear hb1c hb1f
  go_wp2_with fail
  refine (HW.out _).mono ?_
  rintro _ w2 ⟨rfl, hb2⟩; have hb2s := hb2.size; (try simp only [World.size_alloc, World.size_setCell, World.size_drew, World.heap_drewN] at hb2s); obtain ⟨hb2c, hb2f⟩ := bcell hb2; (try have : w.heap.size < w2.heap.size := by omega); (try have : w.heap.size + 1 < w2.heap.size := by omega); (try have : w.heap.size + 1 + 1 < w2.heap.size := by omega); (try have : w.heap.size + 1 + 1 + 1 < w2.heap.size := by omega)
  have q0 : Bk w2 (w.heap.size + 1) 26 [.bool false, .int .u64 0, .int .u64 0, .int .i64 0] := by (repeat (first | (with_reducible assumption) | ((with_reducible refine Bk.new_ ?_); (first | rfl | (simp only [World.size_alloc, World.size_setCell, World.size_drew, World.heap_drewN]; done))) | (with_reducible refine Bk.alloc ?_ _) | (with_reducible refine Bk.drew ?_) | (with_reducible refine Bk.drewN ?_ _) | ((with_reducible refine Bk.far ?_ ?_ _); rotate_left; focus (simp only []; omega)) | ((with_reducible refine Bk.below ?_ (by with_reducible assumption) ?_); rotate_left; focus (go_size; done))))
  have q0_0 := q0.cell 0 rfl
  have q0_1 := q0.cell 1 rfl
  have q0_2 := q0.cell 2 rfl
  have q0_3 := q0.cell 3 rfl
  have q0_4 := q0.frozen 0
  have q0_5 := q0.frozen 1
  have q0_6 := q0.frozen 2
  have q0_7 := q0.frozen 3
  have q0l := q0.lt
  clear hb2c hb2f
  go_wp2_with fail
  refine bodyPost_ret (by simp [results, Try.results35, go_sem, *]; try rfl) rfl ?_
  exact ⟨rfl, by (repeat' (first | (with_reducible exact Below.refl _ _) | (with_reducible assumption) | (with_reducible refine Below.drew ?_) | (with_reducible refine below_drewN ?_ _) | ((with_reducible refine Below.alloc ?_ ?_ _); rotate_left; focus (go_size; done)) | ((with_reducible refine Below.setCell ?_ ?_ _); rotate_left; focus (go_size; done)) | ((with_reducible refine Below.trans ?_ (Below.mono (by with_reducible assumption) ?_)); rotate_left; focus (go_size; done))))⟩
set_option maxHeartbeats 2000000 in
theorem ceil_ok (b : Bool) (c s : Nat) (hc : c < B34) (hs : s ≤ 18) (h : dform b c s = true) (w : World) : Calls Try.prog 37 #[.agg #[.bool b, .int .u64 (wd (c) 1), .int .u64 (wd (c) 0), .int .i64 s]] w fun e w' => e = .returned (.tuple #[.agg #[.bool (sg b (wholeV c s (!b))), .int .u64 (wd ((wholeV c s (!b))) 1), .int .u64 (wd ((wholeV c s (!b))) 0), .int .i64 0], .int .i64 0]) ∧ Below w.heap.size w w' := by
  have HF := Lib.hid (fun g W hg => formed_one b c s (Nat.lt_trans hc B34_lt) g W hg)
  have HW := Lib.hid (fun W => whole_any b c s (!b) hc hs W)
  generalize wholeV c s (!b) = V at *
  generalize sg b V = sb at *
  rw [h] at HF
  simp only [ferr, if_pos, if_neg, Bool.false_eq_true, if_true, if_false] at HF
  generalize wd V 0 = V0 at *
  generalize wd V 1 = V1 at *
  generalize wd c 0 = x0 at *
  generalize wd c 1 = x1 at *
  clear hc h
  go_enter Try.func37, Try.ntmps37
  go_wp2_with fail
  (with_reducible refine (HF.out _ _ ?hg).mono ?_)
  case hg => ((repeat (first | (with_reducible assumption) | ((with_reducible refine Bk.new_ ?_); (first | rfl | (simp only [World.size_alloc, World.size_setCell, World.size_drew, World.heap_drewN]; done))) | (with_reducible refine Bk.alloc ?_ _) | (with_reducible refine Bk.drew ?_) | (with_reducible refine Bk.drewN ?_ _) | ((with_reducible refine Bk.far ?_ ?_ _); rotate_left; focus (simp only []; omega)) | ((with_reducible refine Bk.below ?_ (by with_reducible assumption) ?_); rotate_left; focus (go_size; done)))); done)
  rintro _ w1 ⟨rfl, hb1⟩; have hb1s := hb1.size; (try simp only [World.size_alloc, World.size_setCell, World.size_drew, World.heap_drewN] at hb1s); obtain ⟨hb1c, hb1f⟩ := bcell hb1; (try have : w.heap.size < w1.heap.size := by omega); (try have : w.heap.size + 1 < w1.heap.size := by omega); (try have : w.heap.size + 1 + 1 < w1.heap.size := by omega); (try have : w.heap.size + 1 + 1 + 1 < w1.heap.size := by omega)
  have k : Bk w1 (w.heap.size) 26 [.bool b, .int .u64 x1, .int .u64 x0, .int .i64 (s : Int)] := by (repeat (first | (with_reducible assumption) | ((with_reducible refine Bk.new_ ?_); (first | rfl | (simp only [World.size_alloc, World.size_setCell, World.size_drew, World.heap_drewN]; done))) | (with_reducible refine Bk.alloc ?_ _) | (with_reducible refine Bk.drew ?_) | (with_reducible refine Bk.drewN ?_ _) | ((with_reducible refine Bk.far ?_ ?_ _); rotate_left; focus (simp only []; omega)) | ((with_reducible refine Bk.below ?_ (by with_reducible assumption) ?_); rotate_left; focus (go_size; done))))
  have k_0 := k.cell 0 rfl
  have k_1 := k.cell 1 rfl
  have k_2 := k.cell 2 rfl
  have k_3 := k.cell 3 rfl
  have k_4 := k.frozen 0
  have k_5 := k.frozen 1
  have k_6 := k.frozen 2
  have k_7 := k.frozen 3
  have kl := k.lt
  have r0 : Bk w1 (w.heap.size + 1) 26 [.bool false, .int .u64 0, .int .u64 0, .int .i64 0] := by (repeat (first | (with_reducible assumption) | ((with_reducible refine Bk.new_ ?_); (first | rfl | (simp only [World.size_alloc, World.size_setCell, World.size_drew, World.heap_drewN]; done))) | (with_reducible refine Bk.alloc ?_ _) | (with_reducible refine Bk.drew ?_) | (with_reducible refine Bk.drewN ?_ _) | ((with_reducible refine Bk.far ?_ ?_ _); rotate_left; focus (simp only []; omega)) | ((with_reducible refine Bk.below ?_ (by with_reducible assumption) ?_); rotate_left; focus (go_size; done))))
  have r0_0 := r0.cell 0 rfl
  have r0_1 := r0.cell 1 rfl
  have r0_2 := r0.cell 2 rfl
  have r0_3 := r0.cell 3 rfl
  have r0_4 := r0.frozen 0
  have r0_5 := r0.frozen 1
  have r0_6 := r0.frozen 2
  have r0_7 := r0.frozen 3
  have r0l := r0.lt
  clear hb1c hb1f
  go_wp2_with fail
  refine (HW.out _).mono ?_
  rintro _ w2 ⟨rfl, hb2⟩; have hb2s := hb2.size; (try simp only [World.size_alloc, World.size_setCell, World.size_drew, World.heap_drewN] at hb2s); obtain ⟨hb2c, hb2f⟩ := bcell hb2; (try have : w.heap.size < w2.heap.size := by omega); (try have : w.heap.size + 1 < w2.heap.size := by omega); (try have : w.heap.size + 1 + 1 < w2.heap.size := by omega); (try have : w.heap.size + 1 + 1 + 1 < w2.heap.size := by omega)
  have q0 : Bk w2 (w.heap.size + 1) 26 [.bool false, .int .u64 0, .int .u64 0, .int .i64 0] := by (repeat (first | (with_reducible assumption) | ((with_reducible refine Bk.new_ ?_); (first | rfl | (simp only [World.size_alloc, World.size_setCell, World.size_drew, World.heap_drewN]; done))) | (with_reducible refine Bk.alloc ?_ _) | (with_reducible refine Bk.drew ?_) | (with_reducible refine Bk.drewN ?_ _) | ((with_reducible refine Bk.far ?_ ?_ _); rotate_left; focus (simp only []; omega)) | ((with_reducible refine Bk.below ?_ (by with_reducible assumption) ?_); rotate_left; focus (go_size; done))))
  have q0_0 := q0.cell 0 rfl
  have q0_1 := q0.cell 1 rfl
  have q0_2 := q0.cell 2 rfl
  have q0_3 := q0.cell 3 rfl
  have q0_4 := q0.frozen 0
  have q0_5 := q0.frozen 1
  have q0_6 := q0.frozen 2
  have q0_7 := q0.frozen 3
  have q0l := q0.lt
  clear hb2c hb2f
  go_wp2_with fail
  refine bodyPost_ret (by simp [results, Try.results37, go_sem, *]; try rfl) rfl ?_
  exact ⟨rfl, by (repeat' (first | (with_reducible exact Below.refl _ _) | (with_reducible assumption) | (with_reducible refine Below.drew ?_) | (with_reducible refine below_drewN ?_ _) | ((with_reducible refine Below.alloc ?_ ?_ _); rotate_left; focus (go_size; done)) | ((with_reducible refine Below.setCell ?_ ?_ _); rotate_left; focus (go_size; done)) | ((with_reducible refine Below.trans ?_ (Below.mono (by with_reducible assumption) ?_)); rotate_left; focus (go_size; done))))⟩
/-- rounded to n digits -/
def rdC (c s n : Nat) : Nat := if s ≤ n then c else stripC (near c (10 ^ (s - n))) n
def rdS (c s n : Nat) : Nat := if s ≤ n then s else stripS (near c (10 ^ (s - n))) n
theorem near_tenth {c k : Nat} (hk : 0 < k) (h : c < B34) : near c (10 ^ k) < B34 := by
  have h1 : c / 10 ^ k ≤ c / 10 := by
    refine Nat.div_le_div_left ?_ (by decide)
    calc (10 : Nat) = 10 ^ 1 := rfl
      _ ≤ 10 ^ k := Nat.pow_le_pow_right (by decide) hk
  have h2 : 100 ≤ B34 := by unfold B34; decide
  unfold near
  split <;> omega
set_option maxHeartbeats 2000000 in
theorem round2_arg (b : Bool) (c : Nat) (s n : Int) (hn : n < 0 ∨ 18 < n) (w : World) : Calls Try.prog 39 #[.agg #[.bool b, .int .u64 (wd (c) 1), .int .u64 (wd (c) 0), .int .i64 s], .int .i64 n] w fun e w' => e = .returned (.tuple #[.agg #[.bool false, .int .u64 0, .int .u64 0, .int .i64 0], .int .i64 1]) ∧ Below w.heap.size w w' := by
  generalize wd c 0 = x0 at *
  generalize wd c 1 = x1 at *
  rcases hn with hn | hn
  · go_enter Try.func39, Try.ntmps39
    go_wp2_with fail
    refine bodyPost_ret (by simp [results, Try.results39, go_sem, *]; try rfl) rfl ?_
    exact ⟨rfl, by (repeat' (first | (with_reducible exact Below.refl _ _) | (with_reducible assumption) | (with_reducible refine Below.drew ?_) | (with_reducible refine below_drewN ?_ _) | ((with_reducible refine Below.alloc ?_ ?_ _); rotate_left; focus (go_size; done)) | ((with_reducible refine Below.setCell ?_ ?_ _); rotate_left; focus (go_size; done)) | ((with_reducible refine Below.trans ?_ (Below.mono (by with_reducible assumption) ?_)); rotate_left; focus (go_size; done))))⟩
  · have h0 : ¬ n < 0 := by omega
    go_enter Try.func39, Try.ntmps39
    go_wp2_with fail
    refine bodyPost_ret (by simp [results, Try.results39, go_sem, *]; try rfl) rfl ?_
    exact ⟨rfl, by (repeat' (first | (with_reducible exact Below.refl _ _) | (with_reducible assumption) | (with_reducible refine Below.drew ?_) | (with_reducible refine below_drewN ?_ _) | ((with_reducible refine Below.alloc ?_ ?_ _); rotate_left; focus (go_size; done)) | ((with_reducible refine Below.setCell ?_ ?_ _); rotate_left; focus (go_size; done)) | ((with_reducible refine Below.trans ?_ (Below.mono (by with_reducible assumption) ?_)); rotate_left; focus (go_size; done))))⟩
set_option maxHeartbeats 2000000 in
theorem round2_bad (b : Bool) (c : Nat) (s n : Int) (hc : c < 2 ^ 128) (hn0 : 0 ≤ n) (hn1 : n ≤ 18) (h : dform b c s = false) (w : World) : Calls Try.prog 39 #[.agg #[.bool b, .int .u64 (wd (c) 1), .int .u64 (wd (c) 0), .int .i64 s], .int .i64 n] w fun e w' => e = .returned (.tuple #[.agg #[.bool false, .int .u64 0, .int .u64 0, .int .i64 0], .int .i64 2]) ∧ Below w.heap.size w w' := by
  have HF := Lib.hid (fun g W hg => formed_one b c s hc g W hg)
  have g0 : ¬ n < 0 := by omega
  have g1 : ¬ 18 < n := by omega
  rw [h] at HF
  simp only [ferr, if_pos, if_neg, Bool.false_eq_true, if_true, if_false] at HF
  generalize wd c 0 = x0 at *
  generalize wd c 1 = x1 at *
  clear hc h
  go_enter Try.func39, Try.ntmps39
  go_wp2_with fail
  (with_reducible refine (HF.out _ _ ?hg).mono ?_)
  case hg => ((repeat (first | (with_reducible assumption) | ((with_reducible refine Bk.new_ ?_); (first | rfl | (simp only [World.size_alloc, World.size_setCell, World.size_drew, World.heap_drewN]; done))) | (with_reducible refine Bk.alloc ?_ _) | (with_reducible refine Bk.drew ?_) | (with_reducible refine Bk.drewN ?_ _) | ((with_reducible refine Bk.far ?_ ?_ _); rotate_left; focus (simp only []; omega)) | ((with_reducible refine Bk.below ?_ (by with_reducible assumption) ?_); rotate_left; focus (go_size; done)))); done)
  rintro _ w1 ⟨rfl, hb1⟩; have hb1s := hb1.size; (try simp only [World.size_alloc, World.size_setCell, World.size_drew, World.heap_drewN] at hb1s); obtain ⟨hb1c, hb1f⟩ := bcell hb1; (try have : w.heap.size < w1.heap.size := by omega); (try have : w.heap.size + 1 < w1.heap.size := by omega); (try have : w.heap.size + 1 + 1 < w1.heap.size := by omega); (try have : w.heap.size + 1 + 1 + 1 < w1.heap.size := by omega)
  have k : Bk w1 (w.heap.size) 26 [.bool b, .int .u64 x1, .int .u64 x0, .int .i64 s] := by (repeat (first | (with_reducible assumption) | ((with_reducible refine Bk.new_ ?_); (first | rfl | (simp only [World.size_alloc, World.size_setCell, World.size_drew, World.heap_drewN]; done))) | (with_reducible refine Bk.alloc ?_ _) | (with_reducible refine Bk.drew ?_) | (with_reducible refine Bk.drewN ?_ _) | ((with_reducible refine Bk.far ?_ ?_ _); rotate_left; focus (simp only []; omega)) | ((with_reducible refine Bk.below ?_ (by with_reducible assumption) ?_); rotate_left; focus (go_size; done))))
  have k_0 := k.cell 0 rfl
  have k_1 := k.cell 1 rfl
  have k_2 := k.cell 2 rfl
  have k_3 := k.cell 3 rfl
  have k_4 := k.frozen 0
  have k_5 := k.frozen 1
  have k_6 := k.frozen 2
  have k_7 := k.frozen 3
  have kl := k.lt
  have r0 : Bk w1 (w.heap.size + 1) 26 [.bool false, .int .u64 0, .int .u64 0, .int .i64 0] := by (repeat (first | (with_reducible assumption) | ((with_reducible refine Bk.new_ ?_); (first | rfl | (simp only [World.size_alloc, World.size_setCell, World.size_drew, World.heap_drewN]; done))) | (with_reducible refine Bk.alloc ?_ _) | (with_reducible refine Bk.drew ?_) | (with_reducible refine Bk.drewN ?_ _) | ((with_reducible refine Bk.far ?_ ?_ _); rotate_left; focus (simp only []; omega)) | ((with_reducible refine Bk.below ?_ (by with_reducible assumption) ?_); rotate_left; focus (go_size; done))))
  have r0_0 := r0.cell 0 rfl
  have r0_1 := r0.cell 1 rfl
  have r0_2 := r0.cell 2 rfl
  have r0_3 := r0.cell 3 rfl
  have r0_4 := r0.frozen 0
  have r0_5 := r0.frozen 1
  have r0_6 := r0.frozen 2
  have r0_7 := r0.frozen 3
  have r0l := r0.lt
  clear hb1c hb1f k r0
  go_wp2_with fail
  refine bodyPost_ret (by simp [results, Try.results39, go_sem, *]; try rfl) rfl ?_
  exact ⟨rfl, by (repeat' (first | (with_reducible exact Below.refl _ _) | (with_reducible assumption) | (with_reducible refine Below.drew ?_) | (with_reducible refine below_drewN ?_ _) | ((with_reducible refine Below.alloc ?_ ?_ _); rotate_left; focus (go_size; done)) | ((with_reducible refine Below.setCell ?_ ?_ _); rotate_left; focus (go_size; done)) | ((with_reducible refine Below.trans ?_ (Below.mono (by with_reducible assumption) ?_)); rotate_left; focus (go_size; done))))⟩
set_option maxRecDepth 100000 in
set_option maxHeartbeats 4000000 in
theorem round2_ok (b : Bool) (c s n : Nat) (hc : c < B34) (hs : s ≤ 18) (hn : n ≤ 18) (h : dform b c s = true) (w : World) : Calls Try.prog 39 #[.agg #[.bool b, .int .u64 (wd (c) 1), .int .u64 (wd (c) 0), .int .i64 s], .int .i64 n] w fun e w' => e = .returned (.tuple #[.agg #[.bool (sg b (rdC c s n)), .int .u64 (wd ((rdC c s n)) 1), .int .u64 (wd ((rdC c s n)) 0), .int .i64 (rdS c s n)], .int .i64 0]) ∧ Below w.heap.size w w' := by
  have hc2 : c < 2 ^ 128 := Nat.lt_trans hc B34_lt
  have HF := Lib.hid (fun g W hg => formed_one b c s hc2 g W hg)
  have hsg : sg b c = b := by
    obtain ⟨t, _, _, _, h3, _⟩ := (dform_iff _ _ _).1 h
    by_cases h0 : c = 0
    · rw [h0, sg_zero, (h3 h0).1]
    · exact sg_pos h0
  rw [h] at HF
  simp only [ferr, if_pos, if_neg, Bool.false_eq_true, if_true, if_false] at HF
  have n0 : (0 : Int) ≤ (n : Int) := by omega
  have n1 : (n : Int) ≤ 18 := by omega
  by_cases hsn : s ≤ n
  · have e1 : rdC c s n = c := by unfold rdC; rw [if_pos hsn]
    have e2 : rdS c s n = s := by unfold rdS; rw [if_pos hsn]
    rw [e1, e2, hsg]
    have g1 : (s : Int) ≤ (n : Int) := by omega
    generalize wd c 0 = x0 at *
    generalize wd c 1 = x1 at *
    clear hc hc2 h e1 e2 hsg
    go_enter Try.func39, Try.ntmps39
    go_wp2_with fail
    (with_reducible refine (HF.out _ _ ?hg).mono ?_)
    case hg => ((repeat (first | (with_reducible assumption) | ((with_reducible refine Bk.new_ ?_); (first | rfl | (simp only [World.size_alloc, World.size_setCell, World.size_drew, World.heap_drewN]; done))) | (with_reducible refine Bk.alloc ?_ _) | (with_reducible refine Bk.drew ?_) | (with_reducible refine Bk.drewN ?_ _) | ((with_reducible refine Bk.far ?_ ?_ _); rotate_left; focus (simp only []; omega)) | ((with_reducible refine Bk.below ?_ (by with_reducible assumption) ?_); rotate_left; focus (go_size; done)))); done)
    rintro _ w1 ⟨rfl, hb1⟩; have hb1s := hb1.size; (try simp only [World.size_alloc, World.size_setCell, World.size_drew, World.heap_drewN] at hb1s); obtain ⟨hb1c, hb1f⟩ := bcell hb1; (try have : w.heap.size < w1.heap.size := by omega); (try have : w.heap.size + 1 < w1.heap.size := by omega); (try have : w.heap.size + 1 + 1 < w1.heap.size := by omega); (try have : w.heap.size + 1 + 1 + 1 < w1.heap.size := by omega)
    have k : Bk w1 (w.heap.size) 26 [.bool b, .int .u64 x1, .int .u64 x0, .int .i64 (s : Int)] := by (repeat (first | (with_reducible assumption) | ((with_reducible refine Bk.new_ ?_); (first | rfl | (simp only [World.size_alloc, World.size_setCell, World.size_drew, World.heap_drewN]; done))) | (with_reducible refine Bk.alloc ?_ _) | (with_reducible refine Bk.drew ?_) | (with_reducible refine Bk.drewN ?_ _) | ((with_reducible refine Bk.far ?_ ?_ _); rotate_left; focus (simp only []; omega)) | ((with_reducible refine Bk.below ?_ (by with_reducible assumption) ?_); rotate_left; focus (go_size; done))))
    have k_0 := k.cell 0 rfl
    have k_1 := k.cell 1 rfl
    have k_2 := k.cell 2 rfl
    have k_3 := k.cell 3 rfl
    have k_4 := k.frozen 0
    have k_5 := k.frozen 1
    have k_6 := k.frozen 2
    have k_7 := k.frozen 3
    have kl := k.lt
    have r0 : Bk w1 (w.heap.size + 1) 26 [.bool false, .int .u64 0, .int .u64 0, .int .i64 0] := by (repeat (first | (with_reducible assumption) | ((with_reducible refine Bk.new_ ?_); (first | rfl | (simp only [World.size_alloc, World.size_setCell, World.size_drew, World.heap_drewN]; done))) | (with_reducible refine Bk.alloc ?_ _) | (with_reducible refine Bk.drew ?_) | (with_reducible refine Bk.drewN ?_ _) | ((with_reducible refine Bk.far ?_ ?_ _); rotate_left; focus (simp only []; omega)) | ((with_reducible refine Bk.below ?_ (by with_reducible assumption) ?_); rotate_left; focus (go_size; done))))
    have r0_0 := r0.cell 0 rfl
    have r0_1 := r0.cell 1 rfl
    have r0_2 := r0.cell 2 rfl
    have r0_3 := r0.cell 3 rfl
    have r0_4 := r0.frozen 0
    have r0_5 := r0.frozen 1
    have r0_6 := r0.frozen 2
    have r0_7 := r0.frozen 3
    have r0l := r0.lt
    clear hb1c hb1f k r0
    go_wp2_with fail
    refine bodyPost_ret (by simp [results, Try.results39, go_sem, *]; try rfl) rfl ?_
    exact ⟨rfl, by (repeat' (first | (with_reducible exact Below.refl _ _) | (with_reducible assumption) | (with_reducible refine Below.drew ?_) | (with_reducible refine below_drewN ?_ _) | ((with_reducible refine Below.alloc ?_ ?_ _); rotate_left; focus (go_size; done)) | ((with_reducible refine Below.setCell ?_ ?_ _); rotate_left; focus (go_size; done)) | ((with_reducible refine Below.trans ?_ (Below.mono (by with_reducible assumption) ?_)); rotate_left; focus (go_size; done))))⟩
  · have e1 : rdC c s n = stripC (near c (10 ^ (s - n))) n := by unfold rdC; rw [if_neg hsn]
    have e2 : rdS c s n = stripS (near c (10 ^ (s - n))) n := by unfold rdS; rw [if_neg hsn]
    rw [e1, e2]
    have g1 : ¬ (s : Int) ≤ (n : Int) := by omega
    have gw : IntKind.i64.wrap ((s : Int) - (n : Int)) = (s : Int) - (n : Int) := IntWalk.i64_in _ (by omega)
    have hq : near c (10 ^ (s - n)) < B34 := near_tenth (by omega) hc
    have hq2 : near c (10 ^ (s - n)) < 2 ^ 128 := Nat.lt_trans hq B34_lt
    have HL := Lib.hid (fun W => long_any c hc2 W)
    have HR : Hid (∀ W, Calls Try.prog 74 #[.agg #[.int .u64 (wd c 0), .int .u64 (wd c 1), .int .u64 (wd c 2), .int .u64 (wd c 3)], .int .i64 ((s : Int) - (n : Int))] W fun e w' => e = .returned (.tuple #[.agg #[.int .u64 (wd (near c (10 ^ (s - n))) 1), .int .u64 (wd (near c (10 ^ (s - n))) 0)], .int .i64 0]) ∧ Below W.heap.size W w') := Lib.hid (fun W => by
      have := round_any c (Nat.lt_trans hc2 (by decide)) (s - n) (by omega) W
      rw [fit_id hq2, over_id hq2] at this
      rwa [show (s : Int) - (n : Int) = ((s - n : Nat) : Int) by omega])
    have HC := Lib.hid (fun W => canon_any b (near c (10 ^ (s - n))) n hq (by omega) W)
    generalize near c (10 ^ (s - n)) = q at *
    generalize stripC q n = C at *
    generalize stripS q n = S at *
    generalize sg b C = sb at *
    generalize wd c 0 = x0 at *
    generalize wd c 1 = x1 at *
    generalize wd c 2 = x2 at *
    generalize wd c 3 = x3 at *
    generalize wd q 0 = q0 at *
    generalize wd q 1 = q1 at *
    clear hc hc2 h e1 e2 hsg hq hq2 hsn
    go_enter Try.func39, Try.ntmps39
    go_wp2_with fail
    (with_reducible refine (HF.out _ _ ?hg).mono ?_)
    case hg => ((repeat (first | (with_reducible assumption) | ((with_reducible refine Bk.new_ ?_); (first | rfl | (simp only [World.size_alloc, World.size_setCell, World.size_drew, World.heap_drewN]; done))) | (with_reducible refine Bk.alloc ?_ _) | (with_reducible refine Bk.drew ?_) | (with_reducible refine Bk.drewN ?_ _) | ((with_reducible refine Bk.far ?_ ?_ _); rotate_left; focus (simp only []; omega)) | ((with_reducible refine Bk.below ?_ (by with_reducible assumption) ?_); rotate_left; focus (go_size; done)))); done)
    rintro _ w1 ⟨rfl, hb1⟩; have hb1s := hb1.size; (try simp only [World.size_alloc, World.size_setCell, World.size_drew, World.heap_drewN] at hb1s); obtain ⟨hb1c, hb1f⟩ := bcell hb1; (try have : w.heap.size < w1.heap.size := by omega); (try have : w.heap.size + 1 < w1.heap.size := by omega); (try have : w.heap.size + 1 + 1 < w1.heap.size := by omega); (try have : w.heap.size + 1 + 1 + 1 < w1.heap.size := by omega)
    have k : Bk w1 (w.heap.size) 26 [.bool b, .int .u64 x1, .int .u64 x0, .int .i64 (s : Int)] := by (repeat (first | (with_reducible assumption) | ((with_reducible refine Bk.new_ ?_); (first | rfl | (simp only [World.size_alloc, World.size_setCell, World.size_drew, World.heap_drewN]; done))) | (with_reducible refine Bk.alloc ?_ _) | (with_reducible refine Bk.drew ?_) | (with_reducible refine Bk.drewN ?_ _) | ((with_reducible refine Bk.far ?_ ?_ _); rotate_left; focus (simp only []; omega)) | ((with_reducible refine Bk.below ?_ (by with_reducible assumption) ?_); rotate_left; focus (go_size; done))))
    have k_0 := k.cell 0 rfl
    have k_1 := k.cell 1 rfl
    have k_2 := k.cell 2 rfl
    have k_3 := k.cell 3 rfl
    have k_4 := k.frozen 0
    have k_5 := k.frozen 1
    have k_6 := k.frozen 2
    have k_7 := k.frozen 3
    have kl := k.lt
    have r0 : Bk w1 (w.heap.size + 1) 26 [.bool false, .int .u64 0, .int .u64 0, .int .i64 0] := by (repeat (first | (with_reducible assumption) | ((with_reducible refine Bk.new_ ?_); (first | rfl | (simp only [World.size_alloc, World.size_setCell, World.size_drew, World.heap_drewN]; done))) | (with_reducible refine Bk.alloc ?_ _) | (with_reducible refine Bk.drew ?_) | (with_reducible refine Bk.drewN ?_ _) | ((with_reducible refine Bk.far ?_ ?_ _); rotate_left; focus (simp only []; omega)) | ((with_reducible refine Bk.below ?_ (by with_reducible assumption) ?_); rotate_left; focus (go_size; done))))
    have r0_0 := r0.cell 0 rfl
    have r0_1 := r0.cell 1 rfl
    have r0_2 := r0.cell 2 rfl
    have r0_3 := r0.cell 3 rfl
    have r0_4 := r0.frozen 0
    have r0_5 := r0.frozen 1
    have r0_6 := r0.frozen 2
    have r0_7 := r0.frozen 3
    have r0l := r0.lt
    clear hb1c hb1f
    go_upto_region 8 with fail
    go_cut [7, 8] (fun s7 s8 wx => ∃ g7 : Nat, s7 = .pointer (some ⟨g7, 0, none⟩) ∧ s8 = .int .i64 0 ∧ Bk wx g7 24 [.int .u64 q1, .int .u64 q0] ∧ Bk wx w.heap.size 26 [.bool b, .int .u64 x1, .int .u64 x0, .int .i64 s] ∧ Bk wx (w.heap.size + 1) 26 [.bool false, .int .u64 0, .int .u64 0, .int .i64 0] ∧ Below w.heap.size w wx)
    case first =>
      go_region_held3 (fun w' => (w'.cell? ⟨w.heap.size, 0, none⟩ = some (.bool b) ∧ w'.cell? ⟨w.heap.size, 1, none⟩ = some (.int .u64 x1) ∧ w'.cell? ⟨w.heap.size, 2, none⟩ = some (.int .u64 x0) ∧ w'.cell? ⟨w.heap.size, 3, none⟩ = some (.int .i64 ((s : Int))))) (first | (first | (go_keep; done) | (simp [go_sem]; done) | ((try dsimp only); (repeat' apply And.intro) <;> (first | (with_reducible assumption) | ((rw [World.cell?_alloc_lt _ _ _ (by show _ < _; omega)]); go_split_ands; (first | with_reducible assumption | (refine (World.cell?_alloc_lt _ _ _ (by show _ < _; omega)).symm.trans ?_; with_reducible assumption))) | ((rw [World.cell?_setCell_other _ _ _ _ (by intro e; injection e; omega)]); with_reducible assumption) | (go_keep; done) | (simp [go_sem]; done) | (simp (disch := go_size) [*, World.cell?_alloc_some, World.cell?_setCell_far]; done)))) | ((refine ⟨Bk.cell (t := 26) (cs := [.bool b, .int .u64 x1, .int .u64 x0, .int .i64 ((s : Int))]) ?_ 0 rfl, Bk.cell (t := 26) (cs := [.bool b, .int .u64 x1, .int .u64 x0, .int .i64 ((s : Int))]) ?_ 1 rfl, Bk.cell (t := 26) (cs := [.bool b, .int .u64 x1, .int .u64 x0, .int .i64 ((s : Int))]) ?_ 2 rfl, Bk.cell (t := 26) (cs := [.bool b, .int .u64 x1, .int .u64 x0, .int .i64 ((s : Int))]) ?_ 3 rfl⟩) <;> ((repeat (first | (with_reducible assumption) | ((with_reducible refine Bk.new_ ?_); (first | rfl | (simp only [World.size_alloc, World.size_setCell, World.size_drew, World.heap_drewN]; done))) | (with_reducible refine Bk.alloc ?_ _) | (with_reducible refine Bk.drew ?_) | (with_reducible refine Bk.drewN ?_ _) | ((with_reducible refine Bk.far ?_ ?_ _); rotate_left; focus (simp only []; omega)) | ((with_reducible refine Bk.below ?_ (by with_reducible assumption) ?_); rotate_left; focus (go_size; done)))); done))) (first | (go_at_call 62; (with_reducible refine (HL.out _).mono ?_); rintro _ w2 ⟨rfl, hb2⟩; have hb2s := hb2.size; (try simp only [World.size_alloc, World.size_setCell, World.size_drew, World.heap_drewN] at hb2s); obtain ⟨hb2c, hb2f⟩ := bcell hb2; (try have : w.heap.size < w2.heap.size := by omega); (try have : w.heap.size + 1 < w2.heap.size := by omega); (try have : w.heap.size + 1 + 1 < w2.heap.size := by omega); (try have : w.heap.size + 1 + 1 + 1 < w2.heap.size := by omega); (try have : w1.heap.size < w2.heap.size := by omega); (try have : w1.heap.size + 1 < w2.heap.size := by omega); (try have : w1.heap.size + 1 + 1 < w2.heap.size := by omega); (try have : w1.heap.size + 1 + 1 + 1 < w2.heap.size := by omega)) | (go_at_call 74; (with_reducible refine (HR.out _).mono ?_); rintro _ w3 ⟨rfl, hb3⟩; have hb3s := hb3.size; (try simp only [World.size_alloc, World.size_setCell, World.size_drew, World.heap_drewN] at hb3s); obtain ⟨hb3c, hb3f⟩ := bcell hb3; (try have : w.heap.size < w3.heap.size := by omega); (try have : w.heap.size + 1 < w3.heap.size := by omega); (try have : w.heap.size + 1 + 1 < w3.heap.size := by omega); (try have : w.heap.size + 1 + 1 + 1 < w3.heap.size := by omega); (try have : w1.heap.size < w3.heap.size := by omega); (try have : w1.heap.size + 1 < w3.heap.size := by omega); (try have : w1.heap.size + 1 + 1 < w3.heap.size := by omega); (try have : w1.heap.size + 1 + 1 + 1 < w3.heap.size := by omega); (try have : w2.heap.size < w3.heap.size := by omega); (try have : w2.heap.size + 1 < w3.heap.size := by omega); (try have : w2.heap.size + 1 + 1 < w3.heap.size := by omega); (try have : w2.heap.size + 1 + 1 + 1 < w3.heap.size := by omega)))
      all_goals
        go_wp2_with fail
        go_meet
        exact ⟨_, rfl, rfl, by first | ((repeat (first | (with_reducible assumption) | ((with_reducible refine Bk.new_ ?_); (first | rfl | (simp only [World.size_alloc, World.size_setCell, World.size_drew, World.heap_drewN]; done))) | (with_reducible refine Bk.alloc ?_ _) | (with_reducible refine Bk.drew ?_) | (with_reducible refine Bk.drewN ?_ _) | ((with_reducible refine Bk.far ?_ ?_ _); rotate_left; focus (simp only []; omega)) | ((with_reducible refine Bk.below ?_ (by with_reducible assumption) ?_); rotate_left; focus (go_size; done)))); done) | ((repeat (first | (with_reducible refine Bk.alloc ?_ _) | (with_reducible refine Bk.drew ?_) | ((with_reducible refine Bk.far ?_ ?_ _); rotate_left; focus (simp only []; omega)))); (refine ((?_ : Bk _ _ _ [.int .u64 0, .int .u64 0]).set_ 0 _).set_ 1 _); (repeat (first | (with_reducible assumption) | ((with_reducible refine Bk.new_ ?_); (first | rfl | (simp only [World.size_alloc, World.size_setCell, World.size_drew, World.heap_drewN]; done))) | (with_reducible refine Bk.alloc ?_ _) | (with_reducible refine Bk.drew ?_) | (with_reducible refine Bk.drewN ?_ _) | ((with_reducible refine Bk.far ?_ ?_ _); rotate_left; focus (simp only []; omega)) | ((with_reducible refine Bk.below ?_ (by with_reducible assumption) ?_); rotate_left; focus (go_size; done))))), by (repeat (first | (with_reducible assumption) | ((with_reducible refine Bk.new_ ?_); (first | rfl | (simp only [World.size_alloc, World.size_setCell, World.size_drew, World.heap_drewN]; done))) | (with_reducible refine Bk.alloc ?_ _) | (with_reducible refine Bk.drew ?_) | (with_reducible refine Bk.drewN ?_ _) | ((with_reducible refine Bk.far ?_ ?_ _); rotate_left; focus (simp only []; omega)) | ((with_reducible refine Bk.below ?_ (by with_reducible assumption) ?_); rotate_left; focus (go_size; done)))), by (repeat (first | (with_reducible assumption) | ((with_reducible refine Bk.new_ ?_); (first | rfl | (simp only [World.size_alloc, World.size_setCell, World.size_drew, World.heap_drewN]; done))) | (with_reducible refine Bk.alloc ?_ _) | (with_reducible refine Bk.drew ?_) | (with_reducible refine Bk.drewN ?_ _) | ((with_reducible refine Bk.far ?_ ?_ _); rotate_left; focus (simp only []; omega)) | ((with_reducible refine Bk.below ?_ (by with_reducible assumption) ?_); rotate_left; focus (go_size; done)))), by (repeat' (first | (with_reducible exact Below.refl _ _) | (with_reducible assumption) | (with_reducible refine Below.drew ?_) | (with_reducible refine below_drewN ?_ _) | ((with_reducible refine Below.alloc ?_ ?_ _); rotate_left; focus (go_size; done)) | ((with_reducible refine Below.setCell ?_ ?_ _); rotate_left; focus (go_size; done)) | ((with_reducible refine Below.trans ?_ (Below.mono (by with_reducible assumption) ?_)); rotate_left; focus (go_size; done))))⟩
    case rest =>
      obtain ⟨g7, rfl, rfl, k7, ka, kr, kw⟩ := hcut
      have c70 := k7.cell 0 rfl
      have c71 := k7.cell 1 rfl
      have k7l := k7.lt
      have kal := ka.lt
      have krl := kr.lt
      have ka_0 := ka.cell 0 rfl
      have ka_1 := ka.cell 1 rfl
      have ka_2 := ka.cell 2 rfl
      have ka_3 := ka.cell 3 rfl
      have ka_4 := ka.frozen 0
      have ka_5 := ka.frozen 1
      have ka_6 := ka.frozen 2
      have ka_7 := ka.frozen 3
      clear hb1 k k_0 k_1 k_2 k_3 k_4 k_5 k_6 k_7 r0 r0_0 r0_1 r0_2 r0_3 r0_4 r0_5 r0_6 r0_7
      go_wp2_with fail
      refine (HC.out _).mono ?_
      rintro _ w5 ⟨rfl, hb5⟩; have hb5s := hb5.size; (try simp only [World.size_alloc, World.size_setCell, World.size_drew, World.heap_drewN] at hb5s); obtain ⟨hb5c, hb5f⟩ := bcell hb5; (try have : w.heap.size < w5.heap.size := by omega); (try have : w.heap.size + 1 < w5.heap.size := by omega); (try have : w.heap.size + 1 + 1 < w5.heap.size := by omega); (try have : w.heap.size + 1 + 1 + 1 < w5.heap.size := by omega)
      have jr : Bk w5 (w.heap.size + 1) 26 [.bool false, .int .u64 0, .int .u64 0, .int .i64 0] := by (repeat (first | (with_reducible assumption) | ((with_reducible refine Bk.new_ ?_); (first | rfl | (simp only [World.size_alloc, World.size_setCell, World.size_drew, World.heap_drewN]; done))) | (with_reducible refine Bk.alloc ?_ _) | (with_reducible refine Bk.drew ?_) | (with_reducible refine Bk.drewN ?_ _) | ((with_reducible refine Bk.far ?_ ?_ _); rotate_left; focus (simp only []; omega)) | ((with_reducible refine Bk.below ?_ (by with_reducible assumption) ?_); rotate_left; focus (go_size; done))))
      have jr_0 := jr.cell 0 rfl
      have jr_1 := jr.cell 1 rfl
      have jr_2 := jr.cell 2 rfl
      have jr_3 := jr.cell 3 rfl
      have jr_4 := jr.frozen 0
      have jr_5 := jr.frozen 1
      have jr_6 := jr.frozen 2
      have jr_7 := jr.frozen 3
      clear hb5c hb5f
      go_wp2_with fail
      refine bodyPost_ret (by simp [results, Try.results39, go_sem, *]; try rfl) rfl ?_
      exact ⟨rfl, by (repeat' (first | (with_reducible exact Below.refl _ _) | (with_reducible assumption) | (with_reducible refine Below.drew ?_) | (with_reducible refine below_drewN ?_ _) | ((with_reducible refine Below.alloc ?_ ?_ _); rotate_left; focus (go_size; done)) | ((with_reducible refine Below.setCell ?_ ?_ _); rotate_left; focus (go_size; done)) | ((with_reducible refine Below.trans ?_ (Below.mono (by with_reducible assumption) ?_)); rotate_left; focus (go_size; done))))⟩
end Go.Proofs.Ythkgjodidkpaeaa
