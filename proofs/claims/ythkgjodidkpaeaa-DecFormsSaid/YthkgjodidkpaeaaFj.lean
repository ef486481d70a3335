/- The program: the sum of two decimals; the fixed fact. -/
import Derived.Test.YthkgjodidkpaeaaFh
import Derived.Test.YthkgjodidkpaeaaFf
import Derived.Test.YthkgjodidkpaeaaFe
import Derived.Test.YthkgjodidkpaeaaFp
import Derived.Test.YthkgjodidkpaeaaFm
set_option linter.unusedSimpArgs false
set_option linter.unusedVariables false
namespace Go.Proofs.Ythkgjodidkpaeaa
open Go.RowKit

set_option maxHeartbeats 2000000 in
theorem add_bad (b : Bool) (c : Nat) (s : Int) (b' : Bool) (c' : Nat) (s' : Int) (hc : c < 2 ^ 128) (hc' : c' < 2 ^ 128) (h : (dform b c s && dform b' c' s') = false) (w : World) :
    Calls Try.prog 15 #[.agg #[.bool b, .int .u64 (wd (c) 1), .int .u64 (wd (c) 0), .int .i64 s], .agg #[.bool b', .int .u64 (wd (c') 1), .int .u64 (wd (c') 0), .int .i64 s']] w fun e w' => e = .returned (.tuple #[.agg #[.bool false, .int .u64 0, .int .u64 0, .int .i64 0], .int .i64 2]) ∧ Below w.heap.size w w' := by
  have HF := Lib.hid (fun g W hg => formed_two b c s hc b' c' s' hc' g W hg)
  rw [h] at HF
  simp only [ferr, if_pos, if_neg, Bool.false_eq_true, if_true, if_false] at HF
  generalize wd c 0 = x0 at *
  generalize wd c 1 = x1 at *
  generalize wd c' 0 = y0 at *
  generalize wd c' 1 = y1 at *
  clear hc hc' h
  go_enter Try.func15, Try.ntmps15
  go_wp2_with fail
  (with_reducible refine (HF.out _ _ ?hg).mono ?_)
  case hg => ((repeat (first | (with_reducible assumption) | ((with_reducible refine Bk.new_ ?_); (first | rfl | (simp only [World.size_alloc, World.size_setCell, World.size_drew, World.heap_drewN]; done))) | (with_reducible refine Bk.alloc ?_ _) | (with_reducible refine Bk.drew ?_) | (with_reducible refine Bk.drewN ?_ _) | ((with_reducible refine Bk.far ?_ ?_ _); rotate_left; focus (simp only []; omega)) | ((with_reducible refine Bk.below ?_ (by with_reducible assumption) ?_); rotate_left; focus (go_size; done)))); done)
  rintro _ w1 ⟨rfl, hb1⟩; have hb1s := hb1.size; (try simp only [World.size_alloc, World.size_setCell, World.size_drew, World.heap_drewN] at hb1s); obtain ⟨hb1c, hb1f⟩ := bcell hb1; (try have : w.heap.size < w1.heap.size := by omega); (try have : w.heap.size + 1 < w1.heap.size := by omega); (try have : w.heap.size + 1 + 1 < w1.heap.size := by omega); (try have : w.heap.size + 1 + 1 + 1 < w1.heap.size := by omega)
  have ka : Bk w1 (w.heap.size) 26 [.bool b, .int .u64 x1, .int .u64 x0, .int .i64 s] := by (repeat (first | (with_reducible assumption) | ((with_reducible refine Bk.new_ ?_); (first | rfl | (simp only [World.size_alloc, World.size_setCell, World.size_drew, World.heap_drewN]; done))) | (with_reducible refine Bk.alloc ?_ _) | (with_reducible refine Bk.drew ?_) | (with_reducible refine Bk.drewN ?_ _) | ((with_reducible refine Bk.far ?_ ?_ _); rotate_left; focus (simp only []; omega)) | ((with_reducible refine Bk.below ?_ (by with_reducible assumption) ?_); rotate_left; focus (go_size; done))))
  have ka_0 := ka.cell 0 rfl
  have ka_1 := ka.cell 1 rfl
  have ka_2 := ka.cell 2 rfl
  have ka_3 := ka.cell 3 rfl
  have ka_4 := ka.frozen 0
  have ka_5 := ka.frozen 1
  have ka_6 := ka.frozen 2
  have ka_7 := ka.frozen 3
  have kal := ka.lt
  have kb : Bk w1 (w.heap.size + 1) 26 [.bool b', .int .u64 y1, .int .u64 y0, .int .i64 s'] := by (repeat (first | (with_reducible assumption) | ((with_reducible refine Bk.new_ ?_); (first | rfl | (simp only [World.size_alloc, World.size_setCell, World.size_drew, World.heap_drewN]; done))) | (with_reducible refine Bk.alloc ?_ _) | (with_reducible refine Bk.drew ?_) | (with_reducible refine Bk.drewN ?_ _) | ((with_reducible refine Bk.far ?_ ?_ _); rotate_left; focus (simp only []; omega)) | ((with_reducible refine Bk.below ?_ (by with_reducible assumption) ?_); rotate_left; focus (go_size; done))))
  have kb_0 := kb.cell 0 rfl
  have kb_1 := kb.cell 1 rfl
  have kb_2 := kb.cell 2 rfl
  have kb_3 := kb.cell 3 rfl
  have kb_4 := kb.frozen 0
  have kb_5 := kb.frozen 1
  have kb_6 := kb.frozen 2
  have kb_7 := kb.frozen 3
  have kbl := kb.lt
  have kr : Bk w1 (w.heap.size + 1 + 1) 26 [.bool false, .int .u64 0, .int .u64 0, .int .i64 0] := by (repeat (first | (with_reducible assumption) | ((with_reducible refine Bk.new_ ?_); (first | rfl | (simp only [World.size_alloc, World.size_setCell, World.size_drew, World.heap_drewN]; done))) | (with_reducible refine Bk.alloc ?_ _) | (with_reducible refine Bk.drew ?_) | (with_reducible refine Bk.drewN ?_ _) | ((with_reducible refine Bk.far ?_ ?_ _); rotate_left; focus (simp only []; omega)) | ((with_reducible refine Bk.below ?_ (by with_reducible assumption) ?_); rotate_left; focus (go_size; done))))
  have kr_0 := kr.cell 0 rfl
  have kr_1 := kr.cell 1 rfl
  have kr_2 := kr.cell 2 rfl
  have kr_3 := kr.cell 3 rfl
  have kr_4 := kr.frozen 0
  have kr_5 := kr.frozen 1
  have kr_6 := kr.frozen 2
  have kr_7 := kr.frozen 3
  have krl := kr.lt
  clear hb1c hb1f ka kb kr
  go_wp2_with fail
  refine bodyPost_ret (by simp [results, Try.results15, go_sem, *]; try rfl) rfl ?_
  exact ⟨rfl, by (repeat' (first | (with_reducible exact Below.refl _ _) | (with_reducible assumption) | (with_reducible refine Below.drew ?_) | (with_reducible refine below_drewN ?_ _) | ((with_reducible refine Below.alloc ?_ ?_ _); rotate_left; focus (go_size; done)) | ((with_reducible refine Below.setCell ?_ ?_ _); rotate_left; focus (go_size; done)) | ((with_reducible refine Below.trans ?_ (Below.mono (by with_reducible assumption) ?_)); rotate_left; focus (go_size; done))))⟩
theorem sgn_same {b b' : Bool} {x y : Nat} (h : b = b') : sgn b x b' y = b ∧ sab b x b' y = x + y := by unfold sgn sab; rw [if_pos h, if_pos h]; exact ⟨rfl, rfl⟩
theorem sgn_ge {b b' : Bool} {x y : Nat} (h : b ≠ b') (hl : y ≤ x) : sgn b x b' y = b ∧ sab b x b' y = x - y := by unfold sgn sab; rw [if_neg h, if_neg h, if_pos hl, if_pos hl]; exact ⟨rfl, rfl⟩
theorem sgn_lt {b b' : Bool} {x y : Nat} (h : b ≠ b') (hl : x < y) : sgn b x b' y = b' ∧ sab b x b' y = y - x := by unfold sgn sab; rw [if_neg h, if_neg h, if_neg (by omega), if_neg (by omega)]; exact ⟨rfl, rfl⟩
theorem cmpN_ge {x y : Nat} (h : y ≤ x) : 0 ≤ cmpN x y := by unfold cmpN; split <;> (try split) <;> omega
theorem cmpN_lt {x y : Nat} (h : x < y) : cmpN x y < 0 := by unfold cmpN; rw [if_neg (by omega), if_pos h]; decide
/-- the sum in the units of the greater scale -/
theorem add_units (b b' : Bool) (c c' s s' m : Nat) (hs : s ≤ 18) (hs' : s' ≤ 18) (hm : m = max s s') :
    FitC (sab b (unit c s) b' (unit c' s')) (10 ^ 18) = FitC (sab b (c * 10 ^ (m - s)) b' (c' * 10 ^ (m - s'))) (10 ^ m) ∧ FitS (sab b (unit c s) b' (unit c' s')) (10 ^ 18) = FitS (sab b (c * 10 ^ (m - s)) b' (c' * 10 ^ (m - s'))) (10 ^ m) ∧
    FitE (sab b (unit c s) b' (unit c' s')) (10 ^ 18) = FitE (sab b (c * 10 ^ (m - s)) b' (c' * 10 ^ (m - s'))) (10 ^ m) ∧ sgn b (unit c s) b' (unit c' s') = sgn b (c * 10 ^ (m - s)) b' (c' * 10 ^ (m - s')) := by
  obtain ⟨e1, e2⟩ := sum_units b b' c c' s s' m (by omega) (by omega) (by omega)
  obtain ⟨e3, e4, e5⟩ := fit_units (sab b (c * 10 ^ (m - s)) b' (c' * 10 ^ (m - s'))) m (by omega)
  rw [e1, e2, e3, e4, e5]
  exact ⟨rfl, rfl, rfl, rfl⟩
set_option maxRecDepth 100000 in
set_option maxHeartbeats 8000000 in
theorem add_ok (b : Bool) (c s : Nat) (b' : Bool) (c' s' : Nat) (h : dform b c s = true) (h' : dform b' c' s' = true) (hc : c < B34) (hc' : c' < B34) (hs : s ≤ 18) (hs' : s' ≤ 18) (w : World) :
    Calls Try.prog 15 #[.agg #[.bool b, .int .u64 (wd (c) 1), .int .u64 (wd (c) 0), .int .i64 s], .agg #[.bool b', .int .u64 (wd (c') 1), .int .u64 (wd (c') 0), .int .i64 s']] w fun e w' => e = .returned (.tuple #[.agg #[.bool (sg (sgn b (unit c s) b' (unit c' s')) (FitC ((sab b (unit c s) b' (unit c' s'))) (10 ^ 18))), .int .u64 (wd (FitC ((sab b (unit c s) b' (unit c' s'))) (10 ^ 18)) 1), .int .u64 (wd (FitC ((sab b (unit c s) b' (unit c' s'))) (10 ^ 18)) 0), .int .i64 (FitS ((sab b (unit c s) b' (unit c' s'))) (10 ^ 18))], .int .i64 (FitE (sab b (unit c s) b' (unit c' s')) (10 ^ 18))]) ∧ Below w.heap.size w w' := by
  obtain ⟨m, hm⟩ : ∃ m, m = max s s' := ⟨_, rfl⟩
  obtain ⟨e1, e2, e3, e4⟩ := add_units b b' c c' s s' m hs hs' hm
  rw [e1, e2, e3, e4]
  have HF := Lib.hid (fun g W hg => formed_two b c s (Nat.lt_trans hc B34_lt) b' c' s' (Nat.lt_trans hc' B34_lt) g W hg)
  rw [h, h'] at HF
  simp only [ferr, Bool.and_true, if_true] at HF
  have HB := Lib.hid (fun W => both_any b c s b' c' s' m hc hc' hs hs' hm W)
  have hX : c * 10 ^ (m - s) < 10 ^ 52 := scaled_lt hc (by omega)
  have hY : c' * 10 ^ (m - s') < 10 ^ 52 := scaled_lt hc' (by omega)
  generalize c * 10 ^ (m - s) = X at *
  generalize c' * 10 ^ (m - s') = Y at *
  have m76 : m ≤ 76 := by omega
  have hX2 : X < 2 ^ 256 := Nat.lt_trans hX (by decide)
  have hY2 : Y < 2 ^ 256 := Nat.lt_trans hY (by decide)
  have hXY : X + Y < 2 ^ 256 := Nat.lt_trans (Nat.add_lt_add hX hY) (by decide)
  have m0 : (0 : Int) ≤ (m : Int) := by omega
  clear e1 e2 e3 e4 h h' hm hX hY
  obtain ⟨sI, hsI⟩ : ∃ sI : Int, sI = (s : Int) := ⟨_, rfl⟩
  obtain ⟨sJ, hsJ⟩ : ∃ sJ : Int, sJ = (s' : Int) := ⟨_, rfl⟩
  rw [← hsI, ← hsJ] at HF HB ⊢
  clear hsI hsJ hs hs'
  obtain ⟨s, rfl⟩ : ∃ s, s = sI := ⟨_, rfl⟩
  obtain ⟨s', rfl⟩ : ∃ s', s' = sJ := ⟨_, rfl⟩
  by_cases hb : b = b'
  · obtain ⟨e1, e2⟩ := sgn_same (x := X) (y := Y) hb
    rw [e1, e2]
    have HP := Lib.hid (fun W => plus4_any X Y hXY W)
    have HT := Lib.hid (fun W => fit_any b (X + Y) m hXY m76 W)
    have hbe : (b == b') = true := by simpa using hb
    clear e1 e2 hX2 hY2 hb
    generalize FitC (X + Y) (10 ^ m) = C at *
    generalize FitS (X + Y) (10 ^ m) = S at *
    generalize FitE (X + Y) (10 ^ m) = E at *
    generalize X + Y = U at *
    generalize wd X 0 = p0 at *
    generalize wd X 1 = p1 at *
    generalize wd X 2 = p2 at *
    generalize wd X 3 = p3 at *
    generalize wd Y 0 = q0 at *
    generalize wd Y 1 = q1 at *
    generalize wd Y 2 = q2 at *
    generalize wd Y 3 = q3 at *
    generalize wd c 0 = x0 at *
    generalize wd c 1 = x1 at *
    generalize wd c' 0 = y0 at *
    generalize wd c' 1 = y1 at *
    clear hc hc'
    go_enter Try.func15, Try.ntmps15
    go_wp2_with fail
    (with_reducible refine (HF.out _ _ ?hg).mono ?_)
    case hg => ((repeat (first | (with_reducible assumption) | ((with_reducible refine Bk.new_ ?_); (first | rfl | (simp only [World.size_alloc, World.size_setCell, World.size_drew, World.heap_drewN]; done))) | (with_reducible refine Bk.alloc ?_ _) | (with_reducible refine Bk.drew ?_) | (with_reducible refine Bk.drewN ?_ _) | ((with_reducible refine Bk.far ?_ ?_ _); rotate_left; focus (simp only []; omega)) | ((with_reducible refine Bk.below ?_ (by with_reducible assumption) ?_); rotate_left; focus (go_size; done)))); done)
    rintro _ w1 ⟨rfl, hb1⟩; have hb1s := hb1.size; (try simp only [World.size_alloc, World.size_setCell, World.size_drew, World.heap_drewN] at hb1s); obtain ⟨hb1c, hb1f⟩ := bcell hb1; (try have : w.heap.size < w1.heap.size := by omega); (try have : w.heap.size + 1 < w1.heap.size := by omega); (try have : w.heap.size + 1 + 1 < w1.heap.size := by omega); (try have : w.heap.size + 1 + 1 + 1 < w1.heap.size := by omega)
    have ka : Bk w1 (w.heap.size) 26 [.bool b, .int .u64 x1, .int .u64 x0, .int .i64 s] := by (repeat (first | (with_reducible assumption) | ((with_reducible refine Bk.new_ ?_); (first | rfl | (simp only [World.size_alloc, World.size_setCell, World.size_drew, World.heap_drewN]; done))) | (with_reducible refine Bk.alloc ?_ _) | (with_reducible refine Bk.drew ?_) | (with_reducible refine Bk.drewN ?_ _) | ((with_reducible refine Bk.far ?_ ?_ _); rotate_left; focus (simp only []; omega)) | ((with_reducible refine Bk.below ?_ (by with_reducible assumption) ?_); rotate_left; focus (go_size; done))))
    have ka_0 := ka.cell 0 rfl
    have ka_1 := ka.cell 1 rfl
    have ka_2 := ka.cell 2 rfl
    have ka_3 := ka.cell 3 rfl
    have ka_4 := ka.frozen 0
    have ka_5 := ka.frozen 1
    have ka_6 := ka.frozen 2
    have ka_7 := ka.frozen 3
    have kal := ka.lt
    have kb : Bk w1 (w.heap.size + 1) 26 [.bool b', .int .u64 y1, .int .u64 y0, .int .i64 s'] := by (repeat (first | (with_reducible assumption) | ((with_reducible refine Bk.new_ ?_); (first | rfl | (simp only [World.size_alloc, World.size_setCell, World.size_drew, World.heap_drewN]; done))) | (with_reducible refine Bk.alloc ?_ _) | (with_reducible refine Bk.drew ?_) | (with_reducible refine Bk.drewN ?_ _) | ((with_reducible refine Bk.far ?_ ?_ _); rotate_left; focus (simp only []; omega)) | ((with_reducible refine Bk.below ?_ (by with_reducible assumption) ?_); rotate_left; focus (go_size; done))))
    have kb_0 := kb.cell 0 rfl
    have kb_1 := kb.cell 1 rfl
    have kb_2 := kb.cell 2 rfl
    have kb_3 := kb.cell 3 rfl
    have kb_4 := kb.frozen 0
    have kb_5 := kb.frozen 1
    have kb_6 := kb.frozen 2
    have kb_7 := kb.frozen 3
    have kbl := kb.lt
    have kr : Bk w1 (w.heap.size + 1 + 1) 26 [.bool false, .int .u64 0, .int .u64 0, .int .i64 0] := by (repeat (first | (with_reducible assumption) | ((with_reducible refine Bk.new_ ?_); (first | rfl | (simp only [World.size_alloc, World.size_setCell, World.size_drew, World.heap_drewN]; done))) | (with_reducible refine Bk.alloc ?_ _) | (with_reducible refine Bk.drew ?_) | (with_reducible refine Bk.drewN ?_ _) | ((with_reducible refine Bk.far ?_ ?_ _); rotate_left; focus (simp only []; omega)) | ((with_reducible refine Bk.below ?_ (by with_reducible assumption) ?_); rotate_left; focus (go_size; done))))
    have kr_0 := kr.cell 0 rfl
    have kr_1 := kr.cell 1 rfl
    have kr_2 := kr.cell 2 rfl
    have kr_3 := kr.cell 3 rfl
    have kr_4 := kr.frozen 0
    have kr_5 := kr.frozen 1
    have kr_6 := kr.frozen 2
    have kr_7 := kr.frozen 3
    have krl := kr.lt
    clear hb1c hb1f
    go_wp2_with fail
    refine (HB.out _).mono ?_
    rintro _ w2 ⟨rfl, hb2⟩; have hb2s := hb2.size; (try simp only [World.size_alloc, World.size_setCell, World.size_drew, World.heap_drewN] at hb2s); obtain ⟨hb2c, hb2f⟩ := bcell hb2; (try have : w.heap.size < w2.heap.size := by omega); (try have : w.heap.size + 1 < w2.heap.size := by omega); (try have : w.heap.size + 1 + 1 < w2.heap.size := by omega); (try have : w.heap.size + 1 + 1 + 1 < w2.heap.size := by omega)
    have ja : Bk w2 (w.heap.size) 26 [.bool b, .int .u64 x1, .int .u64 x0, .int .i64 s] := by (repeat (first | (with_reducible assumption) | ((with_reducible refine Bk.new_ ?_); (first | rfl | (simp only [World.size_alloc, World.size_setCell, World.size_drew, World.heap_drewN]; done))) | (with_reducible refine Bk.alloc ?_ _) | (with_reducible refine Bk.drew ?_) | (with_reducible refine Bk.drewN ?_ _) | ((with_reducible refine Bk.far ?_ ?_ _); rotate_left; focus (simp only []; omega)) | ((with_reducible refine Bk.below ?_ (by with_reducible assumption) ?_); rotate_left; focus (go_size; done))))
    have jb : Bk w2 (w.heap.size + 1) 26 [.bool b', .int .u64 y1, .int .u64 y0, .int .i64 s'] := by (repeat (first | (with_reducible assumption) | ((with_reducible refine Bk.new_ ?_); (first | rfl | (simp only [World.size_alloc, World.size_setCell, World.size_drew, World.heap_drewN]; done))) | (with_reducible refine Bk.alloc ?_ _) | (with_reducible refine Bk.drew ?_) | (with_reducible refine Bk.drewN ?_ _) | ((with_reducible refine Bk.far ?_ ?_ _); rotate_left; focus (simp only []; omega)) | ((with_reducible refine Bk.below ?_ (by with_reducible assumption) ?_); rotate_left; focus (go_size; done))))
    have jr : Bk w2 (w.heap.size + 1 + 1) 26 [.bool false, .int .u64 0, .int .u64 0, .int .i64 0] := by (repeat (first | (with_reducible assumption) | ((with_reducible refine Bk.new_ ?_); (first | rfl | (simp only [World.size_alloc, World.size_setCell, World.size_drew, World.heap_drewN]; done))) | (with_reducible refine Bk.alloc ?_ _) | (with_reducible refine Bk.drew ?_) | (with_reducible refine Bk.drewN ?_ _) | ((with_reducible refine Bk.far ?_ ?_ _); rotate_left; focus (simp only []; omega)) | ((with_reducible refine Bk.below ?_ (by with_reducible assumption) ?_); rotate_left; focus (go_size; done))))
    clear hb2c hb2f ka_0 ka_1 ka_2 ka_3 ka_4 ka_5 ka_6 ka_7 kb_0 kb_1 kb_2 kb_3 kb_4 kb_5 kb_6 kb_7 kr_0 kr_1 kr_2 kr_3 kr_4 kr_5 kr_6 kr_7
    have ja_0 := ja.cell 0 rfl
    have ja_1 := ja.cell 1 rfl
    have ja_2 := ja.cell 2 rfl
    have ja_3 := ja.cell 3 rfl
    have ja_4 := ja.frozen 0
    have ja_5 := ja.frozen 1
    have ja_6 := ja.frozen 2
    have ja_7 := ja.frozen 3
    have jb_0 := jb.cell 0 rfl
    have jb_1 := jb.cell 1 rfl
    have jb_2 := jb.cell 2 rfl
    have jb_3 := jb.cell 3 rfl
    have jb_4 := jb.frozen 0
    have jb_5 := jb.frozen 1
    have jb_6 := jb.frozen 2
    have jb_7 := jb.frozen 3
    have jr_0 := jr.cell 0 rfl
    have jr_1 := jr.cell 1 rfl
    have jr_2 := jr.cell 2 rfl
    have jr_3 := jr.cell 3 rfl
    have jr_4 := jr.frozen 0
    have jr_5 := jr.frozen 1
    have jr_6 := jr.frozen 2
    have jr_7 := jr.frozen 3
    have jal := ja.lt
    have jbl := jb.lt
    have jrl := jr.lt
    go_wp2_with fail
    go_region_held3 (fun w' => (w'.cell? ⟨w.heap.size, 0, none⟩ = some (.bool b) ∧ w'.cell? ⟨w.heap.size, 1, none⟩ = some (.int .u64 x1) ∧ w'.cell? ⟨w.heap.size, 2, none⟩ = some (.int .u64 x0) ∧ w'.cell? ⟨w.heap.size, 3, none⟩ = some (.int .i64 s)) ∧ (w'.cell? ⟨w2.heap.size, 0, none⟩ = some (.int .u64 p0) ∧ w'.cell? ⟨w2.heap.size, 1, none⟩ = some (.int .u64 p1) ∧ w'.cell? ⟨w2.heap.size, 2, none⟩ = some (.int .u64 p2) ∧ w'.cell? ⟨w2.heap.size, 3, none⟩ = some (.int .u64 p3)) ∧ (w'.cell? ⟨(w2.heap.size + 1), 0, none⟩ = some (.int .u64 q0) ∧ w'.cell? ⟨(w2.heap.size + 1), 1, none⟩ = some (.int .u64 q1) ∧ w'.cell? ⟨(w2.heap.size + 1), 2, none⟩ = some (.int .u64 q2) ∧ w'.cell? ⟨(w2.heap.size + 1), 3, none⟩ = some (.int .u64 q3))) (first | (first | (go_keep; done) | (simp [go_sem]; done) | ((try dsimp only); (repeat' apply And.intro) <;> (first | (with_reducible assumption) | ((rw [World.cell?_alloc_lt _ _ _ (by show _ < _; omega)]); go_split_ands; (first | with_reducible assumption | (refine (World.cell?_alloc_lt _ _ _ (by show _ < _; omega)).symm.trans ?_; with_reducible assumption))) | ((rw [World.cell?_setCell_other _ _ _ _ (by intro e; injection e; omega)]); with_reducible assumption) | (go_keep; done) | (simp [go_sem]; done) | (simp (disch := go_size) [*, World.cell?_alloc_some, World.cell?_setCell_far]; done)))) | ((refine ⟨?_, ?_, ?_⟩) <;> (first | ((refine ⟨Bk.cell (t := 26) (cs := [.bool b, .int .u64 x1, .int .u64 x0, .int .i64 s]) ?_ 0 rfl, Bk.cell (t := 26) (cs := [.bool b, .int .u64 x1, .int .u64 x0, .int .i64 s]) ?_ 1 rfl, Bk.cell (t := 26) (cs := [.bool b, .int .u64 x1, .int .u64 x0, .int .i64 s]) ?_ 2 rfl, Bk.cell (t := 26) (cs := [.bool b, .int .u64 x1, .int .u64 x0, .int .i64 s]) ?_ 3 rfl⟩) <;> ((repeat (first | (with_reducible assumption) | ((with_reducible refine Bk.new_ ?_); (first | rfl | (simp only [World.size_alloc, World.size_setCell, World.size_drew, World.heap_drewN]; done))) | (with_reducible refine Bk.alloc ?_ _) | (with_reducible refine Bk.drew ?_) | (with_reducible refine Bk.drewN ?_ _) | ((with_reducible refine Bk.far ?_ ?_ _); rotate_left; focus (simp only []; omega)) | ((with_reducible refine Bk.below ?_ (by with_reducible assumption) ?_); rotate_left; focus (go_size; done)))); done)) | ((refine ⟨Bk.cell (t := 45) (cs := [.int .u64 p0, .int .u64 p1, .int .u64 p2, .int .u64 p3]) ?_ 0 rfl, Bk.cell (t := 45) (cs := [.int .u64 p0, .int .u64 p1, .int .u64 p2, .int .u64 p3]) ?_ 1 rfl, Bk.cell (t := 45) (cs := [.int .u64 p0, .int .u64 p1, .int .u64 p2, .int .u64 p3]) ?_ 2 rfl, Bk.cell (t := 45) (cs := [.int .u64 p0, .int .u64 p1, .int .u64 p2, .int .u64 p3]) ?_ 3 rfl⟩) <;> ((repeat (first | (with_reducible assumption) | ((with_reducible refine Bk.new_ ?_); (first | rfl | (simp only [World.size_alloc, World.size_setCell, World.size_drew, World.heap_drewN]; done))) | (with_reducible refine Bk.alloc ?_ _) | (with_reducible refine Bk.drew ?_) | (with_reducible refine Bk.drewN ?_ _) | ((with_reducible refine Bk.far ?_ ?_ _); rotate_left; focus (simp only []; omega)) | ((with_reducible refine Bk.below ?_ (by with_reducible assumption) ?_); rotate_left; focus (go_size; done)))); done)) | ((refine ⟨Bk.cell (t := 45) (cs := [.int .u64 q0, .int .u64 q1, .int .u64 q2, .int .u64 q3]) ?_ 0 rfl, Bk.cell (t := 45) (cs := [.int .u64 q0, .int .u64 q1, .int .u64 q2, .int .u64 q3]) ?_ 1 rfl, Bk.cell (t := 45) (cs := [.int .u64 q0, .int .u64 q1, .int .u64 q2, .int .u64 q3]) ?_ 2 rfl, Bk.cell (t := 45) (cs := [.int .u64 q0, .int .u64 q1, .int .u64 q2, .int .u64 q3]) ?_ 3 rfl⟩) <;> ((repeat (first | (with_reducible assumption) | ((with_reducible refine Bk.new_ ?_); (first | rfl | (simp only [World.size_alloc, World.size_setCell, World.size_drew, World.heap_drewN]; done))) | (with_reducible refine Bk.alloc ?_ _) | (with_reducible refine Bk.drew ?_) | (with_reducible refine Bk.drewN ?_ _) | ((with_reducible refine Bk.far ?_ ?_ _); rotate_left; focus (simp only []; omega)) | ((with_reducible refine Bk.below ?_ (by with_reducible assumption) ?_); rotate_left; focus (go_size; done)))); done))))) (first | (go_at_call 52; (with_reducible refine (HP.out _).mono ?_); rintro _ w4 ⟨rfl, hb4⟩; have hb4s := hb4.size; (try simp only [World.size_alloc, World.size_setCell, World.size_drew, World.heap_drewN] at hb4s); obtain ⟨hb4c, hb4f⟩ := bcell hb4; (try have : w.heap.size < w4.heap.size := by omega); (try have : w.heap.size + 1 < w4.heap.size := by omega); (try have : w.heap.size + 1 + 1 < w4.heap.size := by omega); (try have : w.heap.size + 1 + 1 + 1 < w4.heap.size := by omega); (try have : w2.heap.size < w4.heap.size := by omega); (try have : w2.heap.size + 1 < w4.heap.size := by omega); (try have : w2.heap.size + 1 + 1 < w4.heap.size := by omega); (try have : w2.heap.size + 1 + 1 + 1 < w4.heap.size := by omega)) | (go_at_call 51; (with_reducible refine (HT.out _).mono ?_); rintro _ w5 ⟨rfl, hb5⟩; have hb5s := hb5.size; (try simp only [World.size_alloc, World.size_setCell, World.size_drew, World.heap_drewN] at hb5s); obtain ⟨hb5c, hb5f⟩ := bcell hb5; (try have : w.heap.size < w5.heap.size := by omega); (try have : w.heap.size + 1 < w5.heap.size := by omega); (try have : w.heap.size + 1 + 1 < w5.heap.size := by omega); (try have : w.heap.size + 1 + 1 + 1 < w5.heap.size := by omega); have zr : Bk w5 (w.heap.size + 1 + 1) 26 [.bool false, .int .u64 0, .int .u64 0, .int .i64 0] := (by (repeat (first | (with_reducible assumption) | ((with_reducible refine Bk.new_ ?_); (first | rfl | (simp only [World.size_alloc, World.size_setCell, World.size_drew, World.heap_drewN]; done))) | (with_reducible refine Bk.alloc ?_ _) | (with_reducible refine Bk.drew ?_) | (with_reducible refine Bk.drewN ?_ _) | ((with_reducible refine Bk.far ?_ ?_ _); rotate_left; focus (simp only []; omega)) | ((with_reducible refine Bk.below ?_ (by with_reducible assumption) ?_); rotate_left; focus (go_size; done))))); have zr_0 := zr.cell 0 rfl; have zr_1 := zr.cell 1 rfl; have zr_2 := zr.cell 2 rfl; have zr_3 := zr.cell 3 rfl; have zr_4 := zr.frozen 0; have zr_5 := zr.frozen 1; have zr_6 := zr.frozen 2; have zr_7 := zr.frozen 3; have zrl := zr.lt; clear hb5c hb5f; (try have : w2.heap.size < w5.heap.size := by omega); (try have : w2.heap.size + 1 < w5.heap.size := by omega); (try have : w2.heap.size + 1 + 1 < w5.heap.size := by omega); (try have : w2.heap.size + 1 + 1 + 1 < w5.heap.size := by omega); (try have : w4.heap.size < w5.heap.size := by omega); (try have : w4.heap.size + 1 < w5.heap.size := by omega); (try have : w4.heap.size + 1 + 1 < w5.heap.size := by omega); (try have : w4.heap.size + 1 + 1 + 1 < w5.heap.size := by omega)))
    all_goals
      refine wp_named (fun W => Bk W (w.heap.size + 1 + 1) 26 [.bool (sg b C), .int .u64 (wd C 1), .int .u64 (wd C 0), .int .i64 (S : Int)] ∧ Below w.heap.size w W) ⟨?h1, ?h2⟩ ?_
      case h1 => (first | ((repeat (first | (with_reducible assumption) | ((with_reducible refine Bk.new_ ?_); (first | rfl | (simp only [World.size_alloc, World.size_setCell, World.size_drew, World.heap_drewN]; done))) | (with_reducible refine Bk.alloc ?_ _) | (with_reducible refine Bk.drew ?_) | (with_reducible refine Bk.drewN ?_ _) | ((with_reducible refine Bk.far ?_ ?_ _); rotate_left; focus (simp only []; omega)) | ((with_reducible refine Bk.below ?_ (by with_reducible assumption) ?_); rotate_left; focus (go_size; done)))); done) | ((repeat (first | (with_reducible refine Bk.alloc ?_ _) | (with_reducible refine Bk.drew ?_) | ((with_reducible refine Bk.far ?_ ?_ _); rotate_left; focus (simp only []; omega)))); (refine ((((?_ : Bk _ _ _ [.bool false, .int .u64 0, .int .u64 0, .int .i64 0]).set_ 0 _).set_ 1 _).set_ 2 _).set_ 3 _); (repeat (first | (with_reducible assumption) | ((with_reducible refine Bk.new_ ?_); (first | rfl | (simp only [World.size_alloc, World.size_setCell, World.size_drew, World.heap_drewN]; done))) | (with_reducible refine Bk.alloc ?_ _) | (with_reducible refine Bk.drew ?_) | (with_reducible refine Bk.drewN ?_ _) | ((with_reducible refine Bk.far ?_ ?_ _); rotate_left; focus (simp only []; omega)) | ((with_reducible refine Bk.below ?_ (by with_reducible assumption) ?_); rotate_left; focus (go_size; done))))); done)
      case h2 => ((repeat' (first | (with_reducible exact Below.refl _ _) | (with_reducible assumption) | (with_reducible refine Below.drew ?_) | (with_reducible refine below_drewN ?_ _) | ((with_reducible refine Below.alloc ?_ ?_ _); rotate_left; focus (go_size; done)) | ((with_reducible refine Below.setCell ?_ ?_ _); rotate_left; focus (go_size; done)) | ((with_reducible refine Below.trans ?_ (Below.mono (by with_reducible assumption) ?_)); rotate_left; focus (go_size; done)))); done)
      rintro W ⟨k1, mb⟩
      have k1_0 := k1.cell 0 rfl
      have k1_1 := k1.cell 1 rfl
      have k1_2 := k1.cell 2 rfl
      have k1_3 := k1.cell 3 rfl
      have k1_4 := k1.frozen 0
      have k1_5 := k1.frozen 1
      have k1_6 := k1.frozen 2
      have k1_7 := k1.frozen 3
      go_wp2_with fail
      refine bodyPost_ret (by simp [results, Try.results15, go_sem, *]; try rfl) rfl ?_
      exact ⟨rfl, by (repeat' (first | (with_reducible exact Below.refl _ _) | (with_reducible assumption) | (with_reducible refine Below.drew ?_) | (with_reducible refine below_drewN ?_ _) | ((with_reducible refine Below.alloc ?_ ?_ _); rotate_left; focus (go_size; done)) | ((with_reducible refine Below.setCell ?_ ?_ _); rotate_left; focus (go_size; done)) | ((with_reducible refine Below.trans ?_ (Below.mono (by with_reducible assumption) ?_)); rotate_left; focus (go_size; done))))⟩
  · have hbe : (b == b') = false := by simpa using hb
    have HO := Lib.hid (fun W => order_any X Y hX2 hY2 W)
    by_cases hl : Y ≤ X
    · obtain ⟨e1, e2⟩ := sgn_ge (x := X) (y := Y) hb hl
      rw [e1, e2]
      have hXd : X - Y < 2 ^ 256 := by omega
      have HP := Lib.hid (fun W => minus4_any X Y hX2 hl W)
      have HT := Lib.hid (fun W => fit_any b (X - Y) m hXd m76 W)
      have ho := cmpN_ge hl
      clear e1 e2 hX2 hY2 hXY hXd hl hb
      generalize cmpN X Y = cc at *
      generalize FitC (X - Y) (10 ^ m) = C at *
      generalize FitS (X - Y) (10 ^ m) = S at *
      generalize FitE (X - Y) (10 ^ m) = E at *
      generalize X - Y = U at *
      generalize wd X 0 = p0 at *
      generalize wd X 1 = p1 at *
      generalize wd X 2 = p2 at *
      generalize wd X 3 = p3 at *
      generalize wd Y 0 = q0 at *
      generalize wd Y 1 = q1 at *
      generalize wd Y 2 = q2 at *
      generalize wd Y 3 = q3 at *
      generalize wd c 0 = x0 at *
      generalize wd c 1 = x1 at *
      generalize wd c' 0 = y0 at *
      generalize wd c' 1 = y1 at *
      clear hc hc'
      go_enter Try.func15, Try.ntmps15
      go_wp2_with fail
      (with_reducible refine (HF.out _ _ ?hg).mono ?_)
      case hg => ((repeat (first | (with_reducible assumption) | ((with_reducible refine Bk.new_ ?_); (first | rfl | (simp only [World.size_alloc, World.size_setCell, World.size_drew, World.heap_drewN]; done))) | (with_reducible refine Bk.alloc ?_ _) | (with_reducible refine Bk.drew ?_) | (with_reducible refine Bk.drewN ?_ _) | ((with_reducible refine Bk.far ?_ ?_ _); rotate_left; focus (simp only []; omega)) | ((with_reducible refine Bk.below ?_ (by with_reducible assumption) ?_); rotate_left; focus (go_size; done)))); done)
      rintro _ w1 ⟨rfl, hb1⟩; have hb1s := hb1.size; (try simp only [World.size_alloc, World.size_setCell, World.size_drew, World.heap_drewN] at hb1s); obtain ⟨hb1c, hb1f⟩ := bcell hb1; (try have : w.heap.size < w1.heap.size := by omega); (try have : w.heap.size + 1 < w1.heap.size := by omega); (try have : w.heap.size + 1 + 1 < w1.heap.size := by omega); (try have : w.heap.size + 1 + 1 + 1 < w1.heap.size := by omega)
      have ka : Bk w1 (w.heap.size) 26 [.bool b, .int .u64 x1, .int .u64 x0, .int .i64 s] := by (repeat (first | (with_reducible assumption) | ((with_reducible refine Bk.new_ ?_); (first | rfl | (simp only [World.size_alloc, World.size_setCell, World.size_drew, World.heap_drewN]; done))) | (with_reducible refine Bk.alloc ?_ _) | (with_reducible refine Bk.drew ?_) | (with_reducible refine Bk.drewN ?_ _) | ((with_reducible refine Bk.far ?_ ?_ _); rotate_left; focus (simp only []; omega)) | ((with_reducible refine Bk.below ?_ (by with_reducible assumption) ?_); rotate_left; focus (go_size; done))))
      have ka_0 := ka.cell 0 rfl
      have ka_1 := ka.cell 1 rfl
      have ka_2 := ka.cell 2 rfl
      have ka_3 := ka.cell 3 rfl
      have ka_4 := ka.frozen 0
      have ka_5 := ka.frozen 1
      have ka_6 := ka.frozen 2
      have ka_7 := ka.frozen 3
      have kal := ka.lt
      have kb : Bk w1 (w.heap.size + 1) 26 [.bool b', .int .u64 y1, .int .u64 y0, .int .i64 s'] := by (repeat (first | (with_reducible assumption) | ((with_reducible refine Bk.new_ ?_); (first | rfl | (simp only [World.size_alloc, World.size_setCell, World.size_drew, World.heap_drewN]; done))) | (with_reducible refine Bk.alloc ?_ _) | (with_reducible refine Bk.drew ?_) | (with_reducible refine Bk.drewN ?_ _) | ((with_reducible refine Bk.far ?_ ?_ _); rotate_left; focus (simp only []; omega)) | ((with_reducible refine Bk.below ?_ (by with_reducible assumption) ?_); rotate_left; focus (go_size; done))))
      have kb_0 := kb.cell 0 rfl
      have kb_1 := kb.cell 1 rfl
      have kb_2 := kb.cell 2 rfl
      have kb_3 := kb.cell 3 rfl
      have kb_4 := kb.frozen 0
      have kb_5 := kb.frozen 1
      have kb_6 := kb.frozen 2
      have kb_7 := kb.frozen 3
      have kbl := kb.lt
      have kr : Bk w1 (w.heap.size + 1 + 1) 26 [.bool false, .int .u64 0, .int .u64 0, .int .i64 0] := by (repeat (first | (with_reducible assumption) | ((with_reducible refine Bk.new_ ?_); (first | rfl | (simp only [World.size_alloc, World.size_setCell, World.size_drew, World.heap_drewN]; done))) | (with_reducible refine Bk.alloc ?_ _) | (with_reducible refine Bk.drew ?_) | (with_reducible refine Bk.drewN ?_ _) | ((with_reducible refine Bk.far ?_ ?_ _); rotate_left; focus (simp only []; omega)) | ((with_reducible refine Bk.below ?_ (by with_reducible assumption) ?_); rotate_left; focus (go_size; done))))
      have kr_0 := kr.cell 0 rfl
      have kr_1 := kr.cell 1 rfl
      have kr_2 := kr.cell 2 rfl
      have kr_3 := kr.cell 3 rfl
      have kr_4 := kr.frozen 0
      have kr_5 := kr.frozen 1
      have kr_6 := kr.frozen 2
      have kr_7 := kr.frozen 3
      have krl := kr.lt
      clear hb1c hb1f
      go_wp2_with fail
      refine (HB.out _).mono ?_
      rintro _ w2 ⟨rfl, hb2⟩; have hb2s := hb2.size; (try simp only [World.size_alloc, World.size_setCell, World.size_drew, World.heap_drewN] at hb2s); obtain ⟨hb2c, hb2f⟩ := bcell hb2; (try have : w.heap.size < w2.heap.size := by omega); (try have : w.heap.size + 1 < w2.heap.size := by omega); (try have : w.heap.size + 1 + 1 < w2.heap.size := by omega); (try have : w.heap.size + 1 + 1 + 1 < w2.heap.size := by omega)
      have ja : Bk w2 (w.heap.size) 26 [.bool b, .int .u64 x1, .int .u64 x0, .int .i64 s] := by (repeat (first | (with_reducible assumption) | ((with_reducible refine Bk.new_ ?_); (first | rfl | (simp only [World.size_alloc, World.size_setCell, World.size_drew, World.heap_drewN]; done))) | (with_reducible refine Bk.alloc ?_ _) | (with_reducible refine Bk.drew ?_) | (with_reducible refine Bk.drewN ?_ _) | ((with_reducible refine Bk.far ?_ ?_ _); rotate_left; focus (simp only []; omega)) | ((with_reducible refine Bk.below ?_ (by with_reducible assumption) ?_); rotate_left; focus (go_size; done))))
      have jb : Bk w2 (w.heap.size + 1) 26 [.bool b', .int .u64 y1, .int .u64 y0, .int .i64 s'] := by (repeat (first | (with_reducible assumption) | ((with_reducible refine Bk.new_ ?_); (first | rfl | (simp only [World.size_alloc, World.size_setCell, World.size_drew, World.heap_drewN]; done))) | (with_reducible refine Bk.alloc ?_ _) | (with_reducible refine Bk.drew ?_) | (with_reducible refine Bk.drewN ?_ _) | ((with_reducible refine Bk.far ?_ ?_ _); rotate_left; focus (simp only []; omega)) | ((with_reducible refine Bk.below ?_ (by with_reducible assumption) ?_); rotate_left; focus (go_size; done))))
      have jr : Bk w2 (w.heap.size + 1 + 1) 26 [.bool false, .int .u64 0, .int .u64 0, .int .i64 0] := by (repeat (first | (with_reducible assumption) | ((with_reducible refine Bk.new_ ?_); (first | rfl | (simp only [World.size_alloc, World.size_setCell, World.size_drew, World.heap_drewN]; done))) | (with_reducible refine Bk.alloc ?_ _) | (with_reducible refine Bk.drew ?_) | (with_reducible refine Bk.drewN ?_ _) | ((with_reducible refine Bk.far ?_ ?_ _); rotate_left; focus (simp only []; omega)) | ((with_reducible refine Bk.below ?_ (by with_reducible assumption) ?_); rotate_left; focus (go_size; done))))
      clear hb2c hb2f ka_0 ka_1 ka_2 ka_3 ka_4 ka_5 ka_6 ka_7 kb_0 kb_1 kb_2 kb_3 kb_4 kb_5 kb_6 kb_7 kr_0 kr_1 kr_2 kr_3 kr_4 kr_5 kr_6 kr_7
      have ja_0 := ja.cell 0 rfl
      have ja_1 := ja.cell 1 rfl
      have ja_2 := ja.cell 2 rfl
      have ja_3 := ja.cell 3 rfl
      have ja_4 := ja.frozen 0
      have ja_5 := ja.frozen 1
      have ja_6 := ja.frozen 2
      have ja_7 := ja.frozen 3
      have jb_0 := jb.cell 0 rfl
      have jb_1 := jb.cell 1 rfl
      have jb_2 := jb.cell 2 rfl
      have jb_3 := jb.cell 3 rfl
      have jb_4 := jb.frozen 0
      have jb_5 := jb.frozen 1
      have jb_6 := jb.frozen 2
      have jb_7 := jb.frozen 3
      have jr_0 := jr.cell 0 rfl
      have jr_1 := jr.cell 1 rfl
      have jr_2 := jr.cell 2 rfl
      have jr_3 := jr.cell 3 rfl
      have jr_4 := jr.frozen 0
      have jr_5 := jr.frozen 1
      have jr_6 := jr.frozen 2
      have jr_7 := jr.frozen 3
      have jal := ja.lt
      have jbl := jb.lt
      have jrl := jr.lt
      go_wp2_with fail
      refine (HO.out _).mono ?_
      rintro _ w3 ⟨rfl, hb3⟩; have hb3s := hb3.size; (try simp only [World.size_alloc, World.size_setCell, World.size_drew, World.heap_drewN] at hb3s); obtain ⟨hb3c, hb3f⟩ := bcell hb3; (try have : w.heap.size < w3.heap.size := by omega); (try have : w.heap.size + 1 < w3.heap.size := by omega); (try have : w.heap.size + 1 + 1 < w3.heap.size := by omega); (try have : w.heap.size + 1 + 1 + 1 < w3.heap.size := by omega)
      have la : Bk w3 (w.heap.size) 26 [.bool b, .int .u64 x1, .int .u64 x0, .int .i64 s] := by (repeat (first | (with_reducible assumption) | ((with_reducible refine Bk.new_ ?_); (first | rfl | (simp only [World.size_alloc, World.size_setCell, World.size_drew, World.heap_drewN]; done))) | (with_reducible refine Bk.alloc ?_ _) | (with_reducible refine Bk.drew ?_) | (with_reducible refine Bk.drewN ?_ _) | ((with_reducible refine Bk.far ?_ ?_ _); rotate_left; focus (simp only []; omega)) | ((with_reducible refine Bk.below ?_ (by with_reducible assumption) ?_); rotate_left; focus (go_size; done))))
      have lb : Bk w3 (w.heap.size + 1) 26 [.bool b', .int .u64 y1, .int .u64 y0, .int .i64 s'] := by (repeat (first | (with_reducible assumption) | ((with_reducible refine Bk.new_ ?_); (first | rfl | (simp only [World.size_alloc, World.size_setCell, World.size_drew, World.heap_drewN]; done))) | (with_reducible refine Bk.alloc ?_ _) | (with_reducible refine Bk.drew ?_) | (with_reducible refine Bk.drewN ?_ _) | ((with_reducible refine Bk.far ?_ ?_ _); rotate_left; focus (simp only []; omega)) | ((with_reducible refine Bk.below ?_ (by with_reducible assumption) ?_); rotate_left; focus (go_size; done))))
      have lr : Bk w3 (w.heap.size + 1 + 1) 26 [.bool false, .int .u64 0, .int .u64 0, .int .i64 0] := by (repeat (first | (with_reducible assumption) | ((with_reducible refine Bk.new_ ?_); (first | rfl | (simp only [World.size_alloc, World.size_setCell, World.size_drew, World.heap_drewN]; done))) | (with_reducible refine Bk.alloc ?_ _) | (with_reducible refine Bk.drew ?_) | (with_reducible refine Bk.drewN ?_ _) | ((with_reducible refine Bk.far ?_ ?_ _); rotate_left; focus (simp only []; omega)) | ((with_reducible refine Bk.below ?_ (by with_reducible assumption) ?_); rotate_left; focus (go_size; done))))
      have lx : Bk w3 (w2.heap.size) 45 [.int .u64 p0, .int .u64 p1, .int .u64 p2, .int .u64 p3] := by (repeat (first | (with_reducible assumption) | ((with_reducible refine Bk.new_ ?_); (first | rfl | (simp only [World.size_alloc, World.size_setCell, World.size_drew, World.heap_drewN]; done))) | (with_reducible refine Bk.alloc ?_ _) | (with_reducible refine Bk.drew ?_) | (with_reducible refine Bk.drewN ?_ _) | ((with_reducible refine Bk.far ?_ ?_ _); rotate_left; focus (simp only []; omega)) | ((with_reducible refine Bk.below ?_ (by with_reducible assumption) ?_); rotate_left; focus (go_size; done))))
      have ly : Bk w3 (w2.heap.size + 1) 45 [.int .u64 q0, .int .u64 q1, .int .u64 q2, .int .u64 q3] := by (repeat (first | (with_reducible assumption) | ((with_reducible refine Bk.new_ ?_); (first | rfl | (simp only [World.size_alloc, World.size_setCell, World.size_drew, World.heap_drewN]; done))) | (with_reducible refine Bk.alloc ?_ _) | (with_reducible refine Bk.drew ?_) | (with_reducible refine Bk.drewN ?_ _) | ((with_reducible refine Bk.far ?_ ?_ _); rotate_left; focus (simp only []; omega)) | ((with_reducible refine Bk.below ?_ (by with_reducible assumption) ?_); rotate_left; focus (go_size; done))))
      clear hb3c hb3f ja_0 ja_1 ja_2 ja_3 ja_4 ja_5 ja_6 ja_7 jb_0 jb_1 jb_2 jb_3 jb_4 jb_5 jb_6 jb_7 jr_0 jr_1 jr_2 jr_3 jr_4 jr_5 jr_6 jr_7
      have la_0 := la.cell 0 rfl
      have la_1 := la.cell 1 rfl
      have la_2 := la.cell 2 rfl
      have la_3 := la.cell 3 rfl
      have la_4 := la.frozen 0
      have la_5 := la.frozen 1
      have la_6 := la.frozen 2
      have la_7 := la.frozen 3
      have lb_0 := lb.cell 0 rfl
      have lb_1 := lb.cell 1 rfl
      have lb_2 := lb.cell 2 rfl
      have lb_3 := lb.cell 3 rfl
      have lb_4 := lb.frozen 0
      have lb_5 := lb.frozen 1
      have lb_6 := lb.frozen 2
      have lb_7 := lb.frozen 3
      have lr_0 := lr.cell 0 rfl
      have lr_1 := lr.cell 1 rfl
      have lr_2 := lr.cell 2 rfl
      have lr_3 := lr.cell 3 rfl
      have lr_4 := lr.frozen 0
      have lr_5 := lr.frozen 1
      have lr_6 := lr.frozen 2
      have lr_7 := lr.frozen 3
      have lx_0 := lx.cell 0 rfl
      have lx_1 := lx.cell 1 rfl
      have lx_2 := lx.cell 2 rfl
      have lx_3 := lx.cell 3 rfl
      have lx_4 := lx.frozen 0
      have lx_5 := lx.frozen 1
      have lx_6 := lx.frozen 2
      have lx_7 := lx.frozen 3
      have ly_0 := ly.cell 0 rfl
      have ly_1 := ly.cell 1 rfl
      have ly_2 := ly.cell 2 rfl
      have ly_3 := ly.cell 3 rfl
      have ly_4 := ly.frozen 0
      have ly_5 := ly.frozen 1
      have ly_6 := ly.frozen 2
      have ly_7 := ly.frozen 3
      go_wp2_with fail
      go_region_held3 (fun w' => (w'.cell? ⟨w.heap.size, 0, none⟩ = some (.bool b) ∧ w'.cell? ⟨w.heap.size, 1, none⟩ = some (.int .u64 x1) ∧ w'.cell? ⟨w.heap.size, 2, none⟩ = some (.int .u64 x0) ∧ w'.cell? ⟨w.heap.size, 3, none⟩ = some (.int .i64 s)) ∧ (w'.cell? ⟨w2.heap.size, 0, none⟩ = some (.int .u64 p0) ∧ w'.cell? ⟨w2.heap.size, 1, none⟩ = some (.int .u64 p1) ∧ w'.cell? ⟨w2.heap.size, 2, none⟩ = some (.int .u64 p2) ∧ w'.cell? ⟨w2.heap.size, 3, none⟩ = some (.int .u64 p3)) ∧ (w'.cell? ⟨(w2.heap.size + 1), 0, none⟩ = some (.int .u64 q0) ∧ w'.cell? ⟨(w2.heap.size + 1), 1, none⟩ = some (.int .u64 q1) ∧ w'.cell? ⟨(w2.heap.size + 1), 2, none⟩ = some (.int .u64 q2) ∧ w'.cell? ⟨(w2.heap.size + 1), 3, none⟩ = some (.int .u64 q3))) (first | (first | (go_keep; done) | (simp [go_sem]; done) | ((try dsimp only); (repeat' apply And.intro) <;> (first | (with_reducible assumption) | ((rw [World.cell?_alloc_lt _ _ _ (by show _ < _; omega)]); go_split_ands; (first | with_reducible assumption | (refine (World.cell?_alloc_lt _ _ _ (by show _ < _; omega)).symm.trans ?_; with_reducible assumption))) | ((rw [World.cell?_setCell_other _ _ _ _ (by intro e; injection e; omega)]); with_reducible assumption) | (go_keep; done) | (simp [go_sem]; done) | (simp (disch := go_size) [*, World.cell?_alloc_some, World.cell?_setCell_far]; done)))) | ((refine ⟨?_, ?_, ?_⟩) <;> (first | ((refine ⟨Bk.cell (t := 26) (cs := [.bool b, .int .u64 x1, .int .u64 x0, .int .i64 s]) ?_ 0 rfl, Bk.cell (t := 26) (cs := [.bool b, .int .u64 x1, .int .u64 x0, .int .i64 s]) ?_ 1 rfl, Bk.cell (t := 26) (cs := [.bool b, .int .u64 x1, .int .u64 x0, .int .i64 s]) ?_ 2 rfl, Bk.cell (t := 26) (cs := [.bool b, .int .u64 x1, .int .u64 x0, .int .i64 s]) ?_ 3 rfl⟩) <;> ((repeat (first | (with_reducible assumption) | ((with_reducible refine Bk.new_ ?_); (first | rfl | (simp only [World.size_alloc, World.size_setCell, World.size_drew, World.heap_drewN]; done))) | (with_reducible refine Bk.alloc ?_ _) | (with_reducible refine Bk.drew ?_) | (with_reducible refine Bk.drewN ?_ _) | ((with_reducible refine Bk.far ?_ ?_ _); rotate_left; focus (simp only []; omega)) | ((with_reducible refine Bk.below ?_ (by with_reducible assumption) ?_); rotate_left; focus (go_size; done)))); done)) | ((refine ⟨Bk.cell (t := 45) (cs := [.int .u64 p0, .int .u64 p1, .int .u64 p2, .int .u64 p3]) ?_ 0 rfl, Bk.cell (t := 45) (cs := [.int .u64 p0, .int .u64 p1, .int .u64 p2, .int .u64 p3]) ?_ 1 rfl, Bk.cell (t := 45) (cs := [.int .u64 p0, .int .u64 p1, .int .u64 p2, .int .u64 p3]) ?_ 2 rfl, Bk.cell (t := 45) (cs := [.int .u64 p0, .int .u64 p1, .int .u64 p2, .int .u64 p3]) ?_ 3 rfl⟩) <;> ((repeat (first | (with_reducible assumption) | ((with_reducible refine Bk.new_ ?_); (first | rfl | (simp only [World.size_alloc, World.size_setCell, World.size_drew, World.heap_drewN]; done))) | (with_reducible refine Bk.alloc ?_ _) | (with_reducible refine Bk.drew ?_) | (with_reducible refine Bk.drewN ?_ _) | ((with_reducible refine Bk.far ?_ ?_ _); rotate_left; focus (simp only []; omega)) | ((with_reducible refine Bk.below ?_ (by with_reducible assumption) ?_); rotate_left; focus (go_size; done)))); done)) | ((refine ⟨Bk.cell (t := 45) (cs := [.int .u64 q0, .int .u64 q1, .int .u64 q2, .int .u64 q3]) ?_ 0 rfl, Bk.cell (t := 45) (cs := [.int .u64 q0, .int .u64 q1, .int .u64 q2, .int .u64 q3]) ?_ 1 rfl, Bk.cell (t := 45) (cs := [.int .u64 q0, .int .u64 q1, .int .u64 q2, .int .u64 q3]) ?_ 2 rfl, Bk.cell (t := 45) (cs := [.int .u64 q0, .int .u64 q1, .int .u64 q2, .int .u64 q3]) ?_ 3 rfl⟩) <;> ((repeat (first | (with_reducible assumption) | ((with_reducible refine Bk.new_ ?_); (first | rfl | (simp only [World.size_alloc, World.size_setCell, World.size_drew, World.heap_drewN]; done))) | (with_reducible refine Bk.alloc ?_ _) | (with_reducible refine Bk.drew ?_) | (with_reducible refine Bk.drewN ?_ _) | ((with_reducible refine Bk.far ?_ ?_ _); rotate_left; focus (simp only []; omega)) | ((with_reducible refine Bk.below ?_ (by with_reducible assumption) ?_); rotate_left; focus (go_size; done)))); done))))) (first | (go_at_call 53; (with_reducible refine (HP.out _).mono ?_); rintro _ w4 ⟨rfl, hb4⟩; have hb4s := hb4.size; (try simp only [World.size_alloc, World.size_setCell, World.size_drew, World.heap_drewN] at hb4s); obtain ⟨hb4c, hb4f⟩ := bcell hb4; (try have : w.heap.size < w4.heap.size := by omega); (try have : w.heap.size + 1 < w4.heap.size := by omega); (try have : w.heap.size + 1 + 1 < w4.heap.size := by omega); (try have : w.heap.size + 1 + 1 + 1 < w4.heap.size := by omega); (try have : w2.heap.size < w4.heap.size := by omega); (try have : w2.heap.size + 1 < w4.heap.size := by omega); (try have : w2.heap.size + 1 + 1 < w4.heap.size := by omega); (try have : w2.heap.size + 1 + 1 + 1 < w4.heap.size := by omega); (try have : w3.heap.size < w4.heap.size := by omega); (try have : w3.heap.size + 1 < w4.heap.size := by omega); (try have : w3.heap.size + 1 + 1 < w4.heap.size := by omega); (try have : w3.heap.size + 1 + 1 + 1 < w4.heap.size := by omega)) | (go_at_call 51; (with_reducible refine (HT.out _).mono ?_); rintro _ w5 ⟨rfl, hb5⟩; have hb5s := hb5.size; (try simp only [World.size_alloc, World.size_setCell, World.size_drew, World.heap_drewN] at hb5s); obtain ⟨hb5c, hb5f⟩ := bcell hb5; (try have : w.heap.size < w5.heap.size := by omega); (try have : w.heap.size + 1 < w5.heap.size := by omega); (try have : w.heap.size + 1 + 1 < w5.heap.size := by omega); (try have : w.heap.size + 1 + 1 + 1 < w5.heap.size := by omega); have zr : Bk w5 (w.heap.size + 1 + 1) 26 [.bool false, .int .u64 0, .int .u64 0, .int .i64 0] := (by (repeat (first | (with_reducible assumption) | ((with_reducible refine Bk.new_ ?_); (first | rfl | (simp only [World.size_alloc, World.size_setCell, World.size_drew, World.heap_drewN]; done))) | (with_reducible refine Bk.alloc ?_ _) | (with_reducible refine Bk.drew ?_) | (with_reducible refine Bk.drewN ?_ _) | ((with_reducible refine Bk.far ?_ ?_ _); rotate_left; focus (simp only []; omega)) | ((with_reducible refine Bk.below ?_ (by with_reducible assumption) ?_); rotate_left; focus (go_size; done))))); have zr_0 := zr.cell 0 rfl; have zr_1 := zr.cell 1 rfl; have zr_2 := zr.cell 2 rfl; have zr_3 := zr.cell 3 rfl; have zr_4 := zr.frozen 0; have zr_5 := zr.frozen 1; have zr_6 := zr.frozen 2; have zr_7 := zr.frozen 3; have zrl := zr.lt; clear hb5c hb5f; (try have : w2.heap.size < w5.heap.size := by omega); (try have : w2.heap.size + 1 < w5.heap.size := by omega); (try have : w2.heap.size + 1 + 1 < w5.heap.size := by omega); (try have : w2.heap.size + 1 + 1 + 1 < w5.heap.size := by omega); (try have : w3.heap.size < w5.heap.size := by omega); (try have : w3.heap.size + 1 < w5.heap.size := by omega); (try have : w3.heap.size + 1 + 1 < w5.heap.size := by omega); (try have : w3.heap.size + 1 + 1 + 1 < w5.heap.size := by omega); (try have : w4.heap.size < w5.heap.size := by omega); (try have : w4.heap.size + 1 < w5.heap.size := by omega); (try have : w4.heap.size + 1 + 1 < w5.heap.size := by omega); (try have : w4.heap.size + 1 + 1 + 1 < w5.heap.size := by omega)))
      all_goals
        refine wp_named (fun W => Bk W (w.heap.size + 1 + 1) 26 [.bool (sg b C), .int .u64 (wd C 1), .int .u64 (wd C 0), .int .i64 (S : Int)] ∧ Below w.heap.size w W) ⟨?h1, ?h2⟩ ?_
        case h1 => (first | ((repeat (first | (with_reducible assumption) | ((with_reducible refine Bk.new_ ?_); (first | rfl | (simp only [World.size_alloc, World.size_setCell, World.size_drew, World.heap_drewN]; done))) | (with_reducible refine Bk.alloc ?_ _) | (with_reducible refine Bk.drew ?_) | (with_reducible refine Bk.drewN ?_ _) | ((with_reducible refine Bk.far ?_ ?_ _); rotate_left; focus (simp only []; omega)) | ((with_reducible refine Bk.below ?_ (by with_reducible assumption) ?_); rotate_left; focus (go_size; done)))); done) | ((repeat (first | (with_reducible refine Bk.alloc ?_ _) | (with_reducible refine Bk.drew ?_) | ((with_reducible refine Bk.far ?_ ?_ _); rotate_left; focus (simp only []; omega)))); (refine ((((?_ : Bk _ _ _ [.bool false, .int .u64 0, .int .u64 0, .int .i64 0]).set_ 0 _).set_ 1 _).set_ 2 _).set_ 3 _); (repeat (first | (with_reducible assumption) | ((with_reducible refine Bk.new_ ?_); (first | rfl | (simp only [World.size_alloc, World.size_setCell, World.size_drew, World.heap_drewN]; done))) | (with_reducible refine Bk.alloc ?_ _) | (with_reducible refine Bk.drew ?_) | (with_reducible refine Bk.drewN ?_ _) | ((with_reducible refine Bk.far ?_ ?_ _); rotate_left; focus (simp only []; omega)) | ((with_reducible refine Bk.below ?_ (by with_reducible assumption) ?_); rotate_left; focus (go_size; done))))); done)
        case h2 => ((repeat' (first | (with_reducible exact Below.refl _ _) | (with_reducible assumption) | (with_reducible refine Below.drew ?_) | (with_reducible refine below_drewN ?_ _) | ((with_reducible refine Below.alloc ?_ ?_ _); rotate_left; focus (go_size; done)) | ((with_reducible refine Below.setCell ?_ ?_ _); rotate_left; focus (go_size; done)) | ((with_reducible refine Below.trans ?_ (Below.mono (by with_reducible assumption) ?_)); rotate_left; focus (go_size; done)))); done)
        rintro W ⟨k1, mb⟩
        have k1_0 := k1.cell 0 rfl
        have k1_1 := k1.cell 1 rfl
        have k1_2 := k1.cell 2 rfl
        have k1_3 := k1.cell 3 rfl
        have k1_4 := k1.frozen 0
        have k1_5 := k1.frozen 1
        have k1_6 := k1.frozen 2
        have k1_7 := k1.frozen 3
        go_wp2_with fail
        refine bodyPost_ret (by simp [results, Try.results15, go_sem, *]; try rfl) rfl ?_
        exact ⟨rfl, by (repeat' (first | (with_reducible exact Below.refl _ _) | (with_reducible assumption) | (with_reducible refine Below.drew ?_) | (with_reducible refine below_drewN ?_ _) | ((with_reducible refine Below.alloc ?_ ?_ _); rotate_left; focus (go_size; done)) | ((with_reducible refine Below.setCell ?_ ?_ _); rotate_left; focus (go_size; done)) | ((with_reducible refine Below.trans ?_ (Below.mono (by with_reducible assumption) ?_)); rotate_left; focus (go_size; done))))⟩
    · obtain ⟨e1, e2⟩ := sgn_lt (x := X) (y := Y) hb (by omega)
      rw [e1, e2]
      have hXd : Y - X < 2 ^ 256 := by omega
      have HP := Lib.hid (fun W => minus4_any Y X hY2 (by omega) W)
      have HT := Lib.hid (fun W => fit_any b' (Y - X) m hXd m76 W)
      have ho := cmpN_lt (show X < Y by omega)
      have ho' : ¬ 0 ≤ cmpN X Y := by omega
      clear e1 e2 hX2 hY2 hXY hXd hl hb
      generalize cmpN X Y = cc at *
      generalize FitC (Y - X) (10 ^ m) = C at *
      generalize FitS (Y - X) (10 ^ m) = S at *
      generalize FitE (Y - X) (10 ^ m) = E at *
      generalize Y - X = U at *
      generalize wd X 0 = p0 at *
      generalize wd X 1 = p1 at *
      generalize wd X 2 = p2 at *
      generalize wd X 3 = p3 at *
      generalize wd Y 0 = q0 at *
      generalize wd Y 1 = q1 at *
      generalize wd Y 2 = q2 at *
      generalize wd Y 3 = q3 at *
      generalize wd c 0 = x0 at *
      generalize wd c 1 = x1 at *
      generalize wd c' 0 = y0 at *
      generalize wd c' 1 = y1 at *
      clear hc hc'
      go_enter Try.func15, Try.ntmps15
      go_wp2_with fail
      (with_reducible refine (HF.out _ _ ?hg).mono ?_)
      case hg => ((repeat (first | (with_reducible assumption) | ((with_reducible refine Bk.new_ ?_); (first | rfl | (simp only [World.size_alloc, World.size_setCell, World.size_drew, World.heap_drewN]; done))) | (with_reducible refine Bk.alloc ?_ _) | (with_reducible refine Bk.drew ?_) | (with_reducible refine Bk.drewN ?_ _) | ((with_reducible refine Bk.far ?_ ?_ _); rotate_left; focus (simp only []; omega)) | ((with_reducible refine Bk.below ?_ (by with_reducible assumption) ?_); rotate_left; focus (go_size; done)))); done)
      rintro _ w1 ⟨rfl, hb1⟩; have hb1s := hb1.size; (try simp only [World.size_alloc, World.size_setCell, World.size_drew, World.heap_drewN] at hb1s); obtain ⟨hb1c, hb1f⟩ := bcell hb1; (try have : w.heap.size < w1.heap.size := by omega); (try have : w.heap.size + 1 < w1.heap.size := by omega); (try have : w.heap.size + 1 + 1 < w1.heap.size := by omega); (try have : w.heap.size + 1 + 1 + 1 < w1.heap.size := by omega)
      have ka : Bk w1 (w.heap.size) 26 [.bool b, .int .u64 x1, .int .u64 x0, .int .i64 s] := by (repeat (first | (with_reducible assumption) | ((with_reducible refine Bk.new_ ?_); (first | rfl | (simp only [World.size_alloc, World.size_setCell, World.size_drew, World.heap_drewN]; done))) | (with_reducible refine Bk.alloc ?_ _) | (with_reducible refine Bk.drew ?_) | (with_reducible refine Bk.drewN ?_ _) | ((with_reducible refine Bk.far ?_ ?_ _); rotate_left; focus (simp only []; omega)) | ((with_reducible refine Bk.below ?_ (by with_reducible assumption) ?_); rotate_left; focus (go_size; done))))
      have ka_0 := ka.cell 0 rfl
      have ka_1 := ka.cell 1 rfl
      have ka_2 := ka.cell 2 rfl
      have ka_3 := ka.cell 3 rfl
      have ka_4 := ka.frozen 0
      have ka_5 := ka.frozen 1
      have ka_6 := ka.frozen 2
      have ka_7 := ka.frozen 3
      have kal := ka.lt
      have kb : Bk w1 (w.heap.size + 1) 26 [.bool b', .int .u64 y1, .int .u64 y0, .int .i64 s'] := by (repeat (first | (with_reducible assumption) | ((with_reducible refine Bk.new_ ?_); (first | rfl | (simp only [World.size_alloc, World.size_setCell, World.size_drew, World.heap_drewN]; done))) | (with_reducible refine Bk.alloc ?_ _) | (with_reducible refine Bk.drew ?_) | (with_reducible refine Bk.drewN ?_ _) | ((with_reducible refine Bk.far ?_ ?_ _); rotate_left; focus (simp only []; omega)) | ((with_reducible refine Bk.below ?_ (by with_reducible assumption) ?_); rotate_left; focus (go_size; done))))
      have kb_0 := kb.cell 0 rfl
      have kb_1 := kb.cell 1 rfl
      have kb_2 := kb.cell 2 rfl
      have kb_3 := kb.cell 3 rfl
      have kb_4 := kb.frozen 0
      have kb_5 := kb.frozen 1
      have kb_6 := kb.frozen 2
      have kb_7 := kb.frozen 3
      have kbl := kb.lt
      have kr : Bk w1 (w.heap.size + 1 + 1) 26 [.bool false, .int .u64 0, .int .u64 0, .int .i64 0] := by (repeat (first | (with_reducible assumption) | ((with_reducible refine Bk.new_ ?_); (first | rfl | (simp only [World.size_alloc, World.size_setCell, World.size_drew, World.heap_drewN]; done))) | (with_reducible refine Bk.alloc ?_ _) | (with_reducible refine Bk.drew ?_) | (with_reducible refine Bk.drewN ?_ _) | ((with_reducible refine Bk.far ?_ ?_ _); rotate_left; focus (simp only []; omega)) | ((with_reducible refine Bk.below ?_ (by with_reducible assumption) ?_); rotate_left; focus (go_size; done))))
      have kr_0 := kr.cell 0 rfl
      have kr_1 := kr.cell 1 rfl
      have kr_2 := kr.cell 2 rfl
      have kr_3 := kr.cell 3 rfl
      have kr_4 := kr.frozen 0
      have kr_5 := kr.frozen 1
      have kr_6 := kr.frozen 2
      have kr_7 := kr.frozen 3
      have krl := kr.lt
      clear hb1c hb1f
      go_wp2_with fail
      refine (HB.out _).mono ?_
      rintro _ w2 ⟨rfl, hb2⟩; have hb2s := hb2.size; (try simp only [World.size_alloc, World.size_setCell, World.size_drew, World.heap_drewN] at hb2s); obtain ⟨hb2c, hb2f⟩ := bcell hb2; (try have : w.heap.size < w2.heap.size := by omega); (try have : w.heap.size + 1 < w2.heap.size := by omega); (try have : w.heap.size + 1 + 1 < w2.heap.size := by omega); (try have : w.heap.size + 1 + 1 + 1 < w2.heap.size := by omega)
      have ja : Bk w2 (w.heap.size) 26 [.bool b, .int .u64 x1, .int .u64 x0, .int .i64 s] := by (repeat (first | (with_reducible assumption) | ((with_reducible refine Bk.new_ ?_); (first | rfl | (simp only [World.size_alloc, World.size_setCell, World.size_drew, World.heap_drewN]; done))) | (with_reducible refine Bk.alloc ?_ _) | (with_reducible refine Bk.drew ?_) | (with_reducible refine Bk.drewN ?_ _) | ((with_reducible refine Bk.far ?_ ?_ _); rotate_left; focus (simp only []; omega)) | ((with_reducible refine Bk.below ?_ (by with_reducible assumption) ?_); rotate_left; focus (go_size; done))))
      have jb : Bk w2 (w.heap.size + 1) 26 [.bool b', .int .u64 y1, .int .u64 y0, .int .i64 s'] := by (repeat (first | (with_reducible assumption) | ((with_reducible refine Bk.new_ ?_); (first | rfl | (simp only [World.size_alloc, World.size_setCell, World.size_drew, World.heap_drewN]; done))) | (with_reducible refine Bk.alloc ?_ _) | (with_reducible refine Bk.drew ?_) | (with_reducible refine Bk.drewN ?_ _) | ((with_reducible refine Bk.far ?_ ?_ _); rotate_left; focus (simp only []; omega)) | ((with_reducible refine Bk.below ?_ (by with_reducible assumption) ?_); rotate_left; focus (go_size; done))))
      have jr : Bk w2 (w.heap.size + 1 + 1) 26 [.bool false, .int .u64 0, .int .u64 0, .int .i64 0] := by (repeat (first | (with_reducible assumption) | ((with_reducible refine Bk.new_ ?_); (first | rfl | (simp only [World.size_alloc, World.size_setCell, World.size_drew, World.heap_drewN]; done))) | (with_reducible refine Bk.alloc ?_ _) | (with_reducible refine Bk.drew ?_) | (with_reducible refine Bk.drewN ?_ _) | ((with_reducible refine Bk.far ?_ ?_ _); rotate_left; focus (simp only []; omega)) | ((with_reducible refine Bk.below ?_ (by with_reducible assumption) ?_); rotate_left; focus (go_size; done))))
      clear hb2c hb2f ka_0 ka_1 ka_2 ka_3 ka_4 ka_5 ka_6 ka_7 kb_0 kb_1 kb_2 kb_3 kb_4 kb_5 kb_6 kb_7 kr_0 kr_1 kr_2 kr_3 kr_4 kr_5 kr_6 kr_7
      have ja_0 := ja.cell 0 rfl
      have ja_1 := ja.cell 1 rfl
      have ja_2 := ja.cell 2 rfl
      have ja_3 := ja.cell 3 rfl
      have ja_4 := ja.frozen 0
      have ja_5 := ja.frozen 1
      have ja_6 := ja.frozen 2
      have ja_7 := ja.frozen 3
      have jb_0 := jb.cell 0 rfl
      have jb_1 := jb.cell 1 rfl
      have jb_2 := jb.cell 2 rfl
      have jb_3 := jb.cell 3 rfl
      have jb_4 := jb.frozen 0
      have jb_5 := jb.frozen 1
      have jb_6 := jb.frozen 2
      have jb_7 := jb.frozen 3
      have jr_0 := jr.cell 0 rfl
      have jr_1 := jr.cell 1 rfl
      have jr_2 := jr.cell 2 rfl
      have jr_3 := jr.cell 3 rfl
      have jr_4 := jr.frozen 0
      have jr_5 := jr.frozen 1
      have jr_6 := jr.frozen 2
      have jr_7 := jr.frozen 3
      have jal := ja.lt
      have jbl := jb.lt
      have jrl := jr.lt
      go_wp2_with fail
      refine (HO.out _).mono ?_
      rintro _ w3 ⟨rfl, hb3⟩; have hb3s := hb3.size; (try simp only [World.size_alloc, World.size_setCell, World.size_drew, World.heap_drewN] at hb3s); obtain ⟨hb3c, hb3f⟩ := bcell hb3; (try have : w.heap.size < w3.heap.size := by omega); (try have : w.heap.size + 1 < w3.heap.size := by omega); (try have : w.heap.size + 1 + 1 < w3.heap.size := by omega); (try have : w.heap.size + 1 + 1 + 1 < w3.heap.size := by omega)
      have la : Bk w3 (w.heap.size) 26 [.bool b, .int .u64 x1, .int .u64 x0, .int .i64 s] := by (repeat (first | (with_reducible assumption) | ((with_reducible refine Bk.new_ ?_); (first | rfl | (simp only [World.size_alloc, World.size_setCell, World.size_drew, World.heap_drewN]; done))) | (with_reducible refine Bk.alloc ?_ _) | (with_reducible refine Bk.drew ?_) | (with_reducible refine Bk.drewN ?_ _) | ((with_reducible refine Bk.far ?_ ?_ _); rotate_left; focus (simp only []; omega)) | ((with_reducible refine Bk.below ?_ (by with_reducible assumption) ?_); rotate_left; focus (go_size; done))))
      have lb : Bk w3 (w.heap.size + 1) 26 [.bool b', .int .u64 y1, .int .u64 y0, .int .i64 s'] := by (repeat (first | (with_reducible assumption) | ((with_reducible refine Bk.new_ ?_); (first | rfl | (simp only [World.size_alloc, World.size_setCell, World.size_drew, World.heap_drewN]; done))) | (with_reducible refine Bk.alloc ?_ _) | (with_reducible refine Bk.drew ?_) | (with_reducible refine Bk.drewN ?_ _) | ((with_reducible refine Bk.far ?_ ?_ _); rotate_left; focus (simp only []; omega)) | ((with_reducible refine Bk.below ?_ (by with_reducible assumption) ?_); rotate_left; focus (go_size; done))))
      have lr : Bk w3 (w.heap.size + 1 + 1) 26 [.bool false, .int .u64 0, .int .u64 0, .int .i64 0] := by (repeat (first | (with_reducible assumption) | ((with_reducible refine Bk.new_ ?_); (first | rfl | (simp only [World.size_alloc, World.size_setCell, World.size_drew, World.heap_drewN]; done))) | (with_reducible refine Bk.alloc ?_ _) | (with_reducible refine Bk.drew ?_) | (with_reducible refine Bk.drewN ?_ _) | ((with_reducible refine Bk.far ?_ ?_ _); rotate_left; focus (simp only []; omega)) | ((with_reducible refine Bk.below ?_ (by with_reducible assumption) ?_); rotate_left; focus (go_size; done))))
      have lx : Bk w3 (w2.heap.size) 45 [.int .u64 p0, .int .u64 p1, .int .u64 p2, .int .u64 p3] := by (repeat (first | (with_reducible assumption) | ((with_reducible refine Bk.new_ ?_); (first | rfl | (simp only [World.size_alloc, World.size_setCell, World.size_drew, World.heap_drewN]; done))) | (with_reducible refine Bk.alloc ?_ _) | (with_reducible refine Bk.drew ?_) | (with_reducible refine Bk.drewN ?_ _) | ((with_reducible refine Bk.far ?_ ?_ _); rotate_left; focus (simp only []; omega)) | ((with_reducible refine Bk.below ?_ (by with_reducible assumption) ?_); rotate_left; focus (go_size; done))))
      have ly : Bk w3 (w2.heap.size + 1) 45 [.int .u64 q0, .int .u64 q1, .int .u64 q2, .int .u64 q3] := by (repeat (first | (with_reducible assumption) | ((with_reducible refine Bk.new_ ?_); (first | rfl | (simp only [World.size_alloc, World.size_setCell, World.size_drew, World.heap_drewN]; done))) | (with_reducible refine Bk.alloc ?_ _) | (with_reducible refine Bk.drew ?_) | (with_reducible refine Bk.drewN ?_ _) | ((with_reducible refine Bk.far ?_ ?_ _); rotate_left; focus (simp only []; omega)) | ((with_reducible refine Bk.below ?_ (by with_reducible assumption) ?_); rotate_left; focus (go_size; done))))
      clear hb3c hb3f ja_0 ja_1 ja_2 ja_3 ja_4 ja_5 ja_6 ja_7 jb_0 jb_1 jb_2 jb_3 jb_4 jb_5 jb_6 jb_7 jr_0 jr_1 jr_2 jr_3 jr_4 jr_5 jr_6 jr_7
      have la_0 := la.cell 0 rfl
      have la_1 := la.cell 1 rfl
      have la_2 := la.cell 2 rfl
      have la_3 := la.cell 3 rfl
      have la_4 := la.frozen 0
      have la_5 := la.frozen 1
      have la_6 := la.frozen 2
      have la_7 := la.frozen 3
      have lb_0 := lb.cell 0 rfl
      have lb_1 := lb.cell 1 rfl
      have lb_2 := lb.cell 2 rfl
      have lb_3 := lb.cell 3 rfl
      have lb_4 := lb.frozen 0
      have lb_5 := lb.frozen 1
      have lb_6 := lb.frozen 2
      have lb_7 := lb.frozen 3
      have lr_0 := lr.cell 0 rfl
      have lr_1 := lr.cell 1 rfl
      have lr_2 := lr.cell 2 rfl
      have lr_3 := lr.cell 3 rfl
      have lr_4 := lr.frozen 0
      have lr_5 := lr.frozen 1
      have lr_6 := lr.frozen 2
      have lr_7 := lr.frozen 3
      have lx_0 := lx.cell 0 rfl
      have lx_1 := lx.cell 1 rfl
      have lx_2 := lx.cell 2 rfl
      have lx_3 := lx.cell 3 rfl
      have lx_4 := lx.frozen 0
      have lx_5 := lx.frozen 1
      have lx_6 := lx.frozen 2
      have lx_7 := lx.frozen 3
      have ly_0 := ly.cell 0 rfl
      have ly_1 := ly.cell 1 rfl
      have ly_2 := ly.cell 2 rfl
      have ly_3 := ly.cell 3 rfl
      have ly_4 := ly.frozen 0
      have ly_5 := ly.frozen 1
      have ly_6 := ly.frozen 2
      have ly_7 := ly.frozen 3
      go_wp2_with fail
      go_region_held3 (fun w' => (w'.cell? ⟨(w.heap.size + 1), 0, none⟩ = some (.bool b') ∧ w'.cell? ⟨(w.heap.size + 1), 1, none⟩ = some (.int .u64 y1) ∧ w'.cell? ⟨(w.heap.size + 1), 2, none⟩ = some (.int .u64 y0) ∧ w'.cell? ⟨(w.heap.size + 1), 3, none⟩ = some (.int .i64 s')) ∧ (w'.cell? ⟨w2.heap.size, 0, none⟩ = some (.int .u64 p0) ∧ w'.cell? ⟨w2.heap.size, 1, none⟩ = some (.int .u64 p1) ∧ w'.cell? ⟨w2.heap.size, 2, none⟩ = some (.int .u64 p2) ∧ w'.cell? ⟨w2.heap.size, 3, none⟩ = some (.int .u64 p3)) ∧ (w'.cell? ⟨(w2.heap.size + 1), 0, none⟩ = some (.int .u64 q0) ∧ w'.cell? ⟨(w2.heap.size + 1), 1, none⟩ = some (.int .u64 q1) ∧ w'.cell? ⟨(w2.heap.size + 1), 2, none⟩ = some (.int .u64 q2) ∧ w'.cell? ⟨(w2.heap.size + 1), 3, none⟩ = some (.int .u64 q3))) (first | (first | (go_keep; done) | (simp [go_sem]; done) | ((try dsimp only); (repeat' apply And.intro) <;> (first | (with_reducible assumption) | ((rw [World.cell?_alloc_lt _ _ _ (by show _ < _; omega)]); go_split_ands; (first | with_reducible assumption | (refine (World.cell?_alloc_lt _ _ _ (by show _ < _; omega)).symm.trans ?_; with_reducible assumption))) | ((rw [World.cell?_setCell_other _ _ _ _ (by intro e; injection e; omega)]); with_reducible assumption) | (go_keep; done) | (simp [go_sem]; done) | (simp (disch := go_size) [*, World.cell?_alloc_some, World.cell?_setCell_far]; done)))) | ((refine ⟨?_, ?_, ?_⟩) <;> (first | ((refine ⟨Bk.cell (t := 26) (cs := [.bool b', .int .u64 y1, .int .u64 y0, .int .i64 s']) ?_ 0 rfl, Bk.cell (t := 26) (cs := [.bool b', .int .u64 y1, .int .u64 y0, .int .i64 s']) ?_ 1 rfl, Bk.cell (t := 26) (cs := [.bool b', .int .u64 y1, .int .u64 y0, .int .i64 s']) ?_ 2 rfl, Bk.cell (t := 26) (cs := [.bool b', .int .u64 y1, .int .u64 y0, .int .i64 s']) ?_ 3 rfl⟩) <;> ((repeat (first | (with_reducible assumption) | ((with_reducible refine Bk.new_ ?_); (first | rfl | (simp only [World.size_alloc, World.size_setCell, World.size_drew, World.heap_drewN]; done))) | (with_reducible refine Bk.alloc ?_ _) | (with_reducible refine Bk.drew ?_) | (with_reducible refine Bk.drewN ?_ _) | ((with_reducible refine Bk.far ?_ ?_ _); rotate_left; focus (simp only []; omega)) | ((with_reducible refine Bk.below ?_ (by with_reducible assumption) ?_); rotate_left; focus (go_size; done)))); done)) | ((refine ⟨Bk.cell (t := 45) (cs := [.int .u64 p0, .int .u64 p1, .int .u64 p2, .int .u64 p3]) ?_ 0 rfl, Bk.cell (t := 45) (cs := [.int .u64 p0, .int .u64 p1, .int .u64 p2, .int .u64 p3]) ?_ 1 rfl, Bk.cell (t := 45) (cs := [.int .u64 p0, .int .u64 p1, .int .u64 p2, .int .u64 p3]) ?_ 2 rfl, Bk.cell (t := 45) (cs := [.int .u64 p0, .int .u64 p1, .int .u64 p2, .int .u64 p3]) ?_ 3 rfl⟩) <;> ((repeat (first | (with_reducible assumption) | ((with_reducible refine Bk.new_ ?_); (first | rfl | (simp only [World.size_alloc, World.size_setCell, World.size_drew, World.heap_drewN]; done))) | (with_reducible refine Bk.alloc ?_ _) | (with_reducible refine Bk.drew ?_) | (with_reducible refine Bk.drewN ?_ _) | ((with_reducible refine Bk.far ?_ ?_ _); rotate_left; focus (simp only []; omega)) | ((with_reducible refine Bk.below ?_ (by with_reducible assumption) ?_); rotate_left; focus (go_size; done)))); done)) | ((refine ⟨Bk.cell (t := 45) (cs := [.int .u64 q0, .int .u64 q1, .int .u64 q2, .int .u64 q3]) ?_ 0 rfl, Bk.cell (t := 45) (cs := [.int .u64 q0, .int .u64 q1, .int .u64 q2, .int .u64 q3]) ?_ 1 rfl, Bk.cell (t := 45) (cs := [.int .u64 q0, .int .u64 q1, .int .u64 q2, .int .u64 q3]) ?_ 2 rfl, Bk.cell (t := 45) (cs := [.int .u64 q0, .int .u64 q1, .int .u64 q2, .int .u64 q3]) ?_ 3 rfl⟩) <;> ((repeat (first | (with_reducible assumption) | ((with_reducible refine Bk.new_ ?_); (first | rfl | (simp only [World.size_alloc, World.size_setCell, World.size_drew, World.heap_drewN]; done))) | (with_reducible refine Bk.alloc ?_ _) | (with_reducible refine Bk.drew ?_) | (with_reducible refine Bk.drewN ?_ _) | ((with_reducible refine Bk.far ?_ ?_ _); rotate_left; focus (simp only []; omega)) | ((with_reducible refine Bk.below ?_ (by with_reducible assumption) ?_); rotate_left; focus (go_size; done)))); done))))) (first | (go_at_call 53; (with_reducible refine (HP.out _).mono ?_); rintro _ w4 ⟨rfl, hb4⟩; have hb4s := hb4.size; (try simp only [World.size_alloc, World.size_setCell, World.size_drew, World.heap_drewN] at hb4s); obtain ⟨hb4c, hb4f⟩ := bcell hb4; (try have : w.heap.size < w4.heap.size := by omega); (try have : w.heap.size + 1 < w4.heap.size := by omega); (try have : w.heap.size + 1 + 1 < w4.heap.size := by omega); (try have : w.heap.size + 1 + 1 + 1 < w4.heap.size := by omega); (try have : w2.heap.size < w4.heap.size := by omega); (try have : w2.heap.size + 1 < w4.heap.size := by omega); (try have : w2.heap.size + 1 + 1 < w4.heap.size := by omega); (try have : w2.heap.size + 1 + 1 + 1 < w4.heap.size := by omega); (try have : w3.heap.size < w4.heap.size := by omega); (try have : w3.heap.size + 1 < w4.heap.size := by omega); (try have : w3.heap.size + 1 + 1 < w4.heap.size := by omega); (try have : w3.heap.size + 1 + 1 + 1 < w4.heap.size := by omega)) | (go_at_call 51; (with_reducible refine (HT.out _).mono ?_); rintro _ w5 ⟨rfl, hb5⟩; have hb5s := hb5.size; (try simp only [World.size_alloc, World.size_setCell, World.size_drew, World.heap_drewN] at hb5s); obtain ⟨hb5c, hb5f⟩ := bcell hb5; (try have : w.heap.size < w5.heap.size := by omega); (try have : w.heap.size + 1 < w5.heap.size := by omega); (try have : w.heap.size + 1 + 1 < w5.heap.size := by omega); (try have : w.heap.size + 1 + 1 + 1 < w5.heap.size := by omega); have zr : Bk w5 (w.heap.size + 1 + 1) 26 [.bool false, .int .u64 0, .int .u64 0, .int .i64 0] := (by (repeat (first | (with_reducible assumption) | ((with_reducible refine Bk.new_ ?_); (first | rfl | (simp only [World.size_alloc, World.size_setCell, World.size_drew, World.heap_drewN]; done))) | (with_reducible refine Bk.alloc ?_ _) | (with_reducible refine Bk.drew ?_) | (with_reducible refine Bk.drewN ?_ _) | ((with_reducible refine Bk.far ?_ ?_ _); rotate_left; focus (simp only []; omega)) | ((with_reducible refine Bk.below ?_ (by with_reducible assumption) ?_); rotate_left; focus (go_size; done))))); have zr_0 := zr.cell 0 rfl; have zr_1 := zr.cell 1 rfl; have zr_2 := zr.cell 2 rfl; have zr_3 := zr.cell 3 rfl; have zr_4 := zr.frozen 0; have zr_5 := zr.frozen 1; have zr_6 := zr.frozen 2; have zr_7 := zr.frozen 3; have zrl := zr.lt; clear hb5c hb5f; (try have : w2.heap.size < w5.heap.size := by omega); (try have : w2.heap.size + 1 < w5.heap.size := by omega); (try have : w2.heap.size + 1 + 1 < w5.heap.size := by omega); (try have : w2.heap.size + 1 + 1 + 1 < w5.heap.size := by omega); (try have : w3.heap.size < w5.heap.size := by omega); (try have : w3.heap.size + 1 < w5.heap.size := by omega); (try have : w3.heap.size + 1 + 1 < w5.heap.size := by omega); (try have : w3.heap.size + 1 + 1 + 1 < w5.heap.size := by omega); (try have : w4.heap.size < w5.heap.size := by omega); (try have : w4.heap.size + 1 < w5.heap.size := by omega); (try have : w4.heap.size + 1 + 1 < w5.heap.size := by omega); (try have : w4.heap.size + 1 + 1 + 1 < w5.heap.size := by omega)))
      all_goals
        refine wp_named (fun W => Bk W (w.heap.size + 1 + 1) 26 [.bool (sg b' C), .int .u64 (wd C 1), .int .u64 (wd C 0), .int .i64 (S : Int)] ∧ Below w.heap.size w W) ⟨?h1, ?h2⟩ ?_
        case h1 => (first | ((repeat (first | (with_reducible assumption) | ((with_reducible refine Bk.new_ ?_); (first | rfl | (simp only [World.size_alloc, World.size_setCell, World.size_drew, World.heap_drewN]; done))) | (with_reducible refine Bk.alloc ?_ _) | (with_reducible refine Bk.drew ?_) | (with_reducible refine Bk.drewN ?_ _) | ((with_reducible refine Bk.far ?_ ?_ _); rotate_left; focus (simp only []; omega)) | ((with_reducible refine Bk.below ?_ (by with_reducible assumption) ?_); rotate_left; focus (go_size; done)))); done) | ((repeat (first | (with_reducible refine Bk.alloc ?_ _) | (with_reducible refine Bk.drew ?_) | ((with_reducible refine Bk.far ?_ ?_ _); rotate_left; focus (simp only []; omega)))); (refine ((((?_ : Bk _ _ _ [.bool false, .int .u64 0, .int .u64 0, .int .i64 0]).set_ 0 _).set_ 1 _).set_ 2 _).set_ 3 _); (repeat (first | (with_reducible assumption) | ((with_reducible refine Bk.new_ ?_); (first | rfl | (simp only [World.size_alloc, World.size_setCell, World.size_drew, World.heap_drewN]; done))) | (with_reducible refine Bk.alloc ?_ _) | (with_reducible refine Bk.drew ?_) | (with_reducible refine Bk.drewN ?_ _) | ((with_reducible refine Bk.far ?_ ?_ _); rotate_left; focus (simp only []; omega)) | ((with_reducible refine Bk.below ?_ (by with_reducible assumption) ?_); rotate_left; focus (go_size; done))))); done)
        case h2 => ((repeat' (first | (with_reducible exact Below.refl _ _) | (with_reducible assumption) | (with_reducible refine Below.drew ?_) | (with_reducible refine below_drewN ?_ _) | ((with_reducible refine Below.alloc ?_ ?_ _); rotate_left; focus (go_size; done)) | ((with_reducible refine Below.setCell ?_ ?_ _); rotate_left; focus (go_size; done)) | ((with_reducible refine Below.trans ?_ (Below.mono (by with_reducible assumption) ?_)); rotate_left; focus (go_size; done)))); done)
        rintro W ⟨k1, mb⟩
        have k1_0 := k1.cell 0 rfl
        have k1_1 := k1.cell 1 rfl
        have k1_2 := k1.cell 2 rfl
        have k1_3 := k1.cell 3 rfl
        have k1_4 := k1.frozen 0
        have k1_5 := k1.frozen 1
        have k1_6 := k1.frozen 2
        have k1_7 := k1.frozen 3
        go_wp2_with fail
        refine bodyPost_ret (by simp [results, Try.results15, go_sem, *]; try rfl) rfl ?_
        exact ⟨rfl, by (repeat' (first | (with_reducible exact Below.refl _ _) | (with_reducible assumption) | (with_reducible refine Below.drew ?_) | (with_reducible refine below_drewN ?_ _) | ((with_reducible refine Below.alloc ?_ ?_ _); rotate_left; focus (go_size; done)) | ((with_reducible refine Below.setCell ?_ ?_ _); rotate_left; focus (go_size; done)) | ((with_reducible refine Below.trans ?_ (Below.mono (by with_reducible assumption) ?_)); rotate_left; focus (go_size; done))))⟩
end Go.Proofs.Ythkgjodidkpaeaa
