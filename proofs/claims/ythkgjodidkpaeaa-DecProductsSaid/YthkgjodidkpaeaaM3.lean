/- The contracts of the functions that the law reaches, part 3: what each returns and what becomes of memory. -/
import Derived.Test.YthkgjodidkpaeaaM1
import Derived.Test.YthkgjodidkpaeaaM2
set_option linter.unusedSimpArgs false
set_option linter.unusedVariables false
namespace Go.Proofs.Ythkgjodidkpaeaa
open Go.RowKit

set_option maxHeartbeats 2000000 in
theorem add_bad (b : Bool) (c : Nat) (s : Int) (b' : Bool) (c' : Nat) (s' : Int) (hc : c < 2 ^ 128) (hc' : c' < 2 ^ 128) (h : (dform b c s && dform b' c' s') = false) (w : World) :
    Calls Try.prog 15 #[.agg #[.bool b, .int .u64 (wd (c) 1), .int .u64 (wd (c) 0), .int .i64 s], .agg #[.bool b', .int .u64 (wd (c') 1), .int .u64 (wd (c') 0), .int .i64 s']] w fun e w' => e = .returned (.tuple #[.agg #[.bool false, .int .u64 0, .int .u64 0, .int .i64 0], .int .i64 2]) ∧ Below w.heap.size w w' := by
  have HF := Lib.hid (fun g W hg => formed_two b c s hc b' c' s' hc' g W hg)
  rw [h] at HF
  simp only [ferr, if_pos, if_neg, Bool.false_eq_true, if_true, if_false] at HF
  generalize wd c 0 = x0 at *
  generalize wd c 1 = x1 at *
  generalize wd c' 0 = y0 at *
  generalize wd c' 1 = y1 at *
  clear hc hc' h
  go_enter Try.func15, Try.ntmps15
  go_wp2_with fail
  (with_reducible refine (HF.out _ _ ?hg).mono ?_)
  case hg => ((repeat (first | (with_reducible assumption) | ((with_reducible refine Bk.new_ ?_); (first | rfl | (simp only [World.size_alloc, World.size_setCell, World.size_drew, World.heap_drewN]; done))) | (with_reducible refine Bk.alloc ?_ _) | (with_reducible refine Bk.drew ?_) | (with_reducible refine Bk.drewN ?_ _) | ((with_reducible refine Bk.far ?_ ?_ _); rotate_left; focus (simp only []; omega)) | ((with_reducible refine Bk.below ?_ (by with_reducible assumption) ?_); rotate_left; focus (go_size; done)))); done)
  rintro _ w1 ⟨rfl, hb1⟩; have hb1s := hb1.size; (try simp only [World.size_alloc, World.size_setCell, World.size_drew, World.heap_drewN] at hb1s); obtain ⟨hb1c, hb1f⟩ := bcell hb1; (try have : w.heap.size < w1.heap.size := by omega); (try have : w.heap.size + 1 < w1.heap.size := by omega); (try have : w.heap.size + 1 + 1 < w1.heap.size := by omega); (try have : w.heap.size + 1 + 1 + 1 < w1.heap.size := by omega)
  have ka : Bk w1 (w.heap.size) 26 [.bool b, .int .u64 x1, .int .u64 x0, .int .i64 s] := by (repeat (first | (with_reducible assumption) | ((with_reducible refine Bk.new_ ?_); (first | rfl | (simp only [World.size_alloc, World.size_setCell, World.size_drew, World.heap_drewN]; done))) | (with_reducible refine Bk.alloc ?_ _) | (with_reducible refine Bk.drew ?_) | (with_reducible refine Bk.drewN ?_ _) | ((with_reducible refine Bk.far ?_ ?_ _); rotate_left; focus (simp only []; omega)) | ((with_reducible refine Bk.below ?_ (by with_reducible assumption) ?_); rotate_left; focus (go_size; done))))
  have ka_0 := ka.cell 0 rfl
  have ka_1 := ka.cell 1 rfl
  have ka_2 := ka.cell 2 rfl
  have ka_3 := ka.cell 3 rfl
  have ka_4 := ka.frozen 0
  have ka_5 := ka.frozen 1
  have ka_6 := ka.frozen 2
  have ka_7 := ka.frozen 3
  have kal := ka.lt
  have kb : Bk w1 (w.heap.size + 1) 26 [.bool b', .int .u64 y1, .int .u64 y0, .int .i64 s'] := by (repeat (first | (with_reducible assumption) | ((with_reducible refine Bk.new_ ?_); (first | rfl | (simp only [World.size_alloc, World.size_setCell, World.size_drew, World.heap_drewN]; done))) | (with_reducible refine Bk.alloc ?_ _) | (with_reducible refine Bk.drew ?_) | (with_reducible refine Bk.drewN ?_ _) | ((with_reducible refine Bk.far ?_ ?_ _); rotate_left; focus (simp only []; omega)) | ((with_reducible refine Bk.below ?_ (by with_reducible assumption) ?_); rotate_left; focus (go_size; done))))
  have kb_0 := kb.cell 0 rfl
  have kb_1 := kb.cell 1 rfl
  have kb_2 := kb.cell 2 rfl
  have kb_3 := kb.cell 3 rfl
  have kb_4 := kb.frozen 0
  have kb_5 := kb.frozen 1
  have kb_6 := kb.frozen 2
  have kb_7 := kb.frozen 3
  have kbl := kb.lt
  have kr : Bk w1 (w.heap.size + 1 + 1) 26 [.bool false, .int .u64 0, .int .u64 0, .int .i64 0] := by (repeat (first | (with_reducible assumption) | ((with_reducible refine Bk.new_ ?_); (first | rfl | (simp only [World.size_alloc, World.size_setCell, World.size_drew, World.heap_drewN]; done))) | (with_reducible refine Bk.alloc ?_ _) | (with_reducible refine Bk.drew ?_) | (with_reducible refine Bk.drewN ?_ _) | ((with_reducible refine Bk.far ?_ ?_ _); rotate_left; focus (simp only []; omega)) | ((with_reducible refine Bk.below ?_ (by with_reducible assumption) ?_); rotate_left; focus (go_size; done))))
  have kr_0 := kr.cell 0 rfl
  have kr_1 := kr.cell 1 rfl
  have kr_2 := kr.cell 2 rfl
  have kr_3 := kr.cell 3 rfl
  have kr_4 := kr.frozen 0
  have kr_5 := kr.frozen 1
  have kr_6 := kr.frozen 2
  have kr_7 := kr.frozen 3
  have krl := kr.lt
  clear hb1c hb1f ka kb kr
  go_wp2_with fail
  refine bodyPost_ret (by simp [results, Try.results15, go_sem, *]; try rfl) rfl ?_
  exact ⟨rfl, by (repeat' (first | (with_reducible exact Below.refl _ _) | (with_reducible assumption) | (with_reducible refine Below.drew ?_) | (with_reducible refine below_drewN ?_ _) | ((with_reducible refine Below.alloc ?_ ?_ _); rotate_left; focus (go_size; done)) | ((with_reducible refine Below.setCell ?_ ?_ _); rotate_left; focus (go_size; done)) | ((with_reducible refine Below.trans ?_ (Below.mono (by with_reducible assumption) ?_)); rotate_left; focus (go_size; done))))⟩
theorem sgn_same {b b' : Bool} {x y : Nat} (h : b = b') : sgn b x b' y = b ∧ sab b x b' y = x + y := by unfold sgn sab; rw [if_pos h, if_pos h]; exact ⟨rfl, rfl⟩
theorem sgn_ge {b b' : Bool} {x y : Nat} (h : b ≠ b') (hl : y ≤ x) : sgn b x b' y = b ∧ sab b x b' y = x - y := by unfold sgn sab; rw [if_neg h, if_neg h, if_pos hl, if_pos hl]; exact ⟨rfl, rfl⟩
theorem sgn_lt {b b' : Bool} {x y : Nat} (h : b ≠ b') (hl : x < y) : sgn b x b' y = b' ∧ sab b x b' y = y - x := by unfold sgn sab; rw [if_neg h, if_neg h, if_neg (by omega), if_neg (by omega)]; exact ⟨rfl, rfl⟩
theorem cmpN_ge {x y : Nat} (h : y ≤ x) : 0 ≤ cmpN x y := by unfold cmpN; split <;> (try split) <;> omega
theorem cmpN_lt {x y : Nat} (h : x < y) : cmpN x y < 0 := by unfold cmpN; rw [if_neg (by omega), if_pos h]; decide
/-- the sum in the units of the greater scale -/
theorem add_units (b b' : Bool) (c c' s s' m : Nat) (hs : s ≤ 18) (hs' : s' ≤ 18) (hm : m = max s s') :
    FitC (sab b (unit c s) b' (unit c' s')) (10 ^ 18) = FitC (sab b (c * 10 ^ (m - s)) b' (c' * 10 ^ (m - s'))) (10 ^ m) ∧ FitS (sab b (unit c s) b' (unit c' s')) (10 ^ 18) = FitS (sab b (c * 10 ^ (m - s)) b' (c' * 10 ^ (m - s'))) (10 ^ m) ∧
    FitE (sab b (unit c s) b' (unit c' s')) (10 ^ 18) = FitE (sab b (c * 10 ^ (m - s)) b' (c' * 10 ^ (m - s'))) (10 ^ m) ∧ sgn b (unit c s) b' (unit c' s') = sgn b (c * 10 ^ (m - s)) b' (c' * 10 ^ (m - s')) := by
  obtain ⟨e1, e2⟩ := sum_units b b' c c' s s' m (by omega) (by omega) (by omega)
  obtain ⟨e3, e4, e5⟩ := fit_units (sab b (c * 10 ^ (m - s)) b' (c' * 10 ^ (m - s'))) m (by omega)
  rw [e1, e2, e3, e4, e5]
  exact ⟨rfl, rfl, rfl, rfl⟩
set_option maxRecDepth 100000 in
set_option maxHeartbeats 8000000 in
theorem add_ok (b : Bool) (c s : Nat) (b' : Bool) (c' s' : Nat) (h : dform b c s = true) (h' : dform b' c' s' = true) (hc : c < B34) (hc' : c' < B34) (hs : s ≤ 18) (hs' : s' ≤ 18) (w : World) :
    Calls Try.prog 15 #[.agg #[.bool b, .int .u64 (wd (c) 1), .int .u64 (wd (c) 0), .int .i64 s], .agg #[.bool b', .int .u64 (wd (c') 1), .int .u64 (wd (c') 0), .int .i64 s']] w fun e w' => e = .returned (.tuple #[.agg #[.bool (sg (sgn b (unit c s) b' (unit c' s')) (FitC ((sab b (unit c s) b' (unit c' s'))) (10 ^ 18))), .int .u64 (wd (FitC ((sab b (unit c s) b' (unit c' s'))) (10 ^ 18)) 1), .int .u64 (wd (FitC ((sab b (unit c s) b' (unit c' s'))) (10 ^ 18)) 0), .int .i64 (FitS ((sab b (unit c s) b' (unit c' s'))) (10 ^ 18))], .int .i64 (FitE (sab b (unit c s) b' (unit c' s')) (10 ^ 18))]) ∧ Below w.heap.size w w' := by
  obtain ⟨m, hm⟩ : ∃ m, m = max s s' := ⟨_, rfl⟩
  obtain ⟨e1, e2, e3, e4⟩ := add_units b b' c c' s s' m hs hs' hm
  rw [e1, e2, e3, e4]
  have HF := Lib.hid (fun g W hg => formed_two b c s (Nat.lt_trans hc B34_lt) b' c' s' (Nat.lt_trans hc' B34_lt) g W hg)
  rw [h, h'] at HF
  simp only [ferr, Bool.and_true, if_true] at HF
  have HB := Lib.hid (fun W => both_any b c s b' c' s' m hc hc' hs hs' hm W)
  have hX : c * 10 ^ (m - s) < 10 ^ 52 := scaled_lt hc (by omega)
  have hY : c' * 10 ^ (m - s') < 10 ^ 52 := scaled_lt hc' (by omega)
  generalize c * 10 ^ (m - s) = X at *
  generalize c' * 10 ^ (m - s') = Y at *
  have m76 : m ≤ 76 := by omega
  have hX2 : X < 2 ^ 256 := Nat.lt_trans hX (by decide)
  have hY2 : Y < 2 ^ 256 := Nat.lt_trans hY (by decide)
  have hXY : X + Y < 2 ^ 256 := Nat.lt_trans (Nat.add_lt_add hX hY) (by decide)
  have m0 : (0 : Int) ≤ (m : Int) := by omega
  clear e1 e2 e3 e4 h h' hm hX hY
  obtain ⟨sI, hsI⟩ : ∃ sI : Int, sI = (s : Int) := ⟨_, rfl⟩
  obtain ⟨sJ, hsJ⟩ : ∃ sJ : Int, sJ = (s' : Int) := ⟨_, rfl⟩
  rw [← hsI, ← hsJ] at HF HB ⊢
  clear hsI hsJ hs hs'
  obtain ⟨s, rfl⟩ : ∃ s, s = sI := ⟨_, rfl⟩
  obtain ⟨s', rfl⟩ : ∃ s', s' = sJ := ⟨_, rfl⟩
  by_cases hb : b = b'
  · obtain ⟨e1, e2⟩ := sgn_same (x := X) (y := Y) hb
    rw [e1, e2]
    have HP := Lib.hid (fun W => plus4_any X Y hXY W)
    have HT := Lib.hid (fun W => fit_any b (X + Y) m hXY m76 W)
    have hbe : (b == b') = true := by simpa using hb
    clear e1 e2 hX2 hY2 hb
    generalize FitC (X + Y) (10 ^ m) = C at *
    generalize FitS (X + Y) (10 ^ m) = S at *
    generalize FitE (X + Y) (10 ^ m) = E at *
    generalize X + Y = U at *
    generalize wd X 0 = p0 at *
    generalize wd X 1 = p1 at *
    generalize wd X 2 = p2 at *
    generalize wd X 3 = p3 at *
    generalize wd Y 0 = q0 at *
    generalize wd Y 1 = q1 at *
    generalize wd Y 2 = q2 at *
    generalize wd Y 3 = q3 at *
    generalize wd c 0 = x0 at *
    generalize wd c 1 = x1 at *
    generalize wd c' 0 = y0 at *
    generalize wd c' 1 = y1 at *
    clear hc hc'
    go_enter Try.func15, Try.ntmps15
    go_wp2_with fail
    (with_reducible refine (HF.out _ _ ?hg).mono ?_)
    case hg => ((repeat (first | (with_reducible assumption) | ((with_reducible refine Bk.new_ ?_); (first | rfl | (simp only [World.size_alloc, World.size_setCell, World.size_drew, World.heap_drewN]; done))) | (with_reducible refine Bk.alloc ?_ _) | (with_reducible refine Bk.drew ?_) | (with_reducible refine Bk.drewN ?_ _) | ((with_reducible refine Bk.far ?_ ?_ _); rotate_left; focus (simp only []; omega)) | ((with_reducible refine Bk.below ?_ (by with_reducible assumption) ?_); rotate_left; focus (go_size; done)))); done)
    rintro _ w1 ⟨rfl, hb1⟩; have hb1s := hb1.size; (try simp only [World.size_alloc, World.size_setCell, World.size_drew, World.heap_drewN] at hb1s); obtain ⟨hb1c, hb1f⟩ := bcell hb1; (try have : w.heap.size < w1.heap.size := by omega); (try have : w.heap.size + 1 < w1.heap.size := by omega); (try have : w.heap.size + 1 + 1 < w1.heap.size := by omega); (try have : w.heap.size + 1 + 1 + 1 < w1.heap.size := by omega)
    have ka : Bk w1 (w.heap.size) 26 [.bool b, .int .u64 x1, .int .u64 x0, .int .i64 s] := by (repeat (first | (with_reducible assumption) | ((with_reducible refine Bk.new_ ?_); (first | rfl | (simp only [World.size_alloc, World.size_setCell, World.size_drew, World.heap_drewN]; done))) | (with_reducible refine Bk.alloc ?_ _) | (with_reducible refine Bk.drew ?_) | (with_reducible refine Bk.drewN ?_ _) | ((with_reducible refine Bk.far ?_ ?_ _); rotate_left; focus (simp only []; omega)) | ((with_reducible refine Bk.below ?_ (by with_reducible assumption) ?_); rotate_left; focus (go_size; done))))
    have ka_0 := ka.cell 0 rfl
    have ka_1 := ka.cell 1 rfl
    have ka_2 := ka.cell 2 rfl
    have ka_3 := ka.cell 3 rfl
    have ka_4 := ka.frozen 0
    have ka_5 := ka.frozen 1
    have ka_6 := ka.frozen 2
    have ka_7 := ka.frozen 3
    have kal := ka.lt
    have kb : Bk w1 (w.heap.size + 1) 26 [.bool b', .int .u64 y1, .int .u64 y0, .int .i64 s'] := by (repeat (first | (with_reducible assumption) | ((with_reducible refine Bk.new_ ?_); (first | rfl | (simp only [World.size_alloc, World.size_setCell, World.size_drew, World.heap_drewN]; done))) | (with_reducible refine Bk.alloc ?_ _) | (with_reducible refine Bk.drew ?_) | (with_reducible refine Bk.drewN ?_ _) | ((with_reducible refine Bk.far ?_ ?_ _); rotate_left; focus (simp only []; omega)) | ((with_reducible refine Bk.below ?_ (by with_reducible assumption) ?_); rotate_left; focus (go_size; done))))
    have kb_0 := kb.cell 0 rfl
    have kb_1 := kb.cell 1 rfl
    have kb_2 := kb.cell 2 rfl
    have kb_3 := kb.cell 3 rfl
    have kb_4 := kb.frozen 0
    have kb_5 := kb.frozen 1
    have kb_6 := kb.frozen 2
    have kb_7 := kb.frozen 3
    have kbl := kb.lt
    have kr : Bk w1 (w.heap.size + 1 + 1) 26 [.bool false, .int .u64 0, .int .u64 0, .int .i64 0] := by (repeat (first | (with_reducible assumption) | ((with_reducible refine Bk.new_ ?_); (first | rfl | (simp only [World.size_alloc, World.size_setCell, World.size_drew, World.heap_drewN]; done))) | (with_reducible refine Bk.alloc ?_ _) | (with_reducible refine Bk.drew ?_) | (with_reducible refine Bk.drewN ?_ _) | ((with_reducible refine Bk.far ?_ ?_ _); rotate_left; focus (simp only []; omega)) | ((with_reducible refine Bk.below ?_ (by with_reducible assumption) ?_); rotate_left; focus (go_size; done))))
    have kr_0 := kr.cell 0 rfl
    have kr_1 := kr.cell 1 rfl
    have kr_2 := kr.cell 2 rfl
    have kr_3 := kr.cell 3 rfl
    have kr_4 := kr.frozen 0
    have kr_5 := kr.frozen 1
    have kr_6 := kr.frozen 2
    have kr_7 := kr.frozen 3
    have krl := kr.lt
    clear hb1c hb1f
    go_wp2_with fail
    refine (HB.out _).mono ?_
    rintro _ w2 ⟨rfl, hb2⟩; have hb2s := hb2.size; (try simp only [World.size_alloc, World.size_setCell, World.size_drew, World.heap_drewN] at hb2s); obtain ⟨hb2c, hb2f⟩ := bcell hb2; (try have : w.heap.size < w2.heap.size := by omega); (try have : w.heap.size + 1 < w2.heap.size := by omega); (try have : w.heap.size + 1 + 1 < w2.heap.size := by omega); (try have : w.heap.size + 1 + 1 + 1 < w2.heap.size := by omega)
    have ja : Bk w2 (w.heap.size) 26 [.bool b, .int .u64 x1, .int .u64 x0, .int .i64 s] := by (repeat (first | (with_reducible assumption) | ((with_reducible refine Bk.new_ ?_); (first | rfl | (simp only [World.size_alloc, World.size_setCell, World.size_drew, World.heap_drewN]; done))) | (with_reducible refine Bk.alloc ?_ _) | (with_reducible refine Bk.drew ?_) | (with_reducible refine Bk.drewN ?_ _) | ((with_reducible refine Bk.far ?_ ?_ _); rotate_left; focus (simp only []; omega)) | ((with_reducible refine Bk.below ?_ (by with_reducible assumption) ?_); rotate_left; focus (go_size; done))))
    have jb : Bk w2 (w.heap.size + 1) 26 [.bool b', .int .u64 y1, .int .u64 y0, .int .i64 s'] := by (repeat (first | (with_reducible assumption) | ((with_reducible refine Bk.new_ ?_); (first | rfl | (simp only [World.size_alloc, World.size_setCell, World.size_drew, World.heap_drewN]; done))) | (with_reducible refine Bk.alloc ?_ _) | (with_reducible refine Bk.drew ?_) | (with_reducible refine Bk.drewN ?_ _) | ((with_reducible refine Bk.far ?_ ?_ _); rotate_left; focus (simp only []; omega)) | ((with_reducible refine Bk.below ?_ (by with_reducible assumption) ?_); rotate_left; focus (go_size; done))))
    have jr : Bk w2 (w.heap.size + 1 + 1) 26 [.bool false, .int .u64 0, .int .u64 0, .int .i64 0] := by (repeat (first | (with_reducible assumption) | ((with_reducible refine Bk.new_ ?_); (first | rfl | (simp only [World.size_alloc, World.size_setCell, World.size_drew, World.heap_drewN]; done))) | (with_reducible refine Bk.alloc ?_ _) | (with_reducible refine Bk.drew ?_) | (with_reducible refine Bk.drewN ?_ _) | ((with_reducible refine Bk.far ?_ ?_ _); rotate_left; focus (simp only []; omega)) | ((with_reducible refine Bk.below ?_ (by with_reducible assumption) ?_); rotate_left; focus (go_size; done))))
    clear hb2c hb2f ka_0 ka_1 ka_2 ka_3 ka_4 ka_5 ka_6 ka_7 kb_0 kb_1 kb_2 kb_3 kb_4 kb_5 kb_6 kb_7 kr_0 kr_1 kr_2 kr_3 kr_4 kr_5 kr_6 kr_7
    have ja_0 := ja.cell 0 rfl
    have ja_1 := ja.cell 1 rfl
    have ja_2 := ja.cell 2 rfl
    have ja_3 := ja.cell 3 rfl
    have ja_4 := ja.frozen 0
    have ja_5 := ja.frozen 1
    have ja_6 := ja.frozen 2
    have ja_7 := ja.frozen 3
    have jb_0 := jb.cell 0 rfl
    have jb_1 := jb.cell 1 rfl
    have jb_2 := jb.cell 2 rfl
    have jb_3 := jb.cell 3 rfl
    have jb_4 := jb.frozen 0
    have jb_5 := jb.frozen 1
    have jb_6 := jb.frozen 2
    have jb_7 := jb.frozen 3
    have jr_0 := jr.cell 0 rfl
    have jr_1 := jr.cell 1 rfl
    have jr_2 := jr.cell 2 rfl
    have jr_3 := jr.cell 3 rfl
    have jr_4 := jr.frozen 0
    have jr_5 := jr.frozen 1
    have jr_6 := jr.frozen 2
    have jr_7 := jr.frozen 3
    have jal := ja.lt
    have jbl := jb.lt
    have jrl := jr.lt
    go_wp2_with fail
    go_region_held3 (fun w' => (w'.cell? ⟨w.heap.size, 0, none⟩ = some (.bool b) ∧ w'.cell? ⟨w.heap.size, 1, none⟩ = some (.int .u64 x1) ∧ w'.cell? ⟨w.heap.size, 2, none⟩ = some (.int .u64 x0) ∧ w'.cell? ⟨w.heap.size, 3, none⟩ = some (.int .i64 s)) ∧ (w'.cell? ⟨w2.heap.size, 0, none⟩ = some (.int .u64 p0) ∧ w'.cell? ⟨w2.heap.size, 1, none⟩ = some (.int .u64 p1) ∧ w'.cell? ⟨w2.heap.size, 2, none⟩ = some (.int .u64 p2) ∧ w'.cell? ⟨w2.heap.size, 3, none⟩ = some (.int .u64 p3)) ∧ (w'.cell? ⟨(w2.heap.size + 1), 0, none⟩ = some (.int .u64 q0) ∧ w'.cell? ⟨(w2.heap.size + 1), 1, none⟩ = some (.int .u64 q1) ∧ w'.cell? ⟨(w2.heap.size + 1), 2, none⟩ = some (.int .u64 q2) ∧ w'.cell? ⟨(w2.heap.size + 1), 3, none⟩ = some (.int .u64 q3))) (first | (first | (go_keep; done) | (simp [go_sem]; done) | ((try dsimp only); (repeat' apply And.intro) <;> (first | (with_reducible assumption) | ((rw [World.cell?_alloc_lt _ _ _ (by show _ < _; omega)]); go_split_ands; (first | with_reducible assumption | (refine (World.cell?_alloc_lt _ _ _ (by show _ < _; omega)).symm.trans ?_; with_reducible assumption))) | ((rw [World.cell?_setCell_other _ _ _ _ (by intro e; injection e; omega)]); with_reducible assumption) | (go_keep; done) | (simp [go_sem]; done) | (simp (disch := go_size) [*, World.cell?_alloc_some, World.cell?_setCell_far]; done)))) | ((refine ⟨?_, ?_, ?_⟩) <;> (first | ((refine ⟨Bk.cell (t := 26) (cs := [.bool b, .int .u64 x1, .int .u64 x0, .int .i64 s]) ?_ 0 rfl, Bk.cell (t := 26) (cs := [.bool b, .int .u64 x1, .int .u64 x0, .int .i64 s]) ?_ 1 rfl, Bk.cell (t := 26) (cs := [.bool b, .int .u64 x1, .int .u64 x0, .int .i64 s]) ?_ 2 rfl, Bk.cell (t := 26) (cs := [.bool b, .int .u64 x1, .int .u64 x0, .int .i64 s]) ?_ 3 rfl⟩) <;> ((repeat (first | (with_reducible assumption) | ((with_reducible refine Bk.new_ ?_); (first | rfl | (simp only [World.size_alloc, World.size_setCell, World.size_drew, World.heap_drewN]; done))) | (with_reducible refine Bk.alloc ?_ _) | (with_reducible refine Bk.drew ?_) | (with_reducible refine Bk.drewN ?_ _) | ((with_reducible refine Bk.far ?_ ?_ _); rotate_left; focus (simp only []; omega)) | ((with_reducible refine Bk.below ?_ (by with_reducible assumption) ?_); rotate_left; focus (go_size; done)))); done)) | ((refine ⟨Bk.cell (t := 45) (cs := [.int .u64 p0, .int .u64 p1, .int .u64 p2, .int .u64 p3]) ?_ 0 rfl, Bk.cell (t := 45) (cs := [.int .u64 p0, .int .u64 p1, .int .u64 p2, .int .u64 p3]) ?_ 1 rfl, Bk.cell (t := 45) (cs := [.int .u64 p0, .int .u64 p1, .int .u64 p2, .int .u64 p3]) ?_ 2 rfl, Bk.cell (t := 45) (cs := [.int .u64 p0, .int .u64 p1, .int .u64 p2, .int .u64 p3]) ?_ 3 rfl⟩) <;> ((repeat (first | (with_reducible assumption) | ((with_reducible refine Bk.new_ ?_); (first | rfl | (simp only [World.size_alloc, World.size_setCell, World.size_drew, World.heap_drewN]; done))) | (with_reducible refine Bk.alloc ?_ _) | (with_reducible refine Bk.drew ?_) | (with_reducible refine Bk.drewN ?_ _) | ((with_reducible refine Bk.far ?_ ?_ _); rotate_left; focus (simp only []; omega)) | ((with_reducible refine Bk.below ?_ (by with_reducible assumption) ?_); rotate_left; focus (go_size; done)))); done)) | ((refine ⟨Bk.cell (t := 45) (cs := [.int .u64 q0, .int .u64 q1, .int .u64 q2, .int .u64 q3]) ?_ 0 rfl, Bk.cell (t := 45) (cs := [.int .u64 q0, .int .u64 q1, .int .u64 q2, .int .u64 q3]) ?_ 1 rfl, Bk.cell (t := 45) (cs := [.int .u64 q0, .int .u64 q1, .int .u64 q2, .int .u64 q3]) ?_ 2 rfl, Bk.cell (t := 45) (cs := [.int .u64 q0, .int .u64 q1, .int .u64 q2, .int .u64 q3]) ?_ 3 rfl⟩) <;> ((repeat (first | (with_reducible assumption) | ((with_reducible refine Bk.new_ ?_); (first | rfl | (simp only [World.size_alloc, World.size_setCell, World.size_drew, World.heap_drewN]; done))) | (with_reducible refine Bk.alloc ?_ _) | (with_reducible refine Bk.drew ?_) | (with_reducible refine Bk.drewN ?_ _) | ((with_reducible refine Bk.far ?_ ?_ _); rotate_left; focus (simp only []; omega)) | ((with_reducible refine Bk.below ?_ (by with_reducible assumption) ?_); rotate_left; focus (go_size; done)))); done))))) (first | (go_at_call 52; (with_reducible refine (HP.out _).mono ?_); rintro _ w4 ⟨rfl, hb4⟩; have hb4s := hb4.size; (try simp only [World.size_alloc, World.size_setCell, World.size_drew, World.heap_drewN] at hb4s); obtain ⟨hb4c, hb4f⟩ := bcell hb4; (try have : w.heap.size < w4.heap.size := by omega); (try have : w.heap.size + 1 < w4.heap.size := by omega); (try have : w.heap.size + 1 + 1 < w4.heap.size := by omega); (try have : w.heap.size + 1 + 1 + 1 < w4.heap.size := by omega); (try have : w2.heap.size < w4.heap.size := by omega); (try have : w2.heap.size + 1 < w4.heap.size := by omega); (try have : w2.heap.size + 1 + 1 < w4.heap.size := by omega); (try have : w2.heap.size + 1 + 1 + 1 < w4.heap.size := by omega)) | (go_at_call 51; (with_reducible refine (HT.out _).mono ?_); rintro _ w5 ⟨rfl, hb5⟩; have hb5s := hb5.size; (try simp only [World.size_alloc, World.size_setCell, World.size_drew, World.heap_drewN] at hb5s); obtain ⟨hb5c, hb5f⟩ := bcell hb5; (try have : w.heap.size < w5.heap.size := by omega); (try have : w.heap.size + 1 < w5.heap.size := by omega); (try have : w.heap.size + 1 + 1 < w5.heap.size := by omega); (try have : w.heap.size + 1 + 1 + 1 < w5.heap.size := by omega); have zr : Bk w5 (w.heap.size + 1 + 1) 26 [.bool false, .int .u64 0, .int .u64 0, .int .i64 0] := (by (repeat (first | (with_reducible assumption) | ((with_reducible refine Bk.new_ ?_); (first | rfl | (simp only [World.size_alloc, World.size_setCell, World.size_drew, World.heap_drewN]; done))) | (with_reducible refine Bk.alloc ?_ _) | (with_reducible refine Bk.drew ?_) | (with_reducible refine Bk.drewN ?_ _) | ((with_reducible refine Bk.far ?_ ?_ _); rotate_left; focus (simp only []; omega)) | ((with_reducible refine Bk.below ?_ (by with_reducible assumption) ?_); rotate_left; focus (go_size; done))))); have zr_0 := zr.cell 0 rfl; have zr_1 := zr.cell 1 rfl; have zr_2 := zr.cell 2 rfl; have zr_3 := zr.cell 3 rfl; have zr_4 := zr.frozen 0; have zr_5 := zr.frozen 1; have zr_6 := zr.frozen 2; have zr_7 := zr.frozen 3; have zrl := zr.lt; clear hb5c hb5f; (try have : w2.heap.size < w5.heap.size := by omega); (try have : w2.heap.size + 1 < w5.heap.size := by omega); (try have : w2.heap.size + 1 + 1 < w5.heap.size := by omega); (try have : w2.heap.size + 1 + 1 + 1 < w5.heap.size := by omega); (try have : w4.heap.size < w5.heap.size := by omega); (try have : w4.heap.size + 1 < w5.heap.size := by omega); (try have : w4.heap.size + 1 + 1 < w5.heap.size := by omega); (try have : w4.heap.size + 1 + 1 + 1 < w5.heap.size := by omega)))
    all_goals
      refine wp_named (fun W => Bk W (w.heap.size + 1 + 1) 26 [.bool (sg b C), .int .u64 (wd C 1), .int .u64 (wd C 0), .int .i64 (S : Int)] ∧ Below w.heap.size w W) ⟨?h1, ?h2⟩ ?_
      case h1 => (first | ((repeat (first | (with_reducible assumption) | ((with_reducible refine Bk.new_ ?_); (first | rfl | (simp only [World.size_alloc, World.size_setCell, World.size_drew, World.heap_drewN]; done))) | (with_reducible refine Bk.alloc ?_ _) | (with_reducible refine Bk.drew ?_) | (with_reducible refine Bk.drewN ?_ _) | ((with_reducible refine Bk.far ?_ ?_ _); rotate_left; focus (simp only []; omega)) | ((with_reducible refine Bk.below ?_ (by with_reducible assumption) ?_); rotate_left; focus (go_size; done)))); done) | ((repeat (first | (with_reducible refine Bk.alloc ?_ _) | (with_reducible refine Bk.drew ?_) | ((with_reducible refine Bk.far ?_ ?_ _); rotate_left; focus (simp only []; omega)))); (refine ((((?_ : Bk _ _ _ [.bool false, .int .u64 0, .int .u64 0, .int .i64 0]).set_ 0 _).set_ 1 _).set_ 2 _).set_ 3 _); (repeat (first | (with_reducible assumption) | ((with_reducible refine Bk.new_ ?_); (first | rfl | (simp only [World.size_alloc, World.size_setCell, World.size_drew, World.heap_drewN]; done))) | (with_reducible refine Bk.alloc ?_ _) | (with_reducible refine Bk.drew ?_) | (with_reducible refine Bk.drewN ?_ _) | ((with_reducible refine Bk.far ?_ ?_ _); rotate_left; focus (simp only []; omega)) | ((with_reducible refine Bk.below ?_ (by with_reducible assumption) ?_); rotate_left; focus (go_size; done))))); done)
      case h2 => ((repeat' (first | (with_reducible exact Below.refl _ _) | (with_reducible assumption) | (with_reducible refine Below.drew ?_) | (with_reducible refine below_drewN ?_ _) | ((with_reducible refine Below.alloc ?_ ?_ _); rotate_left; focus (go_size; done)) | ((with_reducible refine Below.setCell ?_ ?_ _); rotate_left; focus (go_size; done)) | ((with_reducible refine Below.trans ?_ (Below.mono (by with_reducible assumption) ?_)); rotate_left; focus (go_size; done)))); done)
      rintro W ⟨k1, mb⟩
      have k1_0 := k1.cell 0 rfl
      have k1_1 := k1.cell 1 rfl
      have k1_2 := k1.cell 2 rfl
      have k1_3 := k1.cell 3 rfl
      have k1_4 := k1.frozen 0
      have k1_5 := k1.frozen 1
      have k1_6 := k1.frozen 2
      have k1_7 := k1.frozen 3
      go_wp2_with fail
      refine bodyPost_ret (by simp [results, Try.results15, go_sem, *]; try rfl) rfl ?_
      exact ⟨rfl, by (repeat' (first | (with_reducible exact Below.refl _ _) | (with_reducible assumption) | (with_reducible refine Below.drew ?_) | (with_reducible refine below_drewN ?_ _) | ((with_reducible refine Below.alloc ?_ ?_ _); rotate_left; focus (go_size; done)) | ((with_reducible refine Below.setCell ?_ ?_ _); rotate_left; focus (go_size; done)) | ((with_reducible refine Below.trans ?_ (Below.mono (by with_reducible assumption) ?_)); rotate_left; focus (go_size; done))))⟩
  · have hbe : (b == b') = false := by simpa using hb
    have HO := Lib.hid (fun W => order_any X Y hX2 hY2 W)
    by_cases hl : Y ≤ X
    · obtain ⟨e1, e2⟩ := sgn_ge (x := X) (y := Y) hb hl
      rw [e1, e2]
      have hXd : X - Y < 2 ^ 256 := by omega
      have HP := Lib.hid (fun W => minus4_any X Y hX2 hl W)
      have HT := Lib.hid (fun W => fit_any b (X - Y) m hXd m76 W)
      have ho := cmpN_ge hl
      clear e1 e2 hX2 hY2 hXY hXd hl hb
      generalize cmpN X Y = cc at *
      generalize FitC (X - Y) (10 ^ m) = C at *
      generalize FitS (X - Y) (10 ^ m) = S at *
      generalize FitE (X - Y) (10 ^ m) = E at *
      generalize X - Y = U at *
      generalize wd X 0 = p0 at *
      generalize wd X 1 = p1 at *
      generalize wd X 2 = p2 at *
      generalize wd X 3 = p3 at *
      generalize wd Y 0 = q0 at *
      generalize wd Y 1 = q1 at *
      generalize wd Y 2 = q2 at *
      generalize wd Y 3 = q3 at *
      generalize wd c 0 = x0 at *
      generalize wd c 1 = x1 at *
      generalize wd c' 0 = y0 at *
      generalize wd c' 1 = y1 at *
      clear hc hc'
      go_enter Try.func15, Try.ntmps15
      go_wp2_with fail
      (with_reducible refine (HF.out _ _ ?hg).mono ?_)
      case hg => ((repeat (first | (with_reducible assumption) | ((with_reducible refine Bk.new_ ?_); (first | rfl | (simp only [World.size_alloc, World.size_setCell, World.size_drew, World.heap_drewN]; done))) | (with_reducible refine Bk.alloc ?_ _) | (with_reducible refine Bk.drew ?_) | (with_reducible refine Bk.drewN ?_ _) | ((with_reducible refine Bk.far ?_ ?_ _); rotate_left; focus (simp only []; omega)) | ((with_reducible refine Bk.below ?_ (by with_reducible assumption) ?_); rotate_left; focus (go_size; done)))); done)
      rintro _ w1 ⟨rfl, hb1⟩; have hb1s := hb1.size; (try simp only [World.size_alloc, World.size_setCell, World.size_drew, World.heap_drewN] at hb1s); obtain ⟨hb1c, hb1f⟩ := bcell hb1; (try have : w.heap.size < w1.heap.size := by omega); (try have : w.heap.size + 1 < w1.heap.size := by omega); (try have : w.heap.size + 1 + 1 < w1.heap.size := by omega); (try have : w.heap.size + 1 + 1 + 1 < w1.heap.size := by omega)
      have ka : Bk w1 (w.heap.size) 26 [.bool b, .int .u64 x1, .int .u64 x0, .int .i64 s] := by (repeat (first | (with_reducible assumption) | ((with_reducible refine Bk.new_ ?_); (first | rfl | (simp only [World.size_alloc, World.size_setCell, World.size_drew, World.heap_drewN]; done))) | (with_reducible refine Bk.alloc ?_ _) | (with_reducible refine Bk.drew ?_) | (with_reducible refine Bk.drewN ?_ _) | ((with_reducible refine Bk.far ?_ ?_ _); rotate_left; focus (simp only []; omega)) | ((with_reducible refine Bk.below ?_ (by with_reducible assumption) ?_); rotate_left; focus (go_size; done))))
      have ka_0 := ka.cell 0 rfl
      have ka_1 := ka.cell 1 rfl
      have ka_2 := ka.cell 2 rfl
      have ka_3 := ka.cell 3 rfl
      have ka_4 := ka.frozen 0
      have ka_5 := ka.frozen 1
      have ka_6 := ka.frozen 2
      have ka_7 := ka.frozen 3
      have kal := ka.lt
      have kb : Bk w1 (w.heap.size + 1) 26 [.bool b', .int .u64 y1, .int .u64 y0, .int .i64 s'] := by (repeat (first | (with_reducible assumption) | ((with_reducible refine Bk.new_ ?_); (first | rfl | (simp only [World.size_alloc, World.size_setCell, World.size_drew, World.heap_drewN]; done))) | (with_reducible refine Bk.alloc ?_ _) | (with_reducible refine Bk.drew ?_) | (with_reducible refine Bk.drewN ?_ _) | ((with_reducible refine Bk.far ?_ ?_ _); rotate_left; focus (simp only []; omega)) | ((with_reducible refine Bk.below ?_ (by with_reducible assumption) ?_); rotate_left; focus (go_size; done))))
      have kb_0 := kb.cell 0 rfl
      have kb_1 := kb.cell 1 rfl
      have kb_2 := kb.cell 2 rfl
      have kb_3 := kb.cell 3 rfl
      have kb_4 := kb.frozen 0
      have kb_5 := kb.frozen 1
      have kb_6 := kb.frozen 2
      have kb_7 := kb.frozen 3
      have kbl := kb.lt
      have kr : Bk w1 (w.heap.size + 1 + 1) 26 [.bool false, .int .u64 0, .int .u64 0, .int .i64 0] := by (repeat (first | (with_reducible assumption) | ((with_reducible refine Bk.new_ ?_); (first | rfl | (simp only [World.size_alloc, World.size_setCell, World.size_drew, World.heap_drewN]; done))) | (with_reducible refine Bk.alloc ?_ _) | (with_reducible refine Bk.drew ?_) | (with_reducible refine Bk.drewN ?_ _) | ((with_reducible refine Bk.far ?_ ?_ _); rotate_left; focus (simp only []; omega)) | ((with_reducible refine Bk.below ?_ (by with_reducible assumption) ?_); rotate_left; focus (go_size; done))))
      have kr_0 := kr.cell 0 rfl
      have kr_1 := kr.cell 1 rfl
      have kr_2 := kr.cell 2 rfl
      have kr_3 := kr.cell 3 rfl
      have kr_4 := kr.frozen 0
      have kr_5 := kr.frozen 1
      have kr_6 := kr.frozen 2
      have kr_7 := kr.frozen 3
      have krl := kr.lt
      clear hb1c hb1f
      go_wp2_with fail
      refine (HB.out _).mono ?_
      rintro _ w2 ⟨rfl, hb2⟩; have hb2s := hb2.size; (try simp only [World.size_alloc, World.size_setCell, World.size_drew, World.heap_drewN] at hb2s); obtain ⟨hb2c, hb2f⟩ := bcell hb2; (try have : w.heap.size < w2.heap.size := by omega); (try have : w.heap.size + 1 < w2.heap.size := by omega); (try have : w.heap.size + 1 + 1 < w2.heap.size := by omega); (try have : w.heap.size + 1 + 1 + 1 < w2.heap.size := by omega)
      have ja : Bk w2 (w.heap.size) 26 [.bool b, .int .u64 x1, .int .u64 x0, .int .i64 s] := by (repeat (first | (with_reducible assumption) | ((with_reducible refine Bk.new_ ?_); (first | rfl | (simp only [World.size_alloc, World.size_setCell, World.size_drew, World.heap_drewN]; done))) | (with_reducible refine Bk.alloc ?_ _) | (with_reducible refine Bk.drew ?_) | (with_reducible refine Bk.drewN ?_ _) | ((with_reducible refine Bk.far ?_ ?_ _); rotate_left; focus (simp only []; omega)) | ((with_reducible refine Bk.below ?_ (by with_reducible assumption) ?_); rotate_left; focus (go_size; done))))
      have jb : Bk w2 (w.heap.size + 1) 26 [.bool b', .int .u64 y1, .int .u64 y0, .int .i64 s'] := by (repeat (first | (with_reducible assumption) | ((with_reducible refine Bk.new_ ?_); (first | rfl | (simp only [World.size_alloc, World.size_setCell, World.size_drew, World.heap_drewN]; done))) | (with_reducible refine Bk.alloc ?_ _) | (with_reducible refine Bk.drew ?_) | (with_reducible refine Bk.drewN ?_ _) | ((with_reducible refine Bk.far ?_ ?_ _); rotate_left; focus (simp only []; omega)) | ((with_reducible refine Bk.below ?_ (by with_reducible assumption) ?_); rotate_left; focus (go_size; done))))
      have jr : Bk w2 (w.heap.size + 1 + 1) 26 [.bool false, .int .u64 0, .int .u64 0, .int .i64 0] := by (repeat (first | (with_reducible assumption) | ((with_reducible refine Bk.new_ ?_); (first | rfl | (simp only [World.size_alloc, World.size_setCell, World.size_drew, World.heap_drewN]; done))) | (with_reducible refine Bk.alloc ?_ _) | (with_reducible refine Bk.drew ?_) | (with_reducible refine Bk.drewN ?_ _) | ((with_reducible refine Bk.far ?_ ?_ _); rotate_left; focus (simp only []; omega)) | ((with_reducible refine Bk.below ?_ (by with_reducible assumption) ?_); rotate_left; focus (go_size; done))))
      clear hb2c hb2f ka_0 ka_1 ka_2 ka_3 ka_4 ka_5 ka_6 ka_7 kb_0 kb_1 kb_2 kb_3 kb_4 kb_5 kb_6 kb_7 kr_0 kr_1 kr_2 kr_3 kr_4 kr_5 kr_6 kr_7
      have ja_0 := ja.cell 0 rfl
      have ja_1 := ja.cell 1 rfl
      have ja_2 := ja.cell 2 rfl
      have ja_3 := ja.cell 3 rfl
      have ja_4 := ja.frozen 0
      have ja_5 := ja.frozen 1
      have ja_6 := ja.frozen 2
      have ja_7 := ja.frozen 3
      have jb_0 := jb.cell 0 rfl
      have jb_1 := jb.cell 1 rfl
      have jb_2 := jb.cell 2 rfl
      have jb_3 := jb.cell 3 rfl
      have jb_4 := jb.frozen 0
      have jb_5 := jb.frozen 1
      have jb_6 := jb.frozen 2
      have jb_7 := jb.frozen 3
      have jr_0 := jr.cell 0 rfl
      have jr_1 := jr.cell 1 rfl
      have jr_2 := jr.cell 2 rfl
      have jr_3 := jr.cell 3 rfl
      have jr_4 := jr.frozen 0
      have jr_5 := jr.frozen 1
      have jr_6 := jr.frozen 2
      have jr_7 := jr.frozen 3
      have jal := ja.lt
      have jbl := jb.lt
      have jrl := jr.lt
      go_wp2_with fail
      refine (HO.out _).mono ?_
      rintro _ w3 ⟨rfl, hb3⟩; have hb3s := hb3.size; (try simp only [World.size_alloc, World.size_setCell, World.size_drew, World.heap_drewN] at hb3s); obtain ⟨hb3c, hb3f⟩ := bcell hb3; (try have : w.heap.size < w3.heap.size := by omega); (try have : w.heap.size + 1 < w3.heap.size := by omega); (try have : w.heap.size + 1 + 1 < w3.heap.size := by omega); (try have : w.heap.size + 1 + 1 + 1 < w3.heap.size := by omega)
      have la : Bk w3 (w.heap.size) 26 [.bool b, .int .u64 x1, .int .u64 x0, .int .i64 s] := by (repeat (first | (with_reducible assumption) | ((with_reducible refine Bk.new_ ?_); (first | rfl | (simp only [World.size_alloc, World.size_setCell, World.size_drew, World.heap_drewN]; done))) | (with_reducible refine Bk.alloc ?_ _) | (with_reducible refine Bk.drew ?_) | (with_reducible refine Bk.drewN ?_ _) | ((with_reducible refine Bk.far ?_ ?_ _); rotate_left; focus (simp only []; omega)) | ((with_reducible refine Bk.below ?_ (by with_reducible assumption) ?_); rotate_left; focus (go_size; done))))
      have lb : Bk w3 (w.heap.size + 1) 26 [.bool b', .int .u64 y1, .int .u64 y0, .int .i64 s'] := by (repeat (first | (with_reducible assumption) | ((with_reducible refine Bk.new_ ?_); (first | rfl | (simp only [World.size_alloc, World.size_setCell, World.size_drew, World.heap_drewN]; done))) | (with_reducible refine Bk.alloc ?_ _) | (with_reducible refine Bk.drew ?_) | (with_reducible refine Bk.drewN ?_ _) | ((with_reducible refine Bk.far ?_ ?_ _); rotate_left; focus (simp only []; omega)) | ((with_reducible refine Bk.below ?_ (by with_reducible assumption) ?_); rotate_left; focus (go_size; done))))
      have lr : Bk w3 (w.heap.size + 1 + 1) 26 [.bool false, .int .u64 0, .int .u64 0, .int .i64 0] := by (repeat (first | (with_reducible assumption) | ((with_reducible refine Bk.new_ ?_); (first | rfl | (simp only [World.size_alloc, World.size_setCell, World.size_drew, World.heap_drewN]; done))) | (with_reducible refine Bk.alloc ?_ _) | (with_reducible refine Bk.drew ?_) | (with_reducible refine Bk.drewN ?_ _) | ((with_reducible refine Bk.far ?_ ?_ _); rotate_left; focus (simp only []; omega)) | ((with_reducible refine Bk.below ?_ (by with_reducible assumption) ?_); rotate_left; focus (go_size; done))))
      have lx : Bk w3 (w2.heap.size) 45 [.int .u64 p0, .int .u64 p1, .int .u64 p2, .int .u64 p3] := by (repeat (first | (with_reducible assumption) | ((with_reducible refine Bk.new_ ?_); (first | rfl | (simp only [World.size_alloc, World.size_setCell, World.size_drew, World.heap_drewN]; done))) | (with_reducible refine Bk.alloc ?_ _) | (with_reducible refine Bk.drew ?_) | (with_reducible refine Bk.drewN ?_ _) | ((with_reducible refine Bk.far ?_ ?_ _); rotate_left; focus (simp only []; omega)) | ((with_reducible refine Bk.below ?_ (by with_reducible assumption) ?_); rotate_left; focus (go_size; done))))
      have ly : Bk w3 (w2.heap.size + 1) 45 [.int .u64 q0, .int .u64 q1, .int .u64 q2, .int .u64 q3] := by (repeat (first | (with_reducible assumption) | ((with_reducible refine Bk.new_ ?_); (first | rfl | (simp only [World.size_alloc, World.size_setCell, World.size_drew, World.heap_drewN]; done))) | (with_reducible refine Bk.alloc ?_ _) | (with_reducible refine Bk.drew ?_) | (with_reducible refine Bk.drewN ?_ _) | ((with_reducible refine Bk.far ?_ ?_ _); rotate_left; focus (simp only []; omega)) | ((with_reducible refine Bk.below ?_ (by with_reducible assumption) ?_); rotate_left; focus (go_size; done))))
      clear hb3c hb3f ja_0 ja_1 ja_2 ja_3 ja_4 ja_5 ja_6 ja_7 jb_0 jb_1 jb_2 jb_3 jb_4 jb_5 jb_6 jb_7 jr_0 jr_1 jr_2 jr_3 jr_4 jr_5 jr_6 jr_7
      have la_0 := la.cell 0 rfl
      have la_1 := la.cell 1 rfl
      have la_2 := la.cell 2 rfl
      have la_3 := la.cell 3 rfl
      have la_4 := la.frozen 0
      have la_5 := la.frozen 1
      have la_6 := la.frozen 2
      have la_7 := la.frozen 3
      have lb_0 := lb.cell 0 rfl
      have lb_1 := lb.cell 1 rfl
      have lb_2 := lb.cell 2 rfl
      have lb_3 := lb.cell 3 rfl
      have lb_4 := lb.frozen 0
      have lb_5 := lb.frozen 1
      have lb_6 := lb.frozen 2
      have lb_7 := lb.frozen 3
      have lr_0 := lr.cell 0 rfl
      have lr_1 := lr.cell 1 rfl
      have lr_2 := lr.cell 2 rfl
      have lr_3 := lr.cell 3 rfl
      have lr_4 := lr.frozen 0
      have lr_5 := lr.frozen 1
      have lr_6 := lr.frozen 2
      have lr_7 := lr.frozen 3
      have lx_0 := lx.cell 0 rfl
      have lx_1 := lx.cell 1 rfl
      have lx_2 := lx.cell 2 rfl
      have lx_3 := lx.cell 3 rfl
      have lx_4 := lx.frozen 0
      have lx_5 := lx.frozen 1
      have lx_6 := lx.frozen 2
      have lx_7 := lx.frozen 3
      have ly_0 := ly.cell 0 rfl
      have ly_1 := ly.cell 1 rfl
      have ly_2 := ly.cell 2 rfl
      have ly_3 := ly.cell 3 rfl
      have ly_4 := ly.frozen 0
      have ly_5 := ly.frozen 1
      have ly_6 := ly.frozen 2
      have ly_7 := ly.frozen 3
      go_wp2_with fail
      go_region_held3 (fun w' => (w'.cell? ⟨w.heap.size, 0, none⟩ = some (.bool b) ∧ w'.cell? ⟨w.heap.size, 1, none⟩ = some (.int .u64 x1) ∧ w'.cell? ⟨w.heap.size, 2, none⟩ = some (.int .u64 x0) ∧ w'.cell? ⟨w.heap.size, 3, none⟩ = some (.int .i64 s)) ∧ (w'.cell? ⟨w2.heap.size, 0, none⟩ = some (.int .u64 p0) ∧ w'.cell? ⟨w2.heap.size, 1, none⟩ = some (.int .u64 p1) ∧ w'.cell? ⟨w2.heap.size, 2, none⟩ = some (.int .u64 p2) ∧ w'.cell? ⟨w2.heap.size, 3, none⟩ = some (.int .u64 p3)) ∧ (w'.cell? ⟨(w2.heap.size + 1), 0, none⟩ = some (.int .u64 q0) ∧ w'.cell? ⟨(w2.heap.size + 1), 1, none⟩ = some (.int .u64 q1) ∧ w'.cell? ⟨(w2.heap.size + 1), 2, none⟩ = some (.int .u64 q2) ∧ w'.cell? ⟨(w2.heap.size + 1), 3, none⟩ = some (.int .u64 q3))) (first | (first | (go_keep; done) | (simp [go_sem]; done) | ((try dsimp only); (repeat' apply And.intro) <;> (first | (with_reducible assumption) | ((rw [World.cell?_alloc_lt _ _ _ (by show _ < _; omega)]); go_split_ands; (first | with_reducible assumption | (refine (World.cell?_alloc_lt _ _ _ (by show _ < _; omega)).symm.trans ?_; with_reducible assumption))) | ((rw [World.cell?_setCell_other _ _ _ _ (by intro e; injection e; omega)]); with_reducible assumption) | (go_keep; done) | (simp [go_sem]; done) | (simp (disch := go_size) [*, World.cell?_alloc_some, World.cell?_setCell_far]; done)))) | ((refine ⟨?_, ?_, ?_⟩) <;> (first | ((refine ⟨Bk.cell (t := 26) (cs := [.bool b, .int .u64 x1, .int .u64 x0, .int .i64 s]) ?_ 0 rfl, Bk.cell (t := 26) (cs := [.bool b, .int .u64 x1, .int .u64 x0, .int .i64 s]) ?_ 1 rfl, Bk.cell (t := 26) (cs := [.bool b, .int .u64 x1, .int .u64 x0, .int .i64 s]) ?_ 2 rfl, Bk.cell (t := 26) (cs := [.bool b, .int .u64 x1, .int .u64 x0, .int .i64 s]) ?_ 3 rfl⟩) <;> ((repeat (first | (with_reducible assumption) | ((with_reducible refine Bk.new_ ?_); (first | rfl | (simp only [World.size_alloc, World.size_setCell, World.size_drew, World.heap_drewN]; done))) | (with_reducible refine Bk.alloc ?_ _) | (with_reducible refine Bk.drew ?_) | (with_reducible refine Bk.drewN ?_ _) | ((with_reducible refine Bk.far ?_ ?_ _); rotate_left; focus (simp only []; omega)) | ((with_reducible refine Bk.below ?_ (by with_reducible assumption) ?_); rotate_left; focus (go_size; done)))); done)) | ((refine ⟨Bk.cell (t := 45) (cs := [.int .u64 p0, .int .u64 p1, .int .u64 p2, .int .u64 p3]) ?_ 0 rfl, Bk.cell (t := 45) (cs := [.int .u64 p0, .int .u64 p1, .int .u64 p2, .int .u64 p3]) ?_ 1 rfl, Bk.cell (t := 45) (cs := [.int .u64 p0, .int .u64 p1, .int .u64 p2, .int .u64 p3]) ?_ 2 rfl, Bk.cell (t := 45) (cs := [.int .u64 p0, .int .u64 p1, .int .u64 p2, .int .u64 p3]) ?_ 3 rfl⟩) <;> ((repeat (first | (with_reducible assumption) | ((with_reducible refine Bk.new_ ?_); (first | rfl | (simp only [World.size_alloc, World.size_setCell, World.size_drew, World.heap_drewN]; done))) | (with_reducible refine Bk.alloc ?_ _) | (with_reducible refine Bk.drew ?_) | (with_reducible refine Bk.drewN ?_ _) | ((with_reducible refine Bk.far ?_ ?_ _); rotate_left; focus (simp only []; omega)) | ((with_reducible refine Bk.below ?_ (by with_reducible assumption) ?_); rotate_left; focus (go_size; done)))); done)) | ((refine ⟨Bk.cell (t := 45) (cs := [.int .u64 q0, .int .u64 q1, .int .u64 q2, .int .u64 q3]) ?_ 0 rfl, Bk.cell (t := 45) (cs := [.int .u64 q0, .int .u64 q1, .int .u64 q2, .int .u64 q3]) ?_ 1 rfl, Bk.cell (t := 45) (cs := [.int .u64 q0, .int .u64 q1, .int .u64 q2, .int .u64 q3]) ?_ 2 rfl, Bk.cell (t := 45) (cs := [.int .u64 q0, .int .u64 q1, .int .u64 q2, .int .u64 q3]) ?_ 3 rfl⟩) <;> ((repeat (first | (with_reducible assumption) | ((with_reducible refine Bk.new_ ?_); (first | rfl | (simp only [World.size_alloc, World.size_setCell, World.size_drew, World.heap_drewN]; done))) | (with_reducible refine Bk.alloc ?_ _) | (with_reducible refine Bk.drew ?_) | (with_reducible refine Bk.drewN ?_ _) | ((with_reducible refine Bk.far ?_ ?_ _); rotate_left; focus (simp only []; omega)) | ((with_reducible refine Bk.below ?_ (by with_reducible assumption) ?_); rotate_left; focus (go_size; done)))); done))))) (first | (go_at_call 53; (with_reducible refine (HP.out _).mono ?_); rintro _ w4 ⟨rfl, hb4⟩; have hb4s := hb4.size; (try simp only [World.size_alloc, World.size_setCell, World.size_drew, World.heap_drewN] at hb4s); obtain ⟨hb4c, hb4f⟩ := bcell hb4; (try have : w.heap.size < w4.heap.size := by omega); (try have : w.heap.size + 1 < w4.heap.size := by omega); (try have : w.heap.size + 1 + 1 < w4.heap.size := by omega); (try have : w.heap.size + 1 + 1 + 1 < w4.heap.size := by omega); (try have : w2.heap.size < w4.heap.size := by omega); (try have : w2.heap.size + 1 < w4.heap.size := by omega); (try have : w2.heap.size + 1 + 1 < w4.heap.size := by omega); (try have : w2.heap.size + 1 + 1 + 1 < w4.heap.size := by omega); (try have : w3.heap.size < w4.heap.size := by omega); (try have : w3.heap.size + 1 < w4.heap.size := by omega); (try have : w3.heap.size + 1 + 1 < w4.heap.size := by omega); (try have : w3.heap.size + 1 + 1 + 1 < w4.heap.size := by omega)) | (go_at_call 51; (with_reducible refine (HT.out _).mono ?_); rintro _ w5 ⟨rfl, hb5⟩; have hb5s := hb5.size; (try simp only [World.size_alloc, World.size_setCell, World.size_drew, World.heap_drewN] at hb5s); obtain ⟨hb5c, hb5f⟩ := bcell hb5; (try have : w.heap.size < w5.heap.size := by omega); (try have : w.heap.size + 1 < w5.heap.size := by omega); (try have : w.heap.size + 1 + 1 < w5.heap.size := by omega); (try have : w.heap.size + 1 + 1 + 1 < w5.heap.size := by omega); have zr : Bk w5 (w.heap.size + 1 + 1) 26 [.bool false, .int .u64 0, .int .u64 0, .int .i64 0] := (by (repeat (first | (with_reducible assumption) | ((with_reducible refine Bk.new_ ?_); (first | rfl | (simp only [World.size_alloc, World.size_setCell, World.size_drew, World.heap_drewN]; done))) | (with_reducible refine Bk.alloc ?_ _) | (with_reducible refine Bk.drew ?_) | (with_reducible refine Bk.drewN ?_ _) | ((with_reducible refine Bk.far ?_ ?_ _); rotate_left; focus (simp only []; omega)) | ((with_reducible refine Bk.below ?_ (by with_reducible assumption) ?_); rotate_left; focus (go_size; done))))); have zr_0 := zr.cell 0 rfl; have zr_1 := zr.cell 1 rfl; have zr_2 := zr.cell 2 rfl; have zr_3 := zr.cell 3 rfl; have zr_4 := zr.frozen 0; have zr_5 := zr.frozen 1; have zr_6 := zr.frozen 2; have zr_7 := zr.frozen 3; have zrl := zr.lt; clear hb5c hb5f; (try have : w2.heap.size < w5.heap.size := by omega); (try have : w2.heap.size + 1 < w5.heap.size := by omega); (try have : w2.heap.size + 1 + 1 < w5.heap.size := by omega); (try have : w2.heap.size + 1 + 1 + 1 < w5.heap.size := by omega); (try have : w3.heap.size < w5.heap.size := by omega); (try have : w3.heap.size + 1 < w5.heap.size := by omega); (try have : w3.heap.size + 1 + 1 < w5.heap.size := by omega); (try have : w3.heap.size + 1 + 1 + 1 < w5.heap.size := by omega); (try have : w4.heap.size < w5.heap.size := by omega); (try have : w4.heap.size + 1 < w5.heap.size := by omega); (try have : w4.heap.size + 1 + 1 < w5.heap.size := by omega); (try have : w4.heap.size + 1 + 1 + 1 < w5.heap.size := by omega)))
      all_goals
        refine wp_named (fun W => Bk W (w.heap.size + 1 + 1) 26 [.bool (sg b C), .int .u64 (wd C 1), .int .u64 (wd C 0), .int .i64 (S : Int)] ∧ Below w.heap.size w W) ⟨?h1, ?h2⟩ ?_
        case h1 => (first | ((repeat (first | (with_reducible assumption) | ((with_reducible refine Bk.new_ ?_); (first | rfl | (simp only [World.size_alloc, World.size_setCell, World.size_drew, World.heap_drewN]; done))) | (with_reducible refine Bk.alloc ?_ _) | (with_reducible refine Bk.drew ?_) | (with_reducible refine Bk.drewN ?_ _) | ((with_reducible refine Bk.far ?_ ?_ _); rotate_left; focus (simp only []; omega)) | ((with_reducible refine Bk.below ?_ (by with_reducible assumption) ?_); rotate_left; focus (go_size; done)))); done) | ((repeat (first | (with_reducible refine Bk.alloc ?_ _) | (with_reducible refine Bk.drew ?_) | ((with_reducible refine Bk.far ?_ ?_ _); rotate_left; focus (simp only []; omega)))); (refine ((((?_ : Bk _ _ _ [.bool false, .int .u64 0, .int .u64 0, .int .i64 0]).set_ 0 _).set_ 1 _).set_ 2 _).set_ 3 _); (repeat (first | (with_reducible assumption) | ((with_reducible refine Bk.new_ ?_); (first | rfl | (simp only [World.size_alloc, World.size_setCell, World.size_drew, World.heap_drewN]; done))) | (with_reducible refine Bk.alloc ?_ _) | (with_reducible refine Bk.drew ?_) | (with_reducible refine Bk.drewN ?_ _) | ((with_reducible refine Bk.far ?_ ?_ _); rotate_left; focus (simp only []; omega)) | ((with_reducible refine Bk.below ?_ (by with_reducible assumption) ?_); rotate_left; focus (go_size; done))))); done)
        case h2 => ((repeat' (first | (with_reducible exact Below.refl _ _) | (with_reducible assumption) | (with_reducible refine Below.drew ?_) | (with_reducible refine below_drewN ?_ _) | ((with_reducible refine Below.alloc ?_ ?_ _); rotate_left; focus (go_size; done)) | ((with_reducible refine Below.setCell ?_ ?_ _); rotate_left; focus (go_size; done)) | ((with_reducible refine Below.trans ?_ (Below.mono (by with_reducible assumption) ?_)); rotate_left; focus (go_size; done)))); done)
        rintro W ⟨k1, mb⟩
        have k1_0 := k1.cell 0 rfl
        have k1_1 := k1.cell 1 rfl
        have k1_2 := k1.cell 2 rfl
        have k1_3 := k1.cell 3 rfl
        have k1_4 := k1.frozen 0
        have k1_5 := k1.frozen 1
        have k1_6 := k1.frozen 2
        have k1_7 := k1.frozen 3
        go_wp2_with fail
        refine bodyPost_ret (by simp [results, Try.results15, go_sem, *]; try rfl) rfl ?_
        exact ⟨rfl, by (repeat' (first | (with_reducible exact Below.refl _ _) | (with_reducible assumption) | (with_reducible refine Below.drew ?_) | (with_reducible refine below_drewN ?_ _) | ((with_reducible refine Below.alloc ?_ ?_ _); rotate_left; focus (go_size; done)) | ((with_reducible refine Below.setCell ?_ ?_ _); rotate_left; focus (go_size; done)) | ((with_reducible refine Below.trans ?_ (Below.mono (by with_reducible assumption) ?_)); rotate_left; focus (go_size; done))))⟩
    · obtain ⟨e1, e2⟩ := sgn_lt (x := X) (y := Y) hb (by omega)
      rw [e1, e2]
      have hXd : Y - X < 2 ^ 256 := by omega
      have HP := Lib.hid (fun W => minus4_any Y X hY2 (by omega) W)
      have HT := Lib.hid (fun W => fit_any b' (Y - X) m hXd m76 W)
      have ho := cmpN_lt (show X < Y by omega)
      have ho' : ¬ 0 ≤ cmpN X Y := by omega
      clear e1 e2 hX2 hY2 hXY hXd hl hb
      generalize cmpN X Y = cc at *
      generalize FitC (Y - X) (10 ^ m) = C at *
      generalize FitS (Y - X) (10 ^ m) = S at *
      generalize FitE (Y - X) (10 ^ m) = E at *
      generalize Y - X = U at *
      generalize wd X 0 = p0 at *
      generalize wd X 1 = p1 at *
      generalize wd X 2 = p2 at *
      generalize wd X 3 = p3 at *
      generalize wd Y 0 = q0 at *
      generalize wd Y 1 = q1 at *
      generalize wd Y 2 = q2 at *
      generalize wd Y 3 = q3 at *
      generalize wd c 0 = x0 at *
      generalize wd c 1 = x1 at *
      generalize wd c' 0 = y0 at *
      generalize wd c' 1 = y1 at *
      clear hc hc'
      go_enter Try.func15, Try.ntmps15
      go_wp2_with fail
      (with_reducible refine (HF.out _ _ ?hg).mono ?_)
      case hg => ((repeat (first | (with_reducible assumption) | ((with_reducible refine Bk.new_ ?_); (first | rfl | (simp only [World.size_alloc, World.size_setCell, World.size_drew, World.heap_drewN]; done))) | (with_reducible refine Bk.alloc ?_ _) | (with_reducible refine Bk.drew ?_) | (with_reducible refine Bk.drewN ?_ _) | ((with_reducible refine Bk.far ?_ ?_ _); rotate_left; focus (simp only []; omega)) | ((with_reducible refine Bk.below ?_ (by with_reducible assumption) ?_); rotate_left; focus (go_size; done)))); done)
      rintro _ w1 ⟨rfl, hb1⟩; have hb1s := hb1.size; (try simp only [World.size_alloc, World.size_setCell, World.size_drew, World.heap_drewN] at hb1s); obtain ⟨hb1c, hb1f⟩ := bcell hb1; (try have : w.heap.size < w1.heap.size := by omega); (try have : w.heap.size + 1 < w1.heap.size := by omega); (try have : w.heap.size + 1 + 1 < w1.heap.size := by omega); (try have : w.heap.size + 1 + 1 + 1 < w1.heap.size := by omega)
      have ka : Bk w1 (w.heap.size) 26 [.bool b, .int .u64 x1, .int .u64 x0, .int .i64 s] := by (repeat (first | (with_reducible assumption) | ((with_reducible refine Bk.new_ ?_); (first | rfl | (simp only [World.size_alloc, World.size_setCell, World.size_drew, World.heap_drewN]; done))) | (with_reducible refine Bk.alloc ?_ _) | (with_reducible refine Bk.drew ?_) | (with_reducible refine Bk.drewN ?_ _) | ((with_reducible refine Bk.far ?_ ?_ _); rotate_left; focus (simp only []; omega)) | ((with_reducible refine Bk.below ?_ (by with_reducible assumption) ?_); rotate_left; focus (go_size; done))))
      have ka_0 := ka.cell 0 rfl
      have ka_1 := ka.cell 1 rfl
      have ka_2 := ka.cell 2 rfl
      have ka_3 := ka.cell 3 rfl
      have ka_4 := ka.frozen 0
      have ka_5 := ka.frozen 1
      have ka_6 := ka.frozen 2
      have ka_7 := ka.frozen 3
      have kal := ka.lt
      have kb : Bk w1 (w.heap.size + 1) 26 [.bool b', .int .u64 y1, .int .u64 y0, .int .i64 s'] := by (repeat (first | (with_reducible assumption) | ((with_reducible refine Bk.new_ ?_); (first | rfl | (simp only [World.size_alloc, World.size_setCell, World.size_drew, World.heap_drewN]; done))) | (with_reducible refine Bk.alloc ?_ _) | (with_reducible refine Bk.drew ?_) | (with_reducible refine Bk.drewN ?_ _) | ((with_reducible refine Bk.far ?_ ?_ _); rotate_left; focus (simp only []; omega)) | ((with_reducible refine Bk.below ?_ (by with_reducible assumption) ?_); rotate_left; focus (go_size; done))))
      have kb_0 := kb.cell 0 rfl
      have kb_1 := kb.cell 1 rfl
      have kb_2 := kb.cell 2 rfl
      have kb_3 := kb.cell 3 rfl
      have kb_4 := kb.frozen 0
      have kb_5 := kb.frozen 1
      have kb_6 := kb.frozen 2
      have kb_7 := kb.frozen 3
      have kbl := kb.lt
      have kr : Bk w1 (w.heap.size + 1 + 1) 26 [.bool false, .int .u64 0, .int .u64 0, .int .i64 0] := by (repeat (first | (with_reducible assumption) | ((with_reducible refine Bk.new_ ?_); (first | rfl | (simp only [World.size_alloc, World.size_setCell, World.size_drew, World.heap_drewN]; done))) | (with_reducible refine Bk.alloc ?_ _) | (with_reducible refine Bk.drew ?_) | (with_reducible refine Bk.drewN ?_ _) | ((with_reducible refine Bk.far ?_ ?_ _); rotate_left; focus (simp only []; omega)) | ((with_reducible refine Bk.below ?_ (by with_reducible assumption) ?_); rotate_left; focus (go_size; done))))
      have kr_0 := kr.cell 0 rfl
      have kr_1 := kr.cell 1 rfl
      have kr_2 := kr.cell 2 rfl
      have kr_3 := kr.cell 3 rfl
      have kr_4 := kr.frozen 0
      have kr_5 := kr.frozen 1
      have kr_6 := kr.frozen 2
      have kr_7 := kr.frozen 3
      have krl := kr.lt
      clear hb1c hb1f
      go_wp2_with fail
      refine (HB.out _).mono ?_
      rintro _ w2 ⟨rfl, hb2⟩; have hb2s := hb2.size; (try simp only [World.size_alloc, World.size_setCell, World.size_drew, World.heap_drewN] at hb2s); obtain ⟨hb2c, hb2f⟩ := bcell hb2; (try have : w.heap.size < w2.heap.size := by omega); (try have : w.heap.size + 1 < w2.heap.size := by omega); (try have : w.heap.size + 1 + 1 < w2.heap.size := by omega); (try have : w.heap.size + 1 + 1 + 1 < w2.heap.size := by omega)
      have ja : Bk w2 (w.heap.size) 26 [.bool b, .int .u64 x1, .int .u64 x0, .int .i64 s] := by (repeat (first | (with_reducible assumption) | ((with_reducible refine Bk.new_ ?_); (first | rfl | (simp only [World.size_alloc, World.size_setCell, World.size_drew, World.heap_drewN]; done))) | (with_reducible refine Bk.alloc ?_ _) | (with_reducible refine Bk.drew ?_) | (with_reducible refine Bk.drewN ?_ _) | ((with_reducible refine Bk.far ?_ ?_ _); rotate_left; focus (simp only []; omega)) | ((with_reducible refine Bk.below ?_ (by with_reducible assumption) ?_); rotate_left; focus (go_size; done))))
      have jb : Bk w2 (w.heap.size + 1) 26 [.bool b', .int .u64 y1, .int .u64 y0, .int .i64 s'] := by (repeat (first | (with_reducible assumption) | ((with_reducible refine Bk.new_ ?_); (first | rfl | (simp only [World.size_alloc, World.size_setCell, World.size_drew, World.heap_drewN]; done))) | (with_reducible refine Bk.alloc ?_ _) | (with_reducible refine Bk.drew ?_) | (with_reducible refine Bk.drewN ?_ _) | ((with_reducible refine Bk.far ?_ ?_ _); rotate_left; focus (simp only []; omega)) | ((with_reducible refine Bk.below ?_ (by with_reducible assumption) ?_); rotate_left; focus (go_size; done))))
      have jr : Bk w2 (w.heap.size + 1 + 1) 26 [.bool false, .int .u64 0, .int .u64 0, .int .i64 0] := by (repeat (first | (with_reducible assumption) | ((with_reducible refine Bk.new_ ?_); (first | rfl | (simp only [World.size_alloc, World.size_setCell, World.size_drew, World.heap_drewN]; done))) | (with_reducible refine Bk.alloc ?_ _) | (with_reducible refine Bk.drew ?_) | (with_reducible refine Bk.drewN ?_ _) | ((with_reducible refine Bk.far ?_ ?_ _); rotate_left; focus (simp only []; omega)) | ((with_reducible refine Bk.below ?_ (by with_reducible assumption) ?_); rotate_left; focus (go_size; done))))
      clear hb2c hb2f ka_0 ka_1 ka_2 ka_3 ka_4 ka_5 ka_6 ka_7 kb_0 kb_1 kb_2 kb_3 kb_4 kb_5 kb_6 kb_7 kr_0 kr_1 kr_2 kr_3 kr_4 kr_5 kr_6 kr_7
      have ja_0 := ja.cell 0 rfl
      have ja_1 := ja.cell 1 rfl
      have ja_2 := ja.cell 2 rfl
      have ja_3 := ja.cell 3 rfl
      have ja_4 := ja.frozen 0
      have ja_5 := ja.frozen 1
      have ja_6 := ja.frozen 2
      have ja_7 := ja.frozen 3
      have jb_0 := jb.cell 0 rfl
      have jb_1 := jb.cell 1 rfl
      have jb_2 := jb.cell 2 rfl
      have jb_3 := jb.cell 3 rfl
      have jb_4 := jb.frozen 0
      have jb_5 := jb.frozen 1
      have jb_6 := jb.frozen 2
      have jb_7 := jb.frozen 3
      have jr_0 := jr.cell 0 rfl
      have jr_1 := jr.cell 1 rfl
      have jr_2 := jr.cell 2 rfl
      have jr_3 := jr.cell 3 rfl
      have jr_4 := jr.frozen 0
      have jr_5 := jr.frozen 1
      have jr_6 := jr.frozen 2
      have jr_7 := jr.frozen 3
      have jal := ja.lt
      have jbl := jb.lt
      have jrl := jr.lt
      go_wp2_with fail
      refine (HO.out _).mono ?_
      rintro _ w3 ⟨rfl, hb3⟩; have hb3s := hb3.size; (try simp only [World.size_alloc, World.size_setCell, World.size_drew, World.heap_drewN] at hb3s); obtain ⟨hb3c, hb3f⟩ := bcell hb3; (try have : w.heap.size < w3.heap.size := by omega); (try have : w.heap.size + 1 < w3.heap.size := by omega); (try have : w.heap.size + 1 + 1 < w3.heap.size := by omega); (try have : w.heap.size + 1 + 1 + 1 < w3.heap.size := by omega)
      have la : Bk w3 (w.heap.size) 26 [.bool b, .int .u64 x1, .int .u64 x0, .int .i64 s] := by (repeat (first | (with_reducible assumption) | ((with_reducible refine Bk.new_ ?_); (first | rfl | (simp only [World.size_alloc, World.size_setCell, World.size_drew, World.heap_drewN]; done))) | (with_reducible refine Bk.alloc ?_ _) | (with_reducible refine Bk.drew ?_) | (with_reducible refine Bk.drewN ?_ _) | ((with_reducible refine Bk.far ?_ ?_ _); rotate_left; focus (simp only []; omega)) | ((with_reducible refine Bk.below ?_ (by with_reducible assumption) ?_); rotate_left; focus (go_size; done))))
      have lb : Bk w3 (w.heap.size + 1) 26 [.bool b', .int .u64 y1, .int .u64 y0, .int .i64 s'] := by (repeat (first | (with_reducible assumption) | ((with_reducible refine Bk.new_ ?_); (first | rfl | (simp only [World.size_alloc, World.size_setCell, World.size_drew, World.heap_drewN]; done))) | (with_reducible refine Bk.alloc ?_ _) | (with_reducible refine Bk.drew ?_) | (with_reducible refine Bk.drewN ?_ _) | ((with_reducible refine Bk.far ?_ ?_ _); rotate_left; focus (simp only []; omega)) | ((with_reducible refine Bk.below ?_ (by with_reducible assumption) ?_); rotate_left; focus (go_size; done))))
      have lr : Bk w3 (w.heap.size + 1 + 1) 26 [.bool false, .int .u64 0, .int .u64 0, .int .i64 0] := by (repeat (first | (with_reducible assumption) | ((with_reducible refine Bk.new_ ?_); (first | rfl | (simp only [World.size_alloc, World.size_setCell, World.size_drew, World.heap_drewN]; done))) | (with_reducible refine Bk.alloc ?_ _) | (with_reducible refine Bk.drew ?_) | (with_reducible refine Bk.drewN ?_ _) | ((with_reducible refine Bk.far ?_ ?_ _); rotate_left; focus (simp only []; omega)) | ((with_reducible refine Bk.below ?_ (by with_reducible assumption) ?_); rotate_left; focus (go_size; done))))
      have lx : Bk w3 (w2.heap.size) 45 [.int .u64 p0, .int .u64 p1, .int .u64 p2, .int .u64 p3] := by (repeat (first | (with_reducible assumption) | ((with_reducible refine Bk.new_ ?_); (first | rfl | (simp only [World.size_alloc, World.size_setCell, World.size_drew, World.heap_drewN]; done))) | (with_reducible refine Bk.alloc ?_ _) | (with_reducible refine Bk.drew ?_) | (with_reducible refine Bk.drewN ?_ _) | ((with_reducible refine Bk.far ?_ ?_ _); rotate_left; focus (simp only []; omega)) | ((with_reducible refine Bk.below ?_ (by with_reducible assumption) ?_); rotate_left; focus (go_size; done))))
      have ly : Bk w3 (w2.heap.size + 1) 45 [.int .u64 q0, .int .u64 q1, .int .u64 q2, .int .u64 q3] := by (repeat (first | (with_reducible assumption) | ((with_reducible refine Bk.new_ ?_); (first | rfl | (simp only [World.size_alloc, World.size_setCell, World.size_drew, World.heap_drewN]; done))) | (with_reducible refine Bk.alloc ?_ _) | (with_reducible refine Bk.drew ?_) | (with_reducible refine Bk.drewN ?_ _) | ((with_reducible refine Bk.far ?_ ?_ _); rotate_left; focus (simp only []; omega)) | ((with_reducible refine Bk.below ?_ (by with_reducible assumption) ?_); rotate_left; focus (go_size; done))))
      clear hb3c hb3f ja_0 ja_1 ja_2 ja_3 ja_4 ja_5 ja_6 ja_7 jb_0 jb_1 jb_2 jb_3 jb_4 jb_5 jb_6 jb_7 jr_0 jr_1 jr_2 jr_3 jr_4 jr_5 jr_6 jr_7
      have la_0 := la.cell 0 rfl
      have la_1 := la.cell 1 rfl
      have la_2 := la.cell 2 rfl
      have la_3 := la.cell 3 rfl
      have la_4 := la.frozen 0
      have la_5 := la.frozen 1
      have la_6 := la.frozen 2
      have la_7 := la.frozen 3
      have lb_0 := lb.cell 0 rfl
      have lb_1 := lb.cell 1 rfl
      have lb_2 := lb.cell 2 rfl
      have lb_3 := lb.cell 3 rfl
      have lb_4 := lb.frozen 0
      have lb_5 := lb.frozen 1
      have lb_6 := lb.frozen 2
      have lb_7 := lb.frozen 3
      have lr_0 := lr.cell 0 rfl
      have lr_1 := lr.cell 1 rfl
      have lr_2 := lr.cell 2 rfl
      have lr_3 := lr.cell 3 rfl
      have lr_4 := lr.frozen 0
      have lr_5 := lr.frozen 1
      have lr_6 := lr.frozen 2
      have lr_7 := lr.frozen 3
      have lx_0 := lx.cell 0 rfl
      have lx_1 := lx.cell 1 rfl
      have lx_2 := lx.cell 2 rfl
      have lx_3 := lx.cell 3 rfl
      have lx_4 := lx.frozen 0
      have lx_5 := lx.frozen 1
      have lx_6 := lx.frozen 2
      have lx_7 := lx.frozen 3
      have ly_0 := ly.cell 0 rfl
      have ly_1 := ly.cell 1 rfl
      have ly_2 := ly.cell 2 rfl
      have ly_3 := ly.cell 3 rfl
      have ly_4 := ly.frozen 0
      have ly_5 := ly.frozen 1
      have ly_6 := ly.frozen 2
      have ly_7 := ly.frozen 3
      go_wp2_with fail
      go_region_held3 (fun w' => (w'.cell? ⟨(w.heap.size + 1), 0, none⟩ = some (.bool b') ∧ w'.cell? ⟨(w.heap.size + 1), 1, none⟩ = some (.int .u64 y1) ∧ w'.cell? ⟨(w.heap.size + 1), 2, none⟩ = some (.int .u64 y0) ∧ w'.cell? ⟨(w.heap.size + 1), 3, none⟩ = some (.int .i64 s')) ∧ (w'.cell? ⟨w2.heap.size, 0, none⟩ = some (.int .u64 p0) ∧ w'.cell? ⟨w2.heap.size, 1, none⟩ = some (.int .u64 p1) ∧ w'.cell? ⟨w2.heap.size, 2, none⟩ = some (.int .u64 p2) ∧ w'.cell? ⟨w2.heap.size, 3, none⟩ = some (.int .u64 p3)) ∧ (w'.cell? ⟨(w2.heap.size + 1), 0, none⟩ = some (.int .u64 q0) ∧ w'.cell? ⟨(w2.heap.size + 1), 1, none⟩ = some (.int .u64 q1) ∧ w'.cell? ⟨(w2.heap.size + 1), 2, none⟩ = some (.int .u64 q2) ∧ w'.cell? ⟨(w2.heap.size + 1), 3, none⟩ = some (.int .u64 q3))) (first | (first | (go_keep; done) | (simp [go_sem]; done) | ((try dsimp only); (repeat' apply And.intro) <;> (first | (with_reducible assumption) | ((rw [World.cell?_alloc_lt _ _ _ (by show _ < _; omega)]); go_split_ands; (first | with_reducible assumption | (refine (World.cell?_alloc_lt _ _ _ (by show _ < _; omega)).symm.trans ?_; with_reducible assumption))) | ((rw [World.cell?_setCell_other _ _ _ _ (by intro e; injection e; omega)]); with_reducible assumption) | (go_keep; done) | (simp [go_sem]; done) | (simp (disch := go_size) [*, World.cell?_alloc_some, World.cell?_setCell_far]; done)))) | ((refine ⟨?_, ?_, ?_⟩) <;> (first | ((refine ⟨Bk.cell (t := 26) (cs := [.bool b', .int .u64 y1, .int .u64 y0, .int .i64 s']) ?_ 0 rfl, Bk.cell (t := 26) (cs := [.bool b', .int .u64 y1, .int .u64 y0, .int .i64 s']) ?_ 1 rfl, Bk.cell (t := 26) (cs := [.bool b', .int .u64 y1, .int .u64 y0, .int .i64 s']) ?_ 2 rfl, Bk.cell (t := 26) (cs := [.bool b', .int .u64 y1, .int .u64 y0, .int .i64 s']) ?_ 3 rfl⟩) <;> ((repeat (first | (with_reducible assumption) | ((with_reducible refine Bk.new_ ?_); (first | rfl | (simp only [World.size_alloc, World.size_setCell, World.size_drew, World.heap_drewN]; done))) | (with_reducible refine Bk.alloc ?_ _) | (with_reducible refine Bk.drew ?_) | (with_reducible refine Bk.drewN ?_ _) | ((with_reducible refine Bk.far ?_ ?_ _); rotate_left; focus (simp only []; omega)) | ((with_reducible refine Bk.below ?_ (by with_reducible assumption) ?_); rotate_left; focus (go_size; done)))); done)) | ((refine ⟨Bk.cell (t := 45) (cs := [.int .u64 p0, .int .u64 p1, .int .u64 p2, .int .u64 p3]) ?_ 0 rfl, Bk.cell (t := 45) (cs := [.int .u64 p0, .int .u64 p1, .int .u64 p2, .int .u64 p3]) ?_ 1 rfl, Bk.cell (t := 45) (cs := [.int .u64 p0, .int .u64 p1, .int .u64 p2, .int .u64 p3]) ?_ 2 rfl, Bk.cell (t := 45) (cs := [.int .u64 p0, .int .u64 p1, .int .u64 p2, .int .u64 p3]) ?_ 3 rfl⟩) <;> ((repeat (first | (with_reducible assumption) | ((with_reducible refine Bk.new_ ?_); (first | rfl | (simp only [World.size_alloc, World.size_setCell, World.size_drew, World.heap_drewN]; done))) | (with_reducible refine Bk.alloc ?_ _) | (with_reducible refine Bk.drew ?_) | (with_reducible refine Bk.drewN ?_ _) | ((with_reducible refine Bk.far ?_ ?_ _); rotate_left; focus (simp only []; omega)) | ((with_reducible refine Bk.below ?_ (by with_reducible assumption) ?_); rotate_left; focus (go_size; done)))); done)) | ((refine ⟨Bk.cell (t := 45) (cs := [.int .u64 q0, .int .u64 q1, .int .u64 q2, .int .u64 q3]) ?_ 0 rfl, Bk.cell (t := 45) (cs := [.int .u64 q0, .int .u64 q1, .int .u64 q2, .int .u64 q3]) ?_ 1 rfl, Bk.cell (t := 45) (cs := [.int .u64 q0, .int .u64 q1, .int .u64 q2, .int .u64 q3]) ?_ 2 rfl, Bk.cell (t := 45) (cs := [.int .u64 q0, .int .u64 q1, .int .u64 q2, .int .u64 q3]) ?_ 3 rfl⟩) <;> ((repeat (first | (with_reducible assumption) | ((with_reducible refine Bk.new_ ?_); (first | rfl | (simp only [World.size_alloc, World.size_setCell, World.size_drew, World.heap_drewN]; done))) | (with_reducible refine Bk.alloc ?_ _) | (with_reducible refine Bk.drew ?_) | (with_reducible refine Bk.drewN ?_ _) | ((with_reducible refine Bk.far ?_ ?_ _); rotate_left; focus (simp only []; omega)) | ((with_reducible refine Bk.below ?_ (by with_reducible assumption) ?_); rotate_left; focus (go_size; done)))); done))))) (first | (go_at_call 53; (with_reducible refine (HP.out _).mono ?_); rintro _ w4 ⟨rfl, hb4⟩; have hb4s := hb4.size; (try simp only [World.size_alloc, World.size_setCell, World.size_drew, World.heap_drewN] at hb4s); obtain ⟨hb4c, hb4f⟩ := bcell hb4; (try have : w.heap.size < w4.heap.size := by omega); (try have : w.heap.size + 1 < w4.heap.size := by omega); (try have : w.heap.size + 1 + 1 < w4.heap.size := by omega); (try have : w.heap.size + 1 + 1 + 1 < w4.heap.size := by omega); (try have : w2.heap.size < w4.heap.size := by omega); (try have : w2.heap.size + 1 < w4.heap.size := by omega); (try have : w2.heap.size + 1 + 1 < w4.heap.size := by omega); (try have : w2.heap.size + 1 + 1 + 1 < w4.heap.size := by omega); (try have : w3.heap.size < w4.heap.size := by omega); (try have : w3.heap.size + 1 < w4.heap.size := by omega); (try have : w3.heap.size + 1 + 1 < w4.heap.size := by omega); (try have : w3.heap.size + 1 + 1 + 1 < w4.heap.size := by omega)) | (go_at_call 51; (with_reducible refine (HT.out _).mono ?_); rintro _ w5 ⟨rfl, hb5⟩; have hb5s := hb5.size; (try simp only [World.size_alloc, World.size_setCell, World.size_drew, World.heap_drewN] at hb5s); obtain ⟨hb5c, hb5f⟩ := bcell hb5; (try have : w.heap.size < w5.heap.size := by omega); (try have : w.heap.size + 1 < w5.heap.size := by omega); (try have : w.heap.size + 1 + 1 < w5.heap.size := by omega); (try have : w.heap.size + 1 + 1 + 1 < w5.heap.size := by omega); have zr : Bk w5 (w.heap.size + 1 + 1) 26 [.bool false, .int .u64 0, .int .u64 0, .int .i64 0] := (by (repeat (first | (with_reducible assumption) | ((with_reducible refine Bk.new_ ?_); (first | rfl | (simp only [World.size_alloc, World.size_setCell, World.size_drew, World.heap_drewN]; done))) | (with_reducible refine Bk.alloc ?_ _) | (with_reducible refine Bk.drew ?_) | (with_reducible refine Bk.drewN ?_ _) | ((with_reducible refine Bk.far ?_ ?_ _); rotate_left; focus (simp only []; omega)) | ((with_reducible refine Bk.below ?_ (by with_reducible assumption) ?_); rotate_left; focus (go_size; done))))); have zr_0 := zr.cell 0 rfl; have zr_1 := zr.cell 1 rfl; have zr_2 := zr.cell 2 rfl; have zr_3 := zr.cell 3 rfl; have zr_4 := zr.frozen 0; have zr_5 := zr.frozen 1; have zr_6 := zr.frozen 2; have zr_7 := zr.frozen 3; have zrl := zr.lt; clear hb5c hb5f; (try have : w2.heap.size < w5.heap.size := by omega); (try have : w2.heap.size + 1 < w5.heap.size := by omega); (try have : w2.heap.size + 1 + 1 < w5.heap.size := by omega); (try have : w2.heap.size + 1 + 1 + 1 < w5.heap.size := by omega); (try have : w3.heap.size < w5.heap.size := by omega); (try have : w3.heap.size + 1 < w5.heap.size := by omega); (try have : w3.heap.size + 1 + 1 < w5.heap.size := by omega); (try have : w3.heap.size + 1 + 1 + 1 < w5.heap.size := by omega); (try have : w4.heap.size < w5.heap.size := by omega); (try have : w4.heap.size + 1 < w5.heap.size := by omega); (try have : w4.heap.size + 1 + 1 < w5.heap.size := by omega); (try have : w4.heap.size + 1 + 1 + 1 < w5.heap.size := by omega)))
      all_goals
        refine wp_named (fun W => Bk W (w.heap.size + 1 + 1) 26 [.bool (sg b' C), .int .u64 (wd C 1), .int .u64 (wd C 0), .int .i64 (S : Int)] ∧ Below w.heap.size w W) ⟨?h1, ?h2⟩ ?_
        case h1 => (first | ((repeat (first | (with_reducible assumption) | ((with_reducible refine Bk.new_ ?_); (first | rfl | (simp only [World.size_alloc, World.size_setCell, World.size_drew, World.heap_drewN]; done))) | (with_reducible refine Bk.alloc ?_ _) | (with_reducible refine Bk.drew ?_) | (with_reducible refine Bk.drewN ?_ _) | ((with_reducible refine Bk.far ?_ ?_ _); rotate_left; focus (simp only []; omega)) | ((with_reducible refine Bk.below ?_ (by with_reducible assumption) ?_); rotate_left; focus (go_size; done)))); done) | ((repeat (first | (with_reducible refine Bk.alloc ?_ _) | (with_reducible refine Bk.drew ?_) | ((with_reducible refine Bk.far ?_ ?_ _); rotate_left; focus (simp only []; omega)))); (refine ((((?_ : Bk _ _ _ [.bool false, .int .u64 0, .int .u64 0, .int .i64 0]).set_ 0 _).set_ 1 _).set_ 2 _).set_ 3 _); (repeat (first | (with_reducible assumption) | ((with_reducible refine Bk.new_ ?_); (first | rfl | (simp only [World.size_alloc, World.size_setCell, World.size_drew, World.heap_drewN]; done))) | (with_reducible refine Bk.alloc ?_ _) | (with_reducible refine Bk.drew ?_) | (with_reducible refine Bk.drewN ?_ _) | ((with_reducible refine Bk.far ?_ ?_ _); rotate_left; focus (simp only []; omega)) | ((with_reducible refine Bk.below ?_ (by with_reducible assumption) ?_); rotate_left; focus (go_size; done))))); done)
        case h2 => ((repeat' (first | (with_reducible exact Below.refl _ _) | (with_reducible assumption) | (with_reducible refine Below.drew ?_) | (with_reducible refine below_drewN ?_ _) | ((with_reducible refine Below.alloc ?_ ?_ _); rotate_left; focus (go_size; done)) | ((with_reducible refine Below.setCell ?_ ?_ _); rotate_left; focus (go_size; done)) | ((with_reducible refine Below.trans ?_ (Below.mono (by with_reducible assumption) ?_)); rotate_left; focus (go_size; done)))); done)
        rintro W ⟨k1, mb⟩
        have k1_0 := k1.cell 0 rfl
        have k1_1 := k1.cell 1 rfl
        have k1_2 := k1.cell 2 rfl
        have k1_3 := k1.cell 3 rfl
        have k1_4 := k1.frozen 0
        have k1_5 := k1.frozen 1
        have k1_6 := k1.frozen 2
        have k1_7 := k1.frozen 3
        go_wp2_with fail
        refine bodyPost_ret (by simp [results, Try.results15, go_sem, *]; try rfl) rfl ?_
        exact ⟨rfl, by (repeat' (first | (with_reducible exact Below.refl _ _) | (with_reducible assumption) | (with_reducible refine Below.drew ?_) | (with_reducible refine below_drewN ?_ _) | ((with_reducible refine Below.alloc ?_ ?_ _); rotate_left; focus (go_size; done)) | ((with_reducible refine Below.setCell ?_ ?_ _); rotate_left; focus (go_size; done)) | ((with_reducible refine Below.trans ?_ (Below.mono (by with_reducible assumption) ?_)); rotate_left; focus (go_size; done))))⟩
end Go.Proofs.Ythkgjodidkpaeaa

set_option linter.unusedSimpArgs false
set_option linter.unusedVariables false
namespace Go.Proofs.Ythkgjodidkpaeaa
open Go.RowKit

set_option maxHeartbeats 2000000 in
theorem dcmp_bad (b : Bool) (c : Nat) (s : Int) (b' : Bool) (c' : Nat) (s' : Int) (hc : c < 2 ^ 128) (hc' : c' < 2 ^ 128) (h : (dform b c s && dform b' c' s') = false) (w : World) :
    Calls Try.prog 12 #[.agg #[.bool b, .int .u64 (wd (c) 1), .int .u64 (wd (c) 0), .int .i64 s], .agg #[.bool b', .int .u64 (wd (c') 1), .int .u64 (wd (c') 0), .int .i64 s']] w fun e w' => e = .returned (.tuple #[.int .i64 0, .int .i64 2]) ∧ Below w.heap.size w w' := by
  have HF := Lib.hid (fun g W hg => formed_two b c s hc b' c' s' hc' g W hg)
  rw [h] at HF
  simp only [ferr, if_pos, if_neg, Bool.false_eq_true, if_true, if_false] at HF
  generalize wd c 0 = x0 at *
  generalize wd c 1 = x1 at *
  generalize wd c' 0 = y0 at *
  generalize wd c' 1 = y1 at *
  clear hc hc' h
  go_enter Try.func12, Try.ntmps12
  go_wp2_with fail
  (with_reducible refine (HF.out _ _ ?hg).mono ?_)
  case hg => ((repeat (first | (with_reducible assumption) | ((with_reducible refine Bk.new_ ?_); (first | rfl | (simp only [World.size_alloc, World.size_setCell, World.size_drew, World.heap_drewN]; done))) | (with_reducible refine Bk.alloc ?_ _) | (with_reducible refine Bk.drew ?_) | (with_reducible refine Bk.drewN ?_ _) | ((with_reducible refine Bk.far ?_ ?_ _); rotate_left; focus (simp only []; omega)) | ((with_reducible refine Bk.below ?_ (by with_reducible assumption) ?_); rotate_left; focus (go_size; done)))); done)
  rintro _ w1 ⟨rfl, hb1⟩; have hb1s := hb1.size; (try simp only [World.size_alloc, World.size_setCell, World.size_drew, World.heap_drewN] at hb1s); obtain ⟨hb1c, hb1f⟩ := bcell hb1; (try have : w.heap.size < w1.heap.size := by omega); (try have : w.heap.size + 1 < w1.heap.size := by omega); (try have : w.heap.size + 1 + 1 < w1.heap.size := by omega); (try have : w.heap.size + 1 + 1 + 1 < w1.heap.size := by omega)
  have ka : Bk w1 (w.heap.size) 26 [.bool b, .int .u64 x1, .int .u64 x0, .int .i64 s] := by (repeat (first | (with_reducible assumption) | ((with_reducible refine Bk.new_ ?_); (first | rfl | (simp only [World.size_alloc, World.size_setCell, World.size_drew, World.heap_drewN]; done))) | (with_reducible refine Bk.alloc ?_ _) | (with_reducible refine Bk.drew ?_) | (with_reducible refine Bk.drewN ?_ _) | ((with_reducible refine Bk.far ?_ ?_ _); rotate_left; focus (simp only []; omega)) | ((with_reducible refine Bk.below ?_ (by with_reducible assumption) ?_); rotate_left; focus (go_size; done))))
  have ka_0 := ka.cell 0 rfl
  have ka_1 := ka.cell 1 rfl
  have ka_2 := ka.cell 2 rfl
  have ka_3 := ka.cell 3 rfl
  have ka_4 := ka.frozen 0
  have ka_5 := ka.frozen 1
  have ka_6 := ka.frozen 2
  have ka_7 := ka.frozen 3
  have kal := ka.lt
  have kb : Bk w1 (w.heap.size + 1) 26 [.bool b', .int .u64 y1, .int .u64 y0, .int .i64 s'] := by (repeat (first | (with_reducible assumption) | ((with_reducible refine Bk.new_ ?_); (first | rfl | (simp only [World.size_alloc, World.size_setCell, World.size_drew, World.heap_drewN]; done))) | (with_reducible refine Bk.alloc ?_ _) | (with_reducible refine Bk.drew ?_) | (with_reducible refine Bk.drewN ?_ _) | ((with_reducible refine Bk.far ?_ ?_ _); rotate_left; focus (simp only []; omega)) | ((with_reducible refine Bk.below ?_ (by with_reducible assumption) ?_); rotate_left; focus (go_size; done))))
  have kb_0 := kb.cell 0 rfl
  have kb_1 := kb.cell 1 rfl
  have kb_2 := kb.cell 2 rfl
  have kb_3 := kb.cell 3 rfl
  have kb_4 := kb.frozen 0
  have kb_5 := kb.frozen 1
  have kb_6 := kb.frozen 2
  have kb_7 := kb.frozen 3
  have kbl := kb.lt
  clear hb1c hb1f ka kb
  go_wp2_with fail
  go_ret2
  exact ⟨rfl, by (repeat' (first | (with_reducible exact Below.refl _ _) | (with_reducible assumption) | (with_reducible refine Below.drew ?_) | (with_reducible refine below_drewN ?_ _) | ((with_reducible refine Below.alloc ?_ ?_ _); rotate_left; focus (go_size; done)) | ((with_reducible refine Below.setCell ?_ ?_ _); rotate_left; focus (go_size; done)) | ((with_reducible refine Below.trans ?_ (Below.mono (by with_reducible assumption) ?_)); rotate_left; focus (go_size; done))))⟩
set_option maxHeartbeats 2000000 in
theorem sub_bad (b : Bool) (c : Nat) (s : Int) (b' : Bool) (c' : Nat) (s' : Int) (hc : c < 2 ^ 128) (hc' : c' < 2 ^ 128) (h : (dform b c s && dform b' c' s') = false) (w : World) :
    Calls Try.prog 29 #[.agg #[.bool b, .int .u64 (wd (c) 1), .int .u64 (wd (c) 0), .int .i64 s], .agg #[.bool b', .int .u64 (wd (c') 1), .int .u64 (wd (c') 0), .int .i64 s']] w fun e w' => e = .returned (.tuple #[.agg #[.bool false, .int .u64 0, .int .u64 0, .int .i64 0], .int .i64 2]) ∧ Below w.heap.size w w' := by
  have HF := Lib.hid (fun g W hg => formed_two b c s hc b' c' s' hc' g W hg)
  rw [h] at HF
  simp only [ferr, if_pos, if_neg, Bool.false_eq_true, if_true, if_false] at HF
  generalize wd c 0 = x0 at *
  generalize wd c 1 = x1 at *
  generalize wd c' 0 = y0 at *
  generalize wd c' 1 = y1 at *
  clear hc hc' h
  go_enter Try.func29, Try.ntmps29
  go_wp2_with fail
  (with_reducible refine (HF.out _ _ ?hg).mono ?_)
  case hg => ((repeat (first | (with_reducible assumption) | ((with_reducible refine Bk.new_ ?_); (first | rfl | (simp only [World.size_alloc, World.size_setCell, World.size_drew, World.heap_drewN]; done))) | (with_reducible refine Bk.alloc ?_ _) | (with_reducible refine Bk.drew ?_) | (with_reducible refine Bk.drewN ?_ _) | ((with_reducible refine Bk.far ?_ ?_ _); rotate_left; focus (simp only []; omega)) | ((with_reducible refine Bk.below ?_ (by with_reducible assumption) ?_); rotate_left; focus (go_size; done)))); done)
  rintro _ w1 ⟨rfl, hb1⟩; have hb1s := hb1.size; (try simp only [World.size_alloc, World.size_setCell, World.size_drew, World.heap_drewN] at hb1s); obtain ⟨hb1c, hb1f⟩ := bcell hb1; (try have : w.heap.size < w1.heap.size := by omega); (try have : w.heap.size + 1 < w1.heap.size := by omega); (try have : w.heap.size + 1 + 1 < w1.heap.size := by omega); (try have : w.heap.size + 1 + 1 + 1 < w1.heap.size := by omega)
  have ka : Bk w1 (w.heap.size) 26 [.bool b, .int .u64 x1, .int .u64 x0, .int .i64 s] := by (repeat (first | (with_reducible assumption) | ((with_reducible refine Bk.new_ ?_); (first | rfl | (simp only [World.size_alloc, World.size_setCell, World.size_drew, World.heap_drewN]; done))) | (with_reducible refine Bk.alloc ?_ _) | (with_reducible refine Bk.drew ?_) | (with_reducible refine Bk.drewN ?_ _) | ((with_reducible refine Bk.far ?_ ?_ _); rotate_left; focus (simp only []; omega)) | ((with_reducible refine Bk.below ?_ (by with_reducible assumption) ?_); rotate_left; focus (go_size; done))))
  have ka_0 := ka.cell 0 rfl
  have ka_1 := ka.cell 1 rfl
  have ka_2 := ka.cell 2 rfl
  have ka_3 := ka.cell 3 rfl
  have ka_4 := ka.frozen 0
  have ka_5 := ka.frozen 1
  have ka_6 := ka.frozen 2
  have ka_7 := ka.frozen 3
  have kal := ka.lt
  have kb : Bk w1 (w.heap.size + 1) 26 [.bool b', .int .u64 y1, .int .u64 y0, .int .i64 s'] := by (repeat (first | (with_reducible assumption) | ((with_reducible refine Bk.new_ ?_); (first | rfl | (simp only [World.size_alloc, World.size_setCell, World.size_drew, World.heap_drewN]; done))) | (with_reducible refine Bk.alloc ?_ _) | (with_reducible refine Bk.drew ?_) | (with_reducible refine Bk.drewN ?_ _) | ((with_reducible refine Bk.far ?_ ?_ _); rotate_left; focus (simp only []; omega)) | ((with_reducible refine Bk.below ?_ (by with_reducible assumption) ?_); rotate_left; focus (go_size; done))))
  have kb_0 := kb.cell 0 rfl
  have kb_1 := kb.cell 1 rfl
  have kb_2 := kb.cell 2 rfl
  have kb_3 := kb.cell 3 rfl
  have kb_4 := kb.frozen 0
  have kb_5 := kb.frozen 1
  have kb_6 := kb.frozen 2
  have kb_7 := kb.frozen 3
  have kbl := kb.lt
  have kr : Bk w1 (w.heap.size + 1 + 1) 26 [.bool false, .int .u64 0, .int .u64 0, .int .i64 0] := by (repeat (first | (with_reducible assumption) | ((with_reducible refine Bk.new_ ?_); (first | rfl | (simp only [World.size_alloc, World.size_setCell, World.size_drew, World.heap_drewN]; done))) | (with_reducible refine Bk.alloc ?_ _) | (with_reducible refine Bk.drew ?_) | (with_reducible refine Bk.drewN ?_ _) | ((with_reducible refine Bk.far ?_ ?_ _); rotate_left; focus (simp only []; omega)) | ((with_reducible refine Bk.below ?_ (by with_reducible assumption) ?_); rotate_left; focus (go_size; done))))
  have kr_0 := kr.cell 0 rfl
  have kr_1 := kr.cell 1 rfl
  have kr_2 := kr.cell 2 rfl
  have kr_3 := kr.cell 3 rfl
  have kr_4 := kr.frozen 0
  have kr_5 := kr.frozen 1
  have kr_6 := kr.frozen 2
  have kr_7 := kr.frozen 3
  have krl := kr.lt
  clear hb1c hb1f ka kb kr
  go_wp2_with fail
  refine bodyPost_ret (by simp [results, Try.results29, go_sem, *]; try rfl) rfl ?_
  exact ⟨rfl, by (repeat' (first | (with_reducible exact Below.refl _ _) | (with_reducible assumption) | (with_reducible refine Below.drew ?_) | (with_reducible refine below_drewN ?_ _) | ((with_reducible refine Below.alloc ?_ ?_ _); rotate_left; focus (go_size; done)) | ((with_reducible refine Below.setCell ?_ ?_ _); rotate_left; focus (go_size; done)) | ((with_reducible refine Below.trans ?_ (Below.mono (by with_reducible assumption) ?_)); rotate_left; focus (go_size; done))))⟩
theorem dform_turn {b : Bool} {c : Nat} {s : Int} (h : dform b c s = true) : dform (sg (!b) c) c s = true := by
  obtain ⟨t, rfl, h1, h2, h3, h4⟩ := (dform_iff b c s).1 h
  refine (dform_iff _ _ _).2 ⟨t, rfl, h1, h2, fun h0 => ⟨by rw [h0]; exact sg_zero _, (h3 h0).2⟩, h4⟩
set_option maxRecDepth 100000 in
set_option maxHeartbeats 8000000 in
theorem sub_ok (b : Bool) (c s : Nat) (b' : Bool) (c' s' : Nat) (h : dform b c s = true) (h' : dform b' c' s' = true) (hc : c < B34) (hc' : c' < B34) (hs : s ≤ 18) (hs' : s' ≤ 18) (w : World) :
    Calls Try.prog 29 #[.agg #[.bool b, .int .u64 (wd (c) 1), .int .u64 (wd (c) 0), .int .i64 s], .agg #[.bool b', .int .u64 (wd (c') 1), .int .u64 (wd (c') 0), .int .i64 s']] w fun e w' => e = .returned (.tuple #[.agg #[.bool (sg (sgn b (unit c s) (sg (!b') c') (unit c' s')) (FitC ((sab b (unit c s) (sg (!b') c') (unit c' s'))) (10 ^ 18))), .int .u64 (wd (FitC ((sab b (unit c s) (sg (!b') c') (unit c' s'))) (10 ^ 18)) 1), .int .u64 (wd (FitC ((sab b (unit c s) (sg (!b') c') (unit c' s'))) (10 ^ 18)) 0), .int .i64 (FitS ((sab b (unit c s) (sg (!b') c') (unit c' s'))) (10 ^ 18))], .int .i64 (FitE (sab b (unit c s) (sg (!b') c') (unit c' s')) (10 ^ 18))]) ∧ Below w.heap.size w w' := by
  have HF := Lib.hid (fun g W hg => formed_two b c s (Nat.lt_trans hc B34_lt) b' c' s' (Nat.lt_trans hc' B34_lt) g W hg)
  rw [h, h'] at HF
  simp only [ferr, Bool.and_true, if_true] at HF
  have HT := Lib.hid (fun W => turned_any b' c' s' (Nat.lt_trans hc' B34_lt) W)
  have HA := Lib.hid (fun W => add_ok b c s (sg (!b') c') c' s' h (dform_turn h') hc hc' hs hs' W)
  generalize sg (!b') c' = r at *
  generalize FitC (sab b (unit c s) r (unit c' s')) (10 ^ 18) = C at *
  generalize FitS (sab b (unit c s) r (unit c' s')) (10 ^ 18) = S at *
  generalize FitE (sab b (unit c s) r (unit c' s')) (10 ^ 18) = E at *
  generalize sgn b (unit c s) r (unit c' s') = N at *
  generalize wd c 0 = x0 at *
  generalize wd c 1 = x1 at *
  generalize wd c' 0 = y0 at *
  generalize wd c' 1 = y1 at *
  clear hc hc' h h' hs hs'
  obtain ⟨sI, hsI⟩ : ∃ sI : Int, sI = (s : Int) := ⟨_, rfl⟩
  obtain ⟨sJ, hsJ⟩ : ∃ sJ : Int, sJ = (s' : Int) := ⟨_, rfl⟩
  rw [← hsI, ← hsJ] at HF HA ⊢
  rw [← hsJ] at HT
  clear hsI hsJ
  obtain ⟨s, rfl⟩ : ∃ s, s = sI := ⟨_, rfl⟩
  obtain ⟨s', rfl⟩ : ∃ s', s' = sJ := ⟨_, rfl⟩
  go_enter Try.func29, Try.ntmps29
  go_wp2_with fail
  (with_reducible refine (HF.out _ _ ?hg).mono ?_)
  case hg => ((repeat (first | (with_reducible assumption) | ((with_reducible refine Bk.new_ ?_); (first | rfl | (simp only [World.size_alloc, World.size_setCell, World.size_drew, World.heap_drewN]; done))) | (with_reducible refine Bk.alloc ?_ _) | (with_reducible refine Bk.drew ?_) | (with_reducible refine Bk.drewN ?_ _) | ((with_reducible refine Bk.far ?_ ?_ _); rotate_left; focus (simp only []; omega)) | ((with_reducible refine Bk.below ?_ (by with_reducible assumption) ?_); rotate_left; focus (go_size; done)))); done)
  rintro _ w1 ⟨rfl, hb1⟩; have hb1s := hb1.size; (try simp only [World.size_alloc, World.size_setCell, World.size_drew, World.heap_drewN] at hb1s); obtain ⟨hb1c, hb1f⟩ := bcell hb1; (try have : w.heap.size < w1.heap.size := by omega); (try have : w.heap.size + 1 < w1.heap.size := by omega); (try have : w.heap.size + 1 + 1 < w1.heap.size := by omega); (try have : w.heap.size + 1 + 1 + 1 < w1.heap.size := by omega)
  have ka : Bk w1 (w.heap.size) 26 [.bool b, .int .u64 x1, .int .u64 x0, .int .i64 s] := by (repeat (first | (with_reducible assumption) | ((with_reducible refine Bk.new_ ?_); (first | rfl | (simp only [World.size_alloc, World.size_setCell, World.size_drew, World.heap_drewN]; done))) | (with_reducible refine Bk.alloc ?_ _) | (with_reducible refine Bk.drew ?_) | (with_reducible refine Bk.drewN ?_ _) | ((with_reducible refine Bk.far ?_ ?_ _); rotate_left; focus (simp only []; omega)) | ((with_reducible refine Bk.below ?_ (by with_reducible assumption) ?_); rotate_left; focus (go_size; done))))
  have ka_0 := ka.cell 0 rfl
  have ka_1 := ka.cell 1 rfl
  have ka_2 := ka.cell 2 rfl
  have ka_3 := ka.cell 3 rfl
  have ka_4 := ka.frozen 0
  have ka_5 := ka.frozen 1
  have ka_6 := ka.frozen 2
  have ka_7 := ka.frozen 3
  have kal := ka.lt
  have kb : Bk w1 (w.heap.size + 1) 26 [.bool b', .int .u64 y1, .int .u64 y0, .int .i64 s'] := by (repeat (first | (with_reducible assumption) | ((with_reducible refine Bk.new_ ?_); (first | rfl | (simp only [World.size_alloc, World.size_setCell, World.size_drew, World.heap_drewN]; done))) | (with_reducible refine Bk.alloc ?_ _) | (with_reducible refine Bk.drew ?_) | (with_reducible refine Bk.drewN ?_ _) | ((with_reducible refine Bk.far ?_ ?_ _); rotate_left; focus (simp only []; omega)) | ((with_reducible refine Bk.below ?_ (by with_reducible assumption) ?_); rotate_left; focus (go_size; done))))
  have kb_0 := kb.cell 0 rfl
  have kb_1 := kb.cell 1 rfl
  have kb_2 := kb.cell 2 rfl
  have kb_3 := kb.cell 3 rfl
  have kb_4 := kb.frozen 0
  have kb_5 := kb.frozen 1
  have kb_6 := kb.frozen 2
  have kb_7 := kb.frozen 3
  have kbl := kb.lt
  have kr : Bk w1 (w.heap.size + 1 + 1) 26 [.bool false, .int .u64 0, .int .u64 0, .int .i64 0] := by (repeat (first | (with_reducible assumption) | ((with_reducible refine Bk.new_ ?_); (first | rfl | (simp only [World.size_alloc, World.size_setCell, World.size_drew, World.heap_drewN]; done))) | (with_reducible refine Bk.alloc ?_ _) | (with_reducible refine Bk.drew ?_) | (with_reducible refine Bk.drewN ?_ _) | ((with_reducible refine Bk.far ?_ ?_ _); rotate_left; focus (simp only []; omega)) | ((with_reducible refine Bk.below ?_ (by with_reducible assumption) ?_); rotate_left; focus (go_size; done))))
  have kr_0 := kr.cell 0 rfl
  have kr_1 := kr.cell 1 rfl
  have kr_2 := kr.cell 2 rfl
  have kr_3 := kr.cell 3 rfl
  have kr_4 := kr.frozen 0
  have kr_5 := kr.frozen 1
  have kr_6 := kr.frozen 2
  have kr_7 := kr.frozen 3
  have krl := kr.lt
  clear hb1c hb1f
  go_wp2_with fail
  go_region_held3 (fun w' => (w'.cell? ⟨w.heap.size, 0, none⟩ = some (.bool b) ∧ w'.cell? ⟨w.heap.size, 1, none⟩ = some (.int .u64 x1) ∧ w'.cell? ⟨w.heap.size, 2, none⟩ = some (.int .u64 x0) ∧ w'.cell? ⟨w.heap.size, 3, none⟩ = some (.int .i64 s)) ∧ (w'.cell? ⟨(w.heap.size + 1), 0, none⟩ = some (.bool b') ∧ w'.cell? ⟨(w.heap.size + 1), 1, none⟩ = some (.int .u64 y1) ∧ w'.cell? ⟨(w.heap.size + 1), 2, none⟩ = some (.int .u64 y0) ∧ w'.cell? ⟨(w.heap.size + 1), 3, none⟩ = some (.int .i64 s'))) (first | (first | (go_keep; done) | (simp [go_sem]; done) | ((try dsimp only); (repeat' apply And.intro) <;> (first | (with_reducible assumption) | ((rw [World.cell?_alloc_lt _ _ _ (by show _ < _; omega)]); go_split_ands; (first | with_reducible assumption | (refine (World.cell?_alloc_lt _ _ _ (by show _ < _; omega)).symm.trans ?_; with_reducible assumption))) | ((rw [World.cell?_setCell_other _ _ _ _ (by intro e; injection e; omega)]); with_reducible assumption) | (go_keep; done) | (simp [go_sem]; done) | (simp (disch := go_size) [*, World.cell?_alloc_some, World.cell?_setCell_far]; done)))) | ((refine ⟨?_, ?_⟩) <;> (first | ((refine ⟨Bk.cell (t := 26) (cs := [.bool b, .int .u64 x1, .int .u64 x0, .int .i64 s]) ?_ 0 rfl, Bk.cell (t := 26) (cs := [.bool b, .int .u64 x1, .int .u64 x0, .int .i64 s]) ?_ 1 rfl, Bk.cell (t := 26) (cs := [.bool b, .int .u64 x1, .int .u64 x0, .int .i64 s]) ?_ 2 rfl, Bk.cell (t := 26) (cs := [.bool b, .int .u64 x1, .int .u64 x0, .int .i64 s]) ?_ 3 rfl⟩) <;> ((repeat (first | (with_reducible assumption) | ((with_reducible refine Bk.new_ ?_); (first | rfl | (simp only [World.size_alloc, World.size_setCell, World.size_drew, World.heap_drewN]; done))) | (with_reducible refine Bk.alloc ?_ _) | (with_reducible refine Bk.drew ?_) | (with_reducible refine Bk.drewN ?_ _) | ((with_reducible refine Bk.far ?_ ?_ _); rotate_left; focus (simp only []; omega)) | ((with_reducible refine Bk.below ?_ (by with_reducible assumption) ?_); rotate_left; focus (go_size; done)))); done)) | ((refine ⟨Bk.cell (t := 26) (cs := [.bool b', .int .u64 y1, .int .u64 y0, .int .i64 s']) ?_ 0 rfl, Bk.cell (t := 26) (cs := [.bool b', .int .u64 y1, .int .u64 y0, .int .i64 s']) ?_ 1 rfl, Bk.cell (t := 26) (cs := [.bool b', .int .u64 y1, .int .u64 y0, .int .i64 s']) ?_ 2 rfl, Bk.cell (t := 26) (cs := [.bool b', .int .u64 y1, .int .u64 y0, .int .i64 s']) ?_ 3 rfl⟩) <;> ((repeat (first | (with_reducible assumption) | ((with_reducible refine Bk.new_ ?_); (first | rfl | (simp only [World.size_alloc, World.size_setCell, World.size_drew, World.heap_drewN]; done))) | (with_reducible refine Bk.alloc ?_ _) | (with_reducible refine Bk.drew ?_) | (with_reducible refine Bk.drewN ?_ _) | ((with_reducible refine Bk.far ?_ ?_ _); rotate_left; focus (simp only []; omega)) | ((with_reducible refine Bk.below ?_ (by with_reducible assumption) ?_); rotate_left; focus (go_size; done)))); done))))) (first | (go_at_call 50; (with_reducible refine (HT.out _).mono ?_); rintro _ w4 ⟨rfl, hb4⟩; have hb4s := hb4.size; (try simp only [World.size_alloc, World.size_setCell, World.size_drew, World.heap_drewN] at hb4s); obtain ⟨hb4c, hb4f⟩ := bcell hb4; (try have : w.heap.size < w4.heap.size := by omega); (try have : w.heap.size + 1 < w4.heap.size := by omega); (try have : w.heap.size + 1 + 1 < w4.heap.size := by omega); (try have : w.heap.size + 1 + 1 + 1 < w4.heap.size := by omega); (try have : w1.heap.size < w4.heap.size := by omega); (try have : w1.heap.size + 1 < w4.heap.size := by omega); (try have : w1.heap.size + 1 + 1 < w4.heap.size := by omega); (try have : w1.heap.size + 1 + 1 + 1 < w4.heap.size := by omega)) | (go_at_call 15; (with_reducible refine (HA.out _).mono ?_); rintro _ w5 ⟨rfl, hb5⟩; have hb5s := hb5.size; (try simp only [World.size_alloc, World.size_setCell, World.size_drew, World.heap_drewN] at hb5s); obtain ⟨hb5c, hb5f⟩ := bcell hb5; (try have : w.heap.size < w5.heap.size := by omega); (try have : w.heap.size + 1 < w5.heap.size := by omega); (try have : w.heap.size + 1 + 1 < w5.heap.size := by omega); (try have : w.heap.size + 1 + 1 + 1 < w5.heap.size := by omega); have zr : Bk w5 (w.heap.size + 1 + 1) 26 [.bool false, .int .u64 0, .int .u64 0, .int .i64 0] := (by (repeat (first | (with_reducible assumption) | ((with_reducible refine Bk.new_ ?_); (first | rfl | (simp only [World.size_alloc, World.size_setCell, World.size_drew, World.heap_drewN]; done))) | (with_reducible refine Bk.alloc ?_ _) | (with_reducible refine Bk.drew ?_) | (with_reducible refine Bk.drewN ?_ _) | ((with_reducible refine Bk.far ?_ ?_ _); rotate_left; focus (simp only []; omega)) | ((with_reducible refine Bk.below ?_ (by with_reducible assumption) ?_); rotate_left; focus (go_size; done))))); have zr_0 := zr.cell 0 rfl; have zr_1 := zr.cell 1 rfl; have zr_2 := zr.cell 2 rfl; have zr_3 := zr.cell 3 rfl; have zr_4 := zr.frozen 0; have zr_5 := zr.frozen 1; have zr_6 := zr.frozen 2; have zr_7 := zr.frozen 3; have zrl := zr.lt; clear hb5c hb5f; (try have : w1.heap.size < w5.heap.size := by omega); (try have : w1.heap.size + 1 < w5.heap.size := by omega); (try have : w1.heap.size + 1 + 1 < w5.heap.size := by omega); (try have : w1.heap.size + 1 + 1 + 1 < w5.heap.size := by omega); (try have : w4.heap.size < w5.heap.size := by omega); (try have : w4.heap.size + 1 < w5.heap.size := by omega); (try have : w4.heap.size + 1 + 1 < w5.heap.size := by omega); (try have : w4.heap.size + 1 + 1 + 1 < w5.heap.size := by omega)))
  all_goals
    refine wp_named (fun W => Bk W (w.heap.size + 1 + 1) 26 [.bool (sg N C), .int .u64 (wd C 1), .int .u64 (wd C 0), .int .i64 (S : Int)] ∧ Below w.heap.size w W) ⟨?h1, ?h2⟩ ?_
    case h1 => (first | ((repeat (first | (with_reducible assumption) | ((with_reducible refine Bk.new_ ?_); (first | rfl | (simp only [World.size_alloc, World.size_setCell, World.size_drew, World.heap_drewN]; done))) | (with_reducible refine Bk.alloc ?_ _) | (with_reducible refine Bk.drew ?_) | (with_reducible refine Bk.drewN ?_ _) | ((with_reducible refine Bk.far ?_ ?_ _); rotate_left; focus (simp only []; omega)) | ((with_reducible refine Bk.below ?_ (by with_reducible assumption) ?_); rotate_left; focus (go_size; done)))); done) | ((repeat (first | (with_reducible refine Bk.alloc ?_ _) | (with_reducible refine Bk.drew ?_) | ((with_reducible refine Bk.far ?_ ?_ _); rotate_left; focus (simp only []; omega)))); (refine ((((?_ : Bk _ _ _ [.bool false, .int .u64 0, .int .u64 0, .int .i64 0]).set_ 0 _).set_ 1 _).set_ 2 _).set_ 3 _); (repeat (first | (with_reducible assumption) | ((with_reducible refine Bk.new_ ?_); (first | rfl | (simp only [World.size_alloc, World.size_setCell, World.size_drew, World.heap_drewN]; done))) | (with_reducible refine Bk.alloc ?_ _) | (with_reducible refine Bk.drew ?_) | (with_reducible refine Bk.drewN ?_ _) | ((with_reducible refine Bk.far ?_ ?_ _); rotate_left; focus (simp only []; omega)) | ((with_reducible refine Bk.below ?_ (by with_reducible assumption) ?_); rotate_left; focus (go_size; done))))); done)
    case h2 => ((repeat' (first | (with_reducible exact Below.refl _ _) | (with_reducible assumption) | (with_reducible refine Below.drew ?_) | (with_reducible refine below_drewN ?_ _) | ((with_reducible refine Below.alloc ?_ ?_ _); rotate_left; focus (go_size; done)) | ((with_reducible refine Below.setCell ?_ ?_ _); rotate_left; focus (go_size; done)) | ((with_reducible refine Below.trans ?_ (Below.mono (by with_reducible assumption) ?_)); rotate_left; focus (go_size; done)))); done)
    rintro W ⟨k1, mb⟩
    have k1_0 := k1.cell 0 rfl
    have k1_1 := k1.cell 1 rfl
    have k1_2 := k1.cell 2 rfl
    have k1_3 := k1.cell 3 rfl
    have k1_4 := k1.frozen 0
    have k1_5 := k1.frozen 1
    have k1_6 := k1.frozen 2
    have k1_7 := k1.frozen 3
    go_wp2_with fail
    refine bodyPost_ret (by simp [results, Try.results29, go_sem, *]; try rfl) rfl ?_
    exact ⟨rfl, by (repeat' (first | (with_reducible exact Below.refl _ _) | (with_reducible assumption) | (with_reducible refine Below.drew ?_) | (with_reducible refine below_drewN ?_ _) | ((with_reducible refine Below.alloc ?_ ?_ _); rotate_left; focus (go_size; done)) | ((with_reducible refine Below.setCell ?_ ?_ _); rotate_left; focus (go_size; done)) | ((with_reducible refine Below.trans ?_ (Below.mono (by with_reducible assumption) ?_)); rotate_left; focus (go_size; done))))⟩
set_option maxRecDepth 100000 in
set_option maxHeartbeats 8000000 in
theorem dcmp_ok (b : Bool) (c s : Nat) (b' : Bool) (c' s' : Nat) (h : dform b c s = true) (h' : dform b' c' s' = true) (hc : c < B34) (hc' : c' < B34) (hs : s ≤ 18) (hs' : s' ≤ 18) (w : World) :
    Calls Try.prog 12 #[.agg #[.bool b, .int .u64 (wd (c) 1), .int .u64 (wd (c) 0), .int .i64 s], .agg #[.bool b', .int .u64 (wd (c') 1), .int .u64 (wd (c') 0), .int .i64 s']] w fun e w' => e = .returned (.tuple #[.int .i64 (ordD b (unit c s) b' (unit c' s')), .int .i64 0]) ∧ Below w.heap.size w w' := by
  obtain ⟨m, hm⟩ : ∃ m, m = max s s' := ⟨_, rfl⟩
  rw [ord_units b b' c c' s s' m (by omega) (by omega) (by omega)]
  have HF := Lib.hid (fun g W hg => formed_two b c s (Nat.lt_trans hc B34_lt) b' c' s' (Nat.lt_trans hc' B34_lt) g W hg)
  rw [h, h'] at HF
  simp only [ferr, Bool.and_true, if_true] at HF
  have HB := Lib.hid (fun W => both_any b c s b' c' s' m hc hc' hs hs' hm W)
  have hX : c * 10 ^ (m - s) < 10 ^ 52 := scaled_lt hc (by omega)
  have hY : c' * 10 ^ (m - s') < 10 ^ 52 := scaled_lt hc' (by omega)
  generalize c * 10 ^ (m - s) = X at *
  generalize c' * 10 ^ (m - s') = Y at *
  have hX2 : X < 2 ^ 256 := Nat.lt_trans hX (by decide)
  have hY2 : Y < 2 ^ 256 := Nat.lt_trans hY (by decide)
  have HO := Lib.hid (fun W => order_any X Y hX2 hY2 W)
  have HP := Lib.hid (fun W => order_any Y X hY2 hX2 W)
  clear h h' hm hX hY hX2 hY2
  unfold ordD
  generalize cmpN X Y = c1 at *
  generalize cmpN Y X = c2 at *
  obtain ⟨sI, hsI⟩ : ∃ sI : Int, sI = (s : Int) := ⟨_, rfl⟩
  obtain ⟨sJ, hsJ⟩ : ∃ sJ : Int, sJ = (s' : Int) := ⟨_, rfl⟩
  rw [← hsI, ← hsJ] at HF HB
  rw [← hsI, ← hsJ]
  clear hsI hsJ hs hs'
  obtain ⟨s, rfl⟩ : ∃ s, s = sI := ⟨_, rfl⟩
  obtain ⟨s', rfl⟩ : ∃ s', s' = sJ := ⟨_, rfl⟩
  generalize wd X 0 = p0 at *
  generalize wd X 1 = p1 at *
  generalize wd X 2 = p2 at *
  generalize wd X 3 = p3 at *
  generalize wd Y 0 = q0 at *
  generalize wd Y 1 = q1 at *
  generalize wd Y 2 = q2 at *
  generalize wd Y 3 = q3 at *
  generalize wd c 0 = x0 at *
  generalize wd c 1 = x1 at *
  generalize wd c' 0 = y0 at *
  generalize wd c' 1 = y1 at *
  clear hc hc'
  cases b <;> cases b' <;> simp only [Bool.false_eq_true, if_true, if_false, reduceCtorEq]
  · obtain ⟨b, hb⟩ : ∃ b, b = false := ⟨_, rfl⟩
    go_enter Try.func12, Try.ntmps12
    go_wp2_with fail
    (with_reducible refine (HF.out _ _ ?hg).mono ?_)
    case hg => ((repeat (first | (with_reducible assumption) | ((with_reducible refine Bk.new_ ?_); (first | rfl | (simp only [World.size_alloc, World.size_setCell, World.size_drew, World.heap_drewN]; done))) | (with_reducible refine Bk.alloc ?_ _) | (with_reducible refine Bk.drew ?_) | (with_reducible refine Bk.drewN ?_ _) | ((with_reducible refine Bk.far ?_ ?_ _); rotate_left; focus (simp only []; omega)) | ((with_reducible refine Bk.below ?_ (by with_reducible assumption) ?_); rotate_left; focus (go_size; done)))); done)
    rintro _ w1 ⟨rfl, hb1⟩; have hb1s := hb1.size; (try simp only [World.size_alloc, World.size_setCell, World.size_drew, World.heap_drewN] at hb1s); obtain ⟨hb1c, hb1f⟩ := bcell hb1; (try have : w.heap.size < w1.heap.size := by omega); (try have : w.heap.size + 1 < w1.heap.size := by omega); (try have : w.heap.size + 1 + 1 < w1.heap.size := by omega); (try have : w.heap.size + 1 + 1 + 1 < w1.heap.size := by omega)
    have ka : Bk w1 (w.heap.size) 26 [.bool false, .int .u64 x1, .int .u64 x0, .int .i64 s] := by (repeat (first | (with_reducible assumption) | ((with_reducible refine Bk.new_ ?_); (first | rfl | (simp only [World.size_alloc, World.size_setCell, World.size_drew, World.heap_drewN]; done))) | (with_reducible refine Bk.alloc ?_ _) | (with_reducible refine Bk.drew ?_) | (with_reducible refine Bk.drewN ?_ _) | ((with_reducible refine Bk.far ?_ ?_ _); rotate_left; focus (simp only []; omega)) | ((with_reducible refine Bk.below ?_ (by with_reducible assumption) ?_); rotate_left; focus (go_size; done))))
    have ka_0 := ka.cell 0 rfl
    have ka_1 := ka.cell 1 rfl
    have ka_2 := ka.cell 2 rfl
    have ka_3 := ka.cell 3 rfl
    have ka_4 := ka.frozen 0
    have ka_5 := ka.frozen 1
    have ka_6 := ka.frozen 2
    have ka_7 := ka.frozen 3
    have kal := ka.lt
    have kb : Bk w1 (w.heap.size + 1) 26 [.bool false, .int .u64 y1, .int .u64 y0, .int .i64 s'] := by (repeat (first | (with_reducible assumption) | ((with_reducible refine Bk.new_ ?_); (first | rfl | (simp only [World.size_alloc, World.size_setCell, World.size_drew, World.heap_drewN]; done))) | (with_reducible refine Bk.alloc ?_ _) | (with_reducible refine Bk.drew ?_) | (with_reducible refine Bk.drewN ?_ _) | ((with_reducible refine Bk.far ?_ ?_ _); rotate_left; focus (simp only []; omega)) | ((with_reducible refine Bk.below ?_ (by with_reducible assumption) ?_); rotate_left; focus (go_size; done))))
    have kb_0 := kb.cell 0 rfl
    have kb_1 := kb.cell 1 rfl
    have kb_2 := kb.cell 2 rfl
    have kb_3 := kb.cell 3 rfl
    have kb_4 := kb.frozen 0
    have kb_5 := kb.frozen 1
    have kb_6 := kb.frozen 2
    have kb_7 := kb.frozen 3
    have kbl := kb.lt
    clear hb1c hb1f
    go_wp2_with fail
    refine (HB.out _).mono ?_
    rintro _ w2 ⟨rfl, hb2⟩; have hb2s := hb2.size; (try simp only [World.size_alloc, World.size_setCell, World.size_drew, World.heap_drewN] at hb2s); obtain ⟨hb2c, hb2f⟩ := bcell hb2; (try have : w.heap.size < w2.heap.size := by omega); (try have : w.heap.size + 1 < w2.heap.size := by omega); (try have : w.heap.size + 1 + 1 < w2.heap.size := by omega); (try have : w.heap.size + 1 + 1 + 1 < w2.heap.size := by omega)
    have ja : Bk w2 (w.heap.size) 26 [.bool false, .int .u64 x1, .int .u64 x0, .int .i64 s] := by (repeat (first | (with_reducible assumption) | ((with_reducible refine Bk.new_ ?_); (first | rfl | (simp only [World.size_alloc, World.size_setCell, World.size_drew, World.heap_drewN]; done))) | (with_reducible refine Bk.alloc ?_ _) | (with_reducible refine Bk.drew ?_) | (with_reducible refine Bk.drewN ?_ _) | ((with_reducible refine Bk.far ?_ ?_ _); rotate_left; focus (simp only []; omega)) | ((with_reducible refine Bk.below ?_ (by with_reducible assumption) ?_); rotate_left; focus (go_size; done))))
    have jb : Bk w2 (w.heap.size + 1) 26 [.bool false, .int .u64 y1, .int .u64 y0, .int .i64 s'] := by (repeat (first | (with_reducible assumption) | ((with_reducible refine Bk.new_ ?_); (first | rfl | (simp only [World.size_alloc, World.size_setCell, World.size_drew, World.heap_drewN]; done))) | (with_reducible refine Bk.alloc ?_ _) | (with_reducible refine Bk.drew ?_) | (with_reducible refine Bk.drewN ?_ _) | ((with_reducible refine Bk.far ?_ ?_ _); rotate_left; focus (simp only []; omega)) | ((with_reducible refine Bk.below ?_ (by with_reducible assumption) ?_); rotate_left; focus (go_size; done))))
    clear hb2c hb2f ka_0 ka_1 ka_2 ka_3 ka_4 ka_5 ka_6 ka_7 kb_0 kb_1 kb_2 kb_3 kb_4 kb_5 kb_6 kb_7 ka kb
    have ja_0 := ja.cell 0 rfl
    have ja_1 := ja.cell 1 rfl
    have ja_2 := ja.cell 2 rfl
    have ja_3 := ja.cell 3 rfl
    have ja_4 := ja.frozen 0
    have ja_5 := ja.frozen 1
    have ja_6 := ja.frozen 2
    have ja_7 := ja.frozen 3
    have jb_0 := jb.cell 0 rfl
    have jb_1 := jb.cell 1 rfl
    have jb_2 := jb.cell 2 rfl
    have jb_3 := jb.cell 3 rfl
    have jb_4 := jb.frozen 0
    have jb_5 := jb.frozen 1
    have jb_6 := jb.frozen 2
    have jb_7 := jb.frozen 3
    have jal := ja.lt
    have jbl := jb.lt
    clear ja jb
    go_wp2_with fail
    refine (HO.out _).mono ?_
    rintro _ w3 ⟨rfl, hb3⟩; have hb3s := hb3.size; (try simp only [World.size_alloc, World.size_setCell, World.size_drew, World.heap_drewN] at hb3s); obtain ⟨hb3c, hb3f⟩ := bcell hb3; (try have : w.heap.size < w3.heap.size := by omega); (try have : w.heap.size + 1 < w3.heap.size := by omega); (try have : w.heap.size + 1 + 1 < w3.heap.size := by omega); (try have : w.heap.size + 1 + 1 + 1 < w3.heap.size := by omega)
    go_wp2_with fail
    go_ret2
    exact ⟨rfl, by (repeat' (first | (with_reducible exact Below.refl _ _) | (with_reducible assumption) | (with_reducible refine Below.drew ?_) | (with_reducible refine below_drewN ?_ _) | ((with_reducible refine Below.alloc ?_ ?_ _); rotate_left; focus (go_size; done)) | ((with_reducible refine Below.setCell ?_ ?_ _); rotate_left; focus (go_size; done)) | ((with_reducible refine Below.trans ?_ (Below.mono (by with_reducible assumption) ?_)); rotate_left; focus (go_size; done))))⟩
  ·
    go_enter Try.func12, Try.ntmps12
    go_wp2_with fail
    (with_reducible refine (HF.out _ _ ?hg).mono ?_)
    case hg => ((repeat (first | (with_reducible assumption) | ((with_reducible refine Bk.new_ ?_); (first | rfl | (simp only [World.size_alloc, World.size_setCell, World.size_drew, World.heap_drewN]; done))) | (with_reducible refine Bk.alloc ?_ _) | (with_reducible refine Bk.drew ?_) | (with_reducible refine Bk.drewN ?_ _) | ((with_reducible refine Bk.far ?_ ?_ _); rotate_left; focus (simp only []; omega)) | ((with_reducible refine Bk.below ?_ (by with_reducible assumption) ?_); rotate_left; focus (go_size; done)))); done)
    rintro _ w1 ⟨rfl, hb1⟩; have hb1s := hb1.size; (try simp only [World.size_alloc, World.size_setCell, World.size_drew, World.heap_drewN] at hb1s); obtain ⟨hb1c, hb1f⟩ := bcell hb1; (try have : w.heap.size < w1.heap.size := by omega); (try have : w.heap.size + 1 < w1.heap.size := by omega); (try have : w.heap.size + 1 + 1 < w1.heap.size := by omega); (try have : w.heap.size + 1 + 1 + 1 < w1.heap.size := by omega)
    have ka : Bk w1 (w.heap.size) 26 [.bool false, .int .u64 x1, .int .u64 x0, .int .i64 s] := by (repeat (first | (with_reducible assumption) | ((with_reducible refine Bk.new_ ?_); (first | rfl | (simp only [World.size_alloc, World.size_setCell, World.size_drew, World.heap_drewN]; done))) | (with_reducible refine Bk.alloc ?_ _) | (with_reducible refine Bk.drew ?_) | (with_reducible refine Bk.drewN ?_ _) | ((with_reducible refine Bk.far ?_ ?_ _); rotate_left; focus (simp only []; omega)) | ((with_reducible refine Bk.below ?_ (by with_reducible assumption) ?_); rotate_left; focus (go_size; done))))
    have ka_0 := ka.cell 0 rfl
    have ka_1 := ka.cell 1 rfl
    have ka_2 := ka.cell 2 rfl
    have ka_3 := ka.cell 3 rfl
    have ka_4 := ka.frozen 0
    have ka_5 := ka.frozen 1
    have ka_6 := ka.frozen 2
    have ka_7 := ka.frozen 3
    have kal := ka.lt
    have kb : Bk w1 (w.heap.size + 1) 26 [.bool true, .int .u64 y1, .int .u64 y0, .int .i64 s'] := by (repeat (first | (with_reducible assumption) | ((with_reducible refine Bk.new_ ?_); (first | rfl | (simp only [World.size_alloc, World.size_setCell, World.size_drew, World.heap_drewN]; done))) | (with_reducible refine Bk.alloc ?_ _) | (with_reducible refine Bk.drew ?_) | (with_reducible refine Bk.drewN ?_ _) | ((with_reducible refine Bk.far ?_ ?_ _); rotate_left; focus (simp only []; omega)) | ((with_reducible refine Bk.below ?_ (by with_reducible assumption) ?_); rotate_left; focus (go_size; done))))
    have kb_0 := kb.cell 0 rfl
    have kb_1 := kb.cell 1 rfl
    have kb_2 := kb.cell 2 rfl
    have kb_3 := kb.cell 3 rfl
    have kb_4 := kb.frozen 0
    have kb_5 := kb.frozen 1
    have kb_6 := kb.frozen 2
    have kb_7 := kb.frozen 3
    have kbl := kb.lt
    clear hb1c hb1f ka kb
    go_wp2_with fail
    go_ret2
    exact ⟨rfl, by (repeat' (first | (with_reducible exact Below.refl _ _) | (with_reducible assumption) | (with_reducible refine Below.drew ?_) | (with_reducible refine below_drewN ?_ _) | ((with_reducible refine Below.alloc ?_ ?_ _); rotate_left; focus (go_size; done)) | ((with_reducible refine Below.setCell ?_ ?_ _); rotate_left; focus (go_size; done)) | ((with_reducible refine Below.trans ?_ (Below.mono (by with_reducible assumption) ?_)); rotate_left; focus (go_size; done))))⟩
  ·
    go_enter Try.func12, Try.ntmps12
    go_wp2_with fail
    (with_reducible refine (HF.out _ _ ?hg).mono ?_)
    case hg => ((repeat (first | (with_reducible assumption) | ((with_reducible refine Bk.new_ ?_); (first | rfl | (simp only [World.size_alloc, World.size_setCell, World.size_drew, World.heap_drewN]; done))) | (with_reducible refine Bk.alloc ?_ _) | (with_reducible refine Bk.drew ?_) | (with_reducible refine Bk.drewN ?_ _) | ((with_reducible refine Bk.far ?_ ?_ _); rotate_left; focus (simp only []; omega)) | ((with_reducible refine Bk.below ?_ (by with_reducible assumption) ?_); rotate_left; focus (go_size; done)))); done)
    rintro _ w1 ⟨rfl, hb1⟩; have hb1s := hb1.size; (try simp only [World.size_alloc, World.size_setCell, World.size_drew, World.heap_drewN] at hb1s); obtain ⟨hb1c, hb1f⟩ := bcell hb1; (try have : w.heap.size < w1.heap.size := by omega); (try have : w.heap.size + 1 < w1.heap.size := by omega); (try have : w.heap.size + 1 + 1 < w1.heap.size := by omega); (try have : w.heap.size + 1 + 1 + 1 < w1.heap.size := by omega)
    have ka : Bk w1 (w.heap.size) 26 [.bool true, .int .u64 x1, .int .u64 x0, .int .i64 s] := by (repeat (first | (with_reducible assumption) | ((with_reducible refine Bk.new_ ?_); (first | rfl | (simp only [World.size_alloc, World.size_setCell, World.size_drew, World.heap_drewN]; done))) | (with_reducible refine Bk.alloc ?_ _) | (with_reducible refine Bk.drew ?_) | (with_reducible refine Bk.drewN ?_ _) | ((with_reducible refine Bk.far ?_ ?_ _); rotate_left; focus (simp only []; omega)) | ((with_reducible refine Bk.below ?_ (by with_reducible assumption) ?_); rotate_left; focus (go_size; done))))
    have ka_0 := ka.cell 0 rfl
    have ka_1 := ka.cell 1 rfl
    have ka_2 := ka.cell 2 rfl
    have ka_3 := ka.cell 3 rfl
    have ka_4 := ka.frozen 0
    have ka_5 := ka.frozen 1
    have ka_6 := ka.frozen 2
    have ka_7 := ka.frozen 3
    have kal := ka.lt
    have kb : Bk w1 (w.heap.size + 1) 26 [.bool false, .int .u64 y1, .int .u64 y0, .int .i64 s'] := by (repeat (first | (with_reducible assumption) | ((with_reducible refine Bk.new_ ?_); (first | rfl | (simp only [World.size_alloc, World.size_setCell, World.size_drew, World.heap_drewN]; done))) | (with_reducible refine Bk.alloc ?_ _) | (with_reducible refine Bk.drew ?_) | (with_reducible refine Bk.drewN ?_ _) | ((with_reducible refine Bk.far ?_ ?_ _); rotate_left; focus (simp only []; omega)) | ((with_reducible refine Bk.below ?_ (by with_reducible assumption) ?_); rotate_left; focus (go_size; done))))
    have kb_0 := kb.cell 0 rfl
    have kb_1 := kb.cell 1 rfl
    have kb_2 := kb.cell 2 rfl
    have kb_3 := kb.cell 3 rfl
    have kb_4 := kb.frozen 0
    have kb_5 := kb.frozen 1
    have kb_6 := kb.frozen 2
    have kb_7 := kb.frozen 3
    have kbl := kb.lt
    clear hb1c hb1f ka kb
    go_wp2_with fail
    go_ret2
    exact ⟨rfl, by (repeat' (first | (with_reducible exact Below.refl _ _) | (with_reducible assumption) | (with_reducible refine Below.drew ?_) | (with_reducible refine below_drewN ?_ _) | ((with_reducible refine Below.alloc ?_ ?_ _); rotate_left; focus (go_size; done)) | ((with_reducible refine Below.setCell ?_ ?_ _); rotate_left; focus (go_size; done)) | ((with_reducible refine Below.trans ?_ (Below.mono (by with_reducible assumption) ?_)); rotate_left; focus (go_size; done))))⟩
  · obtain ⟨b, hb⟩ : ∃ b, b = true := ⟨_, rfl⟩
    go_enter Try.func12, Try.ntmps12
    go_wp2_with fail
    (with_reducible refine (HF.out _ _ ?hg).mono ?_)
    case hg => ((repeat (first | (with_reducible assumption) | ((with_reducible refine Bk.new_ ?_); (first | rfl | (simp only [World.size_alloc, World.size_setCell, World.size_drew, World.heap_drewN]; done))) | (with_reducible refine Bk.alloc ?_ _) | (with_reducible refine Bk.drew ?_) | (with_reducible refine Bk.drewN ?_ _) | ((with_reducible refine Bk.far ?_ ?_ _); rotate_left; focus (simp only []; omega)) | ((with_reducible refine Bk.below ?_ (by with_reducible assumption) ?_); rotate_left; focus (go_size; done)))); done)
    rintro _ w1 ⟨rfl, hb1⟩; have hb1s := hb1.size; (try simp only [World.size_alloc, World.size_setCell, World.size_drew, World.heap_drewN] at hb1s); obtain ⟨hb1c, hb1f⟩ := bcell hb1; (try have : w.heap.size < w1.heap.size := by omega); (try have : w.heap.size + 1 < w1.heap.size := by omega); (try have : w.heap.size + 1 + 1 < w1.heap.size := by omega); (try have : w.heap.size + 1 + 1 + 1 < w1.heap.size := by omega)
    have ka : Bk w1 (w.heap.size) 26 [.bool true, .int .u64 x1, .int .u64 x0, .int .i64 s] := by (repeat (first | (with_reducible assumption) | ((with_reducible refine Bk.new_ ?_); (first | rfl | (simp only [World.size_alloc, World.size_setCell, World.size_drew, World.heap_drewN]; done))) | (with_reducible refine Bk.alloc ?_ _) | (with_reducible refine Bk.drew ?_) | (with_reducible refine Bk.drewN ?_ _) | ((with_reducible refine Bk.far ?_ ?_ _); rotate_left; focus (simp only []; omega)) | ((with_reducible refine Bk.below ?_ (by with_reducible assumption) ?_); rotate_left; focus (go_size; done))))
    have ka_0 := ka.cell 0 rfl
    have ka_1 := ka.cell 1 rfl
    have ka_2 := ka.cell 2 rfl
    have ka_3 := ka.cell 3 rfl
    have ka_4 := ka.frozen 0
    have ka_5 := ka.frozen 1
    have ka_6 := ka.frozen 2
    have ka_7 := ka.frozen 3
    have kal := ka.lt
    have kb : Bk w1 (w.heap.size + 1) 26 [.bool true, .int .u64 y1, .int .u64 y0, .int .i64 s'] := by (repeat (first | (with_reducible assumption) | ((with_reducible refine Bk.new_ ?_); (first | rfl | (simp only [World.size_alloc, World.size_setCell, World.size_drew, World.heap_drewN]; done))) | (with_reducible refine Bk.alloc ?_ _) | (with_reducible refine Bk.drew ?_) | (with_reducible refine Bk.drewN ?_ _) | ((with_reducible refine Bk.far ?_ ?_ _); rotate_left; focus (simp only []; omega)) | ((with_reducible refine Bk.below ?_ (by with_reducible assumption) ?_); rotate_left; focus (go_size; done))))
    have kb_0 := kb.cell 0 rfl
    have kb_1 := kb.cell 1 rfl
    have kb_2 := kb.cell 2 rfl
    have kb_3 := kb.cell 3 rfl
    have kb_4 := kb.frozen 0
    have kb_5 := kb.frozen 1
    have kb_6 := kb.frozen 2
    have kb_7 := kb.frozen 3
    have kbl := kb.lt
    clear hb1c hb1f
    go_wp2_with fail
    refine (HB.out _).mono ?_
    rintro _ w2 ⟨rfl, hb2⟩; have hb2s := hb2.size; (try simp only [World.size_alloc, World.size_setCell, World.size_drew, World.heap_drewN] at hb2s); obtain ⟨hb2c, hb2f⟩ := bcell hb2; (try have : w.heap.size < w2.heap.size := by omega); (try have : w.heap.size + 1 < w2.heap.size := by omega); (try have : w.heap.size + 1 + 1 < w2.heap.size := by omega); (try have : w.heap.size + 1 + 1 + 1 < w2.heap.size := by omega)
    have ja : Bk w2 (w.heap.size) 26 [.bool true, .int .u64 x1, .int .u64 x0, .int .i64 s] := by (repeat (first | (with_reducible assumption) | ((with_reducible refine Bk.new_ ?_); (first | rfl | (simp only [World.size_alloc, World.size_setCell, World.size_drew, World.heap_drewN]; done))) | (with_reducible refine Bk.alloc ?_ _) | (with_reducible refine Bk.drew ?_) | (with_reducible refine Bk.drewN ?_ _) | ((with_reducible refine Bk.far ?_ ?_ _); rotate_left; focus (simp only []; omega)) | ((with_reducible refine Bk.below ?_ (by with_reducible assumption) ?_); rotate_left; focus (go_size; done))))
    have jb : Bk w2 (w.heap.size + 1) 26 [.bool true, .int .u64 y1, .int .u64 y0, .int .i64 s'] := by (repeat (first | (with_reducible assumption) | ((with_reducible refine Bk.new_ ?_); (first | rfl | (simp only [World.size_alloc, World.size_setCell, World.size_drew, World.heap_drewN]; done))) | (with_reducible refine Bk.alloc ?_ _) | (with_reducible refine Bk.drew ?_) | (with_reducible refine Bk.drewN ?_ _) | ((with_reducible refine Bk.far ?_ ?_ _); rotate_left; focus (simp only []; omega)) | ((with_reducible refine Bk.below ?_ (by with_reducible assumption) ?_); rotate_left; focus (go_size; done))))
    clear hb2c hb2f ka_0 ka_1 ka_2 ka_3 ka_4 ka_5 ka_6 ka_7 kb_0 kb_1 kb_2 kb_3 kb_4 kb_5 kb_6 kb_7 ka kb
    have ja_0 := ja.cell 0 rfl
    have ja_1 := ja.cell 1 rfl
    have ja_2 := ja.cell 2 rfl
    have ja_3 := ja.cell 3 rfl
    have ja_4 := ja.frozen 0
    have ja_5 := ja.frozen 1
    have ja_6 := ja.frozen 2
    have ja_7 := ja.frozen 3
    have jb_0 := jb.cell 0 rfl
    have jb_1 := jb.cell 1 rfl
    have jb_2 := jb.cell 2 rfl
    have jb_3 := jb.cell 3 rfl
    have jb_4 := jb.frozen 0
    have jb_5 := jb.frozen 1
    have jb_6 := jb.frozen 2
    have jb_7 := jb.frozen 3
    have jal := ja.lt
    have jbl := jb.lt
    clear ja jb
    go_wp2_with fail
    refine (HP.out _).mono ?_
    rintro _ w3 ⟨rfl, hb3⟩; have hb3s := hb3.size; (try simp only [World.size_alloc, World.size_setCell, World.size_drew, World.heap_drewN] at hb3s); obtain ⟨hb3c, hb3f⟩ := bcell hb3; (try have : w.heap.size < w3.heap.size := by omega); (try have : w.heap.size + 1 < w3.heap.size := by omega); (try have : w.heap.size + 1 + 1 < w3.heap.size := by omega); (try have : w.heap.size + 1 + 1 + 1 < w3.heap.size := by omega)
    go_wp2_with fail
    go_ret2
    exact ⟨rfl, by (repeat' (first | (with_reducible exact Below.refl _ _) | (with_reducible assumption) | (with_reducible refine Below.drew ?_) | (with_reducible refine below_drewN ?_ _) | ((with_reducible refine Below.alloc ?_ ?_ _); rotate_left; focus (go_size; done)) | ((with_reducible refine Below.setCell ?_ ?_ _); rotate_left; focus (go_size; done)) | ((with_reducible refine Below.trans ?_ (Below.mono (by with_reducible assumption) ?_)); rotate_left; focus (go_size; done))))⟩
end Go.Proofs.Ythkgjodidkpaeaa

set_option linter.unusedSimpArgs false
set_option linter.unusedVariables false
namespace Go.Proofs.Ythkgjodidkpaeaa
open Go.RowKit

set_option maxHeartbeats 2000000 in
theorem forms_any (b : Bool) (c : Nat) (s : Int) (b' : Bool) (c' : Nat) (s' : Int) (hc : c < 2 ^ 128) (hc' : c' < 2 ^ 128) (w : World) :
    Calls Try.prog 63 #[.agg #[.bool b, .int .u64 (wd (c) 1), .int .u64 (wd (c) 0), .int .i64 s], .agg #[.bool b', .int .u64 (wd (c') 1), .int .u64 (wd (c') 0), .int .i64 s']] w fun e w' => e = .returned (.bool (dform b c s && dform b' c' s')) ∧ Below w.heap.size w w' := by
  have HF := Lib.hid (fun W => rform_any b c s hc W)
  have HG := Lib.hid (fun W => rform_any b' c' s' hc' W)
  generalize dform b c s = f at *
  generalize dform b' c' s' = f' at *
  generalize wd c 0 = x0 at *
  generalize wd c 1 = x1 at *
  generalize wd c' 0 = y0 at *
  generalize wd c' 1 = y1 at *
  clear hc hc'
  cases f
  · go_enter Try.func63, Try.ntmps63
    go_wp2_with fail
    refine (HF.out _).mono ?_
    rintro _ w1 ⟨rfl, hb1⟩; have hb1s := hb1.size; (try simp only [World.size_alloc, World.size_setCell, World.size_drew, World.heap_drewN] at hb1s); obtain ⟨hb1c, hb1f⟩ := bcell hb1; (try have : w.heap.size < w1.heap.size := by omega); (try have : w.heap.size + 1 < w1.heap.size := by omega); (try have : w.heap.size + 1 + 1 < w1.heap.size := by omega); (try have : w.heap.size + 1 + 1 + 1 < w1.heap.size := by omega)
    go_wp2_with fail
    go_ret
    exact ⟨rfl, by (repeat' (first | (with_reducible exact Below.refl _ _) | (with_reducible assumption) | (with_reducible refine Below.drew ?_) | (with_reducible refine below_drewN ?_ _) | ((with_reducible refine Below.alloc ?_ ?_ _); rotate_left; focus (go_size; done)) | ((with_reducible refine Below.setCell ?_ ?_ _); rotate_left; focus (go_size; done)) | ((with_reducible refine Below.trans ?_ (Below.mono (by with_reducible assumption) ?_)); rotate_left; focus (go_size; done))))⟩
  · go_enter Try.func63, Try.ntmps63
    go_wp2_with fail
    refine (HF.out _).mono ?_
    rintro _ w1 ⟨rfl, hb1⟩; have hb1s := hb1.size; (try simp only [World.size_alloc, World.size_setCell, World.size_drew, World.heap_drewN] at hb1s); obtain ⟨hb1c, hb1f⟩ := bcell hb1; (try have : w.heap.size < w1.heap.size := by omega); (try have : w.heap.size + 1 < w1.heap.size := by omega); (try have : w.heap.size + 1 + 1 < w1.heap.size := by omega); (try have : w.heap.size + 1 + 1 + 1 < w1.heap.size := by omega)
    have kb : Bk w1 (w.heap.size + 1) 26 [.bool b', .int .u64 y1, .int .u64 y0, .int .i64 s'] := by (repeat (first | (with_reducible assumption) | ((with_reducible refine Bk.new_ ?_); (first | rfl | (simp only [World.size_alloc, World.size_setCell, World.size_drew, World.heap_drewN]; done))) | (with_reducible refine Bk.alloc ?_ _) | (with_reducible refine Bk.drew ?_) | (with_reducible refine Bk.drewN ?_ _) | ((with_reducible refine Bk.far ?_ ?_ _); rotate_left; focus (simp only []; omega)) | ((with_reducible refine Bk.below ?_ (by with_reducible assumption) ?_); rotate_left; focus (go_size; done))))
    have kb_0 := kb.cell 0 rfl
    have kb_1 := kb.cell 1 rfl
    have kb_2 := kb.cell 2 rfl
    have kb_3 := kb.cell 3 rfl
    have kb_4 := kb.frozen 0
    have kb_5 := kb.frozen 1
    have kb_6 := kb.frozen 2
    have kb_7 := kb.frozen 3
    have kbl := kb.lt
    clear hb1c hb1f kb
    go_wp2_with fail
    refine (HG.out _).mono ?_
    rintro _ w2 ⟨rfl, hb2⟩; have hb2s := hb2.size; (try simp only [World.size_alloc, World.size_setCell, World.size_drew, World.heap_drewN] at hb2s); obtain ⟨hb2c, hb2f⟩ := bcell hb2; (try have : w.heap.size < w2.heap.size := by omega); (try have : w.heap.size + 1 < w2.heap.size := by omega); (try have : w.heap.size + 1 + 1 < w2.heap.size := by omega); (try have : w.heap.size + 1 + 1 + 1 < w2.heap.size := by omega)
    go_wp2_with fail
    go_ret
    exact ⟨rfl, by (repeat' (first | (with_reducible exact Below.refl _ _) | (with_reducible assumption) | (with_reducible refine Below.drew ?_) | (with_reducible refine below_drewN ?_ _) | ((with_reducible refine Below.alloc ?_ ?_ _); rotate_left; focus (go_size; done)) | ((with_reducible refine Below.setCell ?_ ?_ _); rotate_left; focus (go_size; done)) | ((with_reducible refine Below.trans ?_ (Below.mono (by with_reducible assumption) ?_)); rotate_left; focus (go_size; done))))⟩
theorem unit_tiny {c s : Nat} (h : c < B34) : Tiny (unit c s) := (Slim.of_lt (unit_lt h) (by decide)).tiny
theorem sab_slim {b b' : Bool} {x y : Nat} (hx : x < 10 ^ 52) (hy : y < 10 ^ 52) : Slim (sab b x b' y) :=
  Slim.of_lt (k := 53) (Nat.lt_of_le_of_lt (sab_le b b' x y) (Nat.lt_of_lt_of_le (Nat.add_lt_add hx hy) (by decide))) (by decide)
theorem ten_slim {k : Nat} (h : k < 900) : Slim (10 ^ k) := fun _ => ten_lt k 900 h
set_option maxHeartbeats 2000000 in
theorem order2_any (b : Bool) (c s : Nat) (b' : Bool) (c' s' : Nat) (hc : c < B34) (hc' : c' < B34) (hs : s ≤ 18) (hs' : s' ≤ 18) (h1 : c = 0 → b = false) (h2 : c' = 0 → b' = false) (w : World) :
    Calls Try.prog 64 #[.agg #[.bool b, .int .u64 (wd (c) 1), .int .u64 (wd (c) 0), .int .i64 s], .agg #[.bool b', .int .u64 (wd (c') 1), .int .u64 (wd (c') 0), .int .i64 s']] w fun e w' => e = .returned (.int .i64 (ordD b (unit c s) b' (unit c' s'))) ∧ Below w.heap.size w w' := by
  have hz1 : unit c s = 0 → b = false := fun h => h1 (by
    rcases Nat.mul_eq_zero.1 h with h | h
    · exact h
    · exact absurd h (Nat.ne_of_gt (Nat.pow_pos (by decide))))
  have hz2 : unit c' s' = 0 → b' = false := fun h => h2 (by
    rcases Nat.mul_eq_zero.1 h with h | h
    · exact h
    · exact absurd h (Nat.ne_of_gt (Nat.pow_pos (by decide))))
  rw [ord_sum b b' _ _ hz1 hz2]
  have HU := Lib.hid (fun W => units_any b c s (Nat.lt_trans hc B34_lt) hs W)
  have HV := Lib.hid (fun W => units_any b' c' s' (Nat.lt_trans hc' B34_lt) hs' W)
  have HS := Lib.hid (fun W u v hu hv => rsum_any b (unit c s) (!b') (unit c' s') u v W hu hv (unit_tiny hc) (unit_tiny hc'))
  unfold RetSum at HS
  unfold RetUnits at HU HV
  generalize sab b (unit c s) (!b') (unit c' s') = U at *
  generalize sgn b (unit c s) (!b') (unit c' s') = N at *
  generalize unit c s = X at *
  generalize unit c' s' = Y at *
  generalize wd c 0 = x0 at *
  generalize wd c 1 = x1 at *
  generalize wd c' 0 = y0 at *
  generalize wd c' 1 = y1 at *
  obtain ⟨r, hr⟩ : ∃ r : Int, r = if U = 0 then 0 else if N = true then -1 else 1 := ⟨_, rfl⟩
  rw [← hr]
  have HR := Lib.hid hr
  clear hc hc' h1 h2 hz1 hz2 hs hs' hr
  go_enter Try.func64, Try.ntmps64
  go_wp2_with fail
  refine (HU.out _).mono ?_
  rintro _ w1 ⟨v1, rfl, d1, hb1⟩
  have hb1s := hb1.size
  have Hd1 := Lib.hid d1
  have kb : Bk w1 (w.heap.size + 1) 26 [.bool b', .int .u64 y1, .int .u64 y0, .int .i64 (s' : Int)] := by (repeat (first | (with_reducible assumption) | ((with_reducible refine Bk.new_ ?_); (first | rfl | (simp only [World.size_alloc, World.size_setCell, World.size_drew, World.heap_drewN]; done))) | (with_reducible refine Bk.alloc ?_ _) | (with_reducible refine Bk.drew ?_) | (with_reducible refine Bk.drewN ?_ _) | ((with_reducible refine Bk.far ?_ ?_ _); rotate_left; focus (simp only []; omega)) | ((with_reducible refine Bk.below ?_ (by with_reducible assumption) ?_); rotate_left; focus (go_size; done))))
  have kb_0 := kb.cell 0 rfl
  have kb_1 := kb.cell 1 rfl
  have kb_2 := kb.cell 2 rfl
  have kb_3 := kb.cell 3 rfl
  have kb_4 := kb.frozen 0
  have kb_5 := kb.frozen 1
  have kb_6 := kb.frozen 2
  have kb_7 := kb.frozen 3
  have kbl := kb.lt
  clear d1 kb
  go_wp2_with fail
  refine (HV.out _).mono ?_
  rintro _ w2 ⟨v2, rfl, d2, hb2⟩
  have hb2s := hb2.size
  have Hd2 := Lib.hid d2
  clear d2
  go_wp2_with fail
  refine (HS.out _ _ _ (Hd1.out.below hb2) Hd2.out).mono ?_
  rintro _ w3 ⟨v3, rfl, d3, hb3⟩
  have hb3s := hb3.size
  obtain ⟨A, k, c, rfl, hk, hkc⟩ := dg_len d3
  clear d3
  by_cases h0 : U = 0
  · have e := HR.out
    rw [if_pos h0] at e
    obtain rfl : k = 0 := hk.2 h0
    have E := Lib.hid e
    clear h0 hk e
    go_wp2_with fail
    go_ret
    exact ⟨ret_int E.out.symm, by (repeat' (first | (with_reducible exact Below.refl _ _) | (with_reducible assumption) | (with_reducible refine Below.drew ?_) | (with_reducible refine below_drewN ?_ _) | ((with_reducible refine Below.alloc ?_ ?_ _); rotate_left; focus (go_size; done)) | ((with_reducible refine Below.setCell ?_ ?_ _); rotate_left; focus (go_size; done)) | ((with_reducible refine Below.trans ?_ (Below.mono (by with_reducible assumption) ?_)); rotate_left; focus (go_size; done))))⟩
  · have e := HR.out
    rw [if_neg h0] at e
    have hk1 : ((k : Int) == 0) = false := by rw [beq_eq_false_iff_ne]; have := mt hk.1 h0; omega
    have E := Lib.hid e
    clear h0 hk e HR
    cases N
    · go_wp2_with fail
      go_ret
      exact ⟨ret_int E.out.symm, by (repeat' (first | (with_reducible exact Below.refl _ _) | (with_reducible assumption) | (with_reducible refine Below.drew ?_) | (with_reducible refine below_drewN ?_ _) | ((with_reducible refine Below.alloc ?_ ?_ _); rotate_left; focus (go_size; done)) | ((with_reducible refine Below.setCell ?_ ?_ _); rotate_left; focus (go_size; done)) | ((with_reducible refine Below.trans ?_ (Below.mono (by with_reducible assumption) ?_)); rotate_left; focus (go_size; done))))⟩
    · go_wp2_with fail
      go_ret
      exact ⟨ret_int E.out.symm, by (repeat' (first | (with_reducible exact Below.refl _ _) | (with_reducible assumption) | (with_reducible refine Below.drew ?_) | (with_reducible refine below_drewN ?_ _) | ((with_reducible refine Below.alloc ?_ ?_ _); rotate_left; focus (go_size; done)) | ((with_reducible refine Below.setCell ?_ ?_ _); rotate_left; focus (go_size; done)) | ((with_reducible refine Below.trans ?_ (Below.mono (by with_reducible assumption) ?_)); rotate_left; focus (go_size; done))))⟩
end Go.Proofs.Ythkgjodidkpaeaa

set_option linter.unusedSimpArgs false
set_option linter.unusedVariables false
namespace Go.Proofs.Ythkgjodidkpaeaa
open Go.RowKit

set_option maxHeartbeats 2000000 in
theorem docneg_any (b : Bool) (c : Nat) (s : Int) (hc : c < 2 ^ 128) (w : World) (v : Bool) (h : dform b c s = v) :
    Calls Try.prog 24 #[.agg #[.bool b, .int .u64 (wd (c) 1), .int .u64 (wd (c) 0), .int .i64 s]] w fun e w' => e = .returned ((if v = true then .tuple #[.agg #[.bool (sg (!b) c), .int .u64 (wd (c) 1), .int .u64 (wd (c) 0), .int .i64 s], .int .i64 0] else .tuple #[.agg #[.bool false, .int .u64 0, .int .u64 0, .int .i64 0], .int .i64 2])) ∧ Below w.heap.size w w' := by
  have HF := Lib.hid (fun W => rform_any b c s hc W)
  have HT := Lib.hid (fun W => flip_any b c s hc W)
  rw [h] at HF
  generalize sg (!b) c = r at *
  generalize wd c 0 = x0 at *
  generalize wd c 1 = x1 at *
  clear hc h
  cases v
  · rw [if_neg (by decide)]
    go_enter Try.func24, Try.ntmps24
    go_wp2_with fail
    refine (HF.out _).mono ?_
    rintro _ w1 ⟨rfl, hb1⟩; have hb1s := hb1.size; (try simp only [World.size_alloc, World.size_setCell, World.size_drew, World.heap_drewN] at hb1s); obtain ⟨hb1c, hb1f⟩ := bcell hb1; (try have : w.heap.size < w1.heap.size := by omega); (try have : w.heap.size + 1 < w1.heap.size := by omega); (try have : w.heap.size + 1 + 1 < w1.heap.size := by omega); (try have : w.heap.size + 1 + 1 + 1 < w1.heap.size := by omega)
    have r0 : Bk w1 (w.heap.size + 1) 26 [.bool false, .int .u64 0, .int .u64 0, .int .i64 0] := by (repeat (first | (with_reducible assumption) | ((with_reducible refine Bk.new_ ?_); (first | rfl | (simp only [World.size_alloc, World.size_setCell, World.size_drew, World.heap_drewN]; done))) | (with_reducible refine Bk.alloc ?_ _) | (with_reducible refine Bk.drew ?_) | (with_reducible refine Bk.drewN ?_ _) | ((with_reducible refine Bk.far ?_ ?_ _); rotate_left; focus (simp only []; omega)) | ((with_reducible refine Bk.below ?_ (by with_reducible assumption) ?_); rotate_left; focus (go_size; done))))
    have r0_0 := r0.cell 0 rfl
    have r0_1 := r0.cell 1 rfl
    have r0_2 := r0.cell 2 rfl
    have r0_3 := r0.cell 3 rfl
    have r0_4 := r0.frozen 0
    have r0_5 := r0.frozen 1
    have r0_6 := r0.frozen 2
    have r0_7 := r0.frozen 3
    have r0l := r0.lt
    clear hb1c hb1f r0
    go_wp2_with fail
    refine bodyPost_ret (by simp [results, Try.results24, go_sem, *]; try rfl) rfl ?_
    exact ⟨rfl, by (repeat' (first | (with_reducible exact Below.refl _ _) | (with_reducible assumption) | (with_reducible refine Below.drew ?_) | (with_reducible refine below_drewN ?_ _) | ((with_reducible refine Below.alloc ?_ ?_ _); rotate_left; focus (go_size; done)) | ((with_reducible refine Below.setCell ?_ ?_ _); rotate_left; focus (go_size; done)) | ((with_reducible refine Below.trans ?_ (Below.mono (by with_reducible assumption) ?_)); rotate_left; focus (go_size; done))))⟩
  · rw [if_pos rfl]
    go_enter Try.func24, Try.ntmps24
    go_wp2_with fail
    refine (HF.out _).mono ?_
    rintro _ w1 ⟨rfl, hb1⟩; have hb1s := hb1.size; (try simp only [World.size_alloc, World.size_setCell, World.size_drew, World.heap_drewN] at hb1s); obtain ⟨hb1c, hb1f⟩ := bcell hb1; (try have : w.heap.size < w1.heap.size := by omega); (try have : w.heap.size + 1 < w1.heap.size := by omega); (try have : w.heap.size + 1 + 1 < w1.heap.size := by omega); (try have : w.heap.size + 1 + 1 + 1 < w1.heap.size := by omega)
    have k0 : Bk w1 (w.heap.size) 26 [.bool b, .int .u64 x1, .int .u64 x0, .int .i64 s] := by (repeat (first | (with_reducible assumption) | ((with_reducible refine Bk.new_ ?_); (first | rfl | (simp only [World.size_alloc, World.size_setCell, World.size_drew, World.heap_drewN]; done))) | (with_reducible refine Bk.alloc ?_ _) | (with_reducible refine Bk.drew ?_) | (with_reducible refine Bk.drewN ?_ _) | ((with_reducible refine Bk.far ?_ ?_ _); rotate_left; focus (simp only []; omega)) | ((with_reducible refine Bk.below ?_ (by with_reducible assumption) ?_); rotate_left; focus (go_size; done))))
    have k0_0 := k0.cell 0 rfl
    have k0_1 := k0.cell 1 rfl
    have k0_2 := k0.cell 2 rfl
    have k0_3 := k0.cell 3 rfl
    have k0_4 := k0.frozen 0
    have k0_5 := k0.frozen 1
    have k0_6 := k0.frozen 2
    have k0_7 := k0.frozen 3
    have k0l := k0.lt
    clear hb1c hb1f k0
    go_wp2_with fail
    refine (HT.out _).mono ?_
    rintro _ w2 ⟨rfl, hb2⟩; have hb2s := hb2.size; (try simp only [World.size_alloc, World.size_setCell, World.size_drew, World.heap_drewN] at hb2s); obtain ⟨hb2c, hb2f⟩ := bcell hb2; (try have : w.heap.size < w2.heap.size := by omega); (try have : w.heap.size + 1 < w2.heap.size := by omega); (try have : w.heap.size + 1 + 1 < w2.heap.size := by omega); (try have : w.heap.size + 1 + 1 + 1 < w2.heap.size := by omega)
    have r0 : Bk w2 (w.heap.size + 1) 26 [.bool false, .int .u64 0, .int .u64 0, .int .i64 0] := by (repeat (first | (with_reducible assumption) | ((with_reducible refine Bk.new_ ?_); (first | rfl | (simp only [World.size_alloc, World.size_setCell, World.size_drew, World.heap_drewN]; done))) | (with_reducible refine Bk.alloc ?_ _) | (with_reducible refine Bk.drew ?_) | (with_reducible refine Bk.drewN ?_ _) | ((with_reducible refine Bk.far ?_ ?_ _); rotate_left; focus (simp only []; omega)) | ((with_reducible refine Bk.below ?_ (by with_reducible assumption) ?_); rotate_left; focus (go_size; done))))
    have r0_0 := r0.cell 0 rfl
    have r0_1 := r0.cell 1 rfl
    have r0_2 := r0.cell 2 rfl
    have r0_3 := r0.cell 3 rfl
    have r0_4 := r0.frozen 0
    have r0_5 := r0.frozen 1
    have r0_6 := r0.frozen 2
    have r0_7 := r0.frozen 3
    have r0l := r0.lt
    clear hb2c hb2f r0
    go_wp2_with fail
    refine bodyPost_ret (by simp [results, Try.results24, go_sem, *]; try rfl) rfl ?_
    exact ⟨rfl, by (repeat' (first | (with_reducible exact Below.refl _ _) | (with_reducible assumption) | (with_reducible refine Below.drew ?_) | (with_reducible refine below_drewN ?_ _) | ((with_reducible refine Below.alloc ?_ ?_ _); rotate_left; focus (go_size; done)) | ((with_reducible refine Below.setCell ?_ ?_ _); rotate_left; focus (go_size; done)) | ((with_reducible refine Below.trans ?_ (Below.mono (by with_reducible assumption) ?_)); rotate_left; focus (go_size; done))))⟩
set_option maxHeartbeats 2000000 in
theorem docabs_any (b : Bool) (c : Nat) (s : Int) (hc : c < 2 ^ 128) (w : World) (v : Bool) (h : dform b c s = v) :
    Calls Try.prog 25 #[.agg #[.bool b, .int .u64 (wd (c) 1), .int .u64 (wd (c) 0), .int .i64 s]] w fun e w' => e = .returned ((if v = true then .tuple #[.agg #[.bool false, .int .u64 (wd (c) 1), .int .u64 (wd (c) 0), .int .i64 s], .int .i64 0] else .tuple #[.agg #[.bool false, .int .u64 0, .int .u64 0, .int .i64 0], .int .i64 2])) ∧ Below w.heap.size w w' := by
  have HF := Lib.hid (fun W => rform_any b c s hc W)
  rw [h] at HF
  generalize wd c 0 = x0 at *
  generalize wd c 1 = x1 at *
  clear hc h
  cases v
  · rw [if_neg (by decide)]
    go_enter Try.func25, Try.ntmps25
    go_wp2_with fail
    refine (HF.out _).mono ?_
    rintro _ w1 ⟨rfl, hb1⟩; have hb1s := hb1.size; (try simp only [World.size_alloc, World.size_setCell, World.size_drew, World.heap_drewN] at hb1s); obtain ⟨hb1c, hb1f⟩ := bcell hb1; (try have : w.heap.size < w1.heap.size := by omega); (try have : w.heap.size + 1 < w1.heap.size := by omega); (try have : w.heap.size + 1 + 1 < w1.heap.size := by omega); (try have : w.heap.size + 1 + 1 + 1 < w1.heap.size := by omega)
    have r0 : Bk w1 (w.heap.size + 1) 26 [.bool false, .int .u64 0, .int .u64 0, .int .i64 0] := by (repeat (first | (with_reducible assumption) | ((with_reducible refine Bk.new_ ?_); (first | rfl | (simp only [World.size_alloc, World.size_setCell, World.size_drew, World.heap_drewN]; done))) | (with_reducible refine Bk.alloc ?_ _) | (with_reducible refine Bk.drew ?_) | (with_reducible refine Bk.drewN ?_ _) | ((with_reducible refine Bk.far ?_ ?_ _); rotate_left; focus (simp only []; omega)) | ((with_reducible refine Bk.below ?_ (by with_reducible assumption) ?_); rotate_left; focus (go_size; done))))
    have r0_0 := r0.cell 0 rfl
    have r0_1 := r0.cell 1 rfl
    have r0_2 := r0.cell 2 rfl
    have r0_3 := r0.cell 3 rfl
    have r0_4 := r0.frozen 0
    have r0_5 := r0.frozen 1
    have r0_6 := r0.frozen 2
    have r0_7 := r0.frozen 3
    have r0l := r0.lt
    clear hb1c hb1f r0
    go_wp2_with fail
    refine bodyPost_ret (by simp [results, Try.results25, go_sem, *]; try rfl) rfl ?_
    exact ⟨rfl, by (repeat' (first | (with_reducible exact Below.refl _ _) | (with_reducible assumption) | (with_reducible refine Below.drew ?_) | (with_reducible refine below_drewN ?_ _) | ((with_reducible refine Below.alloc ?_ ?_ _); rotate_left; focus (go_size; done)) | ((with_reducible refine Below.setCell ?_ ?_ _); rotate_left; focus (go_size; done)) | ((with_reducible refine Below.trans ?_ (Below.mono (by with_reducible assumption) ?_)); rotate_left; focus (go_size; done))))⟩
  · rw [if_pos rfl]
    go_enter Try.func25, Try.ntmps25
    go_wp2_with fail
    refine (HF.out _).mono ?_
    rintro _ w1 ⟨rfl, hb1⟩; have hb1s := hb1.size; (try simp only [World.size_alloc, World.size_setCell, World.size_drew, World.heap_drewN] at hb1s); obtain ⟨hb1c, hb1f⟩ := bcell hb1; (try have : w.heap.size < w1.heap.size := by omega); (try have : w.heap.size + 1 < w1.heap.size := by omega); (try have : w.heap.size + 1 + 1 < w1.heap.size := by omega); (try have : w.heap.size + 1 + 1 + 1 < w1.heap.size := by omega)
    have k0 : Bk w1 (w.heap.size) 26 [.bool b, .int .u64 x1, .int .u64 x0, .int .i64 s] := by (repeat (first | (with_reducible assumption) | ((with_reducible refine Bk.new_ ?_); (first | rfl | (simp only [World.size_alloc, World.size_setCell, World.size_drew, World.heap_drewN]; done))) | (with_reducible refine Bk.alloc ?_ _) | (with_reducible refine Bk.drew ?_) | (with_reducible refine Bk.drewN ?_ _) | ((with_reducible refine Bk.far ?_ ?_ _); rotate_left; focus (simp only []; omega)) | ((with_reducible refine Bk.below ?_ (by with_reducible assumption) ?_); rotate_left; focus (go_size; done))))
    have k0_0 := k0.cell 0 rfl
    have k0_1 := k0.cell 1 rfl
    have k0_2 := k0.cell 2 rfl
    have k0_3 := k0.cell 3 rfl
    have k0_4 := k0.frozen 0
    have k0_5 := k0.frozen 1
    have k0_6 := k0.frozen 2
    have k0_7 := k0.frozen 3
    have k0l := k0.lt
    have r0 : Bk w1 (w.heap.size + 1) 26 [.bool false, .int .u64 0, .int .u64 0, .int .i64 0] := by (repeat (first | (with_reducible assumption) | ((with_reducible refine Bk.new_ ?_); (first | rfl | (simp only [World.size_alloc, World.size_setCell, World.size_drew, World.heap_drewN]; done))) | (with_reducible refine Bk.alloc ?_ _) | (with_reducible refine Bk.drew ?_) | (with_reducible refine Bk.drewN ?_ _) | ((with_reducible refine Bk.far ?_ ?_ _); rotate_left; focus (simp only []; omega)) | ((with_reducible refine Bk.below ?_ (by with_reducible assumption) ?_); rotate_left; focus (go_size; done))))
    have r0_0 := r0.cell 0 rfl
    have r0_1 := r0.cell 1 rfl
    have r0_2 := r0.cell 2 rfl
    have r0_3 := r0.cell 3 rfl
    have r0_4 := r0.frozen 0
    have r0_5 := r0.frozen 1
    have r0_6 := r0.frozen 2
    have r0_7 := r0.frozen 3
    have r0l := r0.lt
    clear hb1c hb1f k0 r0
    go_wp2_with fail
    refine bodyPost_ret (by simp [results, Try.results25, go_sem, *]; try rfl) rfl ?_
    exact ⟨rfl, by (repeat' (first | (with_reducible exact Below.refl _ _) | (with_reducible assumption) | (with_reducible refine Below.drew ?_) | (with_reducible refine below_drewN ?_ _) | ((with_reducible refine Below.alloc ?_ ?_ _); rotate_left; focus (go_size; done)) | ((with_reducible refine Below.setCell ?_ ?_ _); rotate_left; focus (go_size; done)) | ((with_reducible refine Below.trans ?_ (Below.mono (by with_reducible assumption) ?_)); rotate_left; focus (go_size; done))))⟩
set_option maxHeartbeats 2000000 in
theorem docadd_bad (b : Bool) (c : Nat) (s : Int) (b' : Bool) (c' : Nat) (s' : Int) (hc : c < 2 ^ 128) (hc' : c' < 2 ^ 128) (h : (dform b c s && dform b' c' s') = false) (w : World) :
    Calls Try.prog 27 #[.agg #[.bool b, .int .u64 (wd (c) 1), .int .u64 (wd (c) 0), .int .i64 s], .agg #[.bool b', .int .u64 (wd (c') 1), .int .u64 (wd (c') 0), .int .i64 s']] w fun e w' => e = .returned (.tuple #[.agg #[.bool false, .int .u64 0, .int .u64 0, .int .i64 0], .int .i64 2]) ∧ Below w.heap.size w w' := by
  have HF := Lib.hid (fun W => forms_any b c s b' c' s' hc hc' W)
  rw [h] at HF
  generalize wd c 0 = x0 at *
  generalize wd c 1 = x1 at *
  generalize wd c' 0 = y0 at *
  generalize wd c' 1 = y1 at *
  clear hc hc' h
  go_enter Try.func27, Try.ntmps27
  go_wp2_with fail
  refine (HF.out _).mono ?_
  rintro _ w1 ⟨rfl, hb1⟩; have hb1s := hb1.size; (try simp only [World.size_alloc, World.size_setCell, World.size_drew, World.heap_drewN] at hb1s); obtain ⟨hb1c, hb1f⟩ := bcell hb1; (try have : w.heap.size < w1.heap.size := by omega); (try have : w.heap.size + 1 < w1.heap.size := by omega); (try have : w.heap.size + 1 + 1 < w1.heap.size := by omega); (try have : w.heap.size + 1 + 1 + 1 < w1.heap.size := by omega)
  have kr : Bk w1 (w.heap.size + 1 + 1) 26 [.bool false, .int .u64 0, .int .u64 0, .int .i64 0] := by (repeat (first | (with_reducible assumption) | ((with_reducible refine Bk.new_ ?_); (first | rfl | (simp only [World.size_alloc, World.size_setCell, World.size_drew, World.heap_drewN]; done))) | (with_reducible refine Bk.alloc ?_ _) | (with_reducible refine Bk.drew ?_) | (with_reducible refine Bk.drewN ?_ _) | ((with_reducible refine Bk.far ?_ ?_ _); rotate_left; focus (simp only []; omega)) | ((with_reducible refine Bk.below ?_ (by with_reducible assumption) ?_); rotate_left; focus (go_size; done))))
  have kr_0 := kr.cell 0 rfl
  have kr_1 := kr.cell 1 rfl
  have kr_2 := kr.cell 2 rfl
  have kr_3 := kr.cell 3 rfl
  have kr_4 := kr.frozen 0
  have kr_5 := kr.frozen 1
  have kr_6 := kr.frozen 2
  have kr_7 := kr.frozen 3
  have krl := kr.lt
  clear hb1c hb1f kr
  go_wp2_with fail
  refine bodyPost_ret (by simp [results, Try.results27, go_sem, *]; try rfl) rfl ?_
  exact ⟨rfl, by (repeat' (first | (with_reducible exact Below.refl _ _) | (with_reducible assumption) | (with_reducible refine Below.drew ?_) | (with_reducible refine below_drewN ?_ _) | ((with_reducible refine Below.alloc ?_ ?_ _); rotate_left; focus (go_size; done)) | ((with_reducible refine Below.setCell ?_ ?_ _); rotate_left; focus (go_size; done)) | ((with_reducible refine Below.trans ?_ (Below.mono (by with_reducible assumption) ?_)); rotate_left; focus (go_size; done))))⟩
set_option maxHeartbeats 2000000 in
theorem docsub_bad (b : Bool) (c : Nat) (s : Int) (b' : Bool) (c' : Nat) (s' : Int) (hc : c < 2 ^ 128) (hc' : c' < 2 ^ 128) (h : (dform b c s && dform b' c' s') = false) (w : World) :
    Calls Try.prog 28 #[.agg #[.bool b, .int .u64 (wd (c) 1), .int .u64 (wd (c) 0), .int .i64 s], .agg #[.bool b', .int .u64 (wd (c') 1), .int .u64 (wd (c') 0), .int .i64 s']] w fun e w' => e = .returned (.tuple #[.agg #[.bool false, .int .u64 0, .int .u64 0, .int .i64 0], .int .i64 2]) ∧ Below w.heap.size w w' := by
  have HF := Lib.hid (fun W => forms_any b c s b' c' s' hc hc' W)
  rw [h] at HF
  generalize wd c 0 = x0 at *
  generalize wd c 1 = x1 at *
  generalize wd c' 0 = y0 at *
  generalize wd c' 1 = y1 at *
  clear hc hc' h
  go_enter Try.func28, Try.ntmps28
  go_wp2_with fail
  refine (HF.out _).mono ?_
  rintro _ w1 ⟨rfl, hb1⟩; have hb1s := hb1.size; (try simp only [World.size_alloc, World.size_setCell, World.size_drew, World.heap_drewN] at hb1s); obtain ⟨hb1c, hb1f⟩ := bcell hb1; (try have : w.heap.size < w1.heap.size := by omega); (try have : w.heap.size + 1 < w1.heap.size := by omega); (try have : w.heap.size + 1 + 1 < w1.heap.size := by omega); (try have : w.heap.size + 1 + 1 + 1 < w1.heap.size := by omega)
  have kr : Bk w1 (w.heap.size + 1 + 1) 26 [.bool false, .int .u64 0, .int .u64 0, .int .i64 0] := by (repeat (first | (with_reducible assumption) | ((with_reducible refine Bk.new_ ?_); (first | rfl | (simp only [World.size_alloc, World.size_setCell, World.size_drew, World.heap_drewN]; done))) | (with_reducible refine Bk.alloc ?_ _) | (with_reducible refine Bk.drew ?_) | (with_reducible refine Bk.drewN ?_ _) | ((with_reducible refine Bk.far ?_ ?_ _); rotate_left; focus (simp only []; omega)) | ((with_reducible refine Bk.below ?_ (by with_reducible assumption) ?_); rotate_left; focus (go_size; done))))
  have kr_0 := kr.cell 0 rfl
  have kr_1 := kr.cell 1 rfl
  have kr_2 := kr.cell 2 rfl
  have kr_3 := kr.cell 3 rfl
  have kr_4 := kr.frozen 0
  have kr_5 := kr.frozen 1
  have kr_6 := kr.frozen 2
  have kr_7 := kr.frozen 3
  have krl := kr.lt
  clear hb1c hb1f kr
  go_wp2_with fail
  refine bodyPost_ret (by simp [results, Try.results28, go_sem, *]; try rfl) rfl ?_
  exact ⟨rfl, by (repeat' (first | (with_reducible exact Below.refl _ _) | (with_reducible assumption) | (with_reducible refine Below.drew ?_) | (with_reducible refine below_drewN ?_ _) | ((with_reducible refine Below.alloc ?_ ?_ _); rotate_left; focus (go_size; done)) | ((with_reducible refine Below.setCell ?_ ?_ _); rotate_left; focus (go_size; done)) | ((with_reducible refine Below.trans ?_ (Below.mono (by with_reducible assumption) ?_)); rotate_left; focus (go_size; done))))⟩
set_option maxHeartbeats 2000000 in
theorem doccmp_bad (b : Bool) (c : Nat) (s : Int) (b' : Bool) (c' : Nat) (s' : Int) (hc : c < 2 ^ 128) (hc' : c' < 2 ^ 128) (h : (dform b c s && dform b' c' s') = false) (w : World) :
    Calls Try.prog 23 #[.agg #[.bool b, .int .u64 (wd (c) 1), .int .u64 (wd (c) 0), .int .i64 s], .agg #[.bool b', .int .u64 (wd (c') 1), .int .u64 (wd (c') 0), .int .i64 s']] w fun e w' => e = .returned (.tuple #[.int .i64 0, .int .i64 2]) ∧ Below w.heap.size w w' := by
  have HF := Lib.hid (fun W => forms_any b c s b' c' s' hc hc' W)
  rw [h] at HF
  generalize wd c 0 = x0 at *
  generalize wd c 1 = x1 at *
  generalize wd c' 0 = y0 at *
  generalize wd c' 1 = y1 at *
  clear hc hc' h
  go_enter Try.func23, Try.ntmps23
  go_wp2_with fail
  refine (HF.out _).mono ?_
  rintro _ w1 ⟨rfl, hb1⟩; have hb1s := hb1.size; (try simp only [World.size_alloc, World.size_setCell, World.size_drew, World.heap_drewN] at hb1s); obtain ⟨hb1c, hb1f⟩ := bcell hb1; (try have : w.heap.size < w1.heap.size := by omega); (try have : w.heap.size + 1 < w1.heap.size := by omega); (try have : w.heap.size + 1 + 1 < w1.heap.size := by omega); (try have : w.heap.size + 1 + 1 + 1 < w1.heap.size := by omega)
  go_wp2_with fail
  go_ret2
  exact ⟨rfl, by (repeat' (first | (with_reducible exact Below.refl _ _) | (with_reducible assumption) | (with_reducible refine Below.drew ?_) | (with_reducible refine below_drewN ?_ _) | ((with_reducible refine Below.alloc ?_ ?_ _); rotate_left; focus (go_size; done)) | ((with_reducible refine Below.setCell ?_ ?_ _); rotate_left; focus (go_size; done)) | ((with_reducible refine Below.trans ?_ (Below.mono (by with_reducible assumption) ?_)); rotate_left; focus (go_size; done))))⟩
set_option maxHeartbeats 2000000 in
theorem doccmp_ok (b : Bool) (c s : Nat) (b' : Bool) (c' s' : Nat) (h : dform b c s = true) (h' : dform b' c' s' = true) (hc : c < B34) (hc' : c' < B34) (hs : s ≤ 18) (hs' : s' ≤ 18) (h1 : c = 0 → b = false) (h2 : c' = 0 → b' = false) (w : World) :
    Calls Try.prog 23 #[.agg #[.bool b, .int .u64 (wd (c) 1), .int .u64 (wd (c) 0), .int .i64 s], .agg #[.bool b', .int .u64 (wd (c') 1), .int .u64 (wd (c') 0), .int .i64 s']] w fun e w' => e = .returned (.tuple #[.int .i64 (ordD b (unit c s) b' (unit c' s')), .int .i64 0]) ∧ Below w.heap.size w w' := by
  have HF := Lib.hid (fun W => forms_any b c s b' c' s' (Nat.lt_trans hc B34_lt) (Nat.lt_trans hc' B34_lt) W)
  rw [h, h', Bool.and_true] at HF
  have HO := Lib.hid (fun W => order2_any b c s b' c' s' hc hc' hs hs' h1 h2 W)
  generalize ordD b (unit c s) b' (unit c' s') = r at *
  generalize wd c 0 = x0 at *
  generalize wd c 1 = x1 at *
  generalize wd c' 0 = y0 at *
  generalize wd c' 1 = y1 at *
  clear hc hc' h h' h1 h2 hs hs'
  go_enter Try.func23, Try.ntmps23
  go_wp2_with fail
  refine (HF.out _).mono ?_
  rintro _ w1 ⟨rfl, hb1⟩; have hb1s := hb1.size; (try simp only [World.size_alloc, World.size_setCell, World.size_drew, World.heap_drewN] at hb1s); obtain ⟨hb1c, hb1f⟩ := bcell hb1; (try have : w.heap.size < w1.heap.size := by omega); (try have : w.heap.size + 1 < w1.heap.size := by omega); (try have : w.heap.size + 1 + 1 < w1.heap.size := by omega); (try have : w.heap.size + 1 + 1 + 1 < w1.heap.size := by omega)
  have ka : Bk w1 (w.heap.size) 26 [.bool b, .int .u64 x1, .int .u64 x0, .int .i64 (s : Int)] := by (repeat (first | (with_reducible assumption) | ((with_reducible refine Bk.new_ ?_); (first | rfl | (simp only [World.size_alloc, World.size_setCell, World.size_drew, World.heap_drewN]; done))) | (with_reducible refine Bk.alloc ?_ _) | (with_reducible refine Bk.drew ?_) | (with_reducible refine Bk.drewN ?_ _) | ((with_reducible refine Bk.far ?_ ?_ _); rotate_left; focus (simp only []; omega)) | ((with_reducible refine Bk.below ?_ (by with_reducible assumption) ?_); rotate_left; focus (go_size; done))))
  have ka_0 := ka.cell 0 rfl
  have ka_1 := ka.cell 1 rfl
  have ka_2 := ka.cell 2 rfl
  have ka_3 := ka.cell 3 rfl
  have ka_4 := ka.frozen 0
  have ka_5 := ka.frozen 1
  have ka_6 := ka.frozen 2
  have ka_7 := ka.frozen 3
  have kal := ka.lt
  have kb : Bk w1 (w.heap.size + 1) 26 [.bool b', .int .u64 y1, .int .u64 y0, .int .i64 (s' : Int)] := by (repeat (first | (with_reducible assumption) | ((with_reducible refine Bk.new_ ?_); (first | rfl | (simp only [World.size_alloc, World.size_setCell, World.size_drew, World.heap_drewN]; done))) | (with_reducible refine Bk.alloc ?_ _) | (with_reducible refine Bk.drew ?_) | (with_reducible refine Bk.drewN ?_ _) | ((with_reducible refine Bk.far ?_ ?_ _); rotate_left; focus (simp only []; omega)) | ((with_reducible refine Bk.below ?_ (by with_reducible assumption) ?_); rotate_left; focus (go_size; done))))
  have kb_0 := kb.cell 0 rfl
  have kb_1 := kb.cell 1 rfl
  have kb_2 := kb.cell 2 rfl
  have kb_3 := kb.cell 3 rfl
  have kb_4 := kb.frozen 0
  have kb_5 := kb.frozen 1
  have kb_6 := kb.frozen 2
  have kb_7 := kb.frozen 3
  have kbl := kb.lt
  clear hb1c hb1f ka kb
  go_wp2_with fail
  refine (HO.out _).mono ?_
  rintro _ w2 ⟨rfl, hb2⟩; have hb2s := hb2.size; (try simp only [World.size_alloc, World.size_setCell, World.size_drew, World.heap_drewN] at hb2s); obtain ⟨hb2c, hb2f⟩ := bcell hb2; (try have : w.heap.size < w2.heap.size := by omega); (try have : w.heap.size + 1 < w2.heap.size := by omega); (try have : w.heap.size + 1 + 1 < w2.heap.size := by omega); (try have : w.heap.size + 1 + 1 + 1 < w2.heap.size := by omega)
  go_wp2_with fail
  go_ret2
  exact ⟨rfl, by (repeat' (first | (with_reducible exact Below.refl _ _) | (with_reducible assumption) | (with_reducible refine Below.drew ?_) | (with_reducible refine below_drewN ?_ _) | ((with_reducible refine Below.alloc ?_ ?_ _); rotate_left; focus (go_size; done)) | ((with_reducible refine Below.setCell ?_ ?_ _); rotate_left; focus (go_size; done)) | ((with_reducible refine Below.trans ?_ (Below.mono (by with_reducible assumption) ?_)); rotate_left; focus (go_size; done))))⟩
set_option maxHeartbeats 4000000 in
theorem docadd_ok (b : Bool) (c s : Nat) (b' : Bool) (c' s' : Nat) (h : dform b c s = true) (h' : dform b' c' s' = true) (hc : c < B34) (hc' : c' < B34) (hs : s ≤ 18) (hs' : s' ≤ 18) (w : World) :
    Calls Try.prog 27 #[.agg #[.bool b, .int .u64 (wd (c) 1), .int .u64 (wd (c) 0), .int .i64 s], .agg #[.bool b', .int .u64 (wd (c') 1), .int .u64 (wd (c') 0), .int .i64 s']] w fun e w' => e = .returned (.tuple #[.agg #[.bool (sg (sgn b (unit c s) b' (unit c' s')) (FitC ((sab b (unit c s) b' (unit c' s'))) (10 ^ 18))), .int .u64 (wd (FitC ((sab b (unit c s) b' (unit c' s'))) (10 ^ 18)) 1), .int .u64 (wd (FitC ((sab b (unit c s) b' (unit c' s'))) (10 ^ 18)) 0), .int .i64 (FitS ((sab b (unit c s) b' (unit c' s'))) (10 ^ 18))], .int .i64 (FitE (sab b (unit c s) b' (unit c' s')) (10 ^ 18))]) ∧ Below w.heap.size w w' := by
  have HF := Lib.hid (fun W => forms_any b c s b' c' s' (Nat.lt_trans hc B34_lt) (Nat.lt_trans hc' B34_lt) W)
  rw [h, h', Bool.and_true] at HF
  have HU := Lib.hid (fun W => units_any b c s (Nat.lt_trans hc B34_lt) hs W)
  have HV := Lib.hid (fun W => units_any b' c' s' (Nat.lt_trans hc' B34_lt) hs' W)
  have HS := Lib.hid (fun W u v hu hv => rsum_any b (unit c s) b' (unit c' s') u v W hu hv (unit_tiny hc) (unit_tiny hc'))
  have HT := Lib.hid (fun W u v hu hv => rfit_any (sgn b (unit c s) b' (unit c' s')) (sab b (unit c s) b' (unit c' s')) (10 ^ 18) u v W hu hv (sab_slim (unit_lt hc) (unit_lt hc')) (ten_slim (by decide)) (Nat.pow_pos (by decide)))
  have HO := Lib.hid (fun W => one_any 18 (by decide) W)
  unfold RetSum at HS
  unfold RetUnits at HU HV
  generalize 10 ^ 18 = D at *
  generalize sab b (unit c s) b' (unit c' s') = U at *
  generalize sgn b (unit c s) b' (unit c' s') = N at *
  generalize unit c s = X at *
  generalize unit c' s' = Y at *
  generalize FitC U D = C at *
  generalize FitS U D = S at *
  generalize FitE U D = E at *
  generalize wd c 0 = x0 at *
  generalize wd c 1 = x1 at *
  generalize wd c' 0 = y0 at *
  generalize wd c' 1 = y1 at *
  clear hc hc' h h' hs hs'
  go_enter Try.func27, Try.ntmps27
  go_wp2_with fail
  refine (HF.out _).mono ?_
  rintro _ w1 ⟨rfl, hb1⟩; have hb1s := hb1.size; (try simp only [World.size_alloc, World.size_setCell, World.size_drew, World.heap_drewN] at hb1s); obtain ⟨hb1c, hb1f⟩ := bcell hb1; (try have : w.heap.size < w1.heap.size := by omega); (try have : w.heap.size + 1 < w1.heap.size := by omega); (try have : w.heap.size + 1 + 1 < w1.heap.size := by omega); (try have : w.heap.size + 1 + 1 + 1 < w1.heap.size := by omega)
  have ka : Bk w1 (w.heap.size) 26 [.bool b, .int .u64 x1, .int .u64 x0, .int .i64 (s : Int)] := by (repeat (first | (with_reducible assumption) | ((with_reducible refine Bk.new_ ?_); (first | rfl | (simp only [World.size_alloc, World.size_setCell, World.size_drew, World.heap_drewN]; done))) | (with_reducible refine Bk.alloc ?_ _) | (with_reducible refine Bk.drew ?_) | (with_reducible refine Bk.drewN ?_ _) | ((with_reducible refine Bk.far ?_ ?_ _); rotate_left; focus (simp only []; omega)) | ((with_reducible refine Bk.below ?_ (by with_reducible assumption) ?_); rotate_left; focus (go_size; done))))
  have ka_0 := ka.cell 0 rfl
  have ka_1 := ka.cell 1 rfl
  have ka_2 := ka.cell 2 rfl
  have ka_3 := ka.cell 3 rfl
  have ka_4 := ka.frozen 0
  have ka_5 := ka.frozen 1
  have ka_6 := ka.frozen 2
  have ka_7 := ka.frozen 3
  have kal := ka.lt
  have kb : Bk w1 (w.heap.size + 1) 26 [.bool b', .int .u64 y1, .int .u64 y0, .int .i64 (s' : Int)] := by (repeat (first | (with_reducible assumption) | ((with_reducible refine Bk.new_ ?_); (first | rfl | (simp only [World.size_alloc, World.size_setCell, World.size_drew, World.heap_drewN]; done))) | (with_reducible refine Bk.alloc ?_ _) | (with_reducible refine Bk.drew ?_) | (with_reducible refine Bk.drewN ?_ _) | ((with_reducible refine Bk.far ?_ ?_ _); rotate_left; focus (simp only []; omega)) | ((with_reducible refine Bk.below ?_ (by with_reducible assumption) ?_); rotate_left; focus (go_size; done))))
  have kb_0 := kb.cell 0 rfl
  have kb_1 := kb.cell 1 rfl
  have kb_2 := kb.cell 2 rfl
  have kb_3 := kb.cell 3 rfl
  have kb_4 := kb.frozen 0
  have kb_5 := kb.frozen 1
  have kb_6 := kb.frozen 2
  have kb_7 := kb.frozen 3
  have kbl := kb.lt
  have HKB := Lib.hid kb
  have kr : Bk w1 (w.heap.size + 1 + 1) 26 [.bool false, .int .u64 0, .int .u64 0, .int .i64 0] := by (repeat (first | (with_reducible assumption) | ((with_reducible refine Bk.new_ ?_); (first | rfl | (simp only [World.size_alloc, World.size_setCell, World.size_drew, World.heap_drewN]; done))) | (with_reducible refine Bk.alloc ?_ _) | (with_reducible refine Bk.drew ?_) | (with_reducible refine Bk.drewN ?_ _) | ((with_reducible refine Bk.far ?_ ?_ _); rotate_left; focus (simp only []; omega)) | ((with_reducible refine Bk.below ?_ (by with_reducible assumption) ?_); rotate_left; focus (go_size; done))))
  have kr_0 := kr.cell 0 rfl
  have kr_1 := kr.cell 1 rfl
  have kr_2 := kr.cell 2 rfl
  have kr_3 := kr.cell 3 rfl
  have kr_4 := kr.frozen 0
  have kr_5 := kr.frozen 1
  have kr_6 := kr.frozen 2
  have kr_7 := kr.frozen 3
  have krl := kr.lt
  have HKR := Lib.hid kr
  clear hb1c hb1f ka kr kb_0 kb_1 kb_2 kb_3 kb_4 kb_5 kb_6 kb_7 kr_0 kr_1 kr_2 kr_3 kr_4 kr_5 kr_6 kr_7 kb
  go_wp2_with fail
  refine (HU.out _).mono ?_
  rintro _ w2 ⟨v1, rfl, d1, hb2⟩
  have hb2s := hb2.size
  have Hd1 := Lib.hid d1
  have kb := HKB.out
  have jb : Bk w2 (w.heap.size + 1) 26 [.bool b', .int .u64 y1, .int .u64 y0, .int .i64 (s' : Int)] := by (repeat (first | (with_reducible assumption) | ((with_reducible refine Bk.new_ ?_); (first | rfl | (simp only [World.size_alloc, World.size_setCell, World.size_drew, World.heap_drewN]; done))) | (with_reducible refine Bk.alloc ?_ _) | (with_reducible refine Bk.drew ?_) | (with_reducible refine Bk.drewN ?_ _) | ((with_reducible refine Bk.far ?_ ?_ _); rotate_left; focus (simp only []; omega)) | ((with_reducible refine Bk.below ?_ (by with_reducible assumption) ?_); rotate_left; focus (go_size; done))))
  have jb_0 := jb.cell 0 rfl
  have jb_1 := jb.cell 1 rfl
  have jb_2 := jb.cell 2 rfl
  have jb_3 := jb.cell 3 rfl
  have jb_4 := jb.frozen 0
  have jb_5 := jb.frozen 1
  have jb_6 := jb.frozen 2
  have jb_7 := jb.frozen 3
  have jbl := jb.lt
  clear d1 jb kb ka_0 ka_1 ka_2 ka_3 ka_4 ka_5 ka_6 ka_7
  go_wp2_with fail
  refine (HV.out _).mono ?_
  rintro _ w3 ⟨v2, rfl, d2, hb3⟩
  have hb3s := hb3.size
  have Hd2 := Lib.hid d2
  clear d2 jb_0 jb_1 jb_2 jb_3 jb_4 jb_5 jb_6 jb_7
  go_wp2_with fail
  refine (HS.out _ _ _ (Hd1.out.below hb3) Hd2.out).mono ?_
  rintro _ w4 ⟨v3, rfl, d3, hb4⟩
  have hb4s := hb4.size
  have Hd3 := Lib.hid d3
  clear d3
  go_wp2_with fail
  refine (HO.out _).mono ?_
  rintro _ w5 ⟨v4, rfl, d4, hb5⟩
  have hb5s := hb5.size
  have Hd4 := Lib.hid d4
  clear d4
  go_wp2_with fail
  refine (HT.out _ _ _ (Hd3.out.below hb5) Hd4.out).mono ?_
  rintro _ w6 ⟨rfl, hb6⟩
  have hb6s := hb6.size
  have mr : Bk w6 (w.heap.size + 1 + 1) 26 [.bool false, .int .u64 0, .int .u64 0, .int .i64 0] := by
    have kr := HKR.out
    (repeat (first | (with_reducible assumption) | ((with_reducible refine Bk.new_ ?_); (first | rfl | (simp only [World.size_alloc, World.size_setCell, World.size_drew, World.heap_drewN]; done))) | (with_reducible refine Bk.alloc ?_ _) | (with_reducible refine Bk.drew ?_) | (with_reducible refine Bk.drewN ?_ _) | ((with_reducible refine Bk.far ?_ ?_ _); rotate_left; focus (simp only []; omega)) | ((with_reducible refine Bk.below ?_ (by with_reducible assumption) ?_); rotate_left; focus (go_size; done))))
  have mr_0 := mr.cell 0 rfl
  have mr_1 := mr.cell 1 rfl
  have mr_2 := mr.cell 2 rfl
  have mr_3 := mr.cell 3 rfl
  have mr_4 := mr.frozen 0
  have mr_5 := mr.frozen 1
  have mr_6 := mr.frozen 2
  have mr_7 := mr.frozen 3
  have mrl := mr.lt
  clear mr
  go_wp2_with fail
  refine bodyPost_ret (by simp [results, Try.results27, go_sem, *]; try rfl) rfl ?_
  exact ⟨rfl, by (repeat' (first | (with_reducible exact Below.refl _ _) | (with_reducible assumption) | (with_reducible refine Below.drew ?_) | (with_reducible refine below_drewN ?_ _) | ((with_reducible refine Below.alloc ?_ ?_ _); rotate_left; focus (go_size; done)) | ((with_reducible refine Below.setCell ?_ ?_ _); rotate_left; focus (go_size; done)) | ((with_reducible refine Below.trans ?_ (Below.mono (by with_reducible assumption) ?_)); rotate_left; focus (go_size; done))))⟩
set_option maxRecDepth 100000 in
set_option maxHeartbeats 4000000 in
theorem docsub_ok (b : Bool) (c s : Nat) (b' : Bool) (c' s' : Nat) (h : dform b c s = true) (h' : dform b' c' s' = true) (hc : c < B34) (hc' : c' < B34) (hs : s ≤ 18) (hs' : s' ≤ 18) (w : World) :
    Calls Try.prog 28 #[.agg #[.bool b, .int .u64 (wd (c) 1), .int .u64 (wd (c) 0), .int .i64 s], .agg #[.bool b', .int .u64 (wd (c') 1), .int .u64 (wd (c') 0), .int .i64 s']] w fun e w' => e = .returned (.tuple #[.agg #[.bool (sg (sgn b (unit c s) (sg (!b') c') (unit c' s')) (FitC ((sab b (unit c s) (sg (!b') c') (unit c' s'))) (10 ^ 18))), .int .u64 (wd (FitC ((sab b (unit c s) (sg (!b') c') (unit c' s'))) (10 ^ 18)) 1), .int .u64 (wd (FitC ((sab b (unit c s) (sg (!b') c') (unit c' s'))) (10 ^ 18)) 0), .int .i64 (FitS ((sab b (unit c s) (sg (!b') c') (unit c' s'))) (10 ^ 18))], .int .i64 (FitE (sab b (unit c s) (sg (!b') c') (unit c' s')) (10 ^ 18))]) ∧ Below w.heap.size w w' := by
  have HF := Lib.hid (fun W => forms_any b c s b' c' s' (Nat.lt_trans hc B34_lt) (Nat.lt_trans hc' B34_lt) W)
  rw [h, h', Bool.and_true] at HF
  have HT := Lib.hid (fun W => flip_any b' c' s' (Nat.lt_trans hc' B34_lt) W)
  have HA := Lib.hid (fun W => docadd_ok b c s (sg (!b') c') c' s' h (dform_turn h') hc hc' hs hs' W)
  generalize sg (!b') c' = r at *
  generalize FitC (sab b (unit c s) r (unit c' s')) (10 ^ 18) = C at *
  generalize FitS (sab b (unit c s) r (unit c' s')) (10 ^ 18) = S at *
  generalize FitE (sab b (unit c s) r (unit c' s')) (10 ^ 18) = E at *
  generalize sgn b (unit c s) r (unit c' s') = N at *
  generalize wd c 0 = x0 at *
  generalize wd c 1 = x1 at *
  generalize wd c' 0 = y0 at *
  generalize wd c' 1 = y1 at *
  clear hc hc' h h' hs hs'
  obtain ⟨sI, hsI⟩ : ∃ sI : Int, sI = (s : Int) := ⟨_, rfl⟩
  obtain ⟨sJ, hsJ⟩ : ∃ sJ : Int, sJ = (s' : Int) := ⟨_, rfl⟩
  rw [← hsI, ← hsJ] at HF HA ⊢
  rw [← hsJ] at HT
  clear hsI hsJ
  obtain ⟨s, rfl⟩ : ∃ s, s = sI := ⟨_, rfl⟩
  obtain ⟨s', rfl⟩ : ∃ s', s' = sJ := ⟨_, rfl⟩
  go_enter Try.func28, Try.ntmps28
  go_wp2_with fail
  refine (HF.out _).mono ?_
  rintro _ w1 ⟨rfl, hb1⟩; have hb1s := hb1.size; (try simp only [World.size_alloc, World.size_setCell, World.size_drew, World.heap_drewN] at hb1s); obtain ⟨hb1c, hb1f⟩ := bcell hb1; (try have : w.heap.size < w1.heap.size := by omega); (try have : w.heap.size + 1 < w1.heap.size := by omega); (try have : w.heap.size + 1 + 1 < w1.heap.size := by omega); (try have : w.heap.size + 1 + 1 + 1 < w1.heap.size := by omega)
  have ka : Bk w1 (w.heap.size) 26 [.bool b, .int .u64 x1, .int .u64 x0, .int .i64 s] := by (repeat (first | (with_reducible assumption) | ((with_reducible refine Bk.new_ ?_); (first | rfl | (simp only [World.size_alloc, World.size_setCell, World.size_drew, World.heap_drewN]; done))) | (with_reducible refine Bk.alloc ?_ _) | (with_reducible refine Bk.drew ?_) | (with_reducible refine Bk.drewN ?_ _) | ((with_reducible refine Bk.far ?_ ?_ _); rotate_left; focus (simp only []; omega)) | ((with_reducible refine Bk.below ?_ (by with_reducible assumption) ?_); rotate_left; focus (go_size; done))))
  have ka_0 := ka.cell 0 rfl
  have ka_1 := ka.cell 1 rfl
  have ka_2 := ka.cell 2 rfl
  have ka_3 := ka.cell 3 rfl
  have ka_4 := ka.frozen 0
  have ka_5 := ka.frozen 1
  have ka_6 := ka.frozen 2
  have ka_7 := ka.frozen 3
  have kal := ka.lt
  have kb : Bk w1 (w.heap.size + 1) 26 [.bool b', .int .u64 y1, .int .u64 y0, .int .i64 s'] := by (repeat (first | (with_reducible assumption) | ((with_reducible refine Bk.new_ ?_); (first | rfl | (simp only [World.size_alloc, World.size_setCell, World.size_drew, World.heap_drewN]; done))) | (with_reducible refine Bk.alloc ?_ _) | (with_reducible refine Bk.drew ?_) | (with_reducible refine Bk.drewN ?_ _) | ((with_reducible refine Bk.far ?_ ?_ _); rotate_left; focus (simp only []; omega)) | ((with_reducible refine Bk.below ?_ (by with_reducible assumption) ?_); rotate_left; focus (go_size; done))))
  have kb_0 := kb.cell 0 rfl
  have kb_1 := kb.cell 1 rfl
  have kb_2 := kb.cell 2 rfl
  have kb_3 := kb.cell 3 rfl
  have kb_4 := kb.frozen 0
  have kb_5 := kb.frozen 1
  have kb_6 := kb.frozen 2
  have kb_7 := kb.frozen 3
  have kbl := kb.lt
  have kr : Bk w1 (w.heap.size + 1 + 1) 26 [.bool false, .int .u64 0, .int .u64 0, .int .i64 0] := by (repeat (first | (with_reducible assumption) | ((with_reducible refine Bk.new_ ?_); (first | rfl | (simp only [World.size_alloc, World.size_setCell, World.size_drew, World.heap_drewN]; done))) | (with_reducible refine Bk.alloc ?_ _) | (with_reducible refine Bk.drew ?_) | (with_reducible refine Bk.drewN ?_ _) | ((with_reducible refine Bk.far ?_ ?_ _); rotate_left; focus (simp only []; omega)) | ((with_reducible refine Bk.below ?_ (by with_reducible assumption) ?_); rotate_left; focus (go_size; done))))
  have kr_0 := kr.cell 0 rfl
  have kr_1 := kr.cell 1 rfl
  have kr_2 := kr.cell 2 rfl
  have kr_3 := kr.cell 3 rfl
  have kr_4 := kr.frozen 0
  have kr_5 := kr.frozen 1
  have kr_6 := kr.frozen 2
  have kr_7 := kr.frozen 3
  have krl := kr.lt
  clear hb1c hb1f
  go_wp2_with fail
  go_region_held3 (fun w' => (w'.cell? ⟨w.heap.size, 0, none⟩ = some (.bool b) ∧ w'.cell? ⟨w.heap.size, 1, none⟩ = some (.int .u64 x1) ∧ w'.cell? ⟨w.heap.size, 2, none⟩ = some (.int .u64 x0) ∧ w'.cell? ⟨w.heap.size, 3, none⟩ = some (.int .i64 s)) ∧ (w'.cell? ⟨(w.heap.size + 1), 0, none⟩ = some (.bool b') ∧ w'.cell? ⟨(w.heap.size + 1), 1, none⟩ = some (.int .u64 y1) ∧ w'.cell? ⟨(w.heap.size + 1), 2, none⟩ = some (.int .u64 y0) ∧ w'.cell? ⟨(w.heap.size + 1), 3, none⟩ = some (.int .i64 s'))) (first | (first | (go_keep; done) | (simp [go_sem]; done) | ((try dsimp only); (repeat' apply And.intro) <;> (first | (with_reducible assumption) | ((rw [World.cell?_alloc_lt _ _ _ (by show _ < _; omega)]); go_split_ands; (first | with_reducible assumption | (refine (World.cell?_alloc_lt _ _ _ (by show _ < _; omega)).symm.trans ?_; with_reducible assumption))) | ((rw [World.cell?_setCell_other _ _ _ _ (by intro e; injection e; omega)]); with_reducible assumption) | (go_keep; done) | (simp [go_sem]; done) | (simp (disch := go_size) [*, World.cell?_alloc_some, World.cell?_setCell_far]; done)))) | ((refine ⟨?_, ?_⟩) <;> (first | ((refine ⟨Bk.cell (t := 26) (cs := [.bool b, .int .u64 x1, .int .u64 x0, .int .i64 s]) ?_ 0 rfl, Bk.cell (t := 26) (cs := [.bool b, .int .u64 x1, .int .u64 x0, .int .i64 s]) ?_ 1 rfl, Bk.cell (t := 26) (cs := [.bool b, .int .u64 x1, .int .u64 x0, .int .i64 s]) ?_ 2 rfl, Bk.cell (t := 26) (cs := [.bool b, .int .u64 x1, .int .u64 x0, .int .i64 s]) ?_ 3 rfl⟩) <;> ((repeat (first | (with_reducible assumption) | ((with_reducible refine Bk.new_ ?_); (first | rfl | (simp only [World.size_alloc, World.size_setCell, World.size_drew, World.heap_drewN]; done))) | (with_reducible refine Bk.alloc ?_ _) | (with_reducible refine Bk.drew ?_) | (with_reducible refine Bk.drewN ?_ _) | ((with_reducible refine Bk.far ?_ ?_ _); rotate_left; focus (simp only []; omega)) | ((with_reducible refine Bk.below ?_ (by with_reducible assumption) ?_); rotate_left; focus (go_size; done)))); done)) | ((refine ⟨Bk.cell (t := 26) (cs := [.bool b', .int .u64 y1, .int .u64 y0, .int .i64 s']) ?_ 0 rfl, Bk.cell (t := 26) (cs := [.bool b', .int .u64 y1, .int .u64 y0, .int .i64 s']) ?_ 1 rfl, Bk.cell (t := 26) (cs := [.bool b', .int .u64 y1, .int .u64 y0, .int .i64 s']) ?_ 2 rfl, Bk.cell (t := 26) (cs := [.bool b', .int .u64 y1, .int .u64 y0, .int .i64 s']) ?_ 3 rfl⟩) <;> ((repeat (first | (with_reducible assumption) | ((with_reducible refine Bk.new_ ?_); (first | rfl | (simp only [World.size_alloc, World.size_setCell, World.size_drew, World.heap_drewN]; done))) | (with_reducible refine Bk.alloc ?_ _) | (with_reducible refine Bk.drew ?_) | (with_reducible refine Bk.drewN ?_ _) | ((with_reducible refine Bk.far ?_ ?_ _); rotate_left; focus (simp only []; omega)) | ((with_reducible refine Bk.below ?_ (by with_reducible assumption) ?_); rotate_left; focus (go_size; done)))); done))))) (first | (go_at_call 65; (with_reducible refine (HT.out _).mono ?_); rintro _ w4 ⟨rfl, hb4⟩; have hb4s := hb4.size; (try simp only [World.size_alloc, World.size_setCell, World.size_drew, World.heap_drewN] at hb4s); obtain ⟨hb4c, hb4f⟩ := bcell hb4; (try have : w.heap.size < w4.heap.size := by omega); (try have : w.heap.size + 1 < w4.heap.size := by omega); (try have : w.heap.size + 1 + 1 < w4.heap.size := by omega); (try have : w.heap.size + 1 + 1 + 1 < w4.heap.size := by omega); (try have : w1.heap.size < w4.heap.size := by omega); (try have : w1.heap.size + 1 < w4.heap.size := by omega); (try have : w1.heap.size + 1 + 1 < w4.heap.size := by omega); (try have : w1.heap.size + 1 + 1 + 1 < w4.heap.size := by omega)) | (go_at_call 27; (with_reducible refine (HA.out _).mono ?_); rintro _ w5 ⟨rfl, hb5⟩; have hb5s := hb5.size; (try simp only [World.size_alloc, World.size_setCell, World.size_drew, World.heap_drewN] at hb5s); obtain ⟨hb5c, hb5f⟩ := bcell hb5; (try have : w.heap.size < w5.heap.size := by omega); (try have : w.heap.size + 1 < w5.heap.size := by omega); (try have : w.heap.size + 1 + 1 < w5.heap.size := by omega); (try have : w.heap.size + 1 + 1 + 1 < w5.heap.size := by omega); have zr : Bk w5 (w.heap.size + 1 + 1) 26 [.bool false, .int .u64 0, .int .u64 0, .int .i64 0] := (by (repeat (first | (with_reducible assumption) | ((with_reducible refine Bk.new_ ?_); (first | rfl | (simp only [World.size_alloc, World.size_setCell, World.size_drew, World.heap_drewN]; done))) | (with_reducible refine Bk.alloc ?_ _) | (with_reducible refine Bk.drew ?_) | (with_reducible refine Bk.drewN ?_ _) | ((with_reducible refine Bk.far ?_ ?_ _); rotate_left; focus (simp only []; omega)) | ((with_reducible refine Bk.below ?_ (by with_reducible assumption) ?_); rotate_left; focus (go_size; done))))); have zr_0 := zr.cell 0 rfl; have zr_1 := zr.cell 1 rfl; have zr_2 := zr.cell 2 rfl; have zr_3 := zr.cell 3 rfl; have zr_4 := zr.frozen 0; have zr_5 := zr.frozen 1; have zr_6 := zr.frozen 2; have zr_7 := zr.frozen 3; have zrl := zr.lt; clear hb5c hb5f; (try have : w1.heap.size < w5.heap.size := by omega); (try have : w1.heap.size + 1 < w5.heap.size := by omega); (try have : w1.heap.size + 1 + 1 < w5.heap.size := by omega); (try have : w1.heap.size + 1 + 1 + 1 < w5.heap.size := by omega); (try have : w4.heap.size < w5.heap.size := by omega); (try have : w4.heap.size + 1 < w5.heap.size := by omega); (try have : w4.heap.size + 1 + 1 < w5.heap.size := by omega); (try have : w4.heap.size + 1 + 1 + 1 < w5.heap.size := by omega)))
  all_goals
    refine wp_named (fun W => Bk W (w.heap.size + 1 + 1) 26 [.bool (sg N C), .int .u64 (wd C 1), .int .u64 (wd C 0), .int .i64 (S : Int)] ∧ Below w.heap.size w W) ⟨?h1, ?h2⟩ ?_
    case h1 => (first | ((repeat (first | (with_reducible assumption) | ((with_reducible refine Bk.new_ ?_); (first | rfl | (simp only [World.size_alloc, World.size_setCell, World.size_drew, World.heap_drewN]; done))) | (with_reducible refine Bk.alloc ?_ _) | (with_reducible refine Bk.drew ?_) | (with_reducible refine Bk.drewN ?_ _) | ((with_reducible refine Bk.far ?_ ?_ _); rotate_left; focus (simp only []; omega)) | ((with_reducible refine Bk.below ?_ (by with_reducible assumption) ?_); rotate_left; focus (go_size; done)))); done) | ((repeat (first | (with_reducible refine Bk.alloc ?_ _) | (with_reducible refine Bk.drew ?_) | ((with_reducible refine Bk.far ?_ ?_ _); rotate_left; focus (simp only []; omega)))); (refine ((((?_ : Bk _ _ _ [.bool false, .int .u64 0, .int .u64 0, .int .i64 0]).set_ 0 _).set_ 1 _).set_ 2 _).set_ 3 _); (repeat (first | (with_reducible assumption) | ((with_reducible refine Bk.new_ ?_); (first | rfl | (simp only [World.size_alloc, World.size_setCell, World.size_drew, World.heap_drewN]; done))) | (with_reducible refine Bk.alloc ?_ _) | (with_reducible refine Bk.drew ?_) | (with_reducible refine Bk.drewN ?_ _) | ((with_reducible refine Bk.far ?_ ?_ _); rotate_left; focus (simp only []; omega)) | ((with_reducible refine Bk.below ?_ (by with_reducible assumption) ?_); rotate_left; focus (go_size; done))))); done)
    case h2 => ((repeat' (first | (with_reducible exact Below.refl _ _) | (with_reducible assumption) | (with_reducible refine Below.drew ?_) | (with_reducible refine below_drewN ?_ _) | ((with_reducible refine Below.alloc ?_ ?_ _); rotate_left; focus (go_size; done)) | ((with_reducible refine Below.setCell ?_ ?_ _); rotate_left; focus (go_size; done)) | ((with_reducible refine Below.trans ?_ (Below.mono (by with_reducible assumption) ?_)); rotate_left; focus (go_size; done)))); done)
    rintro W ⟨k1, mb⟩
    have k1_0 := k1.cell 0 rfl
    have k1_1 := k1.cell 1 rfl
    have k1_2 := k1.cell 2 rfl
    have k1_3 := k1.cell 3 rfl
    have k1_4 := k1.frozen 0
    have k1_5 := k1.frozen 1
    have k1_6 := k1.frozen 2
    have k1_7 := k1.frozen 3
    go_wp2_with fail
    refine bodyPost_ret (by simp [results, Try.results28, go_sem, *]; try rfl) rfl ?_
    exact ⟨rfl, by (repeat' (first | (with_reducible exact Below.refl _ _) | (with_reducible assumption) | (with_reducible refine Below.drew ?_) | (with_reducible refine below_drewN ?_ _) | ((with_reducible refine Below.alloc ?_ ?_ _); rotate_left; focus (go_size; done)) | ((with_reducible refine Below.setCell ?_ ?_ _); rotate_left; focus (go_size; done)) | ((with_reducible refine Below.trans ?_ (Below.mono (by with_reducible assumption) ?_)); rotate_left; focus (go_size; done))))⟩
end Go.Proofs.Ythkgjodidkpaeaa

set_option linter.unusedSimpArgs false
set_option linter.unusedVariables false
namespace Go.Proofs.Ythkgjodidkpaeaa
open Go.RowKit

set_option maxHeartbeats 2000000 in
theorem dmul_bad (b : Bool) (c : Nat) (s : Int) (b' : Bool) (c' : Nat) (s' : Int) (hc : c < 2 ^ 128) (hc' : c' < 2 ^ 128) (h : (dform b c s && dform b' c' s') = false) (w : World) :
    Calls Try.prog 41 #[.agg #[.bool b, .int .u64 (wd (c) 1), .int .u64 (wd (c) 0), .int .i64 s], .agg #[.bool b', .int .u64 (wd (c') 1), .int .u64 (wd (c') 0), .int .i64 s']] w fun e w' => e = .returned (.tuple #[.agg #[.bool false, .int .u64 0, .int .u64 0, .int .i64 0], .int .i64 2]) ∧ Below w.heap.size w w' := by
  have HF := Lib.hid (fun g W hg => formed_two b c s hc b' c' s' hc' g W hg)
  rw [h] at HF
  simp only [ferr, if_pos, if_neg, Bool.false_eq_true, if_true, if_false] at HF
  generalize wd c 0 = x0 at *
  generalize wd c 1 = x1 at *
  generalize wd c' 0 = y0 at *
  generalize wd c' 1 = y1 at *
  clear hc hc' h
  go_enter Try.func41, Try.ntmps41
  go_wp2_with fail
  (with_reducible refine (HF.out _ _ ?hg).mono ?_)
  case hg => ((repeat (first | (with_reducible assumption) | ((with_reducible refine Bk.new_ ?_); (first | rfl | (simp only [World.size_alloc, World.size_setCell, World.size_drew, World.heap_drewN]; done))) | (with_reducible refine Bk.alloc ?_ _) | (with_reducible refine Bk.drew ?_) | (with_reducible refine Bk.drewN ?_ _) | ((with_reducible refine Bk.far ?_ ?_ _); rotate_left; focus (simp only []; omega)) | ((with_reducible refine Bk.below ?_ (by with_reducible assumption) ?_); rotate_left; focus (go_size; done)))); done)
  rintro _ w1 ⟨rfl, hb1⟩; have hb1s := hb1.size; (try simp only [World.size_alloc, World.size_setCell, World.size_drew, World.heap_drewN] at hb1s); obtain ⟨hb1c, hb1f⟩ := bcell hb1; (try have : w.heap.size < w1.heap.size := by omega); (try have : w.heap.size + 1 < w1.heap.size := by omega); (try have : w.heap.size + 1 + 1 < w1.heap.size := by omega); (try have : w.heap.size + 1 + 1 + 1 < w1.heap.size := by omega)
  have ka : Bk w1 (w.heap.size) 26 [.bool b, .int .u64 x1, .int .u64 x0, .int .i64 s] := by (repeat (first | (with_reducible assumption) | ((with_reducible refine Bk.new_ ?_); (first | rfl | (simp only [World.size_alloc, World.size_setCell, World.size_drew, World.heap_drewN]; done))) | (with_reducible refine Bk.alloc ?_ _) | (with_reducible refine Bk.drew ?_) | (with_reducible refine Bk.drewN ?_ _) | ((with_reducible refine Bk.far ?_ ?_ _); rotate_left; focus (simp only []; omega)) | ((with_reducible refine Bk.below ?_ (by with_reducible assumption) ?_); rotate_left; focus (go_size; done))))
  have ka_0 := ka.cell 0 rfl
  have ka_1 := ka.cell 1 rfl
  have ka_2 := ka.cell 2 rfl
  have ka_3 := ka.cell 3 rfl
  have ka_4 := ka.frozen 0
  have ka_5 := ka.frozen 1
  have ka_6 := ka.frozen 2
  have ka_7 := ka.frozen 3
  have kal := ka.lt
  have kb : Bk w1 (w.heap.size + 1) 26 [.bool b', .int .u64 y1, .int .u64 y0, .int .i64 s'] := by (repeat (first | (with_reducible assumption) | ((with_reducible refine Bk.new_ ?_); (first | rfl | (simp only [World.size_alloc, World.size_setCell, World.size_drew, World.heap_drewN]; done))) | (with_reducible refine Bk.alloc ?_ _) | (with_reducible refine Bk.drew ?_) | (with_reducible refine Bk.drewN ?_ _) | ((with_reducible refine Bk.far ?_ ?_ _); rotate_left; focus (simp only []; omega)) | ((with_reducible refine Bk.below ?_ (by with_reducible assumption) ?_); rotate_left; focus (go_size; done))))
  have kb_0 := kb.cell 0 rfl
  have kb_1 := kb.cell 1 rfl
  have kb_2 := kb.cell 2 rfl
  have kb_3 := kb.cell 3 rfl
  have kb_4 := kb.frozen 0
  have kb_5 := kb.frozen 1
  have kb_6 := kb.frozen 2
  have kb_7 := kb.frozen 3
  have kbl := kb.lt
  have kr : Bk w1 (w.heap.size + 1 + 1) 26 [.bool false, .int .u64 0, .int .u64 0, .int .i64 0] := by (repeat (first | (with_reducible assumption) | ((with_reducible refine Bk.new_ ?_); (first | rfl | (simp only [World.size_alloc, World.size_setCell, World.size_drew, World.heap_drewN]; done))) | (with_reducible refine Bk.alloc ?_ _) | (with_reducible refine Bk.drew ?_) | (with_reducible refine Bk.drewN ?_ _) | ((with_reducible refine Bk.far ?_ ?_ _); rotate_left; focus (simp only []; omega)) | ((with_reducible refine Bk.below ?_ (by with_reducible assumption) ?_); rotate_left; focus (go_size; done))))
  have kr_0 := kr.cell 0 rfl
  have kr_1 := kr.cell 1 rfl
  have kr_2 := kr.cell 2 rfl
  have kr_3 := kr.cell 3 rfl
  have kr_4 := kr.frozen 0
  have kr_5 := kr.frozen 1
  have kr_6 := kr.frozen 2
  have kr_7 := kr.frozen 3
  have krl := kr.lt
  clear hb1c hb1f ka kb kr
  go_wp2_with fail
  refine bodyPost_ret (by simp [results, Try.results41, go_sem, *]; try rfl) rfl ?_
  exact ⟨rfl, by (repeat' (first | (with_reducible exact Below.refl _ _) | (with_reducible assumption) | (with_reducible refine Below.drew ?_) | (with_reducible refine below_drewN ?_ _) | ((with_reducible refine Below.alloc ?_ ?_ _); rotate_left; focus (go_size; done)) | ((with_reducible refine Below.setCell ?_ ?_ _); rotate_left; focus (go_size; done)) | ((with_reducible refine Below.trans ?_ (Below.mono (by with_reducible assumption) ?_)); rotate_left; focus (go_size; done))))⟩
set_option maxHeartbeats 2000000 in
theorem ddiv_bad (b : Bool) (c : Nat) (s : Int) (b' : Bool) (c' : Nat) (s' : Int) (hc : c < 2 ^ 128) (hc' : c' < 2 ^ 128) (h : (dform b c s && dform b' c' s') = false) (w : World) :
    Calls Try.prog 43 #[.agg #[.bool b, .int .u64 (wd (c) 1), .int .u64 (wd (c) 0), .int .i64 s], .agg #[.bool b', .int .u64 (wd (c') 1), .int .u64 (wd (c') 0), .int .i64 s']] w fun e w' => e = .returned (.tuple #[.agg #[.bool false, .int .u64 0, .int .u64 0, .int .i64 0], .int .i64 2]) ∧ Below w.heap.size w w' := by
  have HF := Lib.hid (fun g W hg => formed_two b c s hc b' c' s' hc' g W hg)
  rw [h] at HF
  simp only [ferr, if_pos, if_neg, Bool.false_eq_true, if_true, if_false] at HF
  generalize wd c 0 = x0 at *
  generalize wd c 1 = x1 at *
  generalize wd c' 0 = y0 at *
  generalize wd c' 1 = y1 at *
  clear hc hc' h
  go_enter Try.func43, Try.ntmps43
  go_wp2_with fail
  (with_reducible refine (HF.out _ _ ?hg).mono ?_)
  case hg => ((repeat (first | (with_reducible assumption) | ((with_reducible refine Bk.new_ ?_); (first | rfl | (simp only [World.size_alloc, World.size_setCell, World.size_drew, World.heap_drewN]; done))) | (with_reducible refine Bk.alloc ?_ _) | (with_reducible refine Bk.drew ?_) | (with_reducible refine Bk.drewN ?_ _) | ((with_reducible refine Bk.far ?_ ?_ _); rotate_left; focus (simp only []; omega)) | ((with_reducible refine Bk.below ?_ (by with_reducible assumption) ?_); rotate_left; focus (go_size; done)))); done)
  rintro _ w1 ⟨rfl, hb1⟩; have hb1s := hb1.size; (try simp only [World.size_alloc, World.size_setCell, World.size_drew, World.heap_drewN] at hb1s); obtain ⟨hb1c, hb1f⟩ := bcell hb1; (try have : w.heap.size < w1.heap.size := by omega); (try have : w.heap.size + 1 < w1.heap.size := by omega); (try have : w.heap.size + 1 + 1 < w1.heap.size := by omega); (try have : w.heap.size + 1 + 1 + 1 < w1.heap.size := by omega)
  have ka : Bk w1 (w.heap.size) 26 [.bool b, .int .u64 x1, .int .u64 x0, .int .i64 s] := by (repeat (first | (with_reducible assumption) | ((with_reducible refine Bk.new_ ?_); (first | rfl | (simp only [World.size_alloc, World.size_setCell, World.size_drew, World.heap_drewN]; done))) | (with_reducible refine Bk.alloc ?_ _) | (with_reducible refine Bk.drew ?_) | (with_reducible refine Bk.drewN ?_ _) | ((with_reducible refine Bk.far ?_ ?_ _); rotate_left; focus (simp only []; omega)) | ((with_reducible refine Bk.below ?_ (by with_reducible assumption) ?_); rotate_left; focus (go_size; done))))
  have ka_0 := ka.cell 0 rfl
  have ka_1 := ka.cell 1 rfl
  have ka_2 := ka.cell 2 rfl
  have ka_3 := ka.cell 3 rfl
  have ka_4 := ka.frozen 0
  have ka_5 := ka.frozen 1
  have ka_6 := ka.frozen 2
  have ka_7 := ka.frozen 3
  have kal := ka.lt
  have kb : Bk w1 (w.heap.size + 1) 26 [.bool b', .int .u64 y1, .int .u64 y0, .int .i64 s'] := by (repeat (first | (with_reducible assumption) | ((with_reducible refine Bk.new_ ?_); (first | rfl | (simp only [World.size_alloc, World.size_setCell, World.size_drew, World.heap_drewN]; done))) | (with_reducible refine Bk.alloc ?_ _) | (with_reducible refine Bk.drew ?_) | (with_reducible refine Bk.drewN ?_ _) | ((with_reducible refine Bk.far ?_ ?_ _); rotate_left; focus (simp only []; omega)) | ((with_reducible refine Bk.below ?_ (by with_reducible assumption) ?_); rotate_left; focus (go_size; done))))
  have kb_0 := kb.cell 0 rfl
  have kb_1 := kb.cell 1 rfl
  have kb_2 := kb.cell 2 rfl
  have kb_3 := kb.cell 3 rfl
  have kb_4 := kb.frozen 0
  have kb_5 := kb.frozen 1
  have kb_6 := kb.frozen 2
  have kb_7 := kb.frozen 3
  have kbl := kb.lt
  have kr : Bk w1 (w.heap.size + 1 + 1) 26 [.bool false, .int .u64 0, .int .u64 0, .int .i64 0] := by (repeat (first | (with_reducible assumption) | ((with_reducible refine Bk.new_ ?_); (first | rfl | (simp only [World.size_alloc, World.size_setCell, World.size_drew, World.heap_drewN]; done))) | (with_reducible refine Bk.alloc ?_ _) | (with_reducible refine Bk.drew ?_) | (with_reducible refine Bk.drewN ?_ _) | ((with_reducible refine Bk.far ?_ ?_ _); rotate_left; focus (simp only []; omega)) | ((with_reducible refine Bk.below ?_ (by with_reducible assumption) ?_); rotate_left; focus (go_size; done))))
  have kr_0 := kr.cell 0 rfl
  have kr_1 := kr.cell 1 rfl
  have kr_2 := kr.cell 2 rfl
  have kr_3 := kr.cell 3 rfl
  have kr_4 := kr.frozen 0
  have kr_5 := kr.frozen 1
  have kr_6 := kr.frozen 2
  have kr_7 := kr.frozen 3
  have krl := kr.lt
  clear hb1c hb1f ka kb kr
  go_wp2_with fail
  refine bodyPost_ret (by simp [results, Try.results43, go_sem, *]; try rfl) rfl ?_
  exact ⟨rfl, by (repeat' (first | (with_reducible exact Below.refl _ _) | (with_reducible assumption) | (with_reducible refine Below.drew ?_) | (with_reducible refine below_drewN ?_ _) | ((with_reducible refine Below.alloc ?_ ?_ _); rotate_left; focus (go_size; done)) | ((with_reducible refine Below.setCell ?_ ?_ _); rotate_left; focus (go_size; done)) | ((with_reducible refine Below.trans ?_ (Below.mono (by with_reducible assumption) ?_)); rotate_left; focus (go_size; done))))⟩
set_option maxHeartbeats 2000000 in
theorem dmod_bad (b : Bool) (c : Nat) (s : Int) (b' : Bool) (c' : Nat) (s' : Int) (hc : c < 2 ^ 128) (hc' : c' < 2 ^ 128) (h : (dform b c s && dform b' c' s') = false) (w : World) :
    Calls Try.prog 45 #[.agg #[.bool b, .int .u64 (wd (c) 1), .int .u64 (wd (c) 0), .int .i64 s], .agg #[.bool b', .int .u64 (wd (c') 1), .int .u64 (wd (c') 0), .int .i64 s']] w fun e w' => e = .returned (.tuple #[.agg #[.bool false, .int .u64 0, .int .u64 0, .int .i64 0], .int .i64 2]) ∧ Below w.heap.size w w' := by
  have HF := Lib.hid (fun g W hg => formed_two b c s hc b' c' s' hc' g W hg)
  rw [h] at HF
  simp only [ferr, if_pos, if_neg, Bool.false_eq_true, if_true, if_false] at HF
  generalize wd c 0 = x0 at *
  generalize wd c 1 = x1 at *
  generalize wd c' 0 = y0 at *
  generalize wd c' 1 = y1 at *
  clear hc hc' h
  go_enter Try.func45, Try.ntmps45
  go_wp2_with fail
  (with_reducible refine (HF.out _ _ ?hg).mono ?_)
  case hg => ((repeat (first | (with_reducible assumption) | ((with_reducible refine Bk.new_ ?_); (first | rfl | (simp only [World.size_alloc, World.size_setCell, World.size_drew, World.heap_drewN]; done))) | (with_reducible refine Bk.alloc ?_ _) | (with_reducible refine Bk.drew ?_) | (with_reducible refine Bk.drewN ?_ _) | ((with_reducible refine Bk.far ?_ ?_ _); rotate_left; focus (simp only []; omega)) | ((with_reducible refine Bk.below ?_ (by with_reducible assumption) ?_); rotate_left; focus (go_size; done)))); done)
  rintro _ w1 ⟨rfl, hb1⟩; have hb1s := hb1.size; (try simp only [World.size_alloc, World.size_setCell, World.size_drew, World.heap_drewN] at hb1s); obtain ⟨hb1c, hb1f⟩ := bcell hb1; (try have : w.heap.size < w1.heap.size := by omega); (try have : w.heap.size + 1 < w1.heap.size := by omega); (try have : w.heap.size + 1 + 1 < w1.heap.size := by omega); (try have : w.heap.size + 1 + 1 + 1 < w1.heap.size := by omega)
  have ka : Bk w1 (w.heap.size) 26 [.bool b, .int .u64 x1, .int .u64 x0, .int .i64 s] := by (repeat (first | (with_reducible assumption) | ((with_reducible refine Bk.new_ ?_); (first | rfl | (simp only [World.size_alloc, World.size_setCell, World.size_drew, World.heap_drewN]; done))) | (with_reducible refine Bk.alloc ?_ _) | (with_reducible refine Bk.drew ?_) | (with_reducible refine Bk.drewN ?_ _) | ((with_reducible refine Bk.far ?_ ?_ _); rotate_left; focus (simp only []; omega)) | ((with_reducible refine Bk.below ?_ (by with_reducible assumption) ?_); rotate_left; focus (go_size; done))))
  have ka_0 := ka.cell 0 rfl
  have ka_1 := ka.cell 1 rfl
  have ka_2 := ka.cell 2 rfl
  have ka_3 := ka.cell 3 rfl
  have ka_4 := ka.frozen 0
  have ka_5 := ka.frozen 1
  have ka_6 := ka.frozen 2
  have ka_7 := ka.frozen 3
  have kal := ka.lt
  have kb : Bk w1 (w.heap.size + 1) 26 [.bool b', .int .u64 y1, .int .u64 y0, .int .i64 s'] := by (repeat (first | (with_reducible assumption) | ((with_reducible refine Bk.new_ ?_); (first | rfl | (simp only [World.size_alloc, World.size_setCell, World.size_drew, World.heap_drewN]; done))) | (with_reducible refine Bk.alloc ?_ _) | (with_reducible refine Bk.drew ?_) | (with_reducible refine Bk.drewN ?_ _) | ((with_reducible refine Bk.far ?_ ?_ _); rotate_left; focus (simp only []; omega)) | ((with_reducible refine Bk.below ?_ (by with_reducible assumption) ?_); rotate_left; focus (go_size; done))))
  have kb_0 := kb.cell 0 rfl
  have kb_1 := kb.cell 1 rfl
  have kb_2 := kb.cell 2 rfl
  have kb_3 := kb.cell 3 rfl
  have kb_4 := kb.frozen 0
  have kb_5 := kb.frozen 1
  have kb_6 := kb.frozen 2
  have kb_7 := kb.frozen 3
  have kbl := kb.lt
  have kr : Bk w1 (w.heap.size + 1 + 1) 26 [.bool false, .int .u64 0, .int .u64 0, .int .i64 0] := by (repeat (first | (with_reducible assumption) | ((with_reducible refine Bk.new_ ?_); (first | rfl | (simp only [World.size_alloc, World.size_setCell, World.size_drew, World.heap_drewN]; done))) | (with_reducible refine Bk.alloc ?_ _) | (with_reducible refine Bk.drew ?_) | (with_reducible refine Bk.drewN ?_ _) | ((with_reducible refine Bk.far ?_ ?_ _); rotate_left; focus (simp only []; omega)) | ((with_reducible refine Bk.below ?_ (by with_reducible assumption) ?_); rotate_left; focus (go_size; done))))
  have kr_0 := kr.cell 0 rfl
  have kr_1 := kr.cell 1 rfl
  have kr_2 := kr.cell 2 rfl
  have kr_3 := kr.cell 3 rfl
  have kr_4 := kr.frozen 0
  have kr_5 := kr.frozen 1
  have kr_6 := kr.frozen 2
  have kr_7 := kr.frozen 3
  have krl := kr.lt
  clear hb1c hb1f ka kb kr
  go_wp2_with fail
  refine bodyPost_ret (by simp [results, Try.results45, go_sem, *]; try rfl) rfl ?_
  exact ⟨rfl, by (repeat' (first | (with_reducible exact Below.refl _ _) | (with_reducible assumption) | (with_reducible refine Below.drew ?_) | (with_reducible refine below_drewN ?_ _) | ((with_reducible refine Below.alloc ?_ ?_ _); rotate_left; focus (go_size; done)) | ((with_reducible refine Below.setCell ?_ ?_ _); rotate_left; focus (go_size; done)) | ((with_reducible refine Below.trans ?_ (Below.mono (by with_reducible assumption) ?_)); rotate_left; focus (go_size; done))))⟩
set_option maxHeartbeats 2000000 in
theorem docmul_bad (b : Bool) (c : Nat) (s : Int) (b' : Bool) (c' : Nat) (s' : Int) (hc : c < 2 ^ 128) (hc' : c' < 2 ^ 128) (h : (dform b c s && dform b' c' s') = false) (w : World) :
    Calls Try.prog 40 #[.agg #[.bool b, .int .u64 (wd (c) 1), .int .u64 (wd (c) 0), .int .i64 s], .agg #[.bool b', .int .u64 (wd (c') 1), .int .u64 (wd (c') 0), .int .i64 s']] w fun e w' => e = .returned (.tuple #[.agg #[.bool false, .int .u64 0, .int .u64 0, .int .i64 0], .int .i64 2]) ∧ Below w.heap.size w w' := by
  have HF := Lib.hid (fun W => forms_any b c s b' c' s' hc hc' W)
  rw [h] at HF
  generalize wd c 0 = x0 at *
  generalize wd c 1 = x1 at *
  generalize wd c' 0 = y0 at *
  generalize wd c' 1 = y1 at *
  clear hc hc' h
  go_enter Try.func40, Try.ntmps40
  go_wp2_with fail
  refine (HF.out _).mono ?_
  rintro _ w1 ⟨rfl, hb1⟩; have hb1s := hb1.size; (try simp only [World.size_alloc, World.size_setCell, World.size_drew, World.heap_drewN] at hb1s); obtain ⟨hb1c, hb1f⟩ := bcell hb1; (try have : w.heap.size < w1.heap.size := by omega); (try have : w.heap.size + 1 < w1.heap.size := by omega); (try have : w.heap.size + 1 + 1 < w1.heap.size := by omega); (try have : w.heap.size + 1 + 1 + 1 < w1.heap.size := by omega)
  have kr : Bk w1 (w.heap.size + 1 + 1) 26 [.bool false, .int .u64 0, .int .u64 0, .int .i64 0] := by (repeat (first | (with_reducible assumption) | ((with_reducible refine Bk.new_ ?_); (first | rfl | (simp only [World.size_alloc, World.size_setCell, World.size_drew, World.heap_drewN]; done))) | (with_reducible refine Bk.alloc ?_ _) | (with_reducible refine Bk.drew ?_) | (with_reducible refine Bk.drewN ?_ _) | ((with_reducible refine Bk.far ?_ ?_ _); rotate_left; focus (simp only []; omega)) | ((with_reducible refine Bk.below ?_ (by with_reducible assumption) ?_); rotate_left; focus (go_size; done))))
  have kr_0 := kr.cell 0 rfl
  have kr_1 := kr.cell 1 rfl
  have kr_2 := kr.cell 2 rfl
  have kr_3 := kr.cell 3 rfl
  have kr_4 := kr.frozen 0
  have kr_5 := kr.frozen 1
  have kr_6 := kr.frozen 2
  have kr_7 := kr.frozen 3
  have krl := kr.lt
  clear hb1c hb1f kr
  go_wp2_with fail
  refine bodyPost_ret (by simp [results, Try.results40, go_sem, *]; try rfl) rfl ?_
  exact ⟨rfl, by (repeat' (first | (with_reducible exact Below.refl _ _) | (with_reducible assumption) | (with_reducible refine Below.drew ?_) | (with_reducible refine below_drewN ?_ _) | ((with_reducible refine Below.alloc ?_ ?_ _); rotate_left; focus (go_size; done)) | ((with_reducible refine Below.setCell ?_ ?_ _); rotate_left; focus (go_size; done)) | ((with_reducible refine Below.trans ?_ (Below.mono (by with_reducible assumption) ?_)); rotate_left; focus (go_size; done))))⟩
set_option maxHeartbeats 2000000 in
theorem docdiv_bad (b : Bool) (c : Nat) (s : Int) (b' : Bool) (c' : Nat) (s' : Int) (hc : c < 2 ^ 128) (hc' : c' < 2 ^ 128) (h : (dform b c s && dform b' c' s') = false) (w : World) :
    Calls Try.prog 42 #[.agg #[.bool b, .int .u64 (wd (c) 1), .int .u64 (wd (c) 0), .int .i64 s], .agg #[.bool b', .int .u64 (wd (c') 1), .int .u64 (wd (c') 0), .int .i64 s']] w fun e w' => e = .returned (.tuple #[.agg #[.bool false, .int .u64 0, .int .u64 0, .int .i64 0], .int .i64 2]) ∧ Below w.heap.size w w' := by
  have HF := Lib.hid (fun W => forms_any b c s b' c' s' hc hc' W)
  rw [h] at HF
  generalize wd c 0 = x0 at *
  generalize wd c 1 = x1 at *
  generalize wd c' 0 = y0 at *
  generalize wd c' 1 = y1 at *
  clear hc hc' h
  go_enter Try.func42, Try.ntmps42
  go_wp2_with fail
  refine (HF.out _).mono ?_
  rintro _ w1 ⟨rfl, hb1⟩; have hb1s := hb1.size; (try simp only [World.size_alloc, World.size_setCell, World.size_drew, World.heap_drewN] at hb1s); obtain ⟨hb1c, hb1f⟩ := bcell hb1; (try have : w.heap.size < w1.heap.size := by omega); (try have : w.heap.size + 1 < w1.heap.size := by omega); (try have : w.heap.size + 1 + 1 < w1.heap.size := by omega); (try have : w.heap.size + 1 + 1 + 1 < w1.heap.size := by omega)
  have kr : Bk w1 (w.heap.size + 1 + 1) 26 [.bool false, .int .u64 0, .int .u64 0, .int .i64 0] := by (repeat (first | (with_reducible assumption) | ((with_reducible refine Bk.new_ ?_); (first | rfl | (simp only [World.size_alloc, World.size_setCell, World.size_drew, World.heap_drewN]; done))) | (with_reducible refine Bk.alloc ?_ _) | (with_reducible refine Bk.drew ?_) | (with_reducible refine Bk.drewN ?_ _) | ((with_reducible refine Bk.far ?_ ?_ _); rotate_left; focus (simp only []; omega)) | ((with_reducible refine Bk.below ?_ (by with_reducible assumption) ?_); rotate_left; focus (go_size; done))))
  have kr_0 := kr.cell 0 rfl
  have kr_1 := kr.cell 1 rfl
  have kr_2 := kr.cell 2 rfl
  have kr_3 := kr.cell 3 rfl
  have kr_4 := kr.frozen 0
  have kr_5 := kr.frozen 1
  have kr_6 := kr.frozen 2
  have kr_7 := kr.frozen 3
  have krl := kr.lt
  clear hb1c hb1f kr
  go_wp2_with fail
  refine bodyPost_ret (by simp [results, Try.results42, go_sem, *]; try rfl) rfl ?_
  exact ⟨rfl, by (repeat' (first | (with_reducible exact Below.refl _ _) | (with_reducible assumption) | (with_reducible refine Below.drew ?_) | (with_reducible refine below_drewN ?_ _) | ((with_reducible refine Below.alloc ?_ ?_ _); rotate_left; focus (go_size; done)) | ((with_reducible refine Below.setCell ?_ ?_ _); rotate_left; focus (go_size; done)) | ((with_reducible refine Below.trans ?_ (Below.mono (by with_reducible assumption) ?_)); rotate_left; focus (go_size; done))))⟩
set_option maxHeartbeats 2000000 in
theorem docmod_bad (b : Bool) (c : Nat) (s : Int) (b' : Bool) (c' : Nat) (s' : Int) (hc : c < 2 ^ 128) (hc' : c' < 2 ^ 128) (h : (dform b c s && dform b' c' s') = false) (w : World) :
    Calls Try.prog 44 #[.agg #[.bool b, .int .u64 (wd (c) 1), .int .u64 (wd (c) 0), .int .i64 s], .agg #[.bool b', .int .u64 (wd (c') 1), .int .u64 (wd (c') 0), .int .i64 s']] w fun e w' => e = .returned (.tuple #[.agg #[.bool false, .int .u64 0, .int .u64 0, .int .i64 0], .int .i64 2]) ∧ Below w.heap.size w w' := by
  have HF := Lib.hid (fun W => forms_any b c s b' c' s' hc hc' W)
  rw [h] at HF
  generalize wd c 0 = x0 at *
  generalize wd c 1 = x1 at *
  generalize wd c' 0 = y0 at *
  generalize wd c' 1 = y1 at *
  clear hc hc' h
  go_enter Try.func44, Try.ntmps44
  go_wp2_with fail
  refine (HF.out _).mono ?_
  rintro _ w1 ⟨rfl, hb1⟩; have hb1s := hb1.size; (try simp only [World.size_alloc, World.size_setCell, World.size_drew, World.heap_drewN] at hb1s); obtain ⟨hb1c, hb1f⟩ := bcell hb1; (try have : w.heap.size < w1.heap.size := by omega); (try have : w.heap.size + 1 < w1.heap.size := by omega); (try have : w.heap.size + 1 + 1 < w1.heap.size := by omega); (try have : w.heap.size + 1 + 1 + 1 < w1.heap.size := by omega)
  have kr : Bk w1 (w.heap.size + 1 + 1) 26 [.bool false, .int .u64 0, .int .u64 0, .int .i64 0] := by (repeat (first | (with_reducible assumption) | ((with_reducible refine Bk.new_ ?_); (first | rfl | (simp only [World.size_alloc, World.size_setCell, World.size_drew, World.heap_drewN]; done))) | (with_reducible refine Bk.alloc ?_ _) | (with_reducible refine Bk.drew ?_) | (with_reducible refine Bk.drewN ?_ _) | ((with_reducible refine Bk.far ?_ ?_ _); rotate_left; focus (simp only []; omega)) | ((with_reducible refine Bk.below ?_ (by with_reducible assumption) ?_); rotate_left; focus (go_size; done))))
  have kr_0 := kr.cell 0 rfl
  have kr_1 := kr.cell 1 rfl
  have kr_2 := kr.cell 2 rfl
  have kr_3 := kr.cell 3 rfl
  have kr_4 := kr.frozen 0
  have kr_5 := kr.frozen 1
  have kr_6 := kr.frozen 2
  have kr_7 := kr.frozen 3
  have krl := kr.lt
  clear hb1c hb1f kr
  go_wp2_with fail
  refine bodyPost_ret (by simp [results, Try.results44, go_sem, *]; try rfl) rfl ?_
  exact ⟨rfl, by (repeat' (first | (with_reducible exact Below.refl _ _) | (with_reducible assumption) | (with_reducible refine Below.drew ?_) | (with_reducible refine below_drewN ?_ _) | ((with_reducible refine Below.alloc ?_ ?_ _); rotate_left; focus (go_size; done)) | ((with_reducible refine Below.setCell ?_ ?_ _); rotate_left; focus (go_size; done)) | ((with_reducible refine Below.trans ?_ (Below.mono (by with_reducible assumption) ?_)); rotate_left; focus (go_size; done))))⟩
theorem mul_small {c c' : Nat} (hc : c < B34) (hc' : c' < B34) : c * c' < 10 ^ 68 := by
  have := Nat.mul_lt_mul'' hc hc'
  rwa [show B34 * B34 = 10 ^ 68 by unfold B34; decide] at this
set_option maxRecDepth 100000 in
set_option maxHeartbeats 8000000 in
theorem dmul_ok (b : Bool) (c s : Nat) (b' : Bool) (c' s' : Nat) (h : dform b c s = true) (h' : dform b' c' s' = true) (hc : c < B34) (hc' : c' < B34) (hs : s ≤ 18) (hs' : s' ≤ 18) (w : World) :
    Calls Try.prog 41 #[.agg #[.bool b, .int .u64 (wd (c) 1), .int .u64 (wd (c) 0), .int .i64 s], .agg #[.bool b', .int .u64 (wd (c') 1), .int .u64 (wd (c') 0), .int .i64 s']] w fun e w' => e = .returned (.tuple #[.agg #[.bool (sg (b != b') (FitC ((c * c')) (10 ^ (s + s')))), .int .u64 (wd (FitC ((c * c')) (10 ^ (s + s'))) 1), .int .u64 (wd (FitC ((c * c')) (10 ^ (s + s'))) 0), .int .i64 (FitS ((c * c')) (10 ^ (s + s')))], .int .i64 (FitE (c * c') (10 ^ (s + s')))]) ∧ Below w.heap.size w w' := by
  have HF := Lib.hid (fun g W hg => formed_two b c s (Nat.lt_trans hc B34_lt) b' c' s' (Nat.lt_trans hc' B34_lt) g W hg)
  rw [h, h'] at HF
  simp only [ferr, Bool.and_true, if_true] at HF
  have hp : c * c' < 2 ^ 256 := Nat.lt_trans (mul_small hc hc') (by decide)
  have HM := Lib.hid (fun W => mul_any c c' (Nat.lt_trans hc B34_lt) (Nat.lt_trans hc' B34_lt) W)
  have hgs : IntKind.i64.wrap ((s : Int) + (s' : Int)) = (s : Int) + (s' : Int) := IntWalk.i64_in _ (by omega)
  have HT : Hid (∀ W, Calls Try.prog 51 #[.bool (b != b'), .agg #[.int .u64 (wd (c * c') 0), .int .u64 (wd (c * c') 1), .int .u64 (wd (c * c') 2), .int .u64 (wd (c * c') 3)], .int .i64 ((s : Int) + (s' : Int))] W fun e w' => e = .returned (.tuple #[.agg #[.bool (sg (b != b') (FitC ((c * c')) (10 ^ (s + s')))), .int .u64 (wd (FitC ((c * c')) (10 ^ (s + s'))) 1), .int .u64 (wd (FitC ((c * c')) (10 ^ (s + s'))) 0), .int .i64 (FitS ((c * c')) (10 ^ (s + s')))], .int .i64 (FitE (c * c') (10 ^ (s + s')))]) ∧ Below W.heap.size W w') := Lib.hid (fun W => by
    have := fit_any (b != b') (c * c') (s + s') hp (by omega) W
    rwa [Int.natCast_add] at this)
  generalize FitC (c * c') (10 ^ (s + s')) = C at *
  generalize FitS (c * c') (10 ^ (s + s')) = S at *
  generalize FitE (c * c') (10 ^ (s + s')) = E at *
  generalize c * c' = P at *
  generalize wd P 0 = P0 at *
  generalize wd P 1 = P1 at *
  generalize wd P 2 = P2 at *
  generalize wd P 3 = P3 at *
  generalize wd c 0 = x0 at *
  generalize wd c 1 = x1 at *
  generalize wd c' 0 = y0 at *
  generalize wd c' 1 = y1 at *
  clear hc hc' h h' hp
  have s0 : (0 : Int) ≤ (s : Int) := by omega
  have s0' : (0 : Int) ≤ (s' : Int) := by omega
  have s8 : (s : Int) ≤ 18 := by omega
  have s8' : (s' : Int) ≤ 18 := by omega
  clear hs hs'
  obtain ⟨sI, hsI⟩ : ∃ sI : Int, sI = (s : Int) := ⟨_, rfl⟩
  obtain ⟨sJ, hsJ⟩ : ∃ sJ : Int, sJ = (s' : Int) := ⟨_, rfl⟩
  rw [← hsI] at s0 s8 HF HT hgs ⊢
  rw [← hsJ] at s0' s8' HF HT hgs ⊢
  clear hsI hsJ
  obtain ⟨s, rfl⟩ : ∃ s, s = sI := ⟨_, rfl⟩
  obtain ⟨s', rfl⟩ : ∃ s', s' = sJ := ⟨_, rfl⟩
  obtain ⟨nb, hnb⟩ : ∃ nb, nb = (b != b') := ⟨_, rfl⟩
  rw [← hnb] at HT ⊢
  have gb : (b != b') = nb := hnb.symm
  clear hnb
  have GB := Lib.hid gb
  clear gb
  cases b <;> cases b'
  · obtain rfl : nb = false := GB.out.symm
    go_enter Try.func41, Try.ntmps41
    go_wp2_with fail
    (with_reducible refine (HF.out _ _ ?hg).mono ?_)
    case hg => ((repeat (first | (with_reducible assumption) | ((with_reducible refine Bk.new_ ?_); (first | rfl | (simp only [World.size_alloc, World.size_setCell, World.size_drew, World.heap_drewN]; done))) | (with_reducible refine Bk.alloc ?_ _) | (with_reducible refine Bk.drew ?_) | (with_reducible refine Bk.drewN ?_ _) | ((with_reducible refine Bk.far ?_ ?_ _); rotate_left; focus (simp only []; omega)) | ((with_reducible refine Bk.below ?_ (by with_reducible assumption) ?_); rotate_left; focus (go_size; done)))); done)
    rintro _ w1 ⟨rfl, hb1⟩; have hb1s := hb1.size; (try simp only [World.size_alloc, World.size_setCell, World.size_drew, World.heap_drewN] at hb1s); obtain ⟨hb1c, hb1f⟩ := bcell hb1; (try have : w.heap.size < w1.heap.size := by omega); (try have : w.heap.size + 1 < w1.heap.size := by omega); (try have : w.heap.size + 1 + 1 < w1.heap.size := by omega); (try have : w.heap.size + 1 + 1 + 1 < w1.heap.size := by omega)
    have ka : Bk w1 (w.heap.size) 26 [.bool false, .int .u64 x1, .int .u64 x0, .int .i64 s] := by (repeat (first | (with_reducible assumption) | ((with_reducible refine Bk.new_ ?_); (first | rfl | (simp only [World.size_alloc, World.size_setCell, World.size_drew, World.heap_drewN]; done))) | (with_reducible refine Bk.alloc ?_ _) | (with_reducible refine Bk.drew ?_) | (with_reducible refine Bk.drewN ?_ _) | ((with_reducible refine Bk.far ?_ ?_ _); rotate_left; focus (simp only []; omega)) | ((with_reducible refine Bk.below ?_ (by with_reducible assumption) ?_); rotate_left; focus (go_size; done))))
    have ka_0 := ka.cell 0 rfl
    have ka_1 := ka.cell 1 rfl
    have ka_2 := ka.cell 2 rfl
    have ka_3 := ka.cell 3 rfl
    have ka_4 := ka.frozen 0
    have ka_5 := ka.frozen 1
    have ka_6 := ka.frozen 2
    have ka_7 := ka.frozen 3
    have kal := ka.lt
    have kb : Bk w1 (w.heap.size + 1) 26 [.bool false, .int .u64 y1, .int .u64 y0, .int .i64 s'] := by (repeat (first | (with_reducible assumption) | ((with_reducible refine Bk.new_ ?_); (first | rfl | (simp only [World.size_alloc, World.size_setCell, World.size_drew, World.heap_drewN]; done))) | (with_reducible refine Bk.alloc ?_ _) | (with_reducible refine Bk.drew ?_) | (with_reducible refine Bk.drewN ?_ _) | ((with_reducible refine Bk.far ?_ ?_ _); rotate_left; focus (simp only []; omega)) | ((with_reducible refine Bk.below ?_ (by with_reducible assumption) ?_); rotate_left; focus (go_size; done))))
    have kb_0 := kb.cell 0 rfl
    have kb_1 := kb.cell 1 rfl
    have kb_2 := kb.cell 2 rfl
    have kb_3 := kb.cell 3 rfl
    have kb_4 := kb.frozen 0
    have kb_5 := kb.frozen 1
    have kb_6 := kb.frozen 2
    have kb_7 := kb.frozen 3
    have kbl := kb.lt
    have kr : Bk w1 (w.heap.size + 1 + 1) 26 [.bool false, .int .u64 0, .int .u64 0, .int .i64 0] := by (repeat (first | (with_reducible assumption) | ((with_reducible refine Bk.new_ ?_); (first | rfl | (simp only [World.size_alloc, World.size_setCell, World.size_drew, World.heap_drewN]; done))) | (with_reducible refine Bk.alloc ?_ _) | (with_reducible refine Bk.drew ?_) | (with_reducible refine Bk.drewN ?_ _) | ((with_reducible refine Bk.far ?_ ?_ _); rotate_left; focus (simp only []; omega)) | ((with_reducible refine Bk.below ?_ (by with_reducible assumption) ?_); rotate_left; focus (go_size; done))))
    have kr_0 := kr.cell 0 rfl
    have kr_1 := kr.cell 1 rfl
    have kr_2 := kr.cell 2 rfl
    have kr_3 := kr.cell 3 rfl
    have kr_4 := kr.frozen 0
    have kr_5 := kr.frozen 1
    have kr_6 := kr.frozen 2
    have kr_7 := kr.frozen 3
    have krl := kr.lt
    clear hb1c hb1f
    go_wp2_with fail
    go_region_held3 (fun w' => (w'.cell? ⟨w.heap.size, 0, none⟩ = some (.bool false) ∧ w'.cell? ⟨w.heap.size, 1, none⟩ = some (.int .u64 x1) ∧ w'.cell? ⟨w.heap.size, 2, none⟩ = some (.int .u64 x0) ∧ w'.cell? ⟨w.heap.size, 3, none⟩ = some (.int .i64 s)) ∧ (w'.cell? ⟨(w.heap.size + 1), 0, none⟩ = some (.bool false) ∧ w'.cell? ⟨(w.heap.size + 1), 1, none⟩ = some (.int .u64 y1) ∧ w'.cell? ⟨(w.heap.size + 1), 2, none⟩ = some (.int .u64 y0) ∧ w'.cell? ⟨(w.heap.size + 1), 3, none⟩ = some (.int .i64 s'))) (first | (first | (go_keep; done) | (simp [go_sem]; done) | ((try dsimp only); (repeat' apply And.intro) <;> (first | (with_reducible assumption) | ((rw [World.cell?_alloc_lt _ _ _ (by show _ < _; omega)]); go_split_ands; (first | with_reducible assumption | (refine (World.cell?_alloc_lt _ _ _ (by show _ < _; omega)).symm.trans ?_; with_reducible assumption))) | ((rw [World.cell?_setCell_other _ _ _ _ (by intro e; injection e; omega)]); with_reducible assumption) | (go_keep; done) | (simp [go_sem]; done) | (simp (disch := go_size) [*, World.cell?_alloc_some, World.cell?_setCell_far]; done)))) | ((refine ⟨?_, ?_⟩) <;> (first | ((refine ⟨Bk.cell (t := 26) (cs := [.bool false, .int .u64 x1, .int .u64 x0, .int .i64 s]) ?_ 0 rfl, Bk.cell (t := 26) (cs := [.bool false, .int .u64 x1, .int .u64 x0, .int .i64 s]) ?_ 1 rfl, Bk.cell (t := 26) (cs := [.bool false, .int .u64 x1, .int .u64 x0, .int .i64 s]) ?_ 2 rfl, Bk.cell (t := 26) (cs := [.bool false, .int .u64 x1, .int .u64 x0, .int .i64 s]) ?_ 3 rfl⟩) <;> ((repeat (first | (with_reducible assumption) | ((with_reducible refine Bk.new_ ?_); (first | rfl | (simp only [World.size_alloc, World.size_setCell, World.size_drew, World.heap_drewN]; done))) | (with_reducible refine Bk.alloc ?_ _) | (with_reducible refine Bk.drew ?_) | (with_reducible refine Bk.drewN ?_ _) | ((with_reducible refine Bk.far ?_ ?_ _); rotate_left; focus (simp only []; omega)) | ((with_reducible refine Bk.below ?_ (by with_reducible assumption) ?_); rotate_left; focus (go_size; done)))); done)) | ((refine ⟨Bk.cell (t := 26) (cs := [.bool false, .int .u64 y1, .int .u64 y0, .int .i64 s']) ?_ 0 rfl, Bk.cell (t := 26) (cs := [.bool false, .int .u64 y1, .int .u64 y0, .int .i64 s']) ?_ 1 rfl, Bk.cell (t := 26) (cs := [.bool false, .int .u64 y1, .int .u64 y0, .int .i64 s']) ?_ 2 rfl, Bk.cell (t := 26) (cs := [.bool false, .int .u64 y1, .int .u64 y0, .int .i64 s']) ?_ 3 rfl⟩) <;> ((repeat (first | (with_reducible assumption) | ((with_reducible refine Bk.new_ ?_); (first | rfl | (simp only [World.size_alloc, World.size_setCell, World.size_drew, World.heap_drewN]; done))) | (with_reducible refine Bk.alloc ?_ _) | (with_reducible refine Bk.drew ?_) | (with_reducible refine Bk.drewN ?_ _) | ((with_reducible refine Bk.far ?_ ?_ _); rotate_left; focus (simp only []; omega)) | ((with_reducible refine Bk.below ?_ (by with_reducible assumption) ?_); rotate_left; focus (go_size; done)))); done))))) (first | (go_at_call 77; (with_reducible refine (HM.out _).mono ?_); rintro _ w4 ⟨rfl, hb4⟩; have hb4s := hb4.size; (try simp only [World.size_alloc, World.size_setCell, World.size_drew, World.heap_drewN] at hb4s); obtain ⟨hb4c, hb4f⟩ := bcell hb4; (try have : w.heap.size < w4.heap.size := by omega); (try have : w.heap.size + 1 < w4.heap.size := by omega); (try have : w.heap.size + 1 + 1 < w4.heap.size := by omega); (try have : w.heap.size + 1 + 1 + 1 < w4.heap.size := by omega); (try have : w1.heap.size < w4.heap.size := by omega); (try have : w1.heap.size + 1 < w4.heap.size := by omega); (try have : w1.heap.size + 1 + 1 < w4.heap.size := by omega); (try have : w1.heap.size + 1 + 1 + 1 < w4.heap.size := by omega)) | (go_at_call 51; (with_reducible refine (HT.out _).mono ?_); rintro _ w5 ⟨rfl, hb5⟩; have hb5s := hb5.size; (try simp only [World.size_alloc, World.size_setCell, World.size_drew, World.heap_drewN] at hb5s); obtain ⟨hb5c, hb5f⟩ := bcell hb5; (try have : w.heap.size < w5.heap.size := by omega); (try have : w.heap.size + 1 < w5.heap.size := by omega); (try have : w.heap.size + 1 + 1 < w5.heap.size := by omega); (try have : w.heap.size + 1 + 1 + 1 < w5.heap.size := by omega); have zr : Bk w5 (w.heap.size + 1 + 1) 26 [.bool false, .int .u64 0, .int .u64 0, .int .i64 0] := (by (repeat (first | (with_reducible assumption) | ((with_reducible refine Bk.new_ ?_); (first | rfl | (simp only [World.size_alloc, World.size_setCell, World.size_drew, World.heap_drewN]; done))) | (with_reducible refine Bk.alloc ?_ _) | (with_reducible refine Bk.drew ?_) | (with_reducible refine Bk.drewN ?_ _) | ((with_reducible refine Bk.far ?_ ?_ _); rotate_left; focus (simp only []; omega)) | ((with_reducible refine Bk.below ?_ (by with_reducible assumption) ?_); rotate_left; focus (go_size; done))))); have zr_0 := zr.cell 0 rfl; have zr_1 := zr.cell 1 rfl; have zr_2 := zr.cell 2 rfl; have zr_3 := zr.cell 3 rfl; have zr_4 := zr.frozen 0; have zr_5 := zr.frozen 1; have zr_6 := zr.frozen 2; have zr_7 := zr.frozen 3; have zrl := zr.lt; clear hb5c hb5f; (try have : w1.heap.size < w5.heap.size := by omega); (try have : w1.heap.size + 1 < w5.heap.size := by omega); (try have : w1.heap.size + 1 + 1 < w5.heap.size := by omega); (try have : w1.heap.size + 1 + 1 + 1 < w5.heap.size := by omega); (try have : w4.heap.size < w5.heap.size := by omega); (try have : w4.heap.size + 1 < w5.heap.size := by omega); (try have : w4.heap.size + 1 + 1 < w5.heap.size := by omega); (try have : w4.heap.size + 1 + 1 + 1 < w5.heap.size := by omega)))
    all_goals
      refine wp_named (fun W => Bk W (w.heap.size + 1 + 1) 26 [.bool (sg false C), .int .u64 (wd C 1), .int .u64 (wd C 0), .int .i64 (S : Int)] ∧ Below w.heap.size w W) ⟨?h1, ?h2⟩ ?_
      case h1 => (first | ((repeat (first | (with_reducible assumption) | ((with_reducible refine Bk.new_ ?_); (first | rfl | (simp only [World.size_alloc, World.size_setCell, World.size_drew, World.heap_drewN]; done))) | (with_reducible refine Bk.alloc ?_ _) | (with_reducible refine Bk.drew ?_) | (with_reducible refine Bk.drewN ?_ _) | ((with_reducible refine Bk.far ?_ ?_ _); rotate_left; focus (simp only []; omega)) | ((with_reducible refine Bk.below ?_ (by with_reducible assumption) ?_); rotate_left; focus (go_size; done)))); done) | ((repeat (first | (with_reducible refine Bk.alloc ?_ _) | (with_reducible refine Bk.drew ?_) | ((with_reducible refine Bk.far ?_ ?_ _); rotate_left; focus (simp only []; omega)))); (refine ((((?_ : Bk _ _ _ [.bool false, .int .u64 0, .int .u64 0, .int .i64 0]).set_ 0 _).set_ 1 _).set_ 2 _).set_ 3 _); (repeat (first | (with_reducible assumption) | ((with_reducible refine Bk.new_ ?_); (first | rfl | (simp only [World.size_alloc, World.size_setCell, World.size_drew, World.heap_drewN]; done))) | (with_reducible refine Bk.alloc ?_ _) | (with_reducible refine Bk.drew ?_) | (with_reducible refine Bk.drewN ?_ _) | ((with_reducible refine Bk.far ?_ ?_ _); rotate_left; focus (simp only []; omega)) | ((with_reducible refine Bk.below ?_ (by with_reducible assumption) ?_); rotate_left; focus (go_size; done))))); done)
      case h2 => ((repeat' (first | (with_reducible exact Below.refl _ _) | (with_reducible assumption) | (with_reducible refine Below.drew ?_) | (with_reducible refine below_drewN ?_ _) | ((with_reducible refine Below.alloc ?_ ?_ _); rotate_left; focus (go_size; done)) | ((with_reducible refine Below.setCell ?_ ?_ _); rotate_left; focus (go_size; done)) | ((with_reducible refine Below.trans ?_ (Below.mono (by with_reducible assumption) ?_)); rotate_left; focus (go_size; done)))); done)
      rintro W ⟨k1, mb⟩
      have k1_0 := k1.cell 0 rfl
      have k1_1 := k1.cell 1 rfl
      have k1_2 := k1.cell 2 rfl
      have k1_3 := k1.cell 3 rfl
      have k1_4 := k1.frozen 0
      have k1_5 := k1.frozen 1
      have k1_6 := k1.frozen 2
      have k1_7 := k1.frozen 3
      go_wp2_with fail
      refine bodyPost_ret (by simp [results, Try.results41, go_sem, *]; try rfl) rfl ?_
      exact ⟨rfl, by (repeat' (first | (with_reducible exact Below.refl _ _) | (with_reducible assumption) | (with_reducible refine Below.drew ?_) | (with_reducible refine below_drewN ?_ _) | ((with_reducible refine Below.alloc ?_ ?_ _); rotate_left; focus (go_size; done)) | ((with_reducible refine Below.setCell ?_ ?_ _); rotate_left; focus (go_size; done)) | ((with_reducible refine Below.trans ?_ (Below.mono (by with_reducible assumption) ?_)); rotate_left; focus (go_size; done))))⟩
  · obtain rfl : nb = true := GB.out.symm
    go_enter Try.func41, Try.ntmps41
    go_wp2_with fail
    (with_reducible refine (HF.out _ _ ?hg).mono ?_)
    case hg => ((repeat (first | (with_reducible assumption) | ((with_reducible refine Bk.new_ ?_); (first | rfl | (simp only [World.size_alloc, World.size_setCell, World.size_drew, World.heap_drewN]; done))) | (with_reducible refine Bk.alloc ?_ _) | (with_reducible refine Bk.drew ?_) | (with_reducible refine Bk.drewN ?_ _) | ((with_reducible refine Bk.far ?_ ?_ _); rotate_left; focus (simp only []; omega)) | ((with_reducible refine Bk.below ?_ (by with_reducible assumption) ?_); rotate_left; focus (go_size; done)))); done)
    rintro _ w1 ⟨rfl, hb1⟩; have hb1s := hb1.size; (try simp only [World.size_alloc, World.size_setCell, World.size_drew, World.heap_drewN] at hb1s); obtain ⟨hb1c, hb1f⟩ := bcell hb1; (try have : w.heap.size < w1.heap.size := by omega); (try have : w.heap.size + 1 < w1.heap.size := by omega); (try have : w.heap.size + 1 + 1 < w1.heap.size := by omega); (try have : w.heap.size + 1 + 1 + 1 < w1.heap.size := by omega)
    have ka : Bk w1 (w.heap.size) 26 [.bool false, .int .u64 x1, .int .u64 x0, .int .i64 s] := by (repeat (first | (with_reducible assumption) | ((with_reducible refine Bk.new_ ?_); (first | rfl | (simp only [World.size_alloc, World.size_setCell, World.size_drew, World.heap_drewN]; done))) | (with_reducible refine Bk.alloc ?_ _) | (with_reducible refine Bk.drew ?_) | (with_reducible refine Bk.drewN ?_ _) | ((with_reducible refine Bk.far ?_ ?_ _); rotate_left; focus (simp only []; omega)) | ((with_reducible refine Bk.below ?_ (by with_reducible assumption) ?_); rotate_left; focus (go_size; done))))
    have ka_0 := ka.cell 0 rfl
    have ka_1 := ka.cell 1 rfl
    have ka_2 := ka.cell 2 rfl
    have ka_3 := ka.cell 3 rfl
    have ka_4 := ka.frozen 0
    have ka_5 := ka.frozen 1
    have ka_6 := ka.frozen 2
    have ka_7 := ka.frozen 3
    have kal := ka.lt
    have kb : Bk w1 (w.heap.size + 1) 26 [.bool true, .int .u64 y1, .int .u64 y0, .int .i64 s'] := by (repeat (first | (with_reducible assumption) | ((with_reducible refine Bk.new_ ?_); (first | rfl | (simp only [World.size_alloc, World.size_setCell, World.size_drew, World.heap_drewN]; done))) | (with_reducible refine Bk.alloc ?_ _) | (with_reducible refine Bk.drew ?_) | (with_reducible refine Bk.drewN ?_ _) | ((with_reducible refine Bk.far ?_ ?_ _); rotate_left; focus (simp only []; omega)) | ((with_reducible refine Bk.below ?_ (by with_reducible assumption) ?_); rotate_left; focus (go_size; done))))
    have kb_0 := kb.cell 0 rfl
    have kb_1 := kb.cell 1 rfl
    have kb_2 := kb.cell 2 rfl
    have kb_3 := kb.cell 3 rfl
    have kb_4 := kb.frozen 0
    have kb_5 := kb.frozen 1
    have kb_6 := kb.frozen 2
    have kb_7 := kb.frozen 3
    have kbl := kb.lt
    have kr : Bk w1 (w.heap.size + 1 + 1) 26 [.bool false, .int .u64 0, .int .u64 0, .int .i64 0] := by (repeat (first | (with_reducible assumption) | ((with_reducible refine Bk.new_ ?_); (first | rfl | (simp only [World.size_alloc, World.size_setCell, World.size_drew, World.heap_drewN]; done))) | (with_reducible refine Bk.alloc ?_ _) | (with_reducible refine Bk.drew ?_) | (with_reducible refine Bk.drewN ?_ _) | ((with_reducible refine Bk.far ?_ ?_ _); rotate_left; focus (simp only []; omega)) | ((with_reducible refine Bk.below ?_ (by with_reducible assumption) ?_); rotate_left; focus (go_size; done))))
    have kr_0 := kr.cell 0 rfl
    have kr_1 := kr.cell 1 rfl
    have kr_2 := kr.cell 2 rfl
    have kr_3 := kr.cell 3 rfl
    have kr_4 := kr.frozen 0
    have kr_5 := kr.frozen 1
    have kr_6 := kr.frozen 2
    have kr_7 := kr.frozen 3
    have krl := kr.lt
    clear hb1c hb1f
    go_wp2_with fail
    go_region_held3 (fun w' => (w'.cell? ⟨w.heap.size, 0, none⟩ = some (.bool false) ∧ w'.cell? ⟨w.heap.size, 1, none⟩ = some (.int .u64 x1) ∧ w'.cell? ⟨w.heap.size, 2, none⟩ = some (.int .u64 x0) ∧ w'.cell? ⟨w.heap.size, 3, none⟩ = some (.int .i64 s)) ∧ (w'.cell? ⟨(w.heap.size + 1), 0, none⟩ = some (.bool true) ∧ w'.cell? ⟨(w.heap.size + 1), 1, none⟩ = some (.int .u64 y1) ∧ w'.cell? ⟨(w.heap.size + 1), 2, none⟩ = some (.int .u64 y0) ∧ w'.cell? ⟨(w.heap.size + 1), 3, none⟩ = some (.int .i64 s'))) (first | (first | (go_keep; done) | (simp [go_sem]; done) | ((try dsimp only); (repeat' apply And.intro) <;> (first | (with_reducible assumption) | ((rw [World.cell?_alloc_lt _ _ _ (by show _ < _; omega)]); go_split_ands; (first | with_reducible assumption | (refine (World.cell?_alloc_lt _ _ _ (by show _ < _; omega)).symm.trans ?_; with_reducible assumption))) | ((rw [World.cell?_setCell_other _ _ _ _ (by intro e; injection e; omega)]); with_reducible assumption) | (go_keep; done) | (simp [go_sem]; done) | (simp (disch := go_size) [*, World.cell?_alloc_some, World.cell?_setCell_far]; done)))) | ((refine ⟨?_, ?_⟩) <;> (first | ((refine ⟨Bk.cell (t := 26) (cs := [.bool false, .int .u64 x1, .int .u64 x0, .int .i64 s]) ?_ 0 rfl, Bk.cell (t := 26) (cs := [.bool false, .int .u64 x1, .int .u64 x0, .int .i64 s]) ?_ 1 rfl, Bk.cell (t := 26) (cs := [.bool false, .int .u64 x1, .int .u64 x0, .int .i64 s]) ?_ 2 rfl, Bk.cell (t := 26) (cs := [.bool false, .int .u64 x1, .int .u64 x0, .int .i64 s]) ?_ 3 rfl⟩) <;> ((repeat (first | (with_reducible assumption) | ((with_reducible refine Bk.new_ ?_); (first | rfl | (simp only [World.size_alloc, World.size_setCell, World.size_drew, World.heap_drewN]; done))) | (with_reducible refine Bk.alloc ?_ _) | (with_reducible refine Bk.drew ?_) | (with_reducible refine Bk.drewN ?_ _) | ((with_reducible refine Bk.far ?_ ?_ _); rotate_left; focus (simp only []; omega)) | ((with_reducible refine Bk.below ?_ (by with_reducible assumption) ?_); rotate_left; focus (go_size; done)))); done)) | ((refine ⟨Bk.cell (t := 26) (cs := [.bool true, .int .u64 y1, .int .u64 y0, .int .i64 s']) ?_ 0 rfl, Bk.cell (t := 26) (cs := [.bool true, .int .u64 y1, .int .u64 y0, .int .i64 s']) ?_ 1 rfl, Bk.cell (t := 26) (cs := [.bool true, .int .u64 y1, .int .u64 y0, .int .i64 s']) ?_ 2 rfl, Bk.cell (t := 26) (cs := [.bool true, .int .u64 y1, .int .u64 y0, .int .i64 s']) ?_ 3 rfl⟩) <;> ((repeat (first | (with_reducible assumption) | ((with_reducible refine Bk.new_ ?_); (first | rfl | (simp only [World.size_alloc, World.size_setCell, World.size_drew, World.heap_drewN]; done))) | (with_reducible refine Bk.alloc ?_ _) | (with_reducible refine Bk.drew ?_) | (with_reducible refine Bk.drewN ?_ _) | ((with_reducible refine Bk.far ?_ ?_ _); rotate_left; focus (simp only []; omega)) | ((with_reducible refine Bk.below ?_ (by with_reducible assumption) ?_); rotate_left; focus (go_size; done)))); done))))) (first | (go_at_call 77; (with_reducible refine (HM.out _).mono ?_); rintro _ w4 ⟨rfl, hb4⟩; have hb4s := hb4.size; (try simp only [World.size_alloc, World.size_setCell, World.size_drew, World.heap_drewN] at hb4s); obtain ⟨hb4c, hb4f⟩ := bcell hb4; (try have : w.heap.size < w4.heap.size := by omega); (try have : w.heap.size + 1 < w4.heap.size := by omega); (try have : w.heap.size + 1 + 1 < w4.heap.size := by omega); (try have : w.heap.size + 1 + 1 + 1 < w4.heap.size := by omega); (try have : w1.heap.size < w4.heap.size := by omega); (try have : w1.heap.size + 1 < w4.heap.size := by omega); (try have : w1.heap.size + 1 + 1 < w4.heap.size := by omega); (try have : w1.heap.size + 1 + 1 + 1 < w4.heap.size := by omega)) | (go_at_call 51; (with_reducible refine (HT.out _).mono ?_); rintro _ w5 ⟨rfl, hb5⟩; have hb5s := hb5.size; (try simp only [World.size_alloc, World.size_setCell, World.size_drew, World.heap_drewN] at hb5s); obtain ⟨hb5c, hb5f⟩ := bcell hb5; (try have : w.heap.size < w5.heap.size := by omega); (try have : w.heap.size + 1 < w5.heap.size := by omega); (try have : w.heap.size + 1 + 1 < w5.heap.size := by omega); (try have : w.heap.size + 1 + 1 + 1 < w5.heap.size := by omega); have zr : Bk w5 (w.heap.size + 1 + 1) 26 [.bool false, .int .u64 0, .int .u64 0, .int .i64 0] := (by (repeat (first | (with_reducible assumption) | ((with_reducible refine Bk.new_ ?_); (first | rfl | (simp only [World.size_alloc, World.size_setCell, World.size_drew, World.heap_drewN]; done))) | (with_reducible refine Bk.alloc ?_ _) | (with_reducible refine Bk.drew ?_) | (with_reducible refine Bk.drewN ?_ _) | ((with_reducible refine Bk.far ?_ ?_ _); rotate_left; focus (simp only []; omega)) | ((with_reducible refine Bk.below ?_ (by with_reducible assumption) ?_); rotate_left; focus (go_size; done))))); have zr_0 := zr.cell 0 rfl; have zr_1 := zr.cell 1 rfl; have zr_2 := zr.cell 2 rfl; have zr_3 := zr.cell 3 rfl; have zr_4 := zr.frozen 0; have zr_5 := zr.frozen 1; have zr_6 := zr.frozen 2; have zr_7 := zr.frozen 3; have zrl := zr.lt; clear hb5c hb5f; (try have : w1.heap.size < w5.heap.size := by omega); (try have : w1.heap.size + 1 < w5.heap.size := by omega); (try have : w1.heap.size + 1 + 1 < w5.heap.size := by omega); (try have : w1.heap.size + 1 + 1 + 1 < w5.heap.size := by omega); (try have : w4.heap.size < w5.heap.size := by omega); (try have : w4.heap.size + 1 < w5.heap.size := by omega); (try have : w4.heap.size + 1 + 1 < w5.heap.size := by omega); (try have : w4.heap.size + 1 + 1 + 1 < w5.heap.size := by omega)))
    all_goals
      refine wp_named (fun W => Bk W (w.heap.size + 1 + 1) 26 [.bool (sg true C), .int .u64 (wd C 1), .int .u64 (wd C 0), .int .i64 (S : Int)] ∧ Below w.heap.size w W) ⟨?h1, ?h2⟩ ?_
      case h1 => (first | ((repeat (first | (with_reducible assumption) | ((with_reducible refine Bk.new_ ?_); (first | rfl | (simp only [World.size_alloc, World.size_setCell, World.size_drew, World.heap_drewN]; done))) | (with_reducible refine Bk.alloc ?_ _) | (with_reducible refine Bk.drew ?_) | (with_reducible refine Bk.drewN ?_ _) | ((with_reducible refine Bk.far ?_ ?_ _); rotate_left; focus (simp only []; omega)) | ((with_reducible refine Bk.below ?_ (by with_reducible assumption) ?_); rotate_left; focus (go_size; done)))); done) | ((repeat (first | (with_reducible refine Bk.alloc ?_ _) | (with_reducible refine Bk.drew ?_) | ((with_reducible refine Bk.far ?_ ?_ _); rotate_left; focus (simp only []; omega)))); (refine ((((?_ : Bk _ _ _ [.bool false, .int .u64 0, .int .u64 0, .int .i64 0]).set_ 0 _).set_ 1 _).set_ 2 _).set_ 3 _); (repeat (first | (with_reducible assumption) | ((with_reducible refine Bk.new_ ?_); (first | rfl | (simp only [World.size_alloc, World.size_setCell, World.size_drew, World.heap_drewN]; done))) | (with_reducible refine Bk.alloc ?_ _) | (with_reducible refine Bk.drew ?_) | (with_reducible refine Bk.drewN ?_ _) | ((with_reducible refine Bk.far ?_ ?_ _); rotate_left; focus (simp only []; omega)) | ((with_reducible refine Bk.below ?_ (by with_reducible assumption) ?_); rotate_left; focus (go_size; done))))); done)
      case h2 => ((repeat' (first | (with_reducible exact Below.refl _ _) | (with_reducible assumption) | (with_reducible refine Below.drew ?_) | (with_reducible refine below_drewN ?_ _) | ((with_reducible refine Below.alloc ?_ ?_ _); rotate_left; focus (go_size; done)) | ((with_reducible refine Below.setCell ?_ ?_ _); rotate_left; focus (go_size; done)) | ((with_reducible refine Below.trans ?_ (Below.mono (by with_reducible assumption) ?_)); rotate_left; focus (go_size; done)))); done)
      rintro W ⟨k1, mb⟩
      have k1_0 := k1.cell 0 rfl
      have k1_1 := k1.cell 1 rfl
      have k1_2 := k1.cell 2 rfl
      have k1_3 := k1.cell 3 rfl
      have k1_4 := k1.frozen 0
      have k1_5 := k1.frozen 1
      have k1_6 := k1.frozen 2
      have k1_7 := k1.frozen 3
      go_wp2_with fail
      refine bodyPost_ret (by simp [results, Try.results41, go_sem, *]; try rfl) rfl ?_
      exact ⟨rfl, by (repeat' (first | (with_reducible exact Below.refl _ _) | (with_reducible assumption) | (with_reducible refine Below.drew ?_) | (with_reducible refine below_drewN ?_ _) | ((with_reducible refine Below.alloc ?_ ?_ _); rotate_left; focus (go_size; done)) | ((with_reducible refine Below.setCell ?_ ?_ _); rotate_left; focus (go_size; done)) | ((with_reducible refine Below.trans ?_ (Below.mono (by with_reducible assumption) ?_)); rotate_left; focus (go_size; done))))⟩
  · obtain rfl : nb = true := GB.out.symm
    go_enter Try.func41, Try.ntmps41
    go_wp2_with fail
    (with_reducible refine (HF.out _ _ ?hg).mono ?_)
    case hg => ((repeat (first | (with_reducible assumption) | ((with_reducible refine Bk.new_ ?_); (first | rfl | (simp only [World.size_alloc, World.size_setCell, World.size_drew, World.heap_drewN]; done))) | (with_reducible refine Bk.alloc ?_ _) | (with_reducible refine Bk.drew ?_) | (with_reducible refine Bk.drewN ?_ _) | ((with_reducible refine Bk.far ?_ ?_ _); rotate_left; focus (simp only []; omega)) | ((with_reducible refine Bk.below ?_ (by with_reducible assumption) ?_); rotate_left; focus (go_size; done)))); done)
    rintro _ w1 ⟨rfl, hb1⟩; have hb1s := hb1.size; (try simp only [World.size_alloc, World.size_setCell, World.size_drew, World.heap_drewN] at hb1s); obtain ⟨hb1c, hb1f⟩ := bcell hb1; (try have : w.heap.size < w1.heap.size := by omega); (try have : w.heap.size + 1 < w1.heap.size := by omega); (try have : w.heap.size + 1 + 1 < w1.heap.size := by omega); (try have : w.heap.size + 1 + 1 + 1 < w1.heap.size := by omega)
    have ka : Bk w1 (w.heap.size) 26 [.bool true, .int .u64 x1, .int .u64 x0, .int .i64 s] := by (repeat (first | (with_reducible assumption) | ((with_reducible refine Bk.new_ ?_); (first | rfl | (simp only [World.size_alloc, World.size_setCell, World.size_drew, World.heap_drewN]; done))) | (with_reducible refine Bk.alloc ?_ _) | (with_reducible refine Bk.drew ?_) | (with_reducible refine Bk.drewN ?_ _) | ((with_reducible refine Bk.far ?_ ?_ _); rotate_left; focus (simp only []; omega)) | ((with_reducible refine Bk.below ?_ (by with_reducible assumption) ?_); rotate_left; focus (go_size; done))))
    have ka_0 := ka.cell 0 rfl
    have ka_1 := ka.cell 1 rfl
    have ka_2 := ka.cell 2 rfl
    have ka_3 := ka.cell 3 rfl
    have ka_4 := ka.frozen 0
    have ka_5 := ka.frozen 1
    have ka_6 := ka.frozen 2
    have ka_7 := ka.frozen 3
    have kal := ka.lt
    have kb : Bk w1 (w.heap.size + 1) 26 [.bool false, .int .u64 y1, .int .u64 y0, .int .i64 s'] := by (repeat (first | (with_reducible assumption) | ((with_reducible refine Bk.new_ ?_); (first | rfl | (simp only [World.size_alloc, World.size_setCell, World.size_drew, World.heap_drewN]; done))) | (with_reducible refine Bk.alloc ?_ _) | (with_reducible refine Bk.drew ?_) | (with_reducible refine Bk.drewN ?_ _) | ((with_reducible refine Bk.far ?_ ?_ _); rotate_left; focus (simp only []; omega)) | ((with_reducible refine Bk.below ?_ (by with_reducible assumption) ?_); rotate_left; focus (go_size; done))))
    have kb_0 := kb.cell 0 rfl
    have kb_1 := kb.cell 1 rfl
    have kb_2 := kb.cell 2 rfl
    have kb_3 := kb.cell 3 rfl
    have kb_4 := kb.frozen 0
    have kb_5 := kb.frozen 1
    have kb_6 := kb.frozen 2
    have kb_7 := kb.frozen 3
    have kbl := kb.lt
    have kr : Bk w1 (w.heap.size + 1 + 1) 26 [.bool false, .int .u64 0, .int .u64 0, .int .i64 0] := by (repeat (first | (with_reducible assumption) | ((with_reducible refine Bk.new_ ?_); (first | rfl | (simp only [World.size_alloc, World.size_setCell, World.size_drew, World.heap_drewN]; done))) | (with_reducible refine Bk.alloc ?_ _) | (with_reducible refine Bk.drew ?_) | (with_reducible refine Bk.drewN ?_ _) | ((with_reducible refine Bk.far ?_ ?_ _); rotate_left; focus (simp only []; omega)) | ((with_reducible refine Bk.below ?_ (by with_reducible assumption) ?_); rotate_left; focus (go_size; done))))
    have kr_0 := kr.cell 0 rfl
    have kr_1 := kr.cell 1 rfl
    have kr_2 := kr.cell 2 rfl
    have kr_3 := kr.cell 3 rfl
    have kr_4 := kr.frozen 0
    have kr_5 := kr.frozen 1
    have kr_6 := kr.frozen 2
    have kr_7 := kr.frozen 3
    have krl := kr.lt
    clear hb1c hb1f
    go_wp2_with fail
    go_region_held3 (fun w' => (w'.cell? ⟨w.heap.size, 0, none⟩ = some (.bool true) ∧ w'.cell? ⟨w.heap.size, 1, none⟩ = some (.int .u64 x1) ∧ w'.cell? ⟨w.heap.size, 2, none⟩ = some (.int .u64 x0) ∧ w'.cell? ⟨w.heap.size, 3, none⟩ = some (.int .i64 s)) ∧ (w'.cell? ⟨(w.heap.size + 1), 0, none⟩ = some (.bool false) ∧ w'.cell? ⟨(w.heap.size + 1), 1, none⟩ = some (.int .u64 y1) ∧ w'.cell? ⟨(w.heap.size + 1), 2, none⟩ = some (.int .u64 y0) ∧ w'.cell? ⟨(w.heap.size + 1), 3, none⟩ = some (.int .i64 s'))) (first | (first | (go_keep; done) | (simp [go_sem]; done) | ((try dsimp only); (repeat' apply And.intro) <;> (first | (with_reducible assumption) | ((rw [World.cell?_alloc_lt _ _ _ (by show _ < _; omega)]); go_split_ands; (first | with_reducible assumption | (refine (World.cell?_alloc_lt _ _ _ (by show _ < _; omega)).symm.trans ?_; with_reducible assumption))) | ((rw [World.cell?_setCell_other _ _ _ _ (by intro e; injection e; omega)]); with_reducible assumption) | (go_keep; done) | (simp [go_sem]; done) | (simp (disch := go_size) [*, World.cell?_alloc_some, World.cell?_setCell_far]; done)))) | ((refine ⟨?_, ?_⟩) <;> (first | ((refine ⟨Bk.cell (t := 26) (cs := [.bool true, .int .u64 x1, .int .u64 x0, .int .i64 s]) ?_ 0 rfl, Bk.cell (t := 26) (cs := [.bool true, .int .u64 x1, .int .u64 x0, .int .i64 s]) ?_ 1 rfl, Bk.cell (t := 26) (cs := [.bool true, .int .u64 x1, .int .u64 x0, .int .i64 s]) ?_ 2 rfl, Bk.cell (t := 26) (cs := [.bool true, .int .u64 x1, .int .u64 x0, .int .i64 s]) ?_ 3 rfl⟩) <;> ((repeat (first | (with_reducible assumption) | ((with_reducible refine Bk.new_ ?_); (first | rfl | (simp only [World.size_alloc, World.size_setCell, World.size_drew, World.heap_drewN]; done))) | (with_reducible refine Bk.alloc ?_ _) | (with_reducible refine Bk.drew ?_) | (with_reducible refine Bk.drewN ?_ _) | ((with_reducible refine Bk.far ?_ ?_ _); rotate_left; focus (simp only []; omega)) | ((with_reducible refine Bk.below ?_ (by with_reducible assumption) ?_); rotate_left; focus (go_size; done)))); done)) | ((refine ⟨Bk.cell (t := 26) (cs := [.bool false, .int .u64 y1, .int .u64 y0, .int .i64 s']) ?_ 0 rfl, Bk.cell (t := 26) (cs := [.bool false, .int .u64 y1, .int .u64 y0, .int .i64 s']) ?_ 1 rfl, Bk.cell (t := 26) (cs := [.bool false, .int .u64 y1, .int .u64 y0, .int .i64 s']) ?_ 2 rfl, Bk.cell (t := 26) (cs := [.bool false, .int .u64 y1, .int .u64 y0, .int .i64 s']) ?_ 3 rfl⟩) <;> ((repeat (first | (with_reducible assumption) | ((with_reducible refine Bk.new_ ?_); (first | rfl | (simp only [World.size_alloc, World.size_setCell, World.size_drew, World.heap_drewN]; done))) | (with_reducible refine Bk.alloc ?_ _) | (with_reducible refine Bk.drew ?_) | (with_reducible refine Bk.drewN ?_ _) | ((with_reducible refine Bk.far ?_ ?_ _); rotate_left; focus (simp only []; omega)) | ((with_reducible refine Bk.below ?_ (by with_reducible assumption) ?_); rotate_left; focus (go_size; done)))); done))))) (first | (go_at_call 77; (with_reducible refine (HM.out _).mono ?_); rintro _ w4 ⟨rfl, hb4⟩; have hb4s := hb4.size; (try simp only [World.size_alloc, World.size_setCell, World.size_drew, World.heap_drewN] at hb4s); obtain ⟨hb4c, hb4f⟩ := bcell hb4; (try have : w.heap.size < w4.heap.size := by omega); (try have : w.heap.size + 1 < w4.heap.size := by omega); (try have : w.heap.size + 1 + 1 < w4.heap.size := by omega); (try have : w.heap.size + 1 + 1 + 1 < w4.heap.size := by omega); (try have : w1.heap.size < w4.heap.size := by omega); (try have : w1.heap.size + 1 < w4.heap.size := by omega); (try have : w1.heap.size + 1 + 1 < w4.heap.size := by omega); (try have : w1.heap.size + 1 + 1 + 1 < w4.heap.size := by omega)) | (go_at_call 51; (with_reducible refine (HT.out _).mono ?_); rintro _ w5 ⟨rfl, hb5⟩; have hb5s := hb5.size; (try simp only [World.size_alloc, World.size_setCell, World.size_drew, World.heap_drewN] at hb5s); obtain ⟨hb5c, hb5f⟩ := bcell hb5; (try have : w.heap.size < w5.heap.size := by omega); (try have : w.heap.size + 1 < w5.heap.size := by omega); (try have : w.heap.size + 1 + 1 < w5.heap.size := by omega); (try have : w.heap.size + 1 + 1 + 1 < w5.heap.size := by omega); have zr : Bk w5 (w.heap.size + 1 + 1) 26 [.bool false, .int .u64 0, .int .u64 0, .int .i64 0] := (by (repeat (first | (with_reducible assumption) | ((with_reducible refine Bk.new_ ?_); (first | rfl | (simp only [World.size_alloc, World.size_setCell, World.size_drew, World.heap_drewN]; done))) | (with_reducible refine Bk.alloc ?_ _) | (with_reducible refine Bk.drew ?_) | (with_reducible refine Bk.drewN ?_ _) | ((with_reducible refine Bk.far ?_ ?_ _); rotate_left; focus (simp only []; omega)) | ((with_reducible refine Bk.below ?_ (by with_reducible assumption) ?_); rotate_left; focus (go_size; done))))); have zr_0 := zr.cell 0 rfl; have zr_1 := zr.cell 1 rfl; have zr_2 := zr.cell 2 rfl; have zr_3 := zr.cell 3 rfl; have zr_4 := zr.frozen 0; have zr_5 := zr.frozen 1; have zr_6 := zr.frozen 2; have zr_7 := zr.frozen 3; have zrl := zr.lt; clear hb5c hb5f; (try have : w1.heap.size < w5.heap.size := by omega); (try have : w1.heap.size + 1 < w5.heap.size := by omega); (try have : w1.heap.size + 1 + 1 < w5.heap.size := by omega); (try have : w1.heap.size + 1 + 1 + 1 < w5.heap.size := by omega); (try have : w4.heap.size < w5.heap.size := by omega); (try have : w4.heap.size + 1 < w5.heap.size := by omega); (try have : w4.heap.size + 1 + 1 < w5.heap.size := by omega); (try have : w4.heap.size + 1 + 1 + 1 < w5.heap.size := by omega)))
    all_goals
      refine wp_named (fun W => Bk W (w.heap.size + 1 + 1) 26 [.bool (sg true C), .int .u64 (wd C 1), .int .u64 (wd C 0), .int .i64 (S : Int)] ∧ Below w.heap.size w W) ⟨?h1, ?h2⟩ ?_
      case h1 => (first | ((repeat (first | (with_reducible assumption) | ((with_reducible refine Bk.new_ ?_); (first | rfl | (simp only [World.size_alloc, World.size_setCell, World.size_drew, World.heap_drewN]; done))) | (with_reducible refine Bk.alloc ?_ _) | (with_reducible refine Bk.drew ?_) | (with_reducible refine Bk.drewN ?_ _) | ((with_reducible refine Bk.far ?_ ?_ _); rotate_left; focus (simp only []; omega)) | ((with_reducible refine Bk.below ?_ (by with_reducible assumption) ?_); rotate_left; focus (go_size; done)))); done) | ((repeat (first | (with_reducible refine Bk.alloc ?_ _) | (with_reducible refine Bk.drew ?_) | ((with_reducible refine Bk.far ?_ ?_ _); rotate_left; focus (simp only []; omega)))); (refine ((((?_ : Bk _ _ _ [.bool false, .int .u64 0, .int .u64 0, .int .i64 0]).set_ 0 _).set_ 1 _).set_ 2 _).set_ 3 _); (repeat (first | (with_reducible assumption) | ((with_reducible refine Bk.new_ ?_); (first | rfl | (simp only [World.size_alloc, World.size_setCell, World.size_drew, World.heap_drewN]; done))) | (with_reducible refine Bk.alloc ?_ _) | (with_reducible refine Bk.drew ?_) | (with_reducible refine Bk.drewN ?_ _) | ((with_reducible refine Bk.far ?_ ?_ _); rotate_left; focus (simp only []; omega)) | ((with_reducible refine Bk.below ?_ (by with_reducible assumption) ?_); rotate_left; focus (go_size; done))))); done)
      case h2 => ((repeat' (first | (with_reducible exact Below.refl _ _) | (with_reducible assumption) | (with_reducible refine Below.drew ?_) | (with_reducible refine below_drewN ?_ _) | ((with_reducible refine Below.alloc ?_ ?_ _); rotate_left; focus (go_size; done)) | ((with_reducible refine Below.setCell ?_ ?_ _); rotate_left; focus (go_size; done)) | ((with_reducible refine Below.trans ?_ (Below.mono (by with_reducible assumption) ?_)); rotate_left; focus (go_size; done)))); done)
      rintro W ⟨k1, mb⟩
      have k1_0 := k1.cell 0 rfl
      have k1_1 := k1.cell 1 rfl
      have k1_2 := k1.cell 2 rfl
      have k1_3 := k1.cell 3 rfl
      have k1_4 := k1.frozen 0
      have k1_5 := k1.frozen 1
      have k1_6 := k1.frozen 2
      have k1_7 := k1.frozen 3
      go_wp2_with fail
      refine bodyPost_ret (by simp [results, Try.results41, go_sem, *]; try rfl) rfl ?_
      exact ⟨rfl, by (repeat' (first | (with_reducible exact Below.refl _ _) | (with_reducible assumption) | (with_reducible refine Below.drew ?_) | (with_reducible refine below_drewN ?_ _) | ((with_reducible refine Below.alloc ?_ ?_ _); rotate_left; focus (go_size; done)) | ((with_reducible refine Below.setCell ?_ ?_ _); rotate_left; focus (go_size; done)) | ((with_reducible refine Below.trans ?_ (Below.mono (by with_reducible assumption) ?_)); rotate_left; focus (go_size; done))))⟩
  · obtain rfl : nb = false := GB.out.symm
    go_enter Try.func41, Try.ntmps41
    go_wp2_with fail
    (with_reducible refine (HF.out _ _ ?hg).mono ?_)
    case hg => ((repeat (first | (with_reducible assumption) | ((with_reducible refine Bk.new_ ?_); (first | rfl | (simp only [World.size_alloc, World.size_setCell, World.size_drew, World.heap_drewN]; done))) | (with_reducible refine Bk.alloc ?_ _) | (with_reducible refine Bk.drew ?_) | (with_reducible refine Bk.drewN ?_ _) | ((with_reducible refine Bk.far ?_ ?_ _); rotate_left; focus (simp only []; omega)) | ((with_reducible refine Bk.below ?_ (by with_reducible assumption) ?_); rotate_left; focus (go_size; done)))); done)
    rintro _ w1 ⟨rfl, hb1⟩; have hb1s := hb1.size; (try simp only [World.size_alloc, World.size_setCell, World.size_drew, World.heap_drewN] at hb1s); obtain ⟨hb1c, hb1f⟩ := bcell hb1; (try have : w.heap.size < w1.heap.size := by omega); (try have : w.heap.size + 1 < w1.heap.size := by omega); (try have : w.heap.size + 1 + 1 < w1.heap.size := by omega); (try have : w.heap.size + 1 + 1 + 1 < w1.heap.size := by omega)
    have ka : Bk w1 (w.heap.size) 26 [.bool true, .int .u64 x1, .int .u64 x0, .int .i64 s] := by (repeat (first | (with_reducible assumption) | ((with_reducible refine Bk.new_ ?_); (first | rfl | (simp only [World.size_alloc, World.size_setCell, World.size_drew, World.heap_drewN]; done))) | (with_reducible refine Bk.alloc ?_ _) | (with_reducible refine Bk.drew ?_) | (with_reducible refine Bk.drewN ?_ _) | ((with_reducible refine Bk.far ?_ ?_ _); rotate_left; focus (simp only []; omega)) | ((with_reducible refine Bk.below ?_ (by with_reducible assumption) ?_); rotate_left; focus (go_size; done))))
    have ka_0 := ka.cell 0 rfl
    have ka_1 := ka.cell 1 rfl
    have ka_2 := ka.cell 2 rfl
    have ka_3 := ka.cell 3 rfl
    have ka_4 := ka.frozen 0
    have ka_5 := ka.frozen 1
    have ka_6 := ka.frozen 2
    have ka_7 := ka.frozen 3
    have kal := ka.lt
    have kb : Bk w1 (w.heap.size + 1) 26 [.bool true, .int .u64 y1, .int .u64 y0, .int .i64 s'] := by (repeat (first | (with_reducible assumption) | ((with_reducible refine Bk.new_ ?_); (first | rfl | (simp only [World.size_alloc, World.size_setCell, World.size_drew, World.heap_drewN]; done))) | (with_reducible refine Bk.alloc ?_ _) | (with_reducible refine Bk.drew ?_) | (with_reducible refine Bk.drewN ?_ _) | ((with_reducible refine Bk.far ?_ ?_ _); rotate_left; focus (simp only []; omega)) | ((with_reducible refine Bk.below ?_ (by with_reducible assumption) ?_); rotate_left; focus (go_size; done))))
    have kb_0 := kb.cell 0 rfl
    have kb_1 := kb.cell 1 rfl
    have kb_2 := kb.cell 2 rfl
    have kb_3 := kb.cell 3 rfl
    have kb_4 := kb.frozen 0
    have kb_5 := kb.frozen 1
    have kb_6 := kb.frozen 2
    have kb_7 := kb.frozen 3
    have kbl := kb.lt
    have kr : Bk w1 (w.heap.size + 1 + 1) 26 [.bool false, .int .u64 0, .int .u64 0, .int .i64 0] := by (repeat (first | (with_reducible assumption) | ((with_reducible refine Bk.new_ ?_); (first | rfl | (simp only [World.size_alloc, World.size_setCell, World.size_drew, World.heap_drewN]; done))) | (with_reducible refine Bk.alloc ?_ _) | (with_reducible refine Bk.drew ?_) | (with_reducible refine Bk.drewN ?_ _) | ((with_reducible refine Bk.far ?_ ?_ _); rotate_left; focus (simp only []; omega)) | ((with_reducible refine Bk.below ?_ (by with_reducible assumption) ?_); rotate_left; focus (go_size; done))))
    have kr_0 := kr.cell 0 rfl
    have kr_1 := kr.cell 1 rfl
    have kr_2 := kr.cell 2 rfl
    have kr_3 := kr.cell 3 rfl
    have kr_4 := kr.frozen 0
    have kr_5 := kr.frozen 1
    have kr_6 := kr.frozen 2
    have kr_7 := kr.frozen 3
    have krl := kr.lt
    clear hb1c hb1f
    go_wp2_with fail
    go_region_held3 (fun w' => (w'.cell? ⟨w.heap.size, 0, none⟩ = some (.bool true) ∧ w'.cell? ⟨w.heap.size, 1, none⟩ = some (.int .u64 x1) ∧ w'.cell? ⟨w.heap.size, 2, none⟩ = some (.int .u64 x0) ∧ w'.cell? ⟨w.heap.size, 3, none⟩ = some (.int .i64 s)) ∧ (w'.cell? ⟨(w.heap.size + 1), 0, none⟩ = some (.bool true) ∧ w'.cell? ⟨(w.heap.size + 1), 1, none⟩ = some (.int .u64 y1) ∧ w'.cell? ⟨(w.heap.size + 1), 2, none⟩ = some (.int .u64 y0) ∧ w'.cell? ⟨(w.heap.size + 1), 3, none⟩ = some (.int .i64 s'))) (first | (first | (go_keep; done) | (simp [go_sem]; done) | ((try dsimp only); (repeat' apply And.intro) <;> (first | (with_reducible assumption) | ((rw [World.cell?_alloc_lt _ _ _ (by show _ < _; omega)]); go_split_ands; (first | with_reducible assumption | (refine (World.cell?_alloc_lt _ _ _ (by show _ < _; omega)).symm.trans ?_; with_reducible assumption))) | ((rw [World.cell?_setCell_other _ _ _ _ (by intro e; injection e; omega)]); with_reducible assumption) | (go_keep; done) | (simp [go_sem]; done) | (simp (disch := go_size) [*, World.cell?_alloc_some, World.cell?_setCell_far]; done)))) | ((refine ⟨?_, ?_⟩) <;> (first | ((refine ⟨Bk.cell (t := 26) (cs := [.bool true, .int .u64 x1, .int .u64 x0, .int .i64 s]) ?_ 0 rfl, Bk.cell (t := 26) (cs := [.bool true, .int .u64 x1, .int .u64 x0, .int .i64 s]) ?_ 1 rfl, Bk.cell (t := 26) (cs := [.bool true, .int .u64 x1, .int .u64 x0, .int .i64 s]) ?_ 2 rfl, Bk.cell (t := 26) (cs := [.bool true, .int .u64 x1, .int .u64 x0, .int .i64 s]) ?_ 3 rfl⟩) <;> ((repeat (first | (with_reducible assumption) | ((with_reducible refine Bk.new_ ?_); (first | rfl | (simp only [World.size_alloc, World.size_setCell, World.size_drew, World.heap_drewN]; done))) | (with_reducible refine Bk.alloc ?_ _) | (with_reducible refine Bk.drew ?_) | (with_reducible refine Bk.drewN ?_ _) | ((with_reducible refine Bk.far ?_ ?_ _); rotate_left; focus (simp only []; omega)) | ((with_reducible refine Bk.below ?_ (by with_reducible assumption) ?_); rotate_left; focus (go_size; done)))); done)) | ((refine ⟨Bk.cell (t := 26) (cs := [.bool true, .int .u64 y1, .int .u64 y0, .int .i64 s']) ?_ 0 rfl, Bk.cell (t := 26) (cs := [.bool true, .int .u64 y1, .int .u64 y0, .int .i64 s']) ?_ 1 rfl, Bk.cell (t := 26) (cs := [.bool true, .int .u64 y1, .int .u64 y0, .int .i64 s']) ?_ 2 rfl, Bk.cell (t := 26) (cs := [.bool true, .int .u64 y1, .int .u64 y0, .int .i64 s']) ?_ 3 rfl⟩) <;> ((repeat (first | (with_reducible assumption) | ((with_reducible refine Bk.new_ ?_); (first | rfl | (simp only [World.size_alloc, World.size_setCell, World.size_drew, World.heap_drewN]; done))) | (with_reducible refine Bk.alloc ?_ _) | (with_reducible refine Bk.drew ?_) | (with_reducible refine Bk.drewN ?_ _) | ((with_reducible refine Bk.far ?_ ?_ _); rotate_left; focus (simp only []; omega)) | ((with_reducible refine Bk.below ?_ (by with_reducible assumption) ?_); rotate_left; focus (go_size; done)))); done))))) (first | (go_at_call 77; (with_reducible refine (HM.out _).mono ?_); rintro _ w4 ⟨rfl, hb4⟩; have hb4s := hb4.size; (try simp only [World.size_alloc, World.size_setCell, World.size_drew, World.heap_drewN] at hb4s); obtain ⟨hb4c, hb4f⟩ := bcell hb4; (try have : w.heap.size < w4.heap.size := by omega); (try have : w.heap.size + 1 < w4.heap.size := by omega); (try have : w.heap.size + 1 + 1 < w4.heap.size := by omega); (try have : w.heap.size + 1 + 1 + 1 < w4.heap.size := by omega); (try have : w1.heap.size < w4.heap.size := by omega); (try have : w1.heap.size + 1 < w4.heap.size := by omega); (try have : w1.heap.size + 1 + 1 < w4.heap.size := by omega); (try have : w1.heap.size + 1 + 1 + 1 < w4.heap.size := by omega)) | (go_at_call 51; (with_reducible refine (HT.out _).mono ?_); rintro _ w5 ⟨rfl, hb5⟩; have hb5s := hb5.size; (try simp only [World.size_alloc, World.size_setCell, World.size_drew, World.heap_drewN] at hb5s); obtain ⟨hb5c, hb5f⟩ := bcell hb5; (try have : w.heap.size < w5.heap.size := by omega); (try have : w.heap.size + 1 < w5.heap.size := by omega); (try have : w.heap.size + 1 + 1 < w5.heap.size := by omega); (try have : w.heap.size + 1 + 1 + 1 < w5.heap.size := by omega); have zr : Bk w5 (w.heap.size + 1 + 1) 26 [.bool false, .int .u64 0, .int .u64 0, .int .i64 0] := (by (repeat (first | (with_reducible assumption) | ((with_reducible refine Bk.new_ ?_); (first | rfl | (simp only [World.size_alloc, World.size_setCell, World.size_drew, World.heap_drewN]; done))) | (with_reducible refine Bk.alloc ?_ _) | (with_reducible refine Bk.drew ?_) | (with_reducible refine Bk.drewN ?_ _) | ((with_reducible refine Bk.far ?_ ?_ _); rotate_left; focus (simp only []; omega)) | ((with_reducible refine Bk.below ?_ (by with_reducible assumption) ?_); rotate_left; focus (go_size; done))))); have zr_0 := zr.cell 0 rfl; have zr_1 := zr.cell 1 rfl; have zr_2 := zr.cell 2 rfl; have zr_3 := zr.cell 3 rfl; have zr_4 := zr.frozen 0; have zr_5 := zr.frozen 1; have zr_6 := zr.frozen 2; have zr_7 := zr.frozen 3; have zrl := zr.lt; clear hb5c hb5f; (try have : w1.heap.size < w5.heap.size := by omega); (try have : w1.heap.size + 1 < w5.heap.size := by omega); (try have : w1.heap.size + 1 + 1 < w5.heap.size := by omega); (try have : w1.heap.size + 1 + 1 + 1 < w5.heap.size := by omega); (try have : w4.heap.size < w5.heap.size := by omega); (try have : w4.heap.size + 1 < w5.heap.size := by omega); (try have : w4.heap.size + 1 + 1 < w5.heap.size := by omega); (try have : w4.heap.size + 1 + 1 + 1 < w5.heap.size := by omega)))
    all_goals
      refine wp_named (fun W => Bk W (w.heap.size + 1 + 1) 26 [.bool (sg false C), .int .u64 (wd C 1), .int .u64 (wd C 0), .int .i64 (S : Int)] ∧ Below w.heap.size w W) ⟨?h1, ?h2⟩ ?_
      case h1 => (first | ((repeat (first | (with_reducible assumption) | ((with_reducible refine Bk.new_ ?_); (first | rfl | (simp only [World.size_alloc, World.size_setCell, World.size_drew, World.heap_drewN]; done))) | (with_reducible refine Bk.alloc ?_ _) | (with_reducible refine Bk.drew ?_) | (with_reducible refine Bk.drewN ?_ _) | ((with_reducible refine Bk.far ?_ ?_ _); rotate_left; focus (simp only []; omega)) | ((with_reducible refine Bk.below ?_ (by with_reducible assumption) ?_); rotate_left; focus (go_size; done)))); done) | ((repeat (first | (with_reducible refine Bk.alloc ?_ _) | (with_reducible refine Bk.drew ?_) | ((with_reducible refine Bk.far ?_ ?_ _); rotate_left; focus (simp only []; omega)))); (refine ((((?_ : Bk _ _ _ [.bool false, .int .u64 0, .int .u64 0, .int .i64 0]).set_ 0 _).set_ 1 _).set_ 2 _).set_ 3 _); (repeat (first | (with_reducible assumption) | ((with_reducible refine Bk.new_ ?_); (first | rfl | (simp only [World.size_alloc, World.size_setCell, World.size_drew, World.heap_drewN]; done))) | (with_reducible refine Bk.alloc ?_ _) | (with_reducible refine Bk.drew ?_) | (with_reducible refine Bk.drewN ?_ _) | ((with_reducible refine Bk.far ?_ ?_ _); rotate_left; focus (simp only []; omega)) | ((with_reducible refine Bk.below ?_ (by with_reducible assumption) ?_); rotate_left; focus (go_size; done))))); done)
      case h2 => ((repeat' (first | (with_reducible exact Below.refl _ _) | (with_reducible assumption) | (with_reducible refine Below.drew ?_) | (with_reducible refine below_drewN ?_ _) | ((with_reducible refine Below.alloc ?_ ?_ _); rotate_left; focus (go_size; done)) | ((with_reducible refine Below.setCell ?_ ?_ _); rotate_left; focus (go_size; done)) | ((with_reducible refine Below.trans ?_ (Below.mono (by with_reducible assumption) ?_)); rotate_left; focus (go_size; done)))); done)
      rintro W ⟨k1, mb⟩
      have k1_0 := k1.cell 0 rfl
      have k1_1 := k1.cell 1 rfl
      have k1_2 := k1.cell 2 rfl
      have k1_3 := k1.cell 3 rfl
      have k1_4 := k1.frozen 0
      have k1_5 := k1.frozen 1
      have k1_6 := k1.frozen 2
      have k1_7 := k1.frozen 3
      go_wp2_with fail
      refine bodyPost_ret (by simp [results, Try.results41, go_sem, *]; try rfl) rfl ?_
      exact ⟨rfl, by (repeat' (first | (with_reducible exact Below.refl _ _) | (with_reducible assumption) | (with_reducible refine Below.drew ?_) | (with_reducible refine below_drewN ?_ _) | ((with_reducible refine Below.alloc ?_ ?_ _); rotate_left; focus (go_size; done)) | ((with_reducible refine Below.setCell ?_ ?_ _); rotate_left; focus (go_size; done)) | ((with_reducible refine Below.trans ?_ (Below.mono (by with_reducible assumption) ?_)); rotate_left; focus (go_size; done))))⟩
end Go.Proofs.Ythkgjodidkpaeaa

set_option linter.unusedSimpArgs false
set_option linter.unusedVariables false
namespace Go.Proofs.Ythkgjodidkpaeaa
open Go.RowKit

/-- the digit that tells what is left -/
def stick (r D : Nat) : Nat := if r = 0 then 0 else if 2 * r < D then 1 else if 2 * r = D then 5 else 6
theorem stick_le (r D : Nat) : stick r D ≤ 9 := by unfold stick; split <;> (try split) <;> (try split) <;> omega
theorem near_eq {a b c d q : Nat} (h1 : a / b = q) (h2 : c / d = q) (hlt : 2 * (a % b) > b ↔ 2 * (c % d) > d) (heq : 2 * (a % b) = b ↔ 2 * (c % d) = d) : near a b = near c d := by
  unfold near
  rw [h1, h2]
  simp only [hlt, heq]
theorem near_stick (q r D j : Nat) (hr : r < D) : near (D * q + r) (D * 10 ^ j) = near (10 * q + stick r D) (10 ^ (j + 1)) := by
  have hD : 0 < D := by omega
  have hs := stick_le r D
  have e1 : (D * q + r) / D = q := by rw [Nat.add_comm, Nat.add_mul_div_left _ _ hD, Nat.div_eq_of_lt hr, Nat.zero_add]
  have e2 : (10 * q + stick r D) / 10 = q := by omega
  have m1 : (D * q + r) % (D * 10 ^ j) = D * (q % 10 ^ j) + r := by
    rw [Nat.mod_mul, e1, Nat.add_comm (D * q), Nat.add_mul_mod_self_left, Nat.mod_eq_of_lt hr]; omega
  have m2 : (10 * q + stick r D) % (10 * 10 ^ j) = 10 * (q % 10 ^ j) + stick r D := by
    rw [Nat.mod_mul, e2]; omega
  rw [Nat.pow_succ, Nat.mul_comm (10 ^ j) 10]
  refine near_eq (q := q / 10 ^ j) ?_ ?_ ?_ ?_
  · rw [← Nat.div_div_eq_div_mul, e1]
  · rw [← Nat.div_div_eq_div_mul, e2]
  all_goals
    rw [m1, m2]
    rcases Nat.eq_zero_or_pos j with hj | hj
    · subst hj
      rw [Nat.pow_zero, Nat.mod_one, Nat.mul_one]
      unfold stick
      (repeat' split) <;> omega
    · obtain ⟨h, hh⟩ : ∃ h, 10 ^ j = 2 * h := ⟨10 ^ j / 2, by
        obtain ⟨k, rfl⟩ : ∃ k, j = k + 1 := ⟨j - 1, by omega⟩
        rw [Nat.pow_succ]; omega⟩
      have hm : q % 10 ^ j < 10 ^ j := Nat.mod_lt _ (Nat.pow_pos (by decide))
      rw [hh] at hm ⊢
      generalize q % (2 * h) = m at *
      have hz : stick r D = 0 ↔ r = 0 := by unfold stick; (repeat' split) <;> omega
      generalize stick r D = t at *
      rcases Nat.lt_trichotomy m h with hl | he | hg
      · have k1 : D * m + D ≤ D * h := by rw [← Nat.mul_succ]; exact Nat.mul_le_mul_left _ hl
        have k2 : D * (2 * h) = 2 * (D * h) := Nat.mul_left_comm _ _ _
        rw [k2]
        generalize D * m = X at *
        generalize D * h = Y at *
        omega
      · subst he
        have k2 : D * (2 * m) = 2 * (D * m) := Nat.mul_left_comm _ _ _
        rw [k2]
        generalize D * m = X at *
        omega
      · have k1 : D * h + D ≤ D * m := by rw [← Nat.mul_succ]; exact Nat.mul_le_mul_left _ hg
        have k2 : D * (2 * h) = 2 * (D * h) := Nat.mul_left_comm _ _ _
        rw [k2]
        generalize D * m = X at *
        generalize D * h = Y at *
        omega
theorem fitK_stick (q r D k : Nat) (hr : r < D) (hk : k ≤ 19) : fitK (D * q + r) (D * 10 ^ 18) k = fitK (10 * q + stick r D) (10 ^ 19) k := by
  induction k with
  | zero => rfl
  | succ s ih =>
    have e1 : near ((D * q + r) * 10 ^ s) (D * 10 ^ 18) = near ((10 * q + stick r D) * 10 ^ s) (10 ^ 19) := by
      have a1 : D * 10 ^ 18 = D * 10 ^ (18 - s) * 10 ^ s := by rw [Nat.mul_assoc, ← Nat.pow_add]; congr 2; omega
      have a2 : (10 : Nat) ^ 19 = 10 ^ (18 - s + 1) * 10 ^ s := by rw [← Nat.pow_add]; congr 1; omega
      have hp : 0 < 10 ^ s := Nat.pow_pos (by decide)
      rw [a1, a2, near_scale _ _ _ hp, near_scale _ _ _ hp]
      exact near_stick q r D (18 - s) hr
    by_cases h : near ((D * q + r) * 10 ^ s) (D * 10 ^ 18) < B34
    · rw [fitK_yes h, fitK_yes (by rw [← e1]; exact h), e1]
    · rw [fitK_no h, fitK_no (by rw [← e1]; exact h)]
      exact ih (by omega)
/-- the document's quotient by the program's road -/
theorem div_fit (c s c' s' : Nat) (hs : s ≤ 18) (hs' : s' ≤ 18) (h0 : c' ≠ 0) :
    FitC (unit c s) (unit c' s') = FitC (10 * (c * 10 ^ (18 + s' - s) / c') + stick (c * 10 ^ (18 + s' - s) % c') c') (10 ^ 19) ∧
    FitS (unit c s) (unit c' s') = FitS (10 * (c * 10 ^ (18 + s' - s) / c') + stick (c * 10 ^ (18 + s' - s) % c') c') (10 ^ 19) ∧
    FitE (unit c s) (unit c' s') = FitE (10 * (c * 10 ^ (18 + s' - s) / c') + stick (c * 10 ^ (18 + s' - s) % c') c') (10 ^ 19) := by
  have e1 : unit c s * 10 ^ s' = c * 10 ^ (18 + s' - s) := by
    unfold unit; rw [Nat.mul_assoc, ← Nat.pow_add]; congr 2; omega
  have e2 : unit c' s' * 10 ^ s' = c' * 10 ^ 18 := by
    unfold unit; rw [Nat.mul_assoc, ← Nat.pow_add]; congr 2; omega
  obtain ⟨f1, f2, f3⟩ := fit_scale (unit c s) (unit c' s') (10 ^ s') (Nat.pow_pos (by decide))
  rw [e1, e2] at f1 f2 f3
  rw [← f1, ← f2, ← f3]
  generalize c * 10 ^ (18 + s' - s) = N
  have hr : N % c' < c' := Nat.mod_lt _ (Nat.pos_of_ne_zero h0)
  have k := fitK_stick (N / c') (N % c') c' 19 hr (Nat.le_refl _)
  rw [Nat.div_add_mod] at k
  unfold FitC FitS FitE
  have k1 : fitK N (c' * 10 ^ 18) (K19 N) = fitK (10 * (N / c') + stick (N % c') c') (10 ^ 19) (K19 (10 * (N / c') + stick (N % c') c')) := by
    rw [K19_eq, K19_eq]; exact k
  rw [k1]
  exact ⟨rfl, rfl, rfl⟩
/-- the rest, in other units -/
def restN (b : Bool) (x : Nat) (b' : Bool) (y : Nat) : Nat := if x % y ≠ 0 ∧ b ≠ b' then y - x % y else x % y
theorem restN_scale (b b' : Bool) (x y k : Nat) (hk : 0 < k) : restN b (x * k) b' (y * k) = restN b x b' y * k := by
  unfold restN
  rw [Nat.mul_mod_mul_right]
  have e : x % y * k ≠ 0 ↔ x % y ≠ 0 := by
    rw [Ne, Ne, Nat.mul_eq_zero]
    constructor
    · intro h h1; exact h (.inl h1)
    · rintro h (h1 | h1)
      · exact h h1
      · omega
  simp only [e]
  split
  · rw [Nat.sub_mul]
  · rfl
end Go.Proofs.Ythkgjodidkpaeaa

set_option linter.unusedSimpArgs false
set_option linter.unusedVariables false
namespace Go.Proofs.Ythkgjodidkpaeaa
open Go.RowKit

set_option maxRecDepth 100000 in
set_option maxHeartbeats 8000000 in
theorem docmul_ok (b : Bool) (c s : Nat) (b' : Bool) (c' s' : Nat) (h : dform b c s = true) (h' : dform b' c' s' = true) (hc : c < B34) (hc' : c' < B34) (hs : s ≤ 18) (hs' : s' ≤ 18) (w : World) :
    Calls Try.prog 40 #[.agg #[.bool b, .int .u64 (wd (c) 1), .int .u64 (wd (c) 0), .int .i64 s], .agg #[.bool b', .int .u64 (wd (c') 1), .int .u64 (wd (c') 0), .int .i64 s']] w fun e w' => e = .returned (.tuple #[.agg #[.bool (sg (b != b') (FitC ((c * c')) (10 ^ (s + s')))), .int .u64 (wd (FitC ((c * c')) (10 ^ (s + s'))) 1), .int .u64 (wd (FitC ((c * c')) (10 ^ (s + s'))) 0), .int .i64 (FitS ((c * c')) (10 ^ (s + s')))], .int .i64 (FitE (c * c') (10 ^ (s + s')))]) ∧ Below w.heap.size w w' := by
  have hc2 := Nat.lt_trans hc B34_lt
  have hc2' := Nat.lt_trans hc' B34_lt
  have HF := Lib.hid (fun W => forms_any b c s b' c' s' hc2 hc2' W)
  rw [h, h', Bool.and_true] at HF
  have hgs : IntKind.i64.wrap ((s : Int) + (s' : Int)) = (s : Int) + (s' : Int) := IntWalk.i64_in _ (by omega)
  have HA := Lib.hid (fun W => of_any c hc2 W)
  have HB := Lib.hid (fun W => of_any c' hc2' W)
  have HM := Lib.hid (fun W u v hu hv => times_any c c' u v W hu hv (lt_128_tiny hc2).small (lt_128_tiny hc2').small)
  have H1 : Hid (∀ W, Calls Try.prog 61 #[.int .i64 ((s : Int) + (s' : Int))] W (RetDg (10 ^ (s + s')) W)) := Lib.hid (fun W => by
    have := one_any (s + s') (by omega) W
    rwa [Int.natCast_add] at this)
  have HT := Lib.hid (fun W u v hu hv => rfit_any (b != b') (c * c') (10 ^ (s + s')) u v W hu hv (Slim.of_lt (mul_small hc hc') (by decide)) (ten_slim (by omega)) (Nat.pow_pos (by decide)))
  generalize 10 ^ (s + s') = D at *
  generalize FitC (c * c') D = C at *
  generalize FitS (c * c') D = S at *
  generalize FitE (c * c') D = E at *
  generalize c * c' = P at *
  generalize wd c 0 = x0 at *
  generalize wd c 1 = x1 at *
  generalize wd c' 0 = y0 at *
  generalize wd c' 1 = y1 at *
  clear hc hc' h h' hc2 hc2'
  have s0 : (0 : Int) ≤ (s : Int) := by omega
  have s0' : (0 : Int) ≤ (s' : Int) := by omega
  have s8 : (s : Int) ≤ 18 := by omega
  have s8' : (s' : Int) ≤ 18 := by omega
  clear hs hs'
  obtain ⟨sI, hsI⟩ : ∃ sI : Int, sI = (s : Int) := ⟨_, rfl⟩
  obtain ⟨sJ, hsJ⟩ : ∃ sJ : Int, sJ = (s' : Int) := ⟨_, rfl⟩
  rw [← hsI] at s0 s8 HF H1 hgs ⊢
  rw [← hsJ] at s0' s8' HF H1 hgs ⊢
  clear hsI hsJ
  obtain ⟨s, rfl⟩ : ∃ s, s = sI := ⟨_, rfl⟩
  obtain ⟨s', rfl⟩ : ∃ s', s' = sJ := ⟨_, rfl⟩
  have gb : ∀ W, (binOp .neq 4 (.bool b) (.bool b')).run Try.prog W = .ok (.bool (b != b')) W := fun W => by
    cases b <;> cases b' <;> kernel_rfl
  obtain ⟨nb, hnb⟩ : ∃ nb, nb = (b != b') := ⟨_, rfl⟩
  rw [← hnb] at HT gb ⊢
  have GN := Lib.hid hnb
  clear hnb
  go_enter Try.func40, Try.ntmps40
  go_wp2_with fail
  refine (HF.out _).mono ?_
  rintro _ w1 ⟨rfl, hb1⟩; have hb1s := hb1.size; (try simp only [World.size_alloc, World.size_setCell, World.size_drew, World.heap_drewN] at hb1s); obtain ⟨hb1c, hb1f⟩ := bcell hb1; (try have : w.heap.size < w1.heap.size := by omega); (try have : w.heap.size + 1 < w1.heap.size := by omega); (try have : w.heap.size + 1 + 1 < w1.heap.size := by omega); (try have : w.heap.size + 1 + 1 + 1 < w1.heap.size := by omega)
  have ka : Bk w1 (w.heap.size) 26 [.bool b, .int .u64 x1, .int .u64 x0, .int .i64 s] := by (repeat (first | (with_reducible assumption) | ((with_reducible refine Bk.new_ ?_); (first | rfl | (simp only [World.size_alloc, World.size_setCell, World.size_drew, World.heap_drewN]; done))) | (with_reducible refine Bk.alloc ?_ _) | (with_reducible refine Bk.drew ?_) | (with_reducible refine Bk.drewN ?_ _) | ((with_reducible refine Bk.far ?_ ?_ _); rotate_left; focus (simp only []; omega)) | ((with_reducible refine Bk.below ?_ (by with_reducible assumption) ?_); rotate_left; focus (go_size; done))))
  have ka_0 := ka.cell 0 rfl
  have ka_1 := ka.cell 1 rfl
  have ka_2 := ka.cell 2 rfl
  have ka_3 := ka.cell 3 rfl
  have ka_4 := ka.frozen 0
  have ka_5 := ka.frozen 1
  have ka_6 := ka.frozen 2
  have ka_7 := ka.frozen 3
  have kal := ka.lt
  have kb : Bk w1 (w.heap.size + 1) 26 [.bool b', .int .u64 y1, .int .u64 y0, .int .i64 s'] := by (repeat (first | (with_reducible assumption) | ((with_reducible refine Bk.new_ ?_); (first | rfl | (simp only [World.size_alloc, World.size_setCell, World.size_drew, World.heap_drewN]; done))) | (with_reducible refine Bk.alloc ?_ _) | (with_reducible refine Bk.drew ?_) | (with_reducible refine Bk.drewN ?_ _) | ((with_reducible refine Bk.far ?_ ?_ _); rotate_left; focus (simp only []; omega)) | ((with_reducible refine Bk.below ?_ (by with_reducible assumption) ?_); rotate_left; focus (go_size; done))))
  have kb_0 := kb.cell 0 rfl
  have kb_1 := kb.cell 1 rfl
  have kb_2 := kb.cell 2 rfl
  have kb_3 := kb.cell 3 rfl
  have kb_4 := kb.frozen 0
  have kb_5 := kb.frozen 1
  have kb_6 := kb.frozen 2
  have kb_7 := kb.frozen 3
  have kbl := kb.lt
  have kr : Bk w1 (w.heap.size + 1 + 1) 26 [.bool false, .int .u64 0, .int .u64 0, .int .i64 0] := by (repeat (first | (with_reducible assumption) | ((with_reducible refine Bk.new_ ?_); (first | rfl | (simp only [World.size_alloc, World.size_setCell, World.size_drew, World.heap_drewN]; done))) | (with_reducible refine Bk.alloc ?_ _) | (with_reducible refine Bk.drew ?_) | (with_reducible refine Bk.drewN ?_ _) | ((with_reducible refine Bk.far ?_ ?_ _); rotate_left; focus (simp only []; omega)) | ((with_reducible refine Bk.below ?_ (by with_reducible assumption) ?_); rotate_left; focus (go_size; done))))
  have kr_0 := kr.cell 0 rfl
  have kr_1 := kr.cell 1 rfl
  have kr_2 := kr.cell 2 rfl
  have kr_3 := kr.cell 3 rfl
  have kr_4 := kr.frozen 0
  have kr_5 := kr.frozen 1
  have kr_6 := kr.frozen 2
  have kr_7 := kr.frozen 3
  have krl := kr.lt
  clear hb1c hb1f
  go_wp2_with fail
  go_region_held3 (fun w' => (w'.cell? ⟨w.heap.size, 0, none⟩ = some (.bool b) ∧ w'.cell? ⟨w.heap.size, 1, none⟩ = some (.int .u64 x1) ∧ w'.cell? ⟨w.heap.size, 2, none⟩ = some (.int .u64 x0) ∧ w'.cell? ⟨w.heap.size, 3, none⟩ = some (.int .i64 s)) ∧ (w'.cell? ⟨(w.heap.size + 1), 0, none⟩ = some (.bool b') ∧ w'.cell? ⟨(w.heap.size + 1), 1, none⟩ = some (.int .u64 y1) ∧ w'.cell? ⟨(w.heap.size + 1), 2, none⟩ = some (.int .u64 y0) ∧ w'.cell? ⟨(w.heap.size + 1), 3, none⟩ = some (.int .i64 s'))) (first | (first | (go_keep; done) | (simp [go_sem]; done) | ((try dsimp only); (repeat' apply And.intro) <;> (first | (with_reducible assumption) | ((rw [World.cell?_alloc_lt _ _ _ (by show _ < _; omega)]); go_split_ands; (first | with_reducible assumption | (refine (World.cell?_alloc_lt _ _ _ (by show _ < _; omega)).symm.trans ?_; with_reducible assumption))) | ((rw [World.cell?_setCell_other _ _ _ _ (by intro e; injection e; omega)]); with_reducible assumption) | (go_keep; done) | (simp [go_sem]; done) | (simp (disch := go_size) [*, World.cell?_alloc_some, World.cell?_setCell_far]; done)))) | ((refine ⟨?_, ?_⟩) <;> (first | ((refine ⟨Bk.cell (t := 26) (cs := [.bool b, .int .u64 x1, .int .u64 x0, .int .i64 s]) ?_ 0 rfl, Bk.cell (t := 26) (cs := [.bool b, .int .u64 x1, .int .u64 x0, .int .i64 s]) ?_ 1 rfl, Bk.cell (t := 26) (cs := [.bool b, .int .u64 x1, .int .u64 x0, .int .i64 s]) ?_ 2 rfl, Bk.cell (t := 26) (cs := [.bool b, .int .u64 x1, .int .u64 x0, .int .i64 s]) ?_ 3 rfl⟩) <;> ((repeat (first | (with_reducible assumption) | ((with_reducible refine Bk.new_ ?_); (first | rfl | (simp only [World.size_alloc, World.size_setCell, World.size_drew, World.heap_drewN]; done))) | (with_reducible refine Bk.alloc ?_ _) | (with_reducible refine Bk.drew ?_) | (with_reducible refine Bk.drewN ?_ _) | ((with_reducible refine Bk.far ?_ ?_ _); rotate_left; focus (simp only []; omega)) | ((with_reducible refine Bk.below ?_ (by with_reducible assumption) ?_); rotate_left; focus (go_size; done)))); done)) | ((refine ⟨Bk.cell (t := 26) (cs := [.bool b', .int .u64 y1, .int .u64 y0, .int .i64 s']) ?_ 0 rfl, Bk.cell (t := 26) (cs := [.bool b', .int .u64 y1, .int .u64 y0, .int .i64 s']) ?_ 1 rfl, Bk.cell (t := 26) (cs := [.bool b', .int .u64 y1, .int .u64 y0, .int .i64 s']) ?_ 2 rfl, Bk.cell (t := 26) (cs := [.bool b', .int .u64 y1, .int .u64 y0, .int .i64 s']) ?_ 3 rfl⟩) <;> ((repeat (first | (with_reducible assumption) | ((with_reducible refine Bk.new_ ?_); (first | rfl | (simp only [World.size_alloc, World.size_setCell, World.size_drew, World.heap_drewN]; done))) | (with_reducible refine Bk.alloc ?_ _) | (with_reducible refine Bk.drew ?_) | (with_reducible refine Bk.drewN ?_ _) | ((with_reducible refine Bk.far ?_ ?_ _); rotate_left; focus (simp only []; omega)) | ((with_reducible refine Bk.below ?_ (by with_reducible assumption) ?_); rotate_left; focus (go_size; done)))); done))))) (first | (go_at_call 49; (with_reducible refine (HA.out _).mono ?_); rintro _ w2 ⟨v2, rfl, d2, hb2⟩; have hb2s := hb2.size; have Hd2 := Lib.hid d2; clear d2; (try simp only [World.size_alloc, World.size_setCell, World.size_drew, World.heap_drewN] at hb2s); (try have : w.heap.size < w2.heap.size := by omega); (try have : w.heap.size + 1 < w2.heap.size := by omega); (try have : w.heap.size + 1 + 1 < w2.heap.size := by omega); (try have : w.heap.size + 1 + 1 + 1 < w2.heap.size := by omega); (try have : w1.heap.size < w2.heap.size := by omega); (try have : w1.heap.size + 1 < w2.heap.size := by omega); (try have : w1.heap.size + 1 + 1 < w2.heap.size := by omega); (try have : w1.heap.size + 1 + 1 + 1 < w2.heap.size := by omega); (try have : w3.heap.size < w2.heap.size := by omega); (try have : w3.heap.size + 1 < w2.heap.size := by omega); (try have : w3.heap.size + 1 + 1 < w2.heap.size := by omega); (try have : w3.heap.size + 1 + 1 + 1 < w2.heap.size := by omega); (try have : w7.heap.size < w2.heap.size := by omega); (try have : w7.heap.size + 1 < w2.heap.size := by omega); (try have : w7.heap.size + 1 + 1 < w2.heap.size := by omega); (try have : w7.heap.size + 1 + 1 + 1 < w2.heap.size := by omega)) | (go_at_call 49; (with_reducible refine (HB.out _).mono ?_); rintro _ w3 ⟨v3, rfl, d3, hb3⟩; have hb3s := hb3.size; have Hd3 := Lib.hid d3; clear d3; (try simp only [World.size_alloc, World.size_setCell, World.size_drew, World.heap_drewN] at hb3s); (try have : w.heap.size < w3.heap.size := by omega); (try have : w.heap.size + 1 < w3.heap.size := by omega); (try have : w.heap.size + 1 + 1 < w3.heap.size := by omega); (try have : w.heap.size + 1 + 1 + 1 < w3.heap.size := by omega); (try have : w1.heap.size < w3.heap.size := by omega); (try have : w1.heap.size + 1 < w3.heap.size := by omega); (try have : w1.heap.size + 1 + 1 < w3.heap.size := by omega); (try have : w1.heap.size + 1 + 1 + 1 < w3.heap.size := by omega); (try have : w2.heap.size < w3.heap.size := by omega); (try have : w2.heap.size + 1 < w3.heap.size := by omega); (try have : w2.heap.size + 1 + 1 < w3.heap.size := by omega); (try have : w2.heap.size + 1 + 1 + 1 < w3.heap.size := by omega); (try have : w7.heap.size < w3.heap.size := by omega); (try have : w7.heap.size + 1 < w3.heap.size := by omega); (try have : w7.heap.size + 1 + 1 < w3.heap.size := by omega); (try have : w7.heap.size + 1 + 1 + 1 < w3.heap.size := by omega)) | (go_at_call 76; (with_reducible refine (HM.out _ _ _ ?hx ?hy).mono ?_); (case hx => exact (Hd2.out.below (by (repeat' (first | (with_reducible exact Below.refl _ _) | (with_reducible assumption) | (with_reducible refine Below.drew ?_) | (with_reducible refine below_drewN ?_ _) | ((with_reducible refine Below.alloc ?_ ?_ _); rotate_left; focus (go_size; done)) | ((with_reducible refine Below.setCell ?_ ?_ _); rotate_left; focus (go_size; done)) | ((with_reducible refine Below.trans ?_ (Below.mono (by with_reducible assumption) ?_)); rotate_left; focus (go_size; done))))))); (case hy => exact (Hd3.out.below (by (repeat' (first | (with_reducible exact Below.refl _ _) | (with_reducible assumption) | (with_reducible refine Below.drew ?_) | (with_reducible refine below_drewN ?_ _) | ((with_reducible refine Below.alloc ?_ ?_ _); rotate_left; focus (go_size; done)) | ((with_reducible refine Below.setCell ?_ ?_ _); rotate_left; focus (go_size; done)) | ((with_reducible refine Below.trans ?_ (Below.mono (by with_reducible assumption) ?_)); rotate_left; focus (go_size; done))))))); rintro _ w4 ⟨v4, rfl, d4, hb4⟩; have hb4s := hb4.size; have Hd4 := Lib.hid d4; clear d4; (try simp only [World.size_alloc, World.size_setCell, World.size_drew, World.heap_drewN] at hb4s); (try have : w.heap.size < w4.heap.size := by omega); (try have : w.heap.size + 1 < w4.heap.size := by omega); (try have : w.heap.size + 1 + 1 < w4.heap.size := by omega); (try have : w.heap.size + 1 + 1 + 1 < w4.heap.size := by omega); (try have : w1.heap.size < w4.heap.size := by omega); (try have : w1.heap.size + 1 < w4.heap.size := by omega); (try have : w1.heap.size + 1 + 1 < w4.heap.size := by omega); (try have : w1.heap.size + 1 + 1 + 1 < w4.heap.size := by omega); (try have : w2.heap.size < w4.heap.size := by omega); (try have : w2.heap.size + 1 < w4.heap.size := by omega); (try have : w2.heap.size + 1 + 1 < w4.heap.size := by omega); (try have : w2.heap.size + 1 + 1 + 1 < w4.heap.size := by omega); (try have : w3.heap.size < w4.heap.size := by omega); (try have : w3.heap.size + 1 < w4.heap.size := by omega); (try have : w3.heap.size + 1 + 1 < w4.heap.size := by omega); (try have : w3.heap.size + 1 + 1 + 1 < w4.heap.size := by omega); (try have : w7.heap.size < w4.heap.size := by omega); (try have : w7.heap.size + 1 < w4.heap.size := by omega); (try have : w7.heap.size + 1 + 1 < w4.heap.size := by omega); (try have : w7.heap.size + 1 + 1 + 1 < w4.heap.size := by omega)) | (go_at_call 61; (with_reducible refine (H1.out _).mono ?_); rintro _ w7 ⟨v7, rfl, d7, hb7⟩; have hb7s := hb7.size; have Hd7 := Lib.hid d7; clear d7; (try simp only [World.size_alloc, World.size_setCell, World.size_drew, World.heap_drewN] at hb7s); (try have : w.heap.size < w7.heap.size := by omega); (try have : w.heap.size + 1 < w7.heap.size := by omega); (try have : w.heap.size + 1 + 1 < w7.heap.size := by omega); (try have : w.heap.size + 1 + 1 + 1 < w7.heap.size := by omega); (try have : w1.heap.size < w7.heap.size := by omega); (try have : w1.heap.size + 1 < w7.heap.size := by omega); (try have : w1.heap.size + 1 + 1 < w7.heap.size := by omega); (try have : w1.heap.size + 1 + 1 + 1 < w7.heap.size := by omega); (try have : w2.heap.size < w7.heap.size := by omega); (try have : w2.heap.size + 1 < w7.heap.size := by omega); (try have : w2.heap.size + 1 + 1 < w7.heap.size := by omega); (try have : w2.heap.size + 1 + 1 + 1 < w7.heap.size := by omega); (try have : w3.heap.size < w7.heap.size := by omega); (try have : w3.heap.size + 1 < w7.heap.size := by omega); (try have : w3.heap.size + 1 + 1 < w7.heap.size := by omega); (try have : w3.heap.size + 1 + 1 + 1 < w7.heap.size := by omega); (try have : w4.heap.size < w7.heap.size := by omega); (try have : w4.heap.size + 1 < w7.heap.size := by omega); (try have : w4.heap.size + 1 + 1 < w7.heap.size := by omega); (try have : w4.heap.size + 1 + 1 + 1 < w7.heap.size := by omega)) | (go_at_call 60; (with_reducible refine (HT.out _ _ _ ?hx ?hy).mono ?_); (case hx => exact (Hd4.out.below (by (repeat' (first | (with_reducible exact Below.refl _ _) | (with_reducible assumption) | (with_reducible refine Below.drew ?_) | (with_reducible refine below_drewN ?_ _) | ((with_reducible refine Below.alloc ?_ ?_ _); rotate_left; focus (go_size; done)) | ((with_reducible refine Below.setCell ?_ ?_ _); rotate_left; focus (go_size; done)) | ((with_reducible refine Below.trans ?_ (Below.mono (by with_reducible assumption) ?_)); rotate_left; focus (go_size; done))))))); (case hy => exact (Hd7.out.below (by (repeat' (first | (with_reducible exact Below.refl _ _) | (with_reducible assumption) | (with_reducible refine Below.drew ?_) | (with_reducible refine below_drewN ?_ _) | ((with_reducible refine Below.alloc ?_ ?_ _); rotate_left; focus (go_size; done)) | ((with_reducible refine Below.setCell ?_ ?_ _); rotate_left; focus (go_size; done)) | ((with_reducible refine Below.trans ?_ (Below.mono (by with_reducible assumption) ?_)); rotate_left; focus (go_size; done))))))); rintro _ w5 ⟨rfl, hb5⟩; have hb5s := hb5.size; (try simp only [World.size_alloc, World.size_setCell, World.size_drew, World.heap_drewN] at hb5s); obtain ⟨hb5c, hb5f⟩ := bcell hb5; (try have : w.heap.size < w5.heap.size := by omega); (try have : w.heap.size + 1 < w5.heap.size := by omega); (try have : w.heap.size + 1 + 1 < w5.heap.size := by omega); (try have : w.heap.size + 1 + 1 + 1 < w5.heap.size := by omega); have zr : Bk w5 (w.heap.size + 1 + 1) 26 [.bool false, .int .u64 0, .int .u64 0, .int .i64 0] := (by (repeat (first | (with_reducible assumption) | ((with_reducible refine Bk.new_ ?_); (first | rfl | (simp only [World.size_alloc, World.size_setCell, World.size_drew, World.heap_drewN]; done))) | (with_reducible refine Bk.alloc ?_ _) | (with_reducible refine Bk.drew ?_) | (with_reducible refine Bk.drewN ?_ _) | ((with_reducible refine Bk.far ?_ ?_ _); rotate_left; focus (simp only []; omega)) | ((with_reducible refine Bk.below ?_ (by with_reducible assumption) ?_); rotate_left; focus (go_size; done))))); have zr_0 := zr.cell 0 rfl; have zr_1 := zr.cell 1 rfl; have zr_2 := zr.cell 2 rfl; have zr_3 := zr.cell 3 rfl; have zr_4 := zr.frozen 0; have zr_5 := zr.frozen 1; have zr_6 := zr.frozen 2; have zr_7 := zr.frozen 3; have zrl := zr.lt; clear hb5c hb5f))
  all_goals
    refine wp_named (fun W => Bk W (w.heap.size + 1 + 1) 26 [.bool (sg nb C), .int .u64 (wd C 1), .int .u64 (wd C 0), .int .i64 (S : Int)] ∧ Below w.heap.size w W) ⟨?h1, ?h2⟩ ?_
    case h1 => (first | ((repeat (first | (with_reducible assumption) | ((with_reducible refine Bk.new_ ?_); (first | rfl | (simp only [World.size_alloc, World.size_setCell, World.size_drew, World.heap_drewN]; done))) | (with_reducible refine Bk.alloc ?_ _) | (with_reducible refine Bk.drew ?_) | (with_reducible refine Bk.drewN ?_ _) | ((with_reducible refine Bk.far ?_ ?_ _); rotate_left; focus (simp only []; omega)) | ((with_reducible refine Bk.below ?_ (by with_reducible assumption) ?_); rotate_left; focus (go_size; done)))); done) | ((repeat (first | (with_reducible refine Bk.alloc ?_ _) | (with_reducible refine Bk.drew ?_) | ((with_reducible refine Bk.far ?_ ?_ _); rotate_left; focus (simp only []; omega)))); (refine ((((?_ : Bk _ _ _ [.bool false, .int .u64 0, .int .u64 0, .int .i64 0]).set_ 0 _).set_ 1 _).set_ 2 _).set_ 3 _); (repeat (first | (with_reducible assumption) | ((with_reducible refine Bk.new_ ?_); (first | rfl | (simp only [World.size_alloc, World.size_setCell, World.size_drew, World.heap_drewN]; done))) | (with_reducible refine Bk.alloc ?_ _) | (with_reducible refine Bk.drew ?_) | (with_reducible refine Bk.drewN ?_ _) | ((with_reducible refine Bk.far ?_ ?_ _); rotate_left; focus (simp only []; omega)) | ((with_reducible refine Bk.below ?_ (by with_reducible assumption) ?_); rotate_left; focus (go_size; done))))); done)
    case h2 => ((repeat' (first | (with_reducible exact Below.refl _ _) | (with_reducible assumption) | (with_reducible refine Below.drew ?_) | (with_reducible refine below_drewN ?_ _) | ((with_reducible refine Below.alloc ?_ ?_ _); rotate_left; focus (go_size; done)) | ((with_reducible refine Below.setCell ?_ ?_ _); rotate_left; focus (go_size; done)) | ((with_reducible refine Below.trans ?_ (Below.mono (by with_reducible assumption) ?_)); rotate_left; focus (go_size; done)))); done)
    rintro W ⟨k1, mb⟩
    have k1_0 := k1.cell 0 rfl
    have k1_1 := k1.cell 1 rfl
    have k1_2 := k1.cell 2 rfl
    have k1_3 := k1.cell 3 rfl
    have k1_4 := k1.frozen 0
    have k1_5 := k1.frozen 1
    have k1_6 := k1.frozen 2
    have k1_7 := k1.frozen 3
    go_wp2_with fail
    refine bodyPost_ret (by simp [results, Try.results40, go_sem, *]; try rfl) rfl ?_
    exact ⟨rfl, by (repeat' (first | (with_reducible exact Below.refl _ _) | (with_reducible assumption) | (with_reducible refine Below.drew ?_) | (with_reducible refine below_drewN ?_ _) | ((with_reducible refine Below.alloc ?_ ?_ _); rotate_left; focus (go_size; done)) | ((with_reducible refine Below.setCell ?_ ?_ _); rotate_left; focus (go_size; done)) | ((with_reducible refine Below.trans ?_ (Below.mono (by with_reducible assumption) ?_)); rotate_left; focus (go_size; done))))⟩
end Go.Proofs.Ythkgjodidkpaeaa
