/- The program: the order of two decimals, their difference. -/
import Derived.Test.YthkgjodidkpaeaaFj
set_option linter.unusedSimpArgs false
set_option linter.unusedVariables false
namespace Go.Proofs.Ythkgjodidkpaeaa
open Go.RowKit

set_option maxHeartbeats 2000000 in
theorem dcmp_bad (b : Bool) (c : Nat) (s : Int) (b' : Bool) (c' : Nat) (s' : Int) (hc : c < 2 ^ 128) (hc' : c' < 2 ^ 128) (h : (dform b c s && dform b' c' s') = false) (w : World) :
    Calls Try.prog 12 #[.agg #[.bool b, .int .u64 (wd (c) 1), .int .u64 (wd (c) 0), .int .i64 s], .agg #[.bool b', .int .u64 (wd (c') 1), .int .u64 (wd (c') 0), .int .i64 s']] w fun e w' => e = .returned (.tuple #[.int .i64 0, .int .i64 2]) ∧ Below w.heap.size w w' := by
  have HF := Lib.hid (fun g W hg => formed_two b c s hc b' c' s' hc' g W hg)
  rw [h] at HF
  simp only [ferr, if_pos, if_neg, Bool.false_eq_true, if_true, if_false] at HF
  generalize wd c 0 = x0 at *
  generalize wd c 1 = x1 at *
  generalize wd c' 0 = y0 at *
  generalize wd c' 1 = y1 at *
  clear hc hc' h
  go_enter Try.func12, Try.ntmps12
  go_wp2_with fail
  (with_reducible refine (HF.out _ _ ?hg).mono ?_)
  case hg => ((repeat (first | (with_reducible assumption) | ((with_reducible refine Bk.new_ ?_); (first | rfl | (simp only [World.size_alloc, World.size_setCell, World.size_drew, World.heap_drewN]; done))) | (with_reducible refine Bk.alloc ?_ _) | (with_reducible refine Bk.drew ?_) | (with_reducible refine Bk.drewN ?_ _) | ((with_reducible refine Bk.far ?_ ?_ _); rotate_left; focus (simp only []; omega)) | ((with_reducible refine Bk.below ?_ (by with_reducible assumption) ?_); rotate_left; focus (go_size; done)))); done)
  rintro _ w1 ⟨rfl, hb1⟩; have hb1s := hb1.size; (try simp only [World.size_alloc, World.size_setCell, World.size_drew, World.heap_drewN] at hb1s); obtain ⟨hb1c, hb1f⟩ := bcell hb1; (try have : w.heap.size < w1.heap.size := by omega); (try have : w.heap.size + 1 < w1.heap.size := by omega); (try have : w.heap.size + 1 + 1 < w1.heap.size := by omega); (try have : w.heap.size + 1 + 1 + 1 < w1.heap.size := by omega)
  have ka : Bk w1 (w.heap.size) 26 [.bool b, .int .u64 x1, .int .u64 x0, .int .i64 s] := by (repeat (first | (with_reducible assumption) | ((with_reducible refine Bk.new_ ?_); (first | rfl | (simp only [World.size_alloc, World.size_setCell, World.size_drew, World.heap_drewN]; done))) | (with_reducible refine Bk.alloc ?_ _) | (with_reducible refine Bk.drew ?_) | (with_reducible refine Bk.drewN ?_ _) | ((with_reducible refine Bk.far ?_ ?_ _); rotate_left; focus (simp only []; omega)) | ((with_reducible refine Bk.below ?_ (by with_reducible assumption) ?_); rotate_left; focus (go_size; done))))
  have ka_0 := ka.cell 0 rfl
  have ka_1 := ka.cell 1 rfl
  have ka_2 := ka.cell 2 rfl
  have ka_3 := ka.cell 3 rfl
  have ka_4 := ka.frozen 0
  have ka_5 := ka.frozen 1
  have ka_6 := ka.frozen 2
  have ka_7 := ka.frozen 3
  have kal := ka.lt
  have kb : Bk w1 (w.heap.size + 1) 26 [.bool b', .int .u64 y1, .int .u64 y0, .int .i64 s'] := by (repeat (first | (with_reducible assumption) | ((with_reducible refine Bk.new_ ?_); (first | rfl | (simp only [World.size_alloc, World.size_setCell, World.size_drew, World.heap_drewN]; done))) | (with_reducible refine Bk.alloc ?_ _) | (with_reducible refine Bk.drew ?_) | (with_reducible refine Bk.drewN ?_ _) | ((with_reducible refine Bk.far ?_ ?_ _); rotate_left; focus (simp only []; omega)) | ((with_reducible refine Bk.below ?_ (by with_reducible assumption) ?_); rotate_left; focus (go_size; done))))
  have kb_0 := kb.cell 0 rfl
  have kb_1 := kb.cell 1 rfl
  have kb_2 := kb.cell 2 rfl
  have kb_3 := kb.cell 3 rfl
  have kb_4 := kb.frozen 0
  have kb_5 := kb.frozen 1
  have kb_6 := kb.frozen 2
  have kb_7 := kb.frozen 3
  have kbl := kb.lt
  clear hb1c hb1f ka kb
  go_wp2_with fail
  go_ret2
  exact ⟨rfl, by (repeat' (first | (with_reducible exact Below.refl _ _) | (with_reducible assumption) | (with_reducible refine Below.drew ?_) | (with_reducible refine below_drewN ?_ _) | ((with_reducible refine Below.alloc ?_ ?_ _); rotate_left; focus (go_size; done)) | ((with_reducible refine Below.setCell ?_ ?_ _); rotate_left; focus (go_size; done)) | ((with_reducible refine Below.trans ?_ (Below.mono (by with_reducible assumption) ?_)); rotate_left; focus (go_size; done))))⟩
set_option maxHeartbeats 2000000 in
theorem sub_bad (b : Bool) (c : Nat) (s : Int) (b' : Bool) (c' : Nat) (s' : Int) (hc : c < 2 ^ 128) (hc' : c' < 2 ^ 128) (h : (dform b c s && dform b' c' s') = false) (w : World) :
    Calls Try.prog 29 #[.agg #[.bool b, .int .u64 (wd (c) 1), .int .u64 (wd (c) 0), .int .i64 s], .agg #[.bool b', .int .u64 (wd (c') 1), .int .u64 (wd (c') 0), .int .i64 s']] w fun e w' => e = .returned (.tuple #[.agg #[.bool false, .int .u64 0, .int .u64 0, .int .i64 0], .int .i64 2]) ∧ Below w.heap.size w w' := by
  have HF := Lib.hid (fun g W hg => formed_two b c s hc b' c' s' hc' g W hg)
  rw [h] at HF
  simp only [ferr, if_pos, if_neg, Bool.false_eq_true, if_true, if_false] at HF
  generalize wd c 0 = x0 at *
  generalize wd c 1 = x1 at *
  generalize wd c' 0 = y0 at *
  generalize wd c' 1 = y1 at *
  clear hc hc' h
  go_enter Try.func29, Try.ntmps29
  go_wp2_with fail
  (with_reducible refine (HF.out _ _ ?hg).mono ?_)
  case hg => ((repeat (first | (with_reducible assumption) | ((with_reducible refine Bk.new_ ?_); (first | rfl | (simp only [World.size_alloc, World.size_setCell, World.size_drew, World.heap_drewN]; done))) | (with_reducible refine Bk.alloc ?_ _) | (with_reducible refine Bk.drew ?_) | (with_reducible refine Bk.drewN ?_ _) | ((with_reducible refine Bk.far ?_ ?_ _); rotate_left; focus (simp only []; omega)) | ((with_reducible refine Bk.below ?_ (by with_reducible assumption) ?_); rotate_left; focus (go_size; done)))); done)
  rintro _ w1 ⟨rfl, hb1⟩; have hb1s := hb1.size; (try simp only [World.size_alloc, World.size_setCell, World.size_drew, World.heap_drewN] at hb1s); obtain ⟨hb1c, hb1f⟩ := bcell hb1; (try have : w.heap.size < w1.heap.size := by omega); (try have : w.heap.size + 1 < w1.heap.size := by omega); (try have : w.heap.size + 1 + 1 < w1.heap.size := by omega); (try have : w.heap.size + 1 + 1 + 1 < w1.heap.size := by omega)
  have ka : Bk w1 (w.heap.size) 26 [.bool b, .int .u64 x1, .int .u64 x0, .int .i64 s] := by (repeat (first | (with_reducible assumption) | ((with_reducible refine Bk.new_ ?_); (first | rfl | (simp only [World.size_alloc, World.size_setCell, World.size_drew, World.heap_drewN]; done))) | (with_reducible refine Bk.alloc ?_ _) | (with_reducible refine Bk.drew ?_) | (with_reducible refine Bk.drewN ?_ _) | ((with_reducible refine Bk.far ?_ ?_ _); rotate_left; focus (simp only []; omega)) | ((with_reducible refine Bk.below ?_ (by with_reducible assumption) ?_); rotate_left; focus (go_size; done))))
  have ka_0 := ka.cell 0 rfl
  have ka_1 := ka.cell 1 rfl
  have ka_2 := ka.cell 2 rfl
  have ka_3 := ka.cell 3 rfl
  have ka_4 := ka.frozen 0
  have ka_5 := ka.frozen 1
  have ka_6 := ka.frozen 2
  have ka_7 := ka.frozen 3
  have kal := ka.lt
  have kb : Bk w1 (w.heap.size + 1) 26 [.bool b', .int .u64 y1, .int .u64 y0, .int .i64 s'] := by (repeat (first | (with_reducible assumption) | ((with_reducible refine Bk.new_ ?_); (first | rfl | (simp only [World.size_alloc, World.size_setCell, World.size_drew, World.heap_drewN]; done))) | (with_reducible refine Bk.alloc ?_ _) | (with_reducible refine Bk.drew ?_) | (with_reducible refine Bk.drewN ?_ _) | ((with_reducible refine Bk.far ?_ ?_ _); rotate_left; focus (simp only []; omega)) | ((with_reducible refine Bk.below ?_ (by with_reducible assumption) ?_); rotate_left; focus (go_size; done))))
  have kb_0 := kb.cell 0 rfl
  have kb_1 := kb.cell 1 rfl
  have kb_2 := kb.cell 2 rfl
  have kb_3 := kb.cell 3 rfl
  have kb_4 := kb.frozen 0
  have kb_5 := kb.frozen 1
  have kb_6 := kb.frozen 2
  have kb_7 := kb.frozen 3
  have kbl := kb.lt
  have kr : Bk w1 (w.heap.size + 1 + 1) 26 [.bool false, .int .u64 0, .int .u64 0, .int .i64 0] := by (repeat (first | (with_reducible assumption) | ((with_reducible refine Bk.new_ ?_); (first | rfl | (simp only [World.size_alloc, World.size_setCell, World.size_drew, World.heap_drewN]; done))) | (with_reducible refine Bk.alloc ?_ _) | (with_reducible refine Bk.drew ?_) | (with_reducible refine Bk.drewN ?_ _) | ((with_reducible refine Bk.far ?_ ?_ _); rotate_left; focus (simp only []; omega)) | ((with_reducible refine Bk.below ?_ (by with_reducible assumption) ?_); rotate_left; focus (go_size; done))))
  have kr_0 := kr.cell 0 rfl
  have kr_1 := kr.cell 1 rfl
  have kr_2 := kr.cell 2 rfl
  have kr_3 := kr.cell 3 rfl
  have kr_4 := kr.frozen 0
  have kr_5 := kr.frozen 1
  have kr_6 := kr.frozen 2
  have kr_7 := kr.frozen 3
  have krl := kr.lt
  clear hb1c hb1f ka kb kr
  go_wp2_with fail
  refine bodyPost_ret (by simp [results, Try.results29, go_sem, *]; try rfl) rfl ?_
  exact ⟨rfl, by (repeat' (first | (with_reducible exact Below.refl _ _) | (with_reducible assumption) | (with_reducible refine Below.drew ?_) | (with_reducible refine below_drewN ?_ _) | ((with_reducible refine Below.alloc ?_ ?_ _); rotate_left; focus (go_size; done)) | ((with_reducible refine Below.setCell ?_ ?_ _); rotate_left; focus (go_size; done)) | ((with_reducible refine Below.trans ?_ (Below.mono (by with_reducible assumption) ?_)); rotate_left; focus (go_size; done))))⟩
theorem dform_turn {b : Bool} {c : Nat} {s : Int} (h : dform b c s = true) : dform (sg (!b) c) c s = true := by
  obtain ⟨t, rfl, h1, h2, h3, h4⟩ := (dform_iff b c s).1 h
  refine (dform_iff _ _ _).2 ⟨t, rfl, h1, h2, fun h0 => ⟨by rw [h0]; exact sg_zero _, (h3 h0).2⟩, h4⟩
set_option maxRecDepth 100000 in
set_option maxHeartbeats 8000000 in
theorem sub_ok (b : Bool) (c s : Nat) (b' : Bool) (c' s' : Nat) (h : dform b c s = true) (h' : dform b' c' s' = true) (hc : c < B34) (hc' : c' < B34) (hs : s ≤ 18) (hs' : s' ≤ 18) (w : World) :
    Calls Try.prog 29 #[.agg #[.bool b, .int .u64 (wd (c) 1), .int .u64 (wd (c) 0), .int .i64 s], .agg #[.bool b', .int .u64 (wd (c') 1), .int .u64 (wd (c') 0), .int .i64 s']] w fun e w' => e = .returned (.tuple #[.agg #[.bool (sg (sgn b (unit c s) (sg (!b') c') (unit c' s')) (FitC ((sab b (unit c s) (sg (!b') c') (unit c' s'))) (10 ^ 18))), .int .u64 (wd (FitC ((sab b (unit c s) (sg (!b') c') (unit c' s'))) (10 ^ 18)) 1), .int .u64 (wd (FitC ((sab b (unit c s) (sg (!b') c') (unit c' s'))) (10 ^ 18)) 0), .int .i64 (FitS ((sab b (unit c s) (sg (!b') c') (unit c' s'))) (10 ^ 18))], .int .i64 (FitE (sab b (unit c s) (sg (!b') c') (unit c' s')) (10 ^ 18))]) ∧ Below w.heap.size w w' := by
  have HF := Lib.hid (fun g W hg => formed_two b c s (Nat.lt_trans hc B34_lt) b' c' s' (Nat.lt_trans hc' B34_lt) g W hg)
  rw [h, h'] at HF
  simp only [ferr, Bool.and_true, if_true] at HF
  have HT := Lib.hid (fun W => turned_any b' c' s' (Nat.lt_trans hc' B34_lt) W)
  have HA := Lib.hid (fun W => add_ok b c s (sg (!b') c') c' s' h (dform_turn h') hc hc' hs hs' W)
  generalize sg (!b') c' = r at *
  generalize FitC (sab b (unit c s) r (unit c' s')) (10 ^ 18) = C at *
  generalize FitS (sab b (unit c s) r (unit c' s')) (10 ^ 18) = S at *
  generalize FitE (sab b (unit c s) r (unit c' s')) (10 ^ 18) = E at *
  generalize sgn b (unit c s) r (unit c' s') = N at *
  generalize wd c 0 = x0 at *
  generalize wd c 1 = x1 at *
  generalize wd c' 0 = y0 at *
  generalize wd c' 1 = y1 at *
  clear hc hc' h h' hs hs'
  obtain ⟨sI, hsI⟩ : ∃ sI : Int, sI = (s : Int) := ⟨_, rfl⟩
  obtain ⟨sJ, hsJ⟩ : ∃ sJ : Int, sJ = (s' : Int) := ⟨_, rfl⟩
  rw [← hsI, ← hsJ] at HF HA ⊢
  rw [← hsJ] at HT
  clear hsI hsJ
  obtain ⟨s, rfl⟩ : ∃ s, s = sI := ⟨_, rfl⟩
  obtain ⟨s', rfl⟩ : ∃ s', s' = sJ := ⟨_, rfl⟩
  go_enter Try.func29, Try.ntmps29
  go_wp2_with fail
  (with_reducible refine (HF.out _ _ ?hg).mono ?_)
  case hg => ((repeat (first | (with_reducible assumption) | ((with_reducible refine Bk.new_ ?_); (first | rfl | (simp only [World.size_alloc, World.size_setCell, World.size_drew, World.heap_drewN]; done))) | (with_reducible refine Bk.alloc ?_ _) | (with_reducible refine Bk.drew ?_) | (with_reducible refine Bk.drewN ?_ _) | ((with_reducible refine Bk.far ?_ ?_ _); rotate_left; focus (simp only []; omega)) | ((with_reducible refine Bk.below ?_ (by with_reducible assumption) ?_); rotate_left; focus (go_size; done)))); done)
  rintro _ w1 ⟨rfl, hb1⟩; have hb1s := hb1.size; (try simp only [World.size_alloc, World.size_setCell, World.size_drew, World.heap_drewN] at hb1s); obtain ⟨hb1c, hb1f⟩ := bcell hb1; (try have : w.heap.size < w1.heap.size := by omega); (try have : w.heap.size + 1 < w1.heap.size := by omega); (try have : w.heap.size + 1 + 1 < w1.heap.size := by omega); (try have : w.heap.size + 1 + 1 + 1 < w1.heap.size := by omega)
  have ka : Bk w1 (w.heap.size) 26 [.bool b, .int .u64 x1, .int .u64 x0, .int .i64 s] := by (repeat (first | (with_reducible assumption) | ((with_reducible refine Bk.new_ ?_); (first | rfl | (simp only [World.size_alloc, World.size_setCell, World.size_drew, World.heap_drewN]; done))) | (with_reducible refine Bk.alloc ?_ _) | (with_reducible refine Bk.drew ?_) | (with_reducible refine Bk.drewN ?_ _) | ((with_reducible refine Bk.far ?_ ?_ _); rotate_left; focus (simp only []; omega)) | ((with_reducible refine Bk.below ?_ (by with_reducible assumption) ?_); rotate_left; focus (go_size; done))))
  have ka_0 := ka.cell 0 rfl
  have ka_1 := ka.cell 1 rfl
  have ka_2 := ka.cell 2 rfl
  have ka_3 := ka.cell 3 rfl
  have ka_4 := ka.frozen 0
  have ka_5 := ka.frozen 1
  have ka_6 := ka.frozen 2
  have ka_7 := ka.frozen 3
  have kal := ka.lt
  have kb : Bk w1 (w.heap.size + 1) 26 [.bool b', .int .u64 y1, .int .u64 y0, .int .i64 s'] := by (repeat (first | (with_reducible assumption) | ((with_reducible refine Bk.new_ ?_); (first | rfl | (simp only [World.size_alloc, World.size_setCell, World.size_drew, World.heap_drewN]; done))) | (with_reducible refine Bk.alloc ?_ _) | (with_reducible refine Bk.drew ?_) | (with_reducible refine Bk.drewN ?_ _) | ((with_reducible refine Bk.far ?_ ?_ _); rotate_left; focus (simp only []; omega)) | ((with_reducible refine Bk.below ?_ (by with_reducible assumption) ?_); rotate_left; focus (go_size; done))))
  have kb_0 := kb.cell 0 rfl
  have kb_1 := kb.cell 1 rfl
  have kb_2 := kb.cell 2 rfl
  have kb_3 := kb.cell 3 rfl
  have kb_4 := kb.frozen 0
  have kb_5 := kb.frozen 1
  have kb_6 := kb.frozen 2
  have kb_7 := kb.frozen 3
  have kbl := kb.lt
  have kr : Bk w1 (w.heap.size + 1 + 1) 26 [.bool false, .int .u64 0, .int .u64 0, .int .i64 0] := by (repeat (first | (with_reducible assumption) | ((with_reducible refine Bk.new_ ?_); (first | rfl | (simp only [World.size_alloc, World.size_setCell, World.size_drew, World.heap_drewN]; done))) | (with_reducible refine Bk.alloc ?_ _) | (with_reducible refine Bk.drew ?_) | (with_reducible refine Bk.drewN ?_ _) | ((with_reducible refine Bk.far ?_ ?_ _); rotate_left; focus (simp only []; omega)) | ((with_reducible refine Bk.below ?_ (by with_reducible assumption) ?_); rotate_left; focus (go_size; done))))
  have kr_0 := kr.cell 0 rfl
  have kr_1 := kr.cell 1 rfl
  have kr_2 := kr.cell 2 rfl
  have kr_3 := kr.cell 3 rfl
  have kr_4 := kr.frozen 0
  have kr_5 := kr.frozen 1
  have kr_6 := kr.frozen 2
  have kr_7 := kr.frozen 3
  have krl := kr.lt
  clear hb1c hb1f
  go_wp2_with fail
  go_region_held3 (fun w' => (w'.cell? ⟨w.heap.size, 0, none⟩ = some (.bool b) ∧ w'.cell? ⟨w.heap.size, 1, none⟩ = some (.int .u64 x1) ∧ w'.cell? ⟨w.heap.size, 2, none⟩ = some (.int .u64 x0) ∧ w'.cell? ⟨w.heap.size, 3, none⟩ = some (.int .i64 s)) ∧ (w'.cell? ⟨(w.heap.size + 1), 0, none⟩ = some (.bool b') ∧ w'.cell? ⟨(w.heap.size + 1), 1, none⟩ = some (.int .u64 y1) ∧ w'.cell? ⟨(w.heap.size + 1), 2, none⟩ = some (.int .u64 y0) ∧ w'.cell? ⟨(w.heap.size + 1), 3, none⟩ = some (.int .i64 s'))) (first | (first | (go_keep; done) | (simp [go_sem]; done) | ((try dsimp only); (repeat' apply And.intro) <;> (first | (with_reducible assumption) | ((rw [World.cell?_alloc_lt _ _ _ (by show _ < _; omega)]); go_split_ands; (first | with_reducible assumption | (refine (World.cell?_alloc_lt _ _ _ (by show _ < _; omega)).symm.trans ?_; with_reducible assumption))) | ((rw [World.cell?_setCell_other _ _ _ _ (by intro e; injection e; omega)]); with_reducible assumption) | (go_keep; done) | (simp [go_sem]; done) | (simp (disch := go_size) [*, World.cell?_alloc_some, World.cell?_setCell_far]; done)))) | ((refine ⟨?_, ?_⟩) <;> (first | ((refine ⟨Bk.cell (t := 26) (cs := [.bool b, .int .u64 x1, .int .u64 x0, .int .i64 s]) ?_ 0 rfl, Bk.cell (t := 26) (cs := [.bool b, .int .u64 x1, .int .u64 x0, .int .i64 s]) ?_ 1 rfl, Bk.cell (t := 26) (cs := [.bool b, .int .u64 x1, .int .u64 x0, .int .i64 s]) ?_ 2 rfl, Bk.cell (t := 26) (cs := [.bool b, .int .u64 x1, .int .u64 x0, .int .i64 s]) ?_ 3 rfl⟩) <;> ((repeat (first | (with_reducible assumption) | ((with_reducible refine Bk.new_ ?_); (first | rfl | (simp only [World.size_alloc, World.size_setCell, World.size_drew, World.heap_drewN]; done))) | (with_reducible refine Bk.alloc ?_ _) | (with_reducible refine Bk.drew ?_) | (with_reducible refine Bk.drewN ?_ _) | ((with_reducible refine Bk.far ?_ ?_ _); rotate_left; focus (simp only []; omega)) | ((with_reducible refine Bk.below ?_ (by with_reducible assumption) ?_); rotate_left; focus (go_size; done)))); done)) | ((refine ⟨Bk.cell (t := 26) (cs := [.bool b', .int .u64 y1, .int .u64 y0, .int .i64 s']) ?_ 0 rfl, Bk.cell (t := 26) (cs := [.bool b', .int .u64 y1, .int .u64 y0, .int .i64 s']) ?_ 1 rfl, Bk.cell (t := 26) (cs := [.bool b', .int .u64 y1, .int .u64 y0, .int .i64 s']) ?_ 2 rfl, Bk.cell (t := 26) (cs := [.bool b', .int .u64 y1, .int .u64 y0, .int .i64 s']) ?_ 3 rfl⟩) <;> ((repeat (first | (with_reducible assumption) | ((with_reducible refine Bk.new_ ?_); (first | rfl | (simp only [World.size_alloc, World.size_setCell, World.size_drew, World.heap_drewN]; done))) | (with_reducible refine Bk.alloc ?_ _) | (with_reducible refine Bk.drew ?_) | (with_reducible refine Bk.drewN ?_ _) | ((with_reducible refine Bk.far ?_ ?_ _); rotate_left; focus (simp only []; omega)) | ((with_reducible refine Bk.below ?_ (by with_reducible assumption) ?_); rotate_left; focus (go_size; done)))); done))))) (first | (go_at_call 50; (with_reducible refine (HT.out _).mono ?_); rintro _ w4 ⟨rfl, hb4⟩; have hb4s := hb4.size; (try simp only [World.size_alloc, World.size_setCell, World.size_drew, World.heap_drewN] at hb4s); obtain ⟨hb4c, hb4f⟩ := bcell hb4; (try have : w.heap.size < w4.heap.size := by omega); (try have : w.heap.size + 1 < w4.heap.size := by omega); (try have : w.heap.size + 1 + 1 < w4.heap.size := by omega); (try have : w.heap.size + 1 + 1 + 1 < w4.heap.size := by omega); (try have : w1.heap.size < w4.heap.size := by omega); (try have : w1.heap.size + 1 < w4.heap.size := by omega); (try have : w1.heap.size + 1 + 1 < w4.heap.size := by omega); (try have : w1.heap.size + 1 + 1 + 1 < w4.heap.size := by omega)) | (go_at_call 15; (with_reducible refine (HA.out _).mono ?_); rintro _ w5 ⟨rfl, hb5⟩; have hb5s := hb5.size; (try simp only [World.size_alloc, World.size_setCell, World.size_drew, World.heap_drewN] at hb5s); obtain ⟨hb5c, hb5f⟩ := bcell hb5; (try have : w.heap.size < w5.heap.size := by omega); (try have : w.heap.size + 1 < w5.heap.size := by omega); (try have : w.heap.size + 1 + 1 < w5.heap.size := by omega); (try have : w.heap.size + 1 + 1 + 1 < w5.heap.size := by omega); have zr : Bk w5 (w.heap.size + 1 + 1) 26 [.bool false, .int .u64 0, .int .u64 0, .int .i64 0] := (by (repeat (first | (with_reducible assumption) | ((with_reducible refine Bk.new_ ?_); (first | rfl | (simp only [World.size_alloc, World.size_setCell, World.size_drew, World.heap_drewN]; done))) | (with_reducible refine Bk.alloc ?_ _) | (with_reducible refine Bk.drew ?_) | (with_reducible refine Bk.drewN ?_ _) | ((with_reducible refine Bk.far ?_ ?_ _); rotate_left; focus (simp only []; omega)) | ((with_reducible refine Bk.below ?_ (by with_reducible assumption) ?_); rotate_left; focus (go_size; done))))); have zr_0 := zr.cell 0 rfl; have zr_1 := zr.cell 1 rfl; have zr_2 := zr.cell 2 rfl; have zr_3 := zr.cell 3 rfl; have zr_4 := zr.frozen 0; have zr_5 := zr.frozen 1; have zr_6 := zr.frozen 2; have zr_7 := zr.frozen 3; have zrl := zr.lt; clear hb5c hb5f; (try have : w1.heap.size < w5.heap.size := by omega); (try have : w1.heap.size + 1 < w5.heap.size := by omega); (try have : w1.heap.size + 1 + 1 < w5.heap.size := by omega); (try have : w1.heap.size + 1 + 1 + 1 < w5.heap.size := by omega); (try have : w4.heap.size < w5.heap.size := by omega); (try have : w4.heap.size + 1 < w5.heap.size := by omega); (try have : w4.heap.size + 1 + 1 < w5.heap.size := by omega); (try have : w4.heap.size + 1 + 1 + 1 < w5.heap.size := by omega)))
  all_goals
    refine wp_named (fun W => Bk W (w.heap.size + 1 + 1) 26 [.bool (sg N C), .int .u64 (wd C 1), .int .u64 (wd C 0), .int .i64 (S : Int)] ∧ Below w.heap.size w W) ⟨?h1, ?h2⟩ ?_
    case h1 => (first | ((repeat (first | (with_reducible assumption) | ((with_reducible refine Bk.new_ ?_); (first | rfl | (simp only [World.size_alloc, World.size_setCell, World.size_drew, World.heap_drewN]; done))) | (with_reducible refine Bk.alloc ?_ _) | (with_reducible refine Bk.drew ?_) | (with_reducible refine Bk.drewN ?_ _) | ((with_reducible refine Bk.far ?_ ?_ _); rotate_left; focus (simp only []; omega)) | ((with_reducible refine Bk.below ?_ (by with_reducible assumption) ?_); rotate_left; focus (go_size; done)))); done) | ((repeat (first | (with_reducible refine Bk.alloc ?_ _) | (with_reducible refine Bk.drew ?_) | ((with_reducible refine Bk.far ?_ ?_ _); rotate_left; focus (simp only []; omega)))); (refine ((((?_ : Bk _ _ _ [.bool false, .int .u64 0, .int .u64 0, .int .i64 0]).set_ 0 _).set_ 1 _).set_ 2 _).set_ 3 _); (repeat (first | (with_reducible assumption) | ((with_reducible refine Bk.new_ ?_); (first | rfl | (simp only [World.size_alloc, World.size_setCell, World.size_drew, World.heap_drewN]; done))) | (with_reducible refine Bk.alloc ?_ _) | (with_reducible refine Bk.drew ?_) | (with_reducible refine Bk.drewN ?_ _) | ((with_reducible refine Bk.far ?_ ?_ _); rotate_left; focus (simp only []; omega)) | ((with_reducible refine Bk.below ?_ (by with_reducible assumption) ?_); rotate_left; focus (go_size; done))))); done)
    case h2 => ((repeat' (first | (with_reducible exact Below.refl _ _) | (with_reducible assumption) | (with_reducible refine Below.drew ?_) | (with_reducible refine below_drewN ?_ _) | ((with_reducible refine Below.alloc ?_ ?_ _); rotate_left; focus (go_size; done)) | ((with_reducible refine Below.setCell ?_ ?_ _); rotate_left; focus (go_size; done)) | ((with_reducible refine Below.trans ?_ (Below.mono (by with_reducible assumption) ?_)); rotate_left; focus (go_size; done)))); done)
    rintro W ⟨k1, mb⟩
    have k1_0 := k1.cell 0 rfl
    have k1_1 := k1.cell 1 rfl
    have k1_2 := k1.cell 2 rfl
    have k1_3 := k1.cell 3 rfl
    have k1_4 := k1.frozen 0
    have k1_5 := k1.frozen 1
    have k1_6 := k1.frozen 2
    have k1_7 := k1.frozen 3
    go_wp2_with fail
    refine bodyPost_ret (by simp [results, Try.results29, go_sem, *]; try rfl) rfl ?_
    exact ⟨rfl, by (repeat' (first | (with_reducible exact Below.refl _ _) | (with_reducible assumption) | (with_reducible refine Below.drew ?_) | (with_reducible refine below_drewN ?_ _) | ((with_reducible refine Below.alloc ?_ ?_ _); rotate_left; focus (go_size; done)) | ((with_reducible refine Below.setCell ?_ ?_ _); rotate_left; focus (go_size; done)) | ((with_reducible refine Below.trans ?_ (Below.mono (by with_reducible assumption) ?_)); rotate_left; focus (go_size; done))))⟩
set_option maxRecDepth 100000 in
set_option maxHeartbeats 8000000 in
theorem dcmp_ok (b : Bool) (c s : Nat) (b' : Bool) (c' s' : Nat) (h : dform b c s = true) (h' : dform b' c' s' = true) (hc : c < B34) (hc' : c' < B34) (hs : s ≤ 18) (hs' : s' ≤ 18) (w : World) :
    Calls Try.prog 12 #[.agg #[.bool b, .int .u64 (wd (c) 1), .int .u64 (wd (c) 0), .int .i64 s], .agg #[.bool b', .int .u64 (wd (c') 1), .int .u64 (wd (c') 0), .int .i64 s']] w fun e w' => e = .returned (.tuple #[.int .i64 (ordD b (unit c s) b' (unit c' s')), .int .i64 0]) ∧ Below w.heap.size w w' := by
  obtain ⟨m, hm⟩ : ∃ m, m = max s s' := ⟨_, rfl⟩
  rw [ord_units b b' c c' s s' m (by omega) (by omega) (by omega)]
  have HF := Lib.hid (fun g W hg => formed_two b c s (Nat.lt_trans hc B34_lt) b' c' s' (Nat.lt_trans hc' B34_lt) g W hg)
  rw [h, h'] at HF
  simp only [ferr, Bool.and_true, if_true] at HF
  have HB := Lib.hid (fun W => both_any b c s b' c' s' m hc hc' hs hs' hm W)
  have hX : c * 10 ^ (m - s) < 10 ^ 52 := scaled_lt hc (by omega)
  have hY : c' * 10 ^ (m - s') < 10 ^ 52 := scaled_lt hc' (by omega)
  generalize c * 10 ^ (m - s) = X at *
  generalize c' * 10 ^ (m - s') = Y at *
  have hX2 : X < 2 ^ 256 := Nat.lt_trans hX (by decide)
  have hY2 : Y < 2 ^ 256 := Nat.lt_trans hY (by decide)
  have HO := Lib.hid (fun W => order_any X Y hX2 hY2 W)
  have HP := Lib.hid (fun W => order_any Y X hY2 hX2 W)
  clear h h' hm hX hY hX2 hY2
  unfold ordD
  generalize cmpN X Y = c1 at *
  generalize cmpN Y X = c2 at *
  obtain ⟨sI, hsI⟩ : ∃ sI : Int, sI = (s : Int) := ⟨_, rfl⟩
  obtain ⟨sJ, hsJ⟩ : ∃ sJ : Int, sJ = (s' : Int) := ⟨_, rfl⟩
  rw [← hsI, ← hsJ] at HF HB
  rw [← hsI, ← hsJ]
  clear hsI hsJ hs hs'
  obtain ⟨s, rfl⟩ : ∃ s, s = sI := ⟨_, rfl⟩
  obtain ⟨s', rfl⟩ : ∃ s', s' = sJ := ⟨_, rfl⟩
  generalize wd X 0 = p0 at *
  generalize wd X 1 = p1 at *
  generalize wd X 2 = p2 at *
  generalize wd X 3 = p3 at *
  generalize wd Y 0 = q0 at *
  generalize wd Y 1 = q1 at *
  generalize wd Y 2 = q2 at *
  generalize wd Y 3 = q3 at *
  generalize wd c 0 = x0 at *
  generalize wd c 1 = x1 at *
  generalize wd c' 0 = y0 at *
  generalize wd c' 1 = y1 at *
  clear hc hc'
  cases b <;> cases b' <;> simp only [Bool.false_eq_true, if_true, if_false, reduceCtorEq]
  · obtain ⟨b, hb⟩ : ∃ b, b = false := ⟨_, rfl⟩
    go_enter Try.func12, Try.ntmps12
    go_wp2_with fail
    (with_reducible refine (HF.out _ _ ?hg).mono ?_)
    case hg => ((repeat (first | (with_reducible assumption) | ((with_reducible refine Bk.new_ ?_); (first | rfl | (simp only [World.size_alloc, World.size_setCell, World.size_drew, World.heap_drewN]; done))) | (with_reducible refine Bk.alloc ?_ _) | (with_reducible refine Bk.drew ?_) | (with_reducible refine Bk.drewN ?_ _) | ((with_reducible refine Bk.far ?_ ?_ _); rotate_left; focus (simp only []; omega)) | ((with_reducible refine Bk.below ?_ (by with_reducible assumption) ?_); rotate_left; focus (go_size; done)))); done)
    rintro _ w1 ⟨rfl, hb1⟩; have hb1s := hb1.size; (try simp only [World.size_alloc, World.size_setCell, World.size_drew, World.heap_drewN] at hb1s); obtain ⟨hb1c, hb1f⟩ := bcell hb1; (try have : w.heap.size < w1.heap.size := by omega); (try have : w.heap.size + 1 < w1.heap.size := by omega); (try have : w.heap.size + 1 + 1 < w1.heap.size := by omega); (try have : w.heap.size + 1 + 1 + 1 < w1.heap.size := by omega)
    have ka : Bk w1 (w.heap.size) 26 [.bool false, .int .u64 x1, .int .u64 x0, .int .i64 s] := by (repeat (first | (with_reducible assumption) | ((with_reducible refine Bk.new_ ?_); (first | rfl | (simp only [World.size_alloc, World.size_setCell, World.size_drew, World.heap_drewN]; done))) | (with_reducible refine Bk.alloc ?_ _) | (with_reducible refine Bk.drew ?_) | (with_reducible refine Bk.drewN ?_ _) | ((with_reducible refine Bk.far ?_ ?_ _); rotate_left; focus (simp only []; omega)) | ((with_reducible refine Bk.below ?_ (by with_reducible assumption) ?_); rotate_left; focus (go_size; done))))
    have ka_0 := ka.cell 0 rfl
    have ka_1 := ka.cell 1 rfl
    have ka_2 := ka.cell 2 rfl
    have ka_3 := ka.cell 3 rfl
    have ka_4 := ka.frozen 0
    have ka_5 := ka.frozen 1
    have ka_6 := ka.frozen 2
    have ka_7 := ka.frozen 3
    have kal := ka.lt
    have kb : Bk w1 (w.heap.size + 1) 26 [.bool false, .int .u64 y1, .int .u64 y0, .int .i64 s'] := by (repeat (first | (with_reducible assumption) | ((with_reducible refine Bk.new_ ?_); (first | rfl | (simp only [World.size_alloc, World.size_setCell, World.size_drew, World.heap_drewN]; done))) | (with_reducible refine Bk.alloc ?_ _) | (with_reducible refine Bk.drew ?_) | (with_reducible refine Bk.drewN ?_ _) | ((with_reducible refine Bk.far ?_ ?_ _); rotate_left; focus (simp only []; omega)) | ((with_reducible refine Bk.below ?_ (by with_reducible assumption) ?_); rotate_left; focus (go_size; done))))
    have kb_0 := kb.cell 0 rfl
    have kb_1 := kb.cell 1 rfl
    have kb_2 := kb.cell 2 rfl
    have kb_3 := kb.cell 3 rfl
    have kb_4 := kb.frozen 0
    have kb_5 := kb.frozen 1
    have kb_6 := kb.frozen 2
    have kb_7 := kb.frozen 3
    have kbl := kb.lt
    clear hb1c hb1f
    go_wp2_with fail
    refine (HB.out _).mono ?_
    rintro _ w2 ⟨rfl, hb2⟩; have hb2s := hb2.size; (try simp only [World.size_alloc, World.size_setCell, World.size_drew, World.heap_drewN] at hb2s); obtain ⟨hb2c, hb2f⟩ := bcell hb2; (try have : w.heap.size < w2.heap.size := by omega); (try have : w.heap.size + 1 < w2.heap.size := by omega); (try have : w.heap.size + 1 + 1 < w2.heap.size := by omega); (try have : w.heap.size + 1 + 1 + 1 < w2.heap.size := by omega)
    have ja : Bk w2 (w.heap.size) 26 [.bool false, .int .u64 x1, .int .u64 x0, .int .i64 s] := by (repeat (first | (with_reducible assumption) | ((with_reducible refine Bk.new_ ?_); (first | rfl | (simp only [World.size_alloc, World.size_setCell, World.size_drew, World.heap_drewN]; done))) | (with_reducible refine Bk.alloc ?_ _) | (with_reducible refine Bk.drew ?_) | (with_reducible refine Bk.drewN ?_ _) | ((with_reducible refine Bk.far ?_ ?_ _); rotate_left; focus (simp only []; omega)) | ((with_reducible refine Bk.below ?_ (by with_reducible assumption) ?_); rotate_left; focus (go_size; done))))
    have jb : Bk w2 (w.heap.size + 1) 26 [.bool false, .int .u64 y1, .int .u64 y0, .int .i64 s'] := by (repeat (first | (with_reducible assumption) | ((with_reducible refine Bk.new_ ?_); (first | rfl | (simp only [World.size_alloc, World.size_setCell, World.size_drew, World.heap_drewN]; done))) | (with_reducible refine Bk.alloc ?_ _) | (with_reducible refine Bk.drew ?_) | (with_reducible refine Bk.drewN ?_ _) | ((with_reducible refine Bk.far ?_ ?_ _); rotate_left; focus (simp only []; omega)) | ((with_reducible refine Bk.below ?_ (by with_reducible assumption) ?_); rotate_left; focus (go_size; done))))
    clear hb2c hb2f ka_0 ka_1 ka_2 ka_3 ka_4 ka_5 ka_6 ka_7 kb_0 kb_1 kb_2 kb_3 kb_4 kb_5 kb_6 kb_7 ka kb
    have ja_0 := ja.cell 0 rfl
    have ja_1 := ja.cell 1 rfl
    have ja_2 := ja.cell 2 rfl
    have ja_3 := ja.cell 3 rfl
    have ja_4 := ja.frozen 0
    have ja_5 := ja.frozen 1
    have ja_6 := ja.frozen 2
    have ja_7 := ja.frozen 3
    have jb_0 := jb.cell 0 rfl
    have jb_1 := jb.cell 1 rfl
    have jb_2 := jb.cell 2 rfl
    have jb_3 := jb.cell 3 rfl
    have jb_4 := jb.frozen 0
    have jb_5 := jb.frozen 1
    have jb_6 := jb.frozen 2
    have jb_7 := jb.frozen 3
    have jal := ja.lt
    have jbl := jb.lt
    clear ja jb
    go_wp2_with fail
    refine (HO.out _).mono ?_
    rintro _ w3 ⟨rfl, hb3⟩; have hb3s := hb3.size; (try simp only [World.size_alloc, World.size_setCell, World.size_drew, World.heap_drewN] at hb3s); obtain ⟨hb3c, hb3f⟩ := bcell hb3; (try have : w.heap.size < w3.heap.size := by omega); (try have : w.heap.size + 1 < w3.heap.size := by omega); (try have : w.heap.size + 1 + 1 < w3.heap.size := by omega); (try have : w.heap.size + 1 + 1 + 1 < w3.heap.size := by omega)
    go_wp2_with fail
    go_ret2
    exact ⟨rfl, by (repeat' (first | (with_reducible exact Below.refl _ _) | (with_reducible assumption) | (with_reducible refine Below.drew ?_) | (with_reducible refine below_drewN ?_ _) | ((with_reducible refine Below.alloc ?_ ?_ _); rotate_left; focus (go_size; done)) | ((with_reducible refine Below.setCell ?_ ?_ _); rotate_left; focus (go_size; done)) | ((with_reducible refine Below.trans ?_ (Below.mono (by with_reducible assumption) ?_)); rotate_left; focus (go_size; done))))⟩
  ·
    go_enter Try.func12, Try.ntmps12
    go_wp2_with fail
    (with_reducible refine (HF.out _ _ ?hg).mono ?_)
    case hg => ((repeat (first | (with_reducible assumption) | ((with_reducible refine Bk.new_ ?_); (first | rfl | (simp only [World.size_alloc, World.size_setCell, World.size_drew, World.heap_drewN]; done))) | (with_reducible refine Bk.alloc ?_ _) | (with_reducible refine Bk.drew ?_) | (with_reducible refine Bk.drewN ?_ _) | ((with_reducible refine Bk.far ?_ ?_ _); rotate_left; focus (simp only []; omega)) | ((with_reducible refine Bk.below ?_ (by with_reducible assumption) ?_); rotate_left; focus (go_size; done)))); done)
    rintro _ w1 ⟨rfl, hb1⟩; have hb1s := hb1.size; (try simp only [World.size_alloc, World.size_setCell, World.size_drew, World.heap_drewN] at hb1s); obtain ⟨hb1c, hb1f⟩ := bcell hb1; (try have : w.heap.size < w1.heap.size := by omega); (try have : w.heap.size + 1 < w1.heap.size := by omega); (try have : w.heap.size + 1 + 1 < w1.heap.size := by omega); (try have : w.heap.size + 1 + 1 + 1 < w1.heap.size := by omega)
    have ka : Bk w1 (w.heap.size) 26 [.bool false, .int .u64 x1, .int .u64 x0, .int .i64 s] := by (repeat (first | (with_reducible assumption) | ((with_reducible refine Bk.new_ ?_); (first | rfl | (simp only [World.size_alloc, World.size_setCell, World.size_drew, World.heap_drewN]; done))) | (with_reducible refine Bk.alloc ?_ _) | (with_reducible refine Bk.drew ?_) | (with_reducible refine Bk.drewN ?_ _) | ((with_reducible refine Bk.far ?_ ?_ _); rotate_left; focus (simp only []; omega)) | ((with_reducible refine Bk.below ?_ (by with_reducible assumption) ?_); rotate_left; focus (go_size; done))))
    have ka_0 := ka.cell 0 rfl
    have ka_1 := ka.cell 1 rfl
    have ka_2 := ka.cell 2 rfl
    have ka_3 := ka.cell 3 rfl
    have ka_4 := ka.frozen 0
    have ka_5 := ka.frozen 1
    have ka_6 := ka.frozen 2
    have ka_7 := ka.frozen 3
    have kal := ka.lt
    have kb : Bk w1 (w.heap.size + 1) 26 [.bool true, .int .u64 y1, .int .u64 y0, .int .i64 s'] := by (repeat (first | (with_reducible assumption) | ((with_reducible refine Bk.new_ ?_); (first | rfl | (simp only [World.size_alloc, World.size_setCell, World.size_drew, World.heap_drewN]; done))) | (with_reducible refine Bk.alloc ?_ _) | (with_reducible refine Bk.drew ?_) | (with_reducible refine Bk.drewN ?_ _) | ((with_reducible refine Bk.far ?_ ?_ _); rotate_left; focus (simp only []; omega)) | ((with_reducible refine Bk.below ?_ (by with_reducible assumption) ?_); rotate_left; focus (go_size; done))))
    have kb_0 := kb.cell 0 rfl
    have kb_1 := kb.cell 1 rfl
    have kb_2 := kb.cell 2 rfl
    have kb_3 := kb.cell 3 rfl
    have kb_4 := kb.frozen 0
    have kb_5 := kb.frozen 1
    have kb_6 := kb.frozen 2
    have kb_7 := kb.frozen 3
    have kbl := kb.lt
    clear hb1c hb1f ka kb
    go_wp2_with fail
    go_ret2
    exact ⟨rfl, by (repeat' (first | (with_reducible exact Below.refl _ _) | (with_reducible assumption) | (with_reducible refine Below.drew ?_) | (with_reducible refine below_drewN ?_ _) | ((with_reducible refine Below.alloc ?_ ?_ _); rotate_left; focus (go_size; done)) | ((with_reducible refine Below.setCell ?_ ?_ _); rotate_left; focus (go_size; done)) | ((with_reducible refine Below.trans ?_ (Below.mono (by with_reducible assumption) ?_)); rotate_left; focus (go_size; done))))⟩
  ·
    go_enter Try.func12, Try.ntmps12
    go_wp2_with fail
    (with_reducible refine (HF.out _ _ ?hg).mono ?_)
    case hg => ((repeat (first | (with_reducible assumption) | ((with_reducible refine Bk.new_ ?_); (first | rfl | (simp only [World.size_alloc, World.size_setCell, World.size_drew, World.heap_drewN]; done))) | (with_reducible refine Bk.alloc ?_ _) | (with_reducible refine Bk.drew ?_) | (with_reducible refine Bk.drewN ?_ _) | ((with_reducible refine Bk.far ?_ ?_ _); rotate_left; focus (simp only []; omega)) | ((with_reducible refine Bk.below ?_ (by with_reducible assumption) ?_); rotate_left; focus (go_size; done)))); done)
    rintro _ w1 ⟨rfl, hb1⟩; have hb1s := hb1.size; (try simp only [World.size_alloc, World.size_setCell, World.size_drew, World.heap_drewN] at hb1s); obtain ⟨hb1c, hb1f⟩ := bcell hb1; (try have : w.heap.size < w1.heap.size := by omega); (try have : w.heap.size + 1 < w1.heap.size := by omega); (try have : w.heap.size + 1 + 1 < w1.heap.size := by omega); (try have : w.heap.size + 1 + 1 + 1 < w1.heap.size := by omega)
    have ka : Bk w1 (w.heap.size) 26 [.bool true, .int .u64 x1, .int .u64 x0, .int .i64 s] := by (repeat (first | (with_reducible assumption) | ((with_reducible refine Bk.new_ ?_); (first | rfl | (simp only [World.size_alloc, World.size_setCell, World.size_drew, World.heap_drewN]; done))) | (with_reducible refine Bk.alloc ?_ _) | (with_reducible refine Bk.drew ?_) | (with_reducible refine Bk.drewN ?_ _) | ((with_reducible refine Bk.far ?_ ?_ _); rotate_left; focus (simp only []; omega)) | ((with_reducible refine Bk.below ?_ (by with_reducible assumption) ?_); rotate_left; focus (go_size; done))))
    have ka_0 := ka.cell 0 rfl
    have ka_1 := ka.cell 1 rfl
    have ka_2 := ka.cell 2 rfl
    have ka_3 := ka.cell 3 rfl
    have ka_4 := ka.frozen 0
    have ka_5 := ka.frozen 1
    have ka_6 := ka.frozen 2
    have ka_7 := ka.frozen 3
    have kal := ka.lt
    have kb : Bk w1 (w.heap.size + 1) 26 [.bool false, .int .u64 y1, .int .u64 y0, .int .i64 s'] := by (repeat (first | (with_reducible assumption) | ((with_reducible refine Bk.new_ ?_); (first | rfl | (simp only [World.size_alloc, World.size_setCell, World.size_drew, World.heap_drewN]; done))) | (with_reducible refine Bk.alloc ?_ _) | (with_reducible refine Bk.drew ?_) | (with_reducible refine Bk.drewN ?_ _) | ((with_reducible refine Bk.far ?_ ?_ _); rotate_left; focus (simp only []; omega)) | ((with_reducible refine Bk.below ?_ (by with_reducible assumption) ?_); rotate_left; focus (go_size; done))))
    have kb_0 := kb.cell 0 rfl
    have kb_1 := kb.cell 1 rfl
    have kb_2 := kb.cell 2 rfl
    have kb_3 := kb.cell 3 rfl
    have kb_4 := kb.frozen 0
    have kb_5 := kb.frozen 1
    have kb_6 := kb.frozen 2
    have kb_7 := kb.frozen 3
    have kbl := kb.lt
    clear hb1c hb1f ka kb
    go_wp2_with fail
    go_ret2
    exact ⟨rfl, by (repeat' (first | (with_reducible exact Below.refl _ _) | (with_reducible assumption) | (with_reducible refine Below.drew ?_) | (with_reducible refine below_drewN ?_ _) | ((with_reducible refine Below.alloc ?_ ?_ _); rotate_left; focus (go_size; done)) | ((with_reducible refine Below.setCell ?_ ?_ _); rotate_left; focus (go_size; done)) | ((with_reducible refine Below.trans ?_ (Below.mono (by with_reducible assumption) ?_)); rotate_left; focus (go_size; done))))⟩
  · obtain ⟨b, hb⟩ : ∃ b, b = true := ⟨_, rfl⟩
    go_enter Try.func12, Try.ntmps12
    go_wp2_with fail
    (with_reducible refine (HF.out _ _ ?hg).mono ?_)
    case hg => ((repeat (first | (with_reducible assumption) | ((with_reducible refine Bk.new_ ?_); (first | rfl | (simp only [World.size_alloc, World.size_setCell, World.size_drew, World.heap_drewN]; done))) | (with_reducible refine Bk.alloc ?_ _) | (with_reducible refine Bk.drew ?_) | (with_reducible refine Bk.drewN ?_ _) | ((with_reducible refine Bk.far ?_ ?_ _); rotate_left; focus (simp only []; omega)) | ((with_reducible refine Bk.below ?_ (by with_reducible assumption) ?_); rotate_left; focus (go_size; done)))); done)
    rintro _ w1 ⟨rfl, hb1⟩; have hb1s := hb1.size; (try simp only [World.size_alloc, World.size_setCell, World.size_drew, World.heap_drewN] at hb1s); obtain ⟨hb1c, hb1f⟩ := bcell hb1; (try have : w.heap.size < w1.heap.size := by omega); (try have : w.heap.size + 1 < w1.heap.size := by omega); (try have : w.heap.size + 1 + 1 < w1.heap.size := by omega); (try have : w.heap.size + 1 + 1 + 1 < w1.heap.size := by omega)
    have ka : Bk w1 (w.heap.size) 26 [.bool true, .int .u64 x1, .int .u64 x0, .int .i64 s] := by (repeat (first | (with_reducible assumption) | ((with_reducible refine Bk.new_ ?_); (first | rfl | (simp only [World.size_alloc, World.size_setCell, World.size_drew, World.heap_drewN]; done))) | (with_reducible refine Bk.alloc ?_ _) | (with_reducible refine Bk.drew ?_) | (with_reducible refine Bk.drewN ?_ _) | ((with_reducible refine Bk.far ?_ ?_ _); rotate_left; focus (simp only []; omega)) | ((with_reducible refine Bk.below ?_ (by with_reducible assumption) ?_); rotate_left; focus (go_size; done))))
    have ka_0 := ka.cell 0 rfl
    have ka_1 := ka.cell 1 rfl
    have ka_2 := ka.cell 2 rfl
    have ka_3 := ka.cell 3 rfl
    have ka_4 := ka.frozen 0
    have ka_5 := ka.frozen 1
    have ka_6 := ka.frozen 2
    have ka_7 := ka.frozen 3
    have kal := ka.lt
    have kb : Bk w1 (w.heap.size + 1) 26 [.bool true, .int .u64 y1, .int .u64 y0, .int .i64 s'] := by (repeat (first | (with_reducible assumption) | ((with_reducible refine Bk.new_ ?_); (first | rfl | (simp only [World.size_alloc, World.size_setCell, World.size_drew, World.heap_drewN]; done))) | (with_reducible refine Bk.alloc ?_ _) | (with_reducible refine Bk.drew ?_) | (with_reducible refine Bk.drewN ?_ _) | ((with_reducible refine Bk.far ?_ ?_ _); rotate_left; focus (simp only []; omega)) | ((with_reducible refine Bk.below ?_ (by with_reducible assumption) ?_); rotate_left; focus (go_size; done))))
    have kb_0 := kb.cell 0 rfl
    have kb_1 := kb.cell 1 rfl
    have kb_2 := kb.cell 2 rfl
    have kb_3 := kb.cell 3 rfl
    have kb_4 := kb.frozen 0
    have kb_5 := kb.frozen 1
    have kb_6 := kb.frozen 2
    have kb_7 := kb.frozen 3
    have kbl := kb.lt
    clear hb1c hb1f
    go_wp2_with fail
    refine (HB.out _).mono ?_
    rintro _ w2 ⟨rfl, hb2⟩; have hb2s := hb2.size; (try simp only [World.size_alloc, World.size_setCell, World.size_drew, World.heap_drewN] at hb2s); obtain ⟨hb2c, hb2f⟩ := bcell hb2; (try have : w.heap.size < w2.heap.size := by omega); (try have : w.heap.size + 1 < w2.heap.size := by omega); (try have : w.heap.size + 1 + 1 < w2.heap.size := by omega); (try have : w.heap.size + 1 + 1 + 1 < w2.heap.size := by omega)
    have ja : Bk w2 (w.heap.size) 26 [.bool true, .int .u64 x1, .int .u64 x0, .int .i64 s] := by (repeat (first | (with_reducible assumption) | ((with_reducible refine Bk.new_ ?_); (first | rfl | (simp only [World.size_alloc, World.size_setCell, World.size_drew, World.heap_drewN]; done))) | (with_reducible refine Bk.alloc ?_ _) | (with_reducible refine Bk.drew ?_) | (with_reducible refine Bk.drewN ?_ _) | ((with_reducible refine Bk.far ?_ ?_ _); rotate_left; focus (simp only []; omega)) | ((with_reducible refine Bk.below ?_ (by with_reducible assumption) ?_); rotate_left; focus (go_size; done))))
    have jb : Bk w2 (w.heap.size + 1) 26 [.bool true, .int .u64 y1, .int .u64 y0, .int .i64 s'] := by (repeat (first | (with_reducible assumption) | ((with_reducible refine Bk.new_ ?_); (first | rfl | (simp only [World.size_alloc, World.size_setCell, World.size_drew, World.heap_drewN]; done))) | (with_reducible refine Bk.alloc ?_ _) | (with_reducible refine Bk.drew ?_) | (with_reducible refine Bk.drewN ?_ _) | ((with_reducible refine Bk.far ?_ ?_ _); rotate_left; focus (simp only []; omega)) | ((with_reducible refine Bk.below ?_ (by with_reducible assumption) ?_); rotate_left; focus (go_size; done))))
    clear hb2c hb2f ka_0 ka_1 ka_2 ka_3 ka_4 ka_5 ka_6 ka_7 kb_0 kb_1 kb_2 kb_3 kb_4 kb_5 kb_6 kb_7 ka kb
    have ja_0 := ja.cell 0 rfl
    have ja_1 := ja.cell 1 rfl
    have ja_2 := ja.cell 2 rfl
    have ja_3 := ja.cell 3 rfl
    have ja_4 := ja.frozen 0
    have ja_5 := ja.frozen 1
    have ja_6 := ja.frozen 2
    have ja_7 := ja.frozen 3
    have jb_0 := jb.cell 0 rfl
    have jb_1 := jb.cell 1 rfl
    have jb_2 := jb.cell 2 rfl
    have jb_3 := jb.cell 3 rfl
    have jb_4 := jb.frozen 0
    have jb_5 := jb.frozen 1
    have jb_6 := jb.frozen 2
    have jb_7 := jb.frozen 3
    have jal := ja.lt
    have jbl := jb.lt
    clear ja jb
    go_wp2_with fail
    refine (HP.out _).mono ?_
    rintro _ w3 ⟨rfl, hb3⟩; have hb3s := hb3.size; (try simp only [World.size_alloc, World.size_setCell, World.size_drew, World.heap_drewN] at hb3s); obtain ⟨hb3c, hb3f⟩ := bcell hb3; (try have : w.heap.size < w3.heap.size := by omega); (try have : w.heap.size + 1 < w3.heap.size := by omega); (try have : w.heap.size + 1 + 1 < w3.heap.size := by omega); (try have : w.heap.size + 1 + 1 + 1 < w3.heap.size := by omega)
    go_wp2_with fail
    go_ret2
    exact ⟨rfl, by (repeat' (first | (with_reducible exact Below.refl _ _) | (with_reducible assumption) | (with_reducible refine Below.drew ?_) | (with_reducible refine below_drewN ?_ _) | ((with_reducible refine Below.alloc ?_ ?_ _); rotate_left; focus (go_size; done)) | ((with_reducible refine Below.setCell ?_ ?_ _); rotate_left; focus (go_size; done)) | ((with_reducible refine Below.trans ?_ (Below.mono (by with_reducible assumption) ?_)); rotate_left; focus (go_size; done))))⟩
end Go.Proofs.Ythkgjodidkpaeaa
