/- The contracts of the functions that the law reaches, part 4: what each returns and what becomes of memory. -/
import Derived.Deep.DeepCutAuto
import Derived.Deep.RegionHeld3
import Derived.RegionTactic
import Derived.BigRegion
import Derived.StillTailTactics
import Derived.Test.YthkgjodidkpaeaaM1
import Derived.Test.YthkgjodidkpaeaaM2
import Derived.Test.YthkgjodidkpaeaaM3
set_option linter.unusedSimpArgs false
set_option linter.unusedVariables false
namespace Go.Proofs.Ythkgjodidkpaeaa
open Go.RowKit

theorem unit_zero {c s : Nat} : unit c s = 0 ↔ c = 0 := by
  unfold unit
  rw [Nat.mul_eq_zero]
  have : 10 ^ (18 - s) ≠ 0 := Nat.ne_of_gt (Nat.pow_pos (by decide))
  constructor
  · rintro (h | h)
    · exact h
    · exact absurd h this
  · exact .inl
theorem unit_slim {c s : Nat} (h : c < B34) : Slim (unit c s) := Slim.of_lt (unit_lt h) (by decide)
set_option maxHeartbeats 4000000 in
theorem docdiv_zero2 (b : Bool) (c s : Nat) (b' : Bool) (c' s' : Nat) (h : dform b c s = true) (h' : dform b' c' s' = true) (hc : c < B34) (hc' : c' < B34) (hs : s ≤ 18) (hs' : s' ≤ 18) (h0 : c' = 0) (w : World) :
    Calls Try.prog 42 #[.agg #[.bool b, .int .u64 (wd (c) 1), .int .u64 (wd (c) 0), .int .i64 s], .agg #[.bool b', .int .u64 (wd (c') 1), .int .u64 (wd (c') 0), .int .i64 s']] w fun e w' => e = .returned (.tuple #[.agg #[.bool false, .int .u64 0, .int .u64 0, .int .i64 0], .int .i64 4]) ∧ Below w.heap.size w w' := by
  have hc2 := Nat.lt_trans hc B34_lt
  have hc2' := Nat.lt_trans hc' B34_lt
  have HF := Lib.hid (fun W => forms_any b c s b' c' s' hc2 hc2' W)
  rw [h, h', Bool.and_true] at HF
  have HU := Lib.hid (fun W => units_any b c s hc2 hs W)
  have HV := Lib.hid (fun W => units_any b' c' s' hc2' hs' W)
  unfold RetUnits at HU HV
  rw [unit_zero.2 h0] at HV
  generalize unit c s = X at *
  generalize unit c' s' = Y at *
  generalize wd c 0 = x0 at *
  generalize wd c 1 = x1 at *
  generalize wd c' 0 = y0 at *
  generalize wd c' 1 = y1 at *
  clear hc hc' h h' hs hs' hc2 hc2'
  clear h0
  go_enter Try.func42, Try.ntmps42
  go_wp2_with fail
  refine (HF.out _).mono ?_
  rintro _ w1 ⟨rfl, hb1⟩; have hb1s := hb1.size; (try simp only [World.size_alloc, World.size_setCell, World.size_drew, World.heap_drewN] at hb1s); obtain ⟨hb1c, hb1f⟩ := bcell hb1; (try have : w.heap.size < w1.heap.size := by omega); (try have : w.heap.size + 1 < w1.heap.size := by omega); (try have : w.heap.size + 1 + 1 < w1.heap.size := by omega); (try have : w.heap.size + 1 + 1 + 1 < w1.heap.size := by omega)
  have ka : Bk w1 (w.heap.size) 26 [.bool b, .int .u64 x1, .int .u64 x0, .int .i64 (s : Int)] := by (repeat (first | (with_reducible assumption) | ((with_reducible refine Bk.new_ ?_); (first | rfl | (simp only [World.size_alloc, World.size_setCell, World.size_drew, World.heap_drewN]; done))) | (with_reducible refine Bk.alloc ?_ _) | (with_reducible refine Bk.drew ?_) | (with_reducible refine Bk.drewN ?_ _) | ((with_reducible refine Bk.far ?_ ?_ _); rotate_left; focus (simp only []; omega)) | ((with_reducible refine Bk.below ?_ (by with_reducible assumption) ?_); rotate_left; focus (go_size; done))))
  have ka_0 := ka.cell 0 rfl
  have ka_1 := ka.cell 1 rfl
  have ka_2 := ka.cell 2 rfl
  have ka_3 := ka.cell 3 rfl
  have ka_4 := ka.frozen 0
  have ka_5 := ka.frozen 1
  have ka_6 := ka.frozen 2
  have ka_7 := ka.frozen 3
  have kal := ka.lt
  have kb : Bk w1 (w.heap.size + 1) 26 [.bool b', .int .u64 y1, .int .u64 y0, .int .i64 (s' : Int)] := by (repeat (first | (with_reducible assumption) | ((with_reducible refine Bk.new_ ?_); (first | rfl | (simp only [World.size_alloc, World.size_setCell, World.size_drew, World.heap_drewN]; done))) | (with_reducible refine Bk.alloc ?_ _) | (with_reducible refine Bk.drew ?_) | (with_reducible refine Bk.drewN ?_ _) | ((with_reducible refine Bk.far ?_ ?_ _); rotate_left; focus (simp only []; omega)) | ((with_reducible refine Bk.below ?_ (by with_reducible assumption) ?_); rotate_left; focus (go_size; done))))
  have kb_0 := kb.cell 0 rfl
  have kb_1 := kb.cell 1 rfl
  have kb_2 := kb.cell 2 rfl
  have kb_3 := kb.cell 3 rfl
  have kb_4 := kb.frozen 0
  have kb_5 := kb.frozen 1
  have kb_6 := kb.frozen 2
  have kb_7 := kb.frozen 3
  have kbl := kb.lt
  have kr : Bk w1 (w.heap.size + 1 + 1) 26 [.bool false, .int .u64 0, .int .u64 0, .int .i64 0] := by (repeat (first | (with_reducible assumption) | ((with_reducible refine Bk.new_ ?_); (first | rfl | (simp only [World.size_alloc, World.size_setCell, World.size_drew, World.heap_drewN]; done))) | (with_reducible refine Bk.alloc ?_ _) | (with_reducible refine Bk.drew ?_) | (with_reducible refine Bk.drewN ?_ _) | ((with_reducible refine Bk.far ?_ ?_ _); rotate_left; focus (simp only []; omega)) | ((with_reducible refine Bk.below ?_ (by with_reducible assumption) ?_); rotate_left; focus (go_size; done))))
  have krl := kr.lt
  clear hb1c hb1f
  go_wp2_with fail
  refine (HU.out _).mono ?_
  rintro _ w2 ⟨v2, rfl, d2, hb2⟩
  have hb2s := hb2.size
  have Hd2 := Lib.hid d2
  clear d2
  have ja : Bk w2 w.heap.size 26 [.bool b, .int .u64 x1, .int .u64 x0, .int .i64 (s : Int)] := by (repeat (first | (with_reducible assumption) | ((with_reducible refine Bk.new_ ?_); (first | rfl | (simp only [World.size_alloc, World.size_setCell, World.size_drew, World.heap_drewN]; done))) | (with_reducible refine Bk.alloc ?_ _) | (with_reducible refine Bk.drew ?_) | (with_reducible refine Bk.drewN ?_ _) | ((with_reducible refine Bk.far ?_ ?_ _); rotate_left; focus (simp only []; omega)) | ((with_reducible refine Bk.below ?_ (by with_reducible assumption) ?_); rotate_left; focus (go_size; done))))
  have jb : Bk w2 (w.heap.size + 1) 26 [.bool b', .int .u64 y1, .int .u64 y0, .int .i64 (s' : Int)] := by (repeat (first | (with_reducible assumption) | ((with_reducible refine Bk.new_ ?_); (first | rfl | (simp only [World.size_alloc, World.size_setCell, World.size_drew, World.heap_drewN]; done))) | (with_reducible refine Bk.alloc ?_ _) | (with_reducible refine Bk.drew ?_) | (with_reducible refine Bk.drewN ?_ _) | ((with_reducible refine Bk.far ?_ ?_ _); rotate_left; focus (simp only []; omega)) | ((with_reducible refine Bk.below ?_ (by with_reducible assumption) ?_); rotate_left; focus (go_size; done))))
  have jr : Bk w2 (w.heap.size + 1 + 1) 26 [.bool false, .int .u64 0, .int .u64 0, .int .i64 0] := by (repeat (first | (with_reducible assumption) | ((with_reducible refine Bk.new_ ?_); (first | rfl | (simp only [World.size_alloc, World.size_setCell, World.size_drew, World.heap_drewN]; done))) | (with_reducible refine Bk.alloc ?_ _) | (with_reducible refine Bk.drew ?_) | (with_reducible refine Bk.drewN ?_ _) | ((with_reducible refine Bk.far ?_ ?_ _); rotate_left; focus (simp only []; omega)) | ((with_reducible refine Bk.below ?_ (by with_reducible assumption) ?_); rotate_left; focus (go_size; done))))
  have jal := ja.lt
  have jbl := jb.lt
  have jrl := jr.lt
  clear ka_0 ka_1 ka_2 ka_3 ka_4 ka_5 ka_6 ka_7
  clear kb_0 kb_1 kb_2 kb_3 kb_4 kb_5 kb_6 kb_7
  have jb_0 := jb.cell 0 rfl
  have jb_1 := jb.cell 1 rfl
  have jb_2 := jb.cell 2 rfl
  have jb_3 := jb.cell 3 rfl
  have jb_4 := jb.frozen 0
  have jb_5 := jb.frozen 1
  have jb_6 := jb.frozen 2
  have jb_7 := jb.frozen 3
  go_wp2_with fail
  refine (HV.out _).mono ?_
  rintro _ w3 ⟨v3, rfl, d3, hb3⟩
  have hb3s := hb3.size
  have Hd3 := Lib.hid d3
  clear d3
  have qa : Bk w3 w.heap.size 26 [.bool b, .int .u64 x1, .int .u64 x0, .int .i64 (s : Int)] := by (repeat (first | (with_reducible assumption) | ((with_reducible refine Bk.new_ ?_); (first | rfl | (simp only [World.size_alloc, World.size_setCell, World.size_drew, World.heap_drewN]; done))) | (with_reducible refine Bk.alloc ?_ _) | (with_reducible refine Bk.drew ?_) | (with_reducible refine Bk.drewN ?_ _) | ((with_reducible refine Bk.far ?_ ?_ _); rotate_left; focus (simp only []; omega)) | ((with_reducible refine Bk.below ?_ (by with_reducible assumption) ?_); rotate_left; focus (go_size; done))))
  have qb : Bk w3 (w.heap.size + 1) 26 [.bool b', .int .u64 y1, .int .u64 y0, .int .i64 (s' : Int)] := by (repeat (first | (with_reducible assumption) | ((with_reducible refine Bk.new_ ?_); (first | rfl | (simp only [World.size_alloc, World.size_setCell, World.size_drew, World.heap_drewN]; done))) | (with_reducible refine Bk.alloc ?_ _) | (with_reducible refine Bk.drew ?_) | (with_reducible refine Bk.drewN ?_ _) | ((with_reducible refine Bk.far ?_ ?_ _); rotate_left; focus (simp only []; omega)) | ((with_reducible refine Bk.below ?_ (by with_reducible assumption) ?_); rotate_left; focus (go_size; done))))
  have qr : Bk w3 (w.heap.size + 1 + 1) 26 [.bool false, .int .u64 0, .int .u64 0, .int .i64 0] := by (repeat (first | (with_reducible assumption) | ((with_reducible refine Bk.new_ ?_); (first | rfl | (simp only [World.size_alloc, World.size_setCell, World.size_drew, World.heap_drewN]; done))) | (with_reducible refine Bk.alloc ?_ _) | (with_reducible refine Bk.drew ?_) | (with_reducible refine Bk.drewN ?_ _) | ((with_reducible refine Bk.far ?_ ?_ _); rotate_left; focus (simp only []; omega)) | ((with_reducible refine Bk.below ?_ (by with_reducible assumption) ?_); rotate_left; focus (go_size; done))))
  have HKA := Lib.hid qa
  have HKB := Lib.hid qb
  have HKR := Lib.hid qr
  have qal := qa.lt
  have qbl := qb.lt
  have qrl := qr.lt
  clear jb_0 jb_1 jb_2 jb_3 jb_4 jb_5 jb_6 jb_7
  have qa_0 := qa.cell 0 rfl
  have qa_1 := qa.cell 1 rfl
  have qa_2 := qa.cell 2 rfl
  have qa_3 := qa.cell 3 rfl
  have qa_4 := qa.frozen 0
  have qa_5 := qa.frozen 1
  have qa_6 := qa.frozen 2
  have qa_7 := qa.frozen 3
  have qb_0 := qb.cell 0 rfl
  have qb_1 := qb.cell 1 rfl
  have qb_2 := qb.cell 2 rfl
  have qb_3 := qb.cell 3 rfl
  have qb_4 := qb.frozen 0
  have qb_5 := qb.frozen 1
  have qb_6 := qb.frozen 2
  have qb_7 := qb.frozen 3
  have qr_0 := qr.cell 0 rfl
  have qr_1 := qr.cell 1 rfl
  have qr_2 := qr.cell 2 rfl
  have qr_3 := qr.cell 3 rfl
  have qr_4 := qr.frozen 0
  have qr_5 := qr.frozen 1
  have qr_6 := qr.frozen 2
  have qr_7 := qr.frozen 3
  clear ka kb kr ja jb jr
  obtain ⟨A, k, cc, rfl, hk, hkc⟩ := dg_len Hd3.out
  obtain rfl : k = 0 := hk.2 rfl
  clear hk
  go_wp2_with fail
  refine bodyPost_ret (by simp [results, Try.results42, go_sem, *]; try rfl) rfl ?_
  exact ⟨rfl, by (repeat' (first | (with_reducible exact Below.refl _ _) | (with_reducible assumption) | (with_reducible refine Below.drew ?_) | (with_reducible refine below_drewN ?_ _) | ((with_reducible refine Below.alloc ?_ ?_ _); rotate_left; focus (go_size; done)) | ((with_reducible refine Below.setCell ?_ ?_ _); rotate_left; focus (go_size; done)) | ((with_reducible refine Below.trans ?_ (Below.mono (by with_reducible assumption) ?_)); rotate_left; focus (go_size; done))))⟩
set_option maxHeartbeats 4000000 in
theorem docmod_zero2 (b : Bool) (c s : Nat) (b' : Bool) (c' s' : Nat) (h : dform b c s = true) (h' : dform b' c' s' = true) (hc : c < B34) (hc' : c' < B34) (hs : s ≤ 18) (hs' : s' ≤ 18) (h0 : c' = 0) (w : World) :
    Calls Try.prog 44 #[.agg #[.bool b, .int .u64 (wd (c) 1), .int .u64 (wd (c) 0), .int .i64 s], .agg #[.bool b', .int .u64 (wd (c') 1), .int .u64 (wd (c') 0), .int .i64 s']] w fun e w' => e = .returned (.tuple #[.agg #[.bool false, .int .u64 0, .int .u64 0, .int .i64 0], .int .i64 4]) ∧ Below w.heap.size w w' := by
  have hc2 := Nat.lt_trans hc B34_lt
  have hc2' := Nat.lt_trans hc' B34_lt
  have HF := Lib.hid (fun W => forms_any b c s b' c' s' hc2 hc2' W)
  rw [h, h', Bool.and_true] at HF
  have HU := Lib.hid (fun W => units_any b c s hc2 hs W)
  have HV := Lib.hid (fun W => units_any b' c' s' hc2' hs' W)
  unfold RetUnits at HU HV
  rw [unit_zero.2 h0] at HV
  generalize unit c s = X at *
  generalize unit c' s' = Y at *
  generalize wd c 0 = x0 at *
  generalize wd c 1 = x1 at *
  generalize wd c' 0 = y0 at *
  generalize wd c' 1 = y1 at *
  clear hc hc' h h' hs hs' hc2 hc2'
  clear h0
  go_enter Try.func44, Try.ntmps44
  go_wp2_with fail
  refine (HF.out _).mono ?_
  rintro _ w1 ⟨rfl, hb1⟩; have hb1s := hb1.size; (try simp only [World.size_alloc, World.size_setCell, World.size_drew, World.heap_drewN] at hb1s); obtain ⟨hb1c, hb1f⟩ := bcell hb1; (try have : w.heap.size < w1.heap.size := by omega); (try have : w.heap.size + 1 < w1.heap.size := by omega); (try have : w.heap.size + 1 + 1 < w1.heap.size := by omega); (try have : w.heap.size + 1 + 1 + 1 < w1.heap.size := by omega)
  have ka : Bk w1 (w.heap.size) 26 [.bool b, .int .u64 x1, .int .u64 x0, .int .i64 (s : Int)] := by (repeat (first | (with_reducible assumption) | ((with_reducible refine Bk.new_ ?_); (first | rfl | (simp only [World.size_alloc, World.size_setCell, World.size_drew, World.heap_drewN]; done))) | (with_reducible refine Bk.alloc ?_ _) | (with_reducible refine Bk.drew ?_) | (with_reducible refine Bk.drewN ?_ _) | ((with_reducible refine Bk.far ?_ ?_ _); rotate_left; focus (simp only []; omega)) | ((with_reducible refine Bk.below ?_ (by with_reducible assumption) ?_); rotate_left; focus (go_size; done))))
  have ka_0 := ka.cell 0 rfl
  have ka_1 := ka.cell 1 rfl
  have ka_2 := ka.cell 2 rfl
  have ka_3 := ka.cell 3 rfl
  have ka_4 := ka.frozen 0
  have ka_5 := ka.frozen 1
  have ka_6 := ka.frozen 2
  have ka_7 := ka.frozen 3
  have kal := ka.lt
  have kb : Bk w1 (w.heap.size + 1) 26 [.bool b', .int .u64 y1, .int .u64 y0, .int .i64 (s' : Int)] := by (repeat (first | (with_reducible assumption) | ((with_reducible refine Bk.new_ ?_); (first | rfl | (simp only [World.size_alloc, World.size_setCell, World.size_drew, World.heap_drewN]; done))) | (with_reducible refine Bk.alloc ?_ _) | (with_reducible refine Bk.drew ?_) | (with_reducible refine Bk.drewN ?_ _) | ((with_reducible refine Bk.far ?_ ?_ _); rotate_left; focus (simp only []; omega)) | ((with_reducible refine Bk.below ?_ (by with_reducible assumption) ?_); rotate_left; focus (go_size; done))))
  have kb_0 := kb.cell 0 rfl
  have kb_1 := kb.cell 1 rfl
  have kb_2 := kb.cell 2 rfl
  have kb_3 := kb.cell 3 rfl
  have kb_4 := kb.frozen 0
  have kb_5 := kb.frozen 1
  have kb_6 := kb.frozen 2
  have kb_7 := kb.frozen 3
  have kbl := kb.lt
  have kr : Bk w1 (w.heap.size + 1 + 1) 26 [.bool false, .int .u64 0, .int .u64 0, .int .i64 0] := by (repeat (first | (with_reducible assumption) | ((with_reducible refine Bk.new_ ?_); (first | rfl | (simp only [World.size_alloc, World.size_setCell, World.size_drew, World.heap_drewN]; done))) | (with_reducible refine Bk.alloc ?_ _) | (with_reducible refine Bk.drew ?_) | (with_reducible refine Bk.drewN ?_ _) | ((with_reducible refine Bk.far ?_ ?_ _); rotate_left; focus (simp only []; omega)) | ((with_reducible refine Bk.below ?_ (by with_reducible assumption) ?_); rotate_left; focus (go_size; done))))
  have krl := kr.lt
  clear hb1c hb1f
  go_wp2_with fail
  refine (HU.out _).mono ?_
  rintro _ w2 ⟨v2, rfl, d2, hb2⟩
  have hb2s := hb2.size
  have Hd2 := Lib.hid d2
  clear d2
  have ja : Bk w2 w.heap.size 26 [.bool b, .int .u64 x1, .int .u64 x0, .int .i64 (s : Int)] := by (repeat (first | (with_reducible assumption) | ((with_reducible refine Bk.new_ ?_); (first | rfl | (simp only [World.size_alloc, World.size_setCell, World.size_drew, World.heap_drewN]; done))) | (with_reducible refine Bk.alloc ?_ _) | (with_reducible refine Bk.drew ?_) | (with_reducible refine Bk.drewN ?_ _) | ((with_reducible refine Bk.far ?_ ?_ _); rotate_left; focus (simp only []; omega)) | ((with_reducible refine Bk.below ?_ (by with_reducible assumption) ?_); rotate_left; focus (go_size; done))))
  have jb : Bk w2 (w.heap.size + 1) 26 [.bool b', .int .u64 y1, .int .u64 y0, .int .i64 (s' : Int)] := by (repeat (first | (with_reducible assumption) | ((with_reducible refine Bk.new_ ?_); (first | rfl | (simp only [World.size_alloc, World.size_setCell, World.size_drew, World.heap_drewN]; done))) | (with_reducible refine Bk.alloc ?_ _) | (with_reducible refine Bk.drew ?_) | (with_reducible refine Bk.drewN ?_ _) | ((with_reducible refine Bk.far ?_ ?_ _); rotate_left; focus (simp only []; omega)) | ((with_reducible refine Bk.below ?_ (by with_reducible assumption) ?_); rotate_left; focus (go_size; done))))
  have jr : Bk w2 (w.heap.size + 1 + 1) 26 [.bool false, .int .u64 0, .int .u64 0, .int .i64 0] := by (repeat (first | (with_reducible assumption) | ((with_reducible refine Bk.new_ ?_); (first | rfl | (simp only [World.size_alloc, World.size_setCell, World.size_drew, World.heap_drewN]; done))) | (with_reducible refine Bk.alloc ?_ _) | (with_reducible refine Bk.drew ?_) | (with_reducible refine Bk.drewN ?_ _) | ((with_reducible refine Bk.far ?_ ?_ _); rotate_left; focus (simp only []; omega)) | ((with_reducible refine Bk.below ?_ (by with_reducible assumption) ?_); rotate_left; focus (go_size; done))))
  have jal := ja.lt
  have jbl := jb.lt
  have jrl := jr.lt
  clear ka_0 ka_1 ka_2 ka_3 ka_4 ka_5 ka_6 ka_7
  clear kb_0 kb_1 kb_2 kb_3 kb_4 kb_5 kb_6 kb_7
  have jb_0 := jb.cell 0 rfl
  have jb_1 := jb.cell 1 rfl
  have jb_2 := jb.cell 2 rfl
  have jb_3 := jb.cell 3 rfl
  have jb_4 := jb.frozen 0
  have jb_5 := jb.frozen 1
  have jb_6 := jb.frozen 2
  have jb_7 := jb.frozen 3
  go_wp2_with fail
  refine (HV.out _).mono ?_
  rintro _ w3 ⟨v3, rfl, d3, hb3⟩
  have hb3s := hb3.size
  have Hd3 := Lib.hid d3
  clear d3
  have qa : Bk w3 w.heap.size 26 [.bool b, .int .u64 x1, .int .u64 x0, .int .i64 (s : Int)] := by (repeat (first | (with_reducible assumption) | ((with_reducible refine Bk.new_ ?_); (first | rfl | (simp only [World.size_alloc, World.size_setCell, World.size_drew, World.heap_drewN]; done))) | (with_reducible refine Bk.alloc ?_ _) | (with_reducible refine Bk.drew ?_) | (with_reducible refine Bk.drewN ?_ _) | ((with_reducible refine Bk.far ?_ ?_ _); rotate_left; focus (simp only []; omega)) | ((with_reducible refine Bk.below ?_ (by with_reducible assumption) ?_); rotate_left; focus (go_size; done))))
  have qb : Bk w3 (w.heap.size + 1) 26 [.bool b', .int .u64 y1, .int .u64 y0, .int .i64 (s' : Int)] := by (repeat (first | (with_reducible assumption) | ((with_reducible refine Bk.new_ ?_); (first | rfl | (simp only [World.size_alloc, World.size_setCell, World.size_drew, World.heap_drewN]; done))) | (with_reducible refine Bk.alloc ?_ _) | (with_reducible refine Bk.drew ?_) | (with_reducible refine Bk.drewN ?_ _) | ((with_reducible refine Bk.far ?_ ?_ _); rotate_left; focus (simp only []; omega)) | ((with_reducible refine Bk.below ?_ (by with_reducible assumption) ?_); rotate_left; focus (go_size; done))))
  have qr : Bk w3 (w.heap.size + 1 + 1) 26 [.bool false, .int .u64 0, .int .u64 0, .int .i64 0] := by (repeat (first | (with_reducible assumption) | ((with_reducible refine Bk.new_ ?_); (first | rfl | (simp only [World.size_alloc, World.size_setCell, World.size_drew, World.heap_drewN]; done))) | (with_reducible refine Bk.alloc ?_ _) | (with_reducible refine Bk.drew ?_) | (with_reducible refine Bk.drewN ?_ _) | ((with_reducible refine Bk.far ?_ ?_ _); rotate_left; focus (simp only []; omega)) | ((with_reducible refine Bk.below ?_ (by with_reducible assumption) ?_); rotate_left; focus (go_size; done))))
  have HKA := Lib.hid qa
  have HKB := Lib.hid qb
  have HKR := Lib.hid qr
  have qal := qa.lt
  have qbl := qb.lt
  have qrl := qr.lt
  clear jb_0 jb_1 jb_2 jb_3 jb_4 jb_5 jb_6 jb_7
  have qa_0 := qa.cell 0 rfl
  have qa_1 := qa.cell 1 rfl
  have qa_2 := qa.cell 2 rfl
  have qa_3 := qa.cell 3 rfl
  have qa_4 := qa.frozen 0
  have qa_5 := qa.frozen 1
  have qa_6 := qa.frozen 2
  have qa_7 := qa.frozen 3
  have qb_0 := qb.cell 0 rfl
  have qb_1 := qb.cell 1 rfl
  have qb_2 := qb.cell 2 rfl
  have qb_3 := qb.cell 3 rfl
  have qb_4 := qb.frozen 0
  have qb_5 := qb.frozen 1
  have qb_6 := qb.frozen 2
  have qb_7 := qb.frozen 3
  have qr_0 := qr.cell 0 rfl
  have qr_1 := qr.cell 1 rfl
  have qr_2 := qr.cell 2 rfl
  have qr_3 := qr.cell 3 rfl
  have qr_4 := qr.frozen 0
  have qr_5 := qr.frozen 1
  have qr_6 := qr.frozen 2
  have qr_7 := qr.frozen 3
  clear ka kb kr ja jb jr
  obtain ⟨A, k, cc, rfl, hk, hkc⟩ := dg_len Hd3.out
  obtain rfl : k = 0 := hk.2 rfl
  clear hk
  go_wp2_with fail
  refine bodyPost_ret (by simp [results, Try.results44, go_sem, *]; try rfl) rfl ?_
  exact ⟨rfl, by (repeat' (first | (with_reducible exact Below.refl _ _) | (with_reducible assumption) | (with_reducible refine Below.drew ?_) | (with_reducible refine below_drewN ?_ _) | ((with_reducible refine Below.alloc ?_ ?_ _); rotate_left; focus (go_size; done)) | ((with_reducible refine Below.setCell ?_ ?_ _); rotate_left; focus (go_size; done)) | ((with_reducible refine Below.trans ?_ (Below.mono (by with_reducible assumption) ?_)); rotate_left; focus (go_size; done))))⟩
set_option maxRecDepth 100000 in
set_option maxHeartbeats 4000000 in
theorem docdiv_ok (b : Bool) (c s : Nat) (b' : Bool) (c' s' : Nat) (h : dform b c s = true) (h' : dform b' c' s' = true) (hc : c < B34) (hc' : c' < B34) (hs : s ≤ 18) (hs' : s' ≤ 18) (h0 : c' ≠ 0) (w : World) :
    Calls Try.prog 42 #[.agg #[.bool b, .int .u64 (wd (c) 1), .int .u64 (wd (c) 0), .int .i64 s], .agg #[.bool b', .int .u64 (wd (c') 1), .int .u64 (wd (c') 0), .int .i64 s']] w fun e w' => e = .returned (.tuple #[.agg #[.bool (sg (b != b') (FitC ((unit c s)) ((unit c' s')))), .int .u64 (wd (FitC ((unit c s)) ((unit c' s'))) 1), .int .u64 (wd (FitC ((unit c s)) ((unit c' s'))) 0), .int .i64 (FitS ((unit c s)) ((unit c' s')))], .int .i64 (FitE (unit c s) (unit c' s'))]) ∧ Below w.heap.size w w' := by
  have hY0 : unit c' s' ≠ 0 := mt unit_zero.1 h0
  have HT := Lib.hid (fun W u v hu hv => rfit_any (b != b') (unit c s) (unit c' s') u v W hu hv (unit_slim hc) (unit_slim hc') (Nat.pos_of_ne_zero hY0))
  have HY0 := Lib.hid hY0
  clear hY0
  have hc2 := Nat.lt_trans hc B34_lt
  have hc2' := Nat.lt_trans hc' B34_lt
  have HF := Lib.hid (fun W => forms_any b c s b' c' s' hc2 hc2' W)
  rw [h, h', Bool.and_true] at HF
  have HU := Lib.hid (fun W => units_any b c s hc2 hs W)
  have HV := Lib.hid (fun W => units_any b' c' s' hc2' hs' W)
  unfold RetUnits at HU HV
  generalize unit c s = X at *
  generalize unit c' s' = Y at *
  generalize wd c 0 = x0 at *
  generalize wd c 1 = x1 at *
  generalize wd c' 0 = y0 at *
  generalize wd c' 1 = y1 at *
  clear hc hc' h h' hs hs' hc2 hc2'
  clear h0
  generalize FitC X Y = C at *
  generalize FitS X Y = S at *
  generalize FitE X Y = E at *
  have gb : ∀ W, (binOp .neq 4 (.bool b) (.bool b')).run Try.prog W = .ok (.bool (b != b')) W := fun W => by
    cases b <;> cases b' <;> kernel_rfl
  obtain ⟨nb, hnb⟩ : ∃ nb, nb = (b != b') := ⟨_, rfl⟩
  rw [← hnb] at HT gb ⊢
  clear hnb
  go_enter Try.func42, Try.ntmps42
  go_wp2_with fail
  refine (HF.out _).mono ?_
  rintro _ w1 ⟨rfl, hb1⟩; have hb1s := hb1.size; (try simp only [World.size_alloc, World.size_setCell, World.size_drew, World.heap_drewN] at hb1s); obtain ⟨hb1c, hb1f⟩ := bcell hb1; (try have : w.heap.size < w1.heap.size := by omega); (try have : w.heap.size + 1 < w1.heap.size := by omega); (try have : w.heap.size + 1 + 1 < w1.heap.size := by omega); (try have : w.heap.size + 1 + 1 + 1 < w1.heap.size := by omega)
  have ka : Bk w1 (w.heap.size) 26 [.bool b, .int .u64 x1, .int .u64 x0, .int .i64 (s : Int)] := by (repeat (first | (with_reducible assumption) | ((with_reducible refine Bk.new_ ?_); (first | rfl | (simp only [World.size_alloc, World.size_setCell, World.size_drew, World.heap_drewN]; done))) | (with_reducible refine Bk.alloc ?_ _) | (with_reducible refine Bk.drew ?_) | (with_reducible refine Bk.drewN ?_ _) | ((with_reducible refine Bk.far ?_ ?_ _); rotate_left; focus (simp only []; omega)) | ((with_reducible refine Bk.below ?_ (by with_reducible assumption) ?_); rotate_left; focus (go_size; done))))
  have ka_0 := ka.cell 0 rfl
  have ka_1 := ka.cell 1 rfl
  have ka_2 := ka.cell 2 rfl
  have ka_3 := ka.cell 3 rfl
  have ka_4 := ka.frozen 0
  have ka_5 := ka.frozen 1
  have ka_6 := ka.frozen 2
  have ka_7 := ka.frozen 3
  have kal := ka.lt
  have kb : Bk w1 (w.heap.size + 1) 26 [.bool b', .int .u64 y1, .int .u64 y0, .int .i64 (s' : Int)] := by (repeat (first | (with_reducible assumption) | ((with_reducible refine Bk.new_ ?_); (first | rfl | (simp only [World.size_alloc, World.size_setCell, World.size_drew, World.heap_drewN]; done))) | (with_reducible refine Bk.alloc ?_ _) | (with_reducible refine Bk.drew ?_) | (with_reducible refine Bk.drewN ?_ _) | ((with_reducible refine Bk.far ?_ ?_ _); rotate_left; focus (simp only []; omega)) | ((with_reducible refine Bk.below ?_ (by with_reducible assumption) ?_); rotate_left; focus (go_size; done))))
  have kb_0 := kb.cell 0 rfl
  have kb_1 := kb.cell 1 rfl
  have kb_2 := kb.cell 2 rfl
  have kb_3 := kb.cell 3 rfl
  have kb_4 := kb.frozen 0
  have kb_5 := kb.frozen 1
  have kb_6 := kb.frozen 2
  have kb_7 := kb.frozen 3
  have kbl := kb.lt
  have kr : Bk w1 (w.heap.size + 1 + 1) 26 [.bool false, .int .u64 0, .int .u64 0, .int .i64 0] := by (repeat (first | (with_reducible assumption) | ((with_reducible refine Bk.new_ ?_); (first | rfl | (simp only [World.size_alloc, World.size_setCell, World.size_drew, World.heap_drewN]; done))) | (with_reducible refine Bk.alloc ?_ _) | (with_reducible refine Bk.drew ?_) | (with_reducible refine Bk.drewN ?_ _) | ((with_reducible refine Bk.far ?_ ?_ _); rotate_left; focus (simp only []; omega)) | ((with_reducible refine Bk.below ?_ (by with_reducible assumption) ?_); rotate_left; focus (go_size; done))))
  have krl := kr.lt
  clear hb1c hb1f
  go_wp2_with fail
  refine (HU.out _).mono ?_
  rintro _ w2 ⟨v2, rfl, d2, hb2⟩
  have hb2s := hb2.size
  have Hd2 := Lib.hid d2
  clear d2
  have ja : Bk w2 w.heap.size 26 [.bool b, .int .u64 x1, .int .u64 x0, .int .i64 (s : Int)] := by (repeat (first | (with_reducible assumption) | ((with_reducible refine Bk.new_ ?_); (first | rfl | (simp only [World.size_alloc, World.size_setCell, World.size_drew, World.heap_drewN]; done))) | (with_reducible refine Bk.alloc ?_ _) | (with_reducible refine Bk.drew ?_) | (with_reducible refine Bk.drewN ?_ _) | ((with_reducible refine Bk.far ?_ ?_ _); rotate_left; focus (simp only []; omega)) | ((with_reducible refine Bk.below ?_ (by with_reducible assumption) ?_); rotate_left; focus (go_size; done))))
  have jb : Bk w2 (w.heap.size + 1) 26 [.bool b', .int .u64 y1, .int .u64 y0, .int .i64 (s' : Int)] := by (repeat (first | (with_reducible assumption) | ((with_reducible refine Bk.new_ ?_); (first | rfl | (simp only [World.size_alloc, World.size_setCell, World.size_drew, World.heap_drewN]; done))) | (with_reducible refine Bk.alloc ?_ _) | (with_reducible refine Bk.drew ?_) | (with_reducible refine Bk.drewN ?_ _) | ((with_reducible refine Bk.far ?_ ?_ _); rotate_left; focus (simp only []; omega)) | ((with_reducible refine Bk.below ?_ (by with_reducible assumption) ?_); rotate_left; focus (go_size; done))))
  have jr : Bk w2 (w.heap.size + 1 + 1) 26 [.bool false, .int .u64 0, .int .u64 0, .int .i64 0] := by (repeat (first | (with_reducible assumption) | ((with_reducible refine Bk.new_ ?_); (first | rfl | (simp only [World.size_alloc, World.size_setCell, World.size_drew, World.heap_drewN]; done))) | (with_reducible refine Bk.alloc ?_ _) | (with_reducible refine Bk.drew ?_) | (with_reducible refine Bk.drewN ?_ _) | ((with_reducible refine Bk.far ?_ ?_ _); rotate_left; focus (simp only []; omega)) | ((with_reducible refine Bk.below ?_ (by with_reducible assumption) ?_); rotate_left; focus (go_size; done))))
  have jal := ja.lt
  have jbl := jb.lt
  have jrl := jr.lt
  clear ka_0 ka_1 ka_2 ka_3 ka_4 ka_5 ka_6 ka_7
  clear kb_0 kb_1 kb_2 kb_3 kb_4 kb_5 kb_6 kb_7
  have jb_0 := jb.cell 0 rfl
  have jb_1 := jb.cell 1 rfl
  have jb_2 := jb.cell 2 rfl
  have jb_3 := jb.cell 3 rfl
  have jb_4 := jb.frozen 0
  have jb_5 := jb.frozen 1
  have jb_6 := jb.frozen 2
  have jb_7 := jb.frozen 3
  go_wp2_with fail
  refine (HV.out _).mono ?_
  rintro _ w3 ⟨v3, rfl, d3, hb3⟩
  have hb3s := hb3.size
  have Hd3 := Lib.hid d3
  clear d3
  have qa : Bk w3 w.heap.size 26 [.bool b, .int .u64 x1, .int .u64 x0, .int .i64 (s : Int)] := by (repeat (first | (with_reducible assumption) | ((with_reducible refine Bk.new_ ?_); (first | rfl | (simp only [World.size_alloc, World.size_setCell, World.size_drew, World.heap_drewN]; done))) | (with_reducible refine Bk.alloc ?_ _) | (with_reducible refine Bk.drew ?_) | (with_reducible refine Bk.drewN ?_ _) | ((with_reducible refine Bk.far ?_ ?_ _); rotate_left; focus (simp only []; omega)) | ((with_reducible refine Bk.below ?_ (by with_reducible assumption) ?_); rotate_left; focus (go_size; done))))
  have qb : Bk w3 (w.heap.size + 1) 26 [.bool b', .int .u64 y1, .int .u64 y0, .int .i64 (s' : Int)] := by (repeat (first | (with_reducible assumption) | ((with_reducible refine Bk.new_ ?_); (first | rfl | (simp only [World.size_alloc, World.size_setCell, World.size_drew, World.heap_drewN]; done))) | (with_reducible refine Bk.alloc ?_ _) | (with_reducible refine Bk.drew ?_) | (with_reducible refine Bk.drewN ?_ _) | ((with_reducible refine Bk.far ?_ ?_ _); rotate_left; focus (simp only []; omega)) | ((with_reducible refine Bk.below ?_ (by with_reducible assumption) ?_); rotate_left; focus (go_size; done))))
  have qr : Bk w3 (w.heap.size + 1 + 1) 26 [.bool false, .int .u64 0, .int .u64 0, .int .i64 0] := by (repeat (first | (with_reducible assumption) | ((with_reducible refine Bk.new_ ?_); (first | rfl | (simp only [World.size_alloc, World.size_setCell, World.size_drew, World.heap_drewN]; done))) | (with_reducible refine Bk.alloc ?_ _) | (with_reducible refine Bk.drew ?_) | (with_reducible refine Bk.drewN ?_ _) | ((with_reducible refine Bk.far ?_ ?_ _); rotate_left; focus (simp only []; omega)) | ((with_reducible refine Bk.below ?_ (by with_reducible assumption) ?_); rotate_left; focus (go_size; done))))
  have HKA := Lib.hid qa
  have HKB := Lib.hid qb
  have HKR := Lib.hid qr
  have qal := qa.lt
  have qbl := qb.lt
  have qrl := qr.lt
  clear jb_0 jb_1 jb_2 jb_3 jb_4 jb_5 jb_6 jb_7
  have qa_0 := qa.cell 0 rfl
  have qa_1 := qa.cell 1 rfl
  have qa_2 := qa.cell 2 rfl
  have qa_3 := qa.cell 3 rfl
  have qa_4 := qa.frozen 0
  have qa_5 := qa.frozen 1
  have qa_6 := qa.frozen 2
  have qa_7 := qa.frozen 3
  have qb_0 := qb.cell 0 rfl
  have qb_1 := qb.cell 1 rfl
  have qb_2 := qb.cell 2 rfl
  have qb_3 := qb.cell 3 rfl
  have qb_4 := qb.frozen 0
  have qb_5 := qb.frozen 1
  have qb_6 := qb.frozen 2
  have qb_7 := qb.frozen 3
  have qr_0 := qr.cell 0 rfl
  have qr_1 := qr.cell 1 rfl
  have qr_2 := qr.cell 2 rfl
  have qr_3 := qr.cell 3 rfl
  have qr_4 := qr.frozen 0
  have qr_5 := qr.frozen 1
  have qr_6 := qr.frozen 2
  have qr_7 := qr.frozen 3
  clear ka kb kr ja jb jr
  obtain ⟨A, k, cc, hv3, hk, hkc⟩ := dg_len Hd3.out
  have hk1 : ((k : Int) == 0) = false := by rw [beq_eq_false_iff_ne]; have := mt hk.1 HY0.out; omega
  subst hv3
  clear hk
  go_wp2_with fail
  refine (HT.out _ _ _ (Hd2.out.below (by (repeat' (first | (with_reducible exact Below.refl _ _) | (with_reducible assumption) | (with_reducible refine Below.drew ?_) | (with_reducible refine below_drewN ?_ _) | ((with_reducible refine Below.alloc ?_ ?_ _); rotate_left; focus (go_size; done)) | ((with_reducible refine Below.setCell ?_ ?_ _); rotate_left; focus (go_size; done)) | ((with_reducible refine Below.trans ?_ (Below.mono (by with_reducible assumption) ?_)); rotate_left; focus (go_size; done)))))) Hd3.out).mono ?_
  rintro _ w4 ⟨rfl, hb4⟩; have hb4s := hb4.size; (try simp only [World.size_alloc, World.size_setCell, World.size_drew, World.heap_drewN] at hb4s); obtain ⟨hb4c, hb4f⟩ := bcell hb4; (try have : w.heap.size < w4.heap.size := by omega); (try have : w.heap.size + 1 < w4.heap.size := by omega); (try have : w.heap.size + 1 + 1 < w4.heap.size := by omega); (try have : w.heap.size + 1 + 1 + 1 < w4.heap.size := by omega)
  have mr : Bk w4 (w.heap.size + 1 + 1) 26 [.bool false, .int .u64 0, .int .u64 0, .int .i64 0] := by
    have kr := HKR.out
    (repeat (first | (with_reducible assumption) | ((with_reducible refine Bk.new_ ?_); (first | rfl | (simp only [World.size_alloc, World.size_setCell, World.size_drew, World.heap_drewN]; done))) | (with_reducible refine Bk.alloc ?_ _) | (with_reducible refine Bk.drew ?_) | (with_reducible refine Bk.drewN ?_ _) | ((with_reducible refine Bk.far ?_ ?_ _); rotate_left; focus (simp only []; omega)) | ((with_reducible refine Bk.below ?_ (by with_reducible assumption) ?_); rotate_left; focus (go_size; done))))
  have mr_0 := mr.cell 0 rfl
  have mr_1 := mr.cell 1 rfl
  have mr_2 := mr.cell 2 rfl
  have mr_3 := mr.cell 3 rfl
  have mr_4 := mr.frozen 0
  have mr_5 := mr.frozen 1
  have mr_6 := mr.frozen 2
  have mr_7 := mr.frozen 3
  have mrl := mr.lt
  clear mr hb4c hb4f
  go_wp2_with fail
  refine bodyPost_ret (by simp [results, Try.results42, go_sem, *]; try rfl) rfl ?_
  exact ⟨rfl, by (repeat' (first | (with_reducible exact Below.refl _ _) | (with_reducible assumption) | (with_reducible refine Below.drew ?_) | (with_reducible refine below_drewN ?_ _) | ((with_reducible refine Below.alloc ?_ ?_ _); rotate_left; focus (go_size; done)) | ((with_reducible refine Below.setCell ?_ ?_ _); rotate_left; focus (go_size; done)) | ((with_reducible refine Below.trans ?_ (Below.mono (by with_reducible assumption) ?_)); rotate_left; focus (go_size; done))))⟩
set_option maxRecDepth 100000 in
set_option maxHeartbeats 8000000 in
theorem docmod_ok (b : Bool) (c s : Nat) (b' : Bool) (c' s' : Nat) (h : dform b c s = true) (h' : dform b' c' s' = true) (hc : c < B34) (hc' : c' < B34) (hs : s ≤ 18) (hs' : s' ≤ 18) (h0 : c' ≠ 0) (w : World) :
    Calls Try.prog 44 #[.agg #[.bool b, .int .u64 (wd (c) 1), .int .u64 (wd (c) 0), .int .i64 s], .agg #[.bool b', .int .u64 (wd (c') 1), .int .u64 (wd (c') 0), .int .i64 s']] w fun e w' => e = .returned (.tuple #[.agg #[.bool (sg b' (FitC ((restN b (unit c s) b' (unit c' s'))) (10 ^ 18))), .int .u64 (wd (FitC ((restN b (unit c s) b' (unit c' s'))) (10 ^ 18)) 1), .int .u64 (wd (FitC ((restN b (unit c s) b' (unit c' s'))) (10 ^ 18)) 0), .int .i64 (FitS ((restN b (unit c s) b' (unit c' s'))) (10 ^ 18))], .int .i64 (FitE (restN b (unit c s) b' (unit c' s')) (10 ^ 18))]) ∧ Below w.heap.size w w' := by
  have hY0 : unit c' s' ≠ 0 := mt unit_zero.1 h0
  have hYp := Nat.pos_of_ne_zero hY0
  have hrl : unit c s % unit c' s' ≤ unit c' s' := Nat.le_of_lt (Nat.mod_lt _ hYp)
  have hru : restN b (unit c s) b' (unit c' s') < 10 ^ 52 := by
    have h1 := unit_lt (s := s') hc'
    have h2 := Nat.mod_lt (unit c s) hYp
    unfold restN; split <;> omega
  have HT := Lib.hid (fun W u v hu hv => rfit_any b' (restN b (unit c s) b' (unit c' s')) (10 ^ 18) u v W hu hv (Slim.of_lt hru (by decide)) (ten_slim (by decide)) (Nat.pow_pos (by decide)))
  have HQ := Lib.hid (fun W u v hu hv => quo_any (unit c s) (unit c' s') hYp u v W hu hv (unit_tiny hc).small (unit_tiny hc').small)
  unfold RetTwo at HQ
  have HL := Lib.hid (fun W u v hu hv => rless_any (unit c' s') (unit c s % unit c' s') hrl u v W hu hv (unit_tiny hc').small ((unit_tiny hc).small.of_le (Nat.mod_le _ _)))
  have HO : Hid (∀ W, Calls Try.prog 61 #[.int .i64 18] W (RetDg (10 ^ 18) W)) := Lib.hid (fun W => one_any 18 (by decide) W)
  have hr1 : unit c s % unit c' s' ≠ 0 → b ≠ b' → restN b (unit c s) b' (unit c' s') = unit c' s' - unit c s % unit c' s' := fun h1 h2 => by unfold restN; rw [if_pos ⟨h1, h2⟩]
  have hr2 : (unit c s % unit c' s' = 0 ∨ b = b') → restN b (unit c s) b' (unit c' s') = unit c s % unit c' s' := fun h1 => by
    unfold restN; rw [if_neg (by rintro ⟨h2, h3⟩; rcases h1 with h1 | h1; exact h2 h1; exact h3 h1)]
  have HR1 := Far.mk hr1
  have HR2 := Far.mk hr2
  have HY0 := Lib.hid hY0
  clear hY0 hYp hrl hru hr1 hr2
  have hc2 := Nat.lt_trans hc B34_lt
  have hc2' := Nat.lt_trans hc' B34_lt
  have HF := Lib.hid (fun W => forms_any b c s b' c' s' hc2 hc2' W)
  rw [h, h', Bool.and_true] at HF
  have HU := Lib.hid (fun W => units_any b c s hc2 hs W)
  have HV := Lib.hid (fun W => units_any b' c' s' hc2' hs' W)
  unfold RetUnits at HU HV
  generalize unit c s = X at *
  generalize unit c' s' = Y at *
  generalize wd c 0 = x0 at *
  generalize wd c 1 = x1 at *
  generalize wd c' 0 = y0 at *
  generalize wd c' 1 = y1 at *
  clear hc hc' h h' hs hs' hc2 hc2'
  clear h0
  generalize restN b X b' Y = R at *
  generalize X % Y = r at *
  generalize X / Y = q at *
  generalize 10 ^ 18 = G at *
  generalize FitC R G = C at *
  generalize FitS R G = S at *
  generalize FitE R G = E at *
  have gb : ∀ W, (binOp .neq 4 (.bool b) (.bool b')).run Try.prog W = .ok (.bool (b != b')) W := fun W => by
    cases b <;> cases b' <;> kernel_rfl
  obtain ⟨nb, hnb⟩ : ∃ nb, nb = (b != b') := ⟨_, rfl⟩
  rw [← hnb] at gb
  have HNB := Lib.hid hnb
  clear hnb
  go_enter Try.func44, Try.ntmps44
  go_wp2_with fail
  refine (HF.out _).mono ?_
  rintro _ w1 ⟨rfl, hb1⟩; have hb1s := hb1.size; (try simp only [World.size_alloc, World.size_setCell, World.size_drew, World.heap_drewN] at hb1s); obtain ⟨hb1c, hb1f⟩ := bcell hb1; (try have : w.heap.size < w1.heap.size := by omega); (try have : w.heap.size + 1 < w1.heap.size := by omega); (try have : w.heap.size + 1 + 1 < w1.heap.size := by omega); (try have : w.heap.size + 1 + 1 + 1 < w1.heap.size := by omega)
  have ka : Bk w1 (w.heap.size) 26 [.bool b, .int .u64 x1, .int .u64 x0, .int .i64 (s : Int)] := by (repeat (first | (with_reducible assumption) | ((with_reducible refine Bk.new_ ?_); (first | rfl | (simp only [World.size_alloc, World.size_setCell, World.size_drew, World.heap_drewN]; done))) | (with_reducible refine Bk.alloc ?_ _) | (with_reducible refine Bk.drew ?_) | (with_reducible refine Bk.drewN ?_ _) | ((with_reducible refine Bk.far ?_ ?_ _); rotate_left; focus (simp only []; omega)) | ((with_reducible refine Bk.below ?_ (by with_reducible assumption) ?_); rotate_left; focus (go_size; done))))
  have ka_0 := ka.cell 0 rfl
  have ka_1 := ka.cell 1 rfl
  have ka_2 := ka.cell 2 rfl
  have ka_3 := ka.cell 3 rfl
  have ka_4 := ka.frozen 0
  have ka_5 := ka.frozen 1
  have ka_6 := ka.frozen 2
  have ka_7 := ka.frozen 3
  have kal := ka.lt
  have kb : Bk w1 (w.heap.size + 1) 26 [.bool b', .int .u64 y1, .int .u64 y0, .int .i64 (s' : Int)] := by (repeat (first | (with_reducible assumption) | ((with_reducible refine Bk.new_ ?_); (first | rfl | (simp only [World.size_alloc, World.size_setCell, World.size_drew, World.heap_drewN]; done))) | (with_reducible refine Bk.alloc ?_ _) | (with_reducible refine Bk.drew ?_) | (with_reducible refine Bk.drewN ?_ _) | ((with_reducible refine Bk.far ?_ ?_ _); rotate_left; focus (simp only []; omega)) | ((with_reducible refine Bk.below ?_ (by with_reducible assumption) ?_); rotate_left; focus (go_size; done))))
  have kb_0 := kb.cell 0 rfl
  have kb_1 := kb.cell 1 rfl
  have kb_2 := kb.cell 2 rfl
  have kb_3 := kb.cell 3 rfl
  have kb_4 := kb.frozen 0
  have kb_5 := kb.frozen 1
  have kb_6 := kb.frozen 2
  have kb_7 := kb.frozen 3
  have kbl := kb.lt
  have kr : Bk w1 (w.heap.size + 1 + 1) 26 [.bool false, .int .u64 0, .int .u64 0, .int .i64 0] := by (repeat (first | (with_reducible assumption) | ((with_reducible refine Bk.new_ ?_); (first | rfl | (simp only [World.size_alloc, World.size_setCell, World.size_drew, World.heap_drewN]; done))) | (with_reducible refine Bk.alloc ?_ _) | (with_reducible refine Bk.drew ?_) | (with_reducible refine Bk.drewN ?_ _) | ((with_reducible refine Bk.far ?_ ?_ _); rotate_left; focus (simp only []; omega)) | ((with_reducible refine Bk.below ?_ (by with_reducible assumption) ?_); rotate_left; focus (go_size; done))))
  have krl := kr.lt
  clear hb1c hb1f
  go_wp2_with fail
  refine (HU.out _).mono ?_
  rintro _ w2 ⟨v2, rfl, d2, hb2⟩
  have hb2s := hb2.size
  have Hd2 := Lib.hid d2
  clear d2
  have ja : Bk w2 w.heap.size 26 [.bool b, .int .u64 x1, .int .u64 x0, .int .i64 (s : Int)] := by (repeat (first | (with_reducible assumption) | ((with_reducible refine Bk.new_ ?_); (first | rfl | (simp only [World.size_alloc, World.size_setCell, World.size_drew, World.heap_drewN]; done))) | (with_reducible refine Bk.alloc ?_ _) | (with_reducible refine Bk.drew ?_) | (with_reducible refine Bk.drewN ?_ _) | ((with_reducible refine Bk.far ?_ ?_ _); rotate_left; focus (simp only []; omega)) | ((with_reducible refine Bk.below ?_ (by with_reducible assumption) ?_); rotate_left; focus (go_size; done))))
  have jb : Bk w2 (w.heap.size + 1) 26 [.bool b', .int .u64 y1, .int .u64 y0, .int .i64 (s' : Int)] := by (repeat (first | (with_reducible assumption) | ((with_reducible refine Bk.new_ ?_); (first | rfl | (simp only [World.size_alloc, World.size_setCell, World.size_drew, World.heap_drewN]; done))) | (with_reducible refine Bk.alloc ?_ _) | (with_reducible refine Bk.drew ?_) | (with_reducible refine Bk.drewN ?_ _) | ((with_reducible refine Bk.far ?_ ?_ _); rotate_left; focus (simp only []; omega)) | ((with_reducible refine Bk.below ?_ (by with_reducible assumption) ?_); rotate_left; focus (go_size; done))))
  have jr : Bk w2 (w.heap.size + 1 + 1) 26 [.bool false, .int .u64 0, .int .u64 0, .int .i64 0] := by (repeat (first | (with_reducible assumption) | ((with_reducible refine Bk.new_ ?_); (first | rfl | (simp only [World.size_alloc, World.size_setCell, World.size_drew, World.heap_drewN]; done))) | (with_reducible refine Bk.alloc ?_ _) | (with_reducible refine Bk.drew ?_) | (with_reducible refine Bk.drewN ?_ _) | ((with_reducible refine Bk.far ?_ ?_ _); rotate_left; focus (simp only []; omega)) | ((with_reducible refine Bk.below ?_ (by with_reducible assumption) ?_); rotate_left; focus (go_size; done))))
  have jal := ja.lt
  have jbl := jb.lt
  have jrl := jr.lt
  clear ka_0 ka_1 ka_2 ka_3 ka_4 ka_5 ka_6 ka_7
  clear kb_0 kb_1 kb_2 kb_3 kb_4 kb_5 kb_6 kb_7
  have jb_0 := jb.cell 0 rfl
  have jb_1 := jb.cell 1 rfl
  have jb_2 := jb.cell 2 rfl
  have jb_3 := jb.cell 3 rfl
  have jb_4 := jb.frozen 0
  have jb_5 := jb.frozen 1
  have jb_6 := jb.frozen 2
  have jb_7 := jb.frozen 3
  go_wp2_with fail
  refine (HV.out _).mono ?_
  rintro _ w3 ⟨v3, rfl, d3, hb3⟩
  have hb3s := hb3.size
  have Hd3 := Lib.hid d3
  clear d3
  have qa : Bk w3 w.heap.size 26 [.bool b, .int .u64 x1, .int .u64 x0, .int .i64 (s : Int)] := by (repeat (first | (with_reducible assumption) | ((with_reducible refine Bk.new_ ?_); (first | rfl | (simp only [World.size_alloc, World.size_setCell, World.size_drew, World.heap_drewN]; done))) | (with_reducible refine Bk.alloc ?_ _) | (with_reducible refine Bk.drew ?_) | (with_reducible refine Bk.drewN ?_ _) | ((with_reducible refine Bk.far ?_ ?_ _); rotate_left; focus (simp only []; omega)) | ((with_reducible refine Bk.below ?_ (by with_reducible assumption) ?_); rotate_left; focus (go_size; done))))
  have qb : Bk w3 (w.heap.size + 1) 26 [.bool b', .int .u64 y1, .int .u64 y0, .int .i64 (s' : Int)] := by (repeat (first | (with_reducible assumption) | ((with_reducible refine Bk.new_ ?_); (first | rfl | (simp only [World.size_alloc, World.size_setCell, World.size_drew, World.heap_drewN]; done))) | (with_reducible refine Bk.alloc ?_ _) | (with_reducible refine Bk.drew ?_) | (with_reducible refine Bk.drewN ?_ _) | ((with_reducible refine Bk.far ?_ ?_ _); rotate_left; focus (simp only []; omega)) | ((with_reducible refine Bk.below ?_ (by with_reducible assumption) ?_); rotate_left; focus (go_size; done))))
  have qr : Bk w3 (w.heap.size + 1 + 1) 26 [.bool false, .int .u64 0, .int .u64 0, .int .i64 0] := by (repeat (first | (with_reducible assumption) | ((with_reducible refine Bk.new_ ?_); (first | rfl | (simp only [World.size_alloc, World.size_setCell, World.size_drew, World.heap_drewN]; done))) | (with_reducible refine Bk.alloc ?_ _) | (with_reducible refine Bk.drew ?_) | (with_reducible refine Bk.drewN ?_ _) | ((with_reducible refine Bk.far ?_ ?_ _); rotate_left; focus (simp only []; omega)) | ((with_reducible refine Bk.below ?_ (by with_reducible assumption) ?_); rotate_left; focus (go_size; done))))
  have HKA := Lib.hid qa
  have HKB := Lib.hid qb
  have HKR := Lib.hid qr
  have qal := qa.lt
  have qbl := qb.lt
  have qrl := qr.lt
  clear jb_0 jb_1 jb_2 jb_3 jb_4 jb_5 jb_6 jb_7
  have qa_0 := qa.cell 0 rfl
  have qa_1 := qa.cell 1 rfl
  have qa_2 := qa.cell 2 rfl
  have qa_3 := qa.cell 3 rfl
  have qa_4 := qa.frozen 0
  have qa_5 := qa.frozen 1
  have qa_6 := qa.frozen 2
  have qa_7 := qa.frozen 3
  have qb_0 := qb.cell 0 rfl
  have qb_1 := qb.cell 1 rfl
  have qb_2 := qb.cell 2 rfl
  have qb_3 := qb.cell 3 rfl
  have qb_4 := qb.frozen 0
  have qb_5 := qb.frozen 1
  have qb_6 := qb.frozen 2
  have qb_7 := qb.frozen 3
  have qr_0 := qr.cell 0 rfl
  have qr_1 := qr.cell 1 rfl
  have qr_2 := qr.cell 2 rfl
  have qr_3 := qr.cell 3 rfl
  have qr_4 := qr.frozen 0
  have qr_5 := qr.frozen 1
  have qr_6 := qr.frozen 2
  have qr_7 := qr.frozen 3
  clear ka kb kr ja jb jr
  obtain ⟨A, k, cc, hv3, hk, hkc⟩ := dg_len Hd3.out
  have hk1 : ((k : Int) == 0) = false := by rw [beq_eq_false_iff_ne]; have := mt hk.1 HY0.out; omega
  subst hv3
  clear hk
  go_wp2_with fail
  refine (HQ.out _ _ _ (Hd2.out.below (by (repeat' (first | (with_reducible exact Below.refl _ _) | (with_reducible assumption) | (with_reducible refine Below.drew ?_) | (with_reducible refine below_drewN ?_ _) | ((with_reducible refine Below.alloc ?_ ?_ _); rotate_left; focus (go_size; done)) | ((with_reducible refine Below.setCell ?_ ?_ _); rotate_left; focus (go_size; done)) | ((with_reducible refine Below.trans ?_ (Below.mono (by with_reducible assumption) ?_)); rotate_left; focus (go_size; done)))))) Hd3.out).mono ?_
  rintro _ w4 ⟨v4, v5, rfl, d4, d5, hb4⟩
  have hb4s := hb4.size
  have Hd5 := Lib.hid d5
  have Hd3' := Lib.hid (Hd3.out.below hb4)
  clear d4 d5
  have la : Bk w4 w.heap.size 26 [.bool b, .int .u64 x1, .int .u64 x0, .int .i64 (s : Int)] := by
    have ka := HKA.out
    (repeat (first | (with_reducible assumption) | ((with_reducible refine Bk.new_ ?_); (first | rfl | (simp only [World.size_alloc, World.size_setCell, World.size_drew, World.heap_drewN]; done))) | (with_reducible refine Bk.alloc ?_ _) | (with_reducible refine Bk.drew ?_) | (with_reducible refine Bk.drewN ?_ _) | ((with_reducible refine Bk.far ?_ ?_ _); rotate_left; focus (simp only []; omega)) | ((with_reducible refine Bk.below ?_ (by with_reducible assumption) ?_); rotate_left; focus (go_size; done))))
  have lb : Bk w4 (w.heap.size + 1) 26 [.bool b', .int .u64 y1, .int .u64 y0, .int .i64 (s' : Int)] := by
    have kb := HKB.out
    (repeat (first | (with_reducible assumption) | ((with_reducible refine Bk.new_ ?_); (first | rfl | (simp only [World.size_alloc, World.size_setCell, World.size_drew, World.heap_drewN]; done))) | (with_reducible refine Bk.alloc ?_ _) | (with_reducible refine Bk.drew ?_) | (with_reducible refine Bk.drewN ?_ _) | ((with_reducible refine Bk.far ?_ ?_ _); rotate_left; focus (simp only []; omega)) | ((with_reducible refine Bk.below ?_ (by with_reducible assumption) ?_); rotate_left; focus (go_size; done))))
  have lr : Bk w4 (w.heap.size + 1 + 1) 26 [.bool false, .int .u64 0, .int .u64 0, .int .i64 0] := by
    have kr := HKR.out
    (repeat (first | (with_reducible assumption) | ((with_reducible refine Bk.new_ ?_); (first | rfl | (simp only [World.size_alloc, World.size_setCell, World.size_drew, World.heap_drewN]; done))) | (with_reducible refine Bk.alloc ?_ _) | (with_reducible refine Bk.drew ?_) | (with_reducible refine Bk.drewN ?_ _) | ((with_reducible refine Bk.far ?_ ?_ _); rotate_left; focus (simp only []; omega)) | ((with_reducible refine Bk.below ?_ (by with_reducible assumption) ?_); rotate_left; focus (go_size; done))))
  have lal := la.lt
  have lbl := lb.lt
  have lrl := lr.lt
  have mw : Below w.heap.size w w4 := by (repeat' (first | (with_reducible exact Below.refl _ _) | (with_reducible assumption) | (with_reducible refine Below.drew ?_) | (with_reducible refine below_drewN ?_ _) | ((with_reducible refine Below.alloc ?_ ?_ _); rotate_left; focus (go_size; done)) | ((with_reducible refine Below.setCell ?_ ?_ _); rotate_left; focus (go_size; done)) | ((with_reducible refine Below.trans ?_ (Below.mono (by with_reducible assumption) ?_)); rotate_left; focus (go_size; done))))
  have la_0 := la.cell 0 rfl
  have la_1 := la.cell 1 rfl
  have la_2 := la.cell 2 rfl
  have la_3 := la.cell 3 rfl
  have la_4 := la.frozen 0
  have la_5 := la.frozen 1
  have la_6 := la.frozen 2
  have la_7 := la.frozen 3
  have lb_0 := lb.cell 0 rfl
  have lb_1 := lb.cell 1 rfl
  have lb_2 := lb.cell 2 rfl
  have lb_3 := lb.cell 3 rfl
  have lb_4 := lb.frozen 0
  have lb_5 := lb.frozen 1
  have lb_6 := lb.frozen 2
  have lb_7 := lb.frozen 3
  obtain ⟨A5, k5, c5, hv5, hk5, hkc5⟩ := dg_len Hd5.out
  subst hv5
  by_cases hr0 : r = 0
  · have e := HR2.out (.inl hr0)
    obtain rfl : k5 = 0 := hk5.2 hr0
    have HE := Lib.hid e
    clear hk5 hr0 e
    go_wp2_with fail
    go_region_held3 (fun w' => w'.cell? ⟨w.heap.size + 1, 0, none⟩ = some (.bool b')) (first | (first | (go_keep; done) | (simp [go_sem]; done) | ((try dsimp only); (repeat' apply And.intro) <;> (first | (with_reducible assumption) | ((rw [World.cell?_alloc_lt _ _ _ (by show _ < _; omega)]); go_split_ands; (first | with_reducible assumption | (refine (World.cell?_alloc_lt _ _ _ (by show _ < _; omega)).symm.trans ?_; with_reducible assumption))) | ((rw [World.cell?_setCell_other _ _ _ _ (by intro e; injection e; omega)]); with_reducible assumption) | (go_keep; done) | (simp [go_sem]; done) | (simp (disch := go_size) [*, World.cell?_alloc_some, World.cell?_setCell_far]; done)))) | (refine Bk.cell (t := 26) (cs := [.bool b', .int .u64 y1, .int .u64 y0, .int .i64 (s' : Int)]) ?_ 0 rfl; ((repeat (first | (with_reducible assumption) | ((with_reducible refine Bk.new_ ?_); (first | rfl | (simp only [World.size_alloc, World.size_setCell, World.size_drew, World.heap_drewN]; done))) | (with_reducible refine Bk.alloc ?_ _) | (with_reducible refine Bk.drew ?_) | (with_reducible refine Bk.drewN ?_ _) | ((with_reducible refine Bk.far ?_ ?_ _); rotate_left; focus (simp only []; omega)) | ((with_reducible refine Bk.below ?_ (by with_reducible assumption) ?_); rotate_left; focus (go_size; done)))); done))) (first | (go_at_call 61; (with_reducible refine (HO.out _).mono ?_); rintro _ w7 ⟨v7, rfl, d7, hb7⟩; have hb7s := hb7.size; have Hd7 := Lib.hid d7; clear d7; (try simp only [World.size_alloc, World.size_setCell, World.size_drew, World.heap_drewN] at hb7s); (try have : w.heap.size < w7.heap.size := by omega); (try have : w.heap.size + 1 < w7.heap.size := by omega); (try have : w.heap.size + 1 + 1 < w7.heap.size := by omega); (try have : w.heap.size + 1 + 1 + 1 < w7.heap.size := by omega); (try have : w4.heap.size < w7.heap.size := by omega); (try have : w4.heap.size + 1 < w7.heap.size := by omega); (try have : w4.heap.size + 1 + 1 < w7.heap.size := by omega); (try have : w4.heap.size + 1 + 1 + 1 < w7.heap.size := by omega)) | (go_at_call 60; (with_reducible refine (HT.out _ _ _ ?hx ?hy).mono ?_); (case hx => (rw [HE.out]; exact ((Hd5.out).below (by (repeat' (first | (with_reducible exact Below.refl _ _) | (with_reducible assumption) | (with_reducible refine Below.drew ?_) | (with_reducible refine below_drewN ?_ _) | ((with_reducible refine Below.alloc ?_ ?_ _); rotate_left; focus (go_size; done)) | ((with_reducible refine Below.setCell ?_ ?_ _); rotate_left; focus (go_size; done)) | ((with_reducible refine Below.trans ?_ (Below.mono (by with_reducible assumption) ?_)); rotate_left; focus (go_size; done)))))))); (case hy => exact (Hd7.out.below (by (repeat' (first | (with_reducible exact Below.refl _ _) | (with_reducible assumption) | (with_reducible refine Below.drew ?_) | (with_reducible refine below_drewN ?_ _) | ((with_reducible refine Below.alloc ?_ ?_ _); rotate_left; focus (go_size; done)) | ((with_reducible refine Below.setCell ?_ ?_ _); rotate_left; focus (go_size; done)) | ((with_reducible refine Below.trans ?_ (Below.mono (by with_reducible assumption) ?_)); rotate_left; focus (go_size; done))))))); rintro _ w8 ⟨rfl, hb8⟩; have hb8s := hb8.size; (try simp only [World.size_alloc, World.size_setCell, World.size_drew, World.heap_drewN] at hb8s); obtain ⟨hb8c, hb8f⟩ := bcell hb8; (try have : w.heap.size < w8.heap.size := by omega); (try have : w.heap.size + 1 < w8.heap.size := by omega); (try have : w.heap.size + 1 + 1 < w8.heap.size := by omega); (try have : w.heap.size + 1 + 1 + 1 < w8.heap.size := by omega); have zr : Bk w8 (w.heap.size + 1 + 1) 26 [.bool false, .int .u64 0, .int .u64 0, .int .i64 0] := (by (repeat (first | (with_reducible assumption) | ((with_reducible refine Bk.new_ ?_); (first | rfl | (simp only [World.size_alloc, World.size_setCell, World.size_drew, World.heap_drewN]; done))) | (with_reducible refine Bk.alloc ?_ _) | (with_reducible refine Bk.drew ?_) | (with_reducible refine Bk.drewN ?_ _) | ((with_reducible refine Bk.far ?_ ?_ _); rotate_left; focus (simp only []; omega)) | ((with_reducible refine Bk.below ?_ (by with_reducible assumption) ?_); rotate_left; focus (go_size; done))))); have zr_0 := zr.cell 0 rfl; have zr_1 := zr.cell 1 rfl; have zr_2 := zr.cell 2 rfl; have zr_3 := zr.cell 3 rfl; have zr_4 := zr.frozen 0; have zr_5 := zr.frozen 1; have zr_6 := zr.frozen 2; have zr_7 := zr.frozen 3; have zrl := zr.lt; clear hb8c hb8f))
    all_goals
      refine wp_named (fun W => Bk W (w.heap.size + 1 + 1) 26 [.bool (sg b' C), .int .u64 (wd C 1), .int .u64 (wd C 0), .int .i64 (S : Int)] ∧ Below w.heap.size w W) ⟨?h1, ?h2⟩ ?_
      case h1 => (first | ((repeat (first | (with_reducible assumption) | ((with_reducible refine Bk.new_ ?_); (first | rfl | (simp only [World.size_alloc, World.size_setCell, World.size_drew, World.heap_drewN]; done))) | (with_reducible refine Bk.alloc ?_ _) | (with_reducible refine Bk.drew ?_) | (with_reducible refine Bk.drewN ?_ _) | ((with_reducible refine Bk.far ?_ ?_ _); rotate_left; focus (simp only []; omega)) | ((with_reducible refine Bk.below ?_ (by with_reducible assumption) ?_); rotate_left; focus (go_size; done)))); done) | ((repeat (first | (with_reducible refine Bk.alloc ?_ _) | (with_reducible refine Bk.drew ?_) | ((with_reducible refine Bk.far ?_ ?_ _); rotate_left; focus (simp only []; omega)))); (refine ((((?_ : Bk _ _ _ [.bool false, .int .u64 0, .int .u64 0, .int .i64 0]).set_ 0 _).set_ 1 _).set_ 2 _).set_ 3 _); (repeat (first | (with_reducible assumption) | ((with_reducible refine Bk.new_ ?_); (first | rfl | (simp only [World.size_alloc, World.size_setCell, World.size_drew, World.heap_drewN]; done))) | (with_reducible refine Bk.alloc ?_ _) | (with_reducible refine Bk.drew ?_) | (with_reducible refine Bk.drewN ?_ _) | ((with_reducible refine Bk.far ?_ ?_ _); rotate_left; focus (simp only []; omega)) | ((with_reducible refine Bk.below ?_ (by with_reducible assumption) ?_); rotate_left; focus (go_size; done))))); done)
      case h2 => ((repeat' (first | (with_reducible exact Below.refl _ _) | (with_reducible assumption) | (with_reducible refine Below.drew ?_) | (with_reducible refine below_drewN ?_ _) | ((with_reducible refine Below.alloc ?_ ?_ _); rotate_left; focus (go_size; done)) | ((with_reducible refine Below.setCell ?_ ?_ _); rotate_left; focus (go_size; done)) | ((with_reducible refine Below.trans ?_ (Below.mono (by with_reducible assumption) ?_)); rotate_left; focus (go_size; done)))); done)
      rintro W ⟨k1, mb⟩
      have k1_0 := k1.cell 0 rfl
      have k1_1 := k1.cell 1 rfl
      have k1_2 := k1.cell 2 rfl
      have k1_3 := k1.cell 3 rfl
      have k1_4 := k1.frozen 0
      have k1_5 := k1.frozen 1
      have k1_6 := k1.frozen 2
      have k1_7 := k1.frozen 3
      go_wp2_with fail
      refine bodyPost_ret (by simp [results, Try.results44, go_sem, *]; try rfl) rfl ?_
      exact ⟨rfl, by (repeat' (first | (with_reducible exact Below.refl _ _) | (with_reducible assumption) | (with_reducible refine Below.drew ?_) | (with_reducible refine below_drewN ?_ _) | ((with_reducible refine Below.alloc ?_ ?_ _); rotate_left; focus (go_size; done)) | ((with_reducible refine Below.setCell ?_ ?_ _); rotate_left; focus (go_size; done)) | ((with_reducible refine Below.trans ?_ (Below.mono (by with_reducible assumption) ?_)); rotate_left; focus (go_size; done))))⟩
  · have hk51 : (0 : Int) < (k5 : Int) := by have := mt hk5.1 hr0; omega
    clear hk5
    cases nb
    · have e := HR2.out (.inr (by have := HNB.out; revert this; cases b <;> cases b' <;> simp))
      have HE := Lib.hid e
      clear hr0 e
      go_wp2_with fail
      go_region_held3 (fun w' => w'.cell? ⟨w.heap.size + 1, 0, none⟩ = some (.bool b')) (first | (first | (go_keep; done) | (simp [go_sem]; done) | ((try dsimp only); (repeat' apply And.intro) <;> (first | (with_reducible assumption) | ((rw [World.cell?_alloc_lt _ _ _ (by show _ < _; omega)]); go_split_ands; (first | with_reducible assumption | (refine (World.cell?_alloc_lt _ _ _ (by show _ < _; omega)).symm.trans ?_; with_reducible assumption))) | ((rw [World.cell?_setCell_other _ _ _ _ (by intro e; injection e; omega)]); with_reducible assumption) | (go_keep; done) | (simp [go_sem]; done) | (simp (disch := go_size) [*, World.cell?_alloc_some, World.cell?_setCell_far]; done)))) | (refine Bk.cell (t := 26) (cs := [.bool b', .int .u64 y1, .int .u64 y0, .int .i64 (s' : Int)]) ?_ 0 rfl; ((repeat (first | (with_reducible assumption) | ((with_reducible refine Bk.new_ ?_); (first | rfl | (simp only [World.size_alloc, World.size_setCell, World.size_drew, World.heap_drewN]; done))) | (with_reducible refine Bk.alloc ?_ _) | (with_reducible refine Bk.drew ?_) | (with_reducible refine Bk.drewN ?_ _) | ((with_reducible refine Bk.far ?_ ?_ _); rotate_left; focus (simp only []; omega)) | ((with_reducible refine Bk.below ?_ (by with_reducible assumption) ?_); rotate_left; focus (go_size; done)))); done))) (first | (go_at_call 61; (with_reducible refine (HO.out _).mono ?_); rintro _ w7 ⟨v7, rfl, d7, hb7⟩; have hb7s := hb7.size; have Hd7 := Lib.hid d7; clear d7; (try simp only [World.size_alloc, World.size_setCell, World.size_drew, World.heap_drewN] at hb7s); (try have : w.heap.size < w7.heap.size := by omega); (try have : w.heap.size + 1 < w7.heap.size := by omega); (try have : w.heap.size + 1 + 1 < w7.heap.size := by omega); (try have : w.heap.size + 1 + 1 + 1 < w7.heap.size := by omega); (try have : w4.heap.size < w7.heap.size := by omega); (try have : w4.heap.size + 1 < w7.heap.size := by omega); (try have : w4.heap.size + 1 + 1 < w7.heap.size := by omega); (try have : w4.heap.size + 1 + 1 + 1 < w7.heap.size := by omega)) | (go_at_call 60; (with_reducible refine (HT.out _ _ _ ?hx ?hy).mono ?_); (case hx => (rw [HE.out]; exact ((Hd5.out).below (by (repeat' (first | (with_reducible exact Below.refl _ _) | (with_reducible assumption) | (with_reducible refine Below.drew ?_) | (with_reducible refine below_drewN ?_ _) | ((with_reducible refine Below.alloc ?_ ?_ _); rotate_left; focus (go_size; done)) | ((with_reducible refine Below.setCell ?_ ?_ _); rotate_left; focus (go_size; done)) | ((with_reducible refine Below.trans ?_ (Below.mono (by with_reducible assumption) ?_)); rotate_left; focus (go_size; done)))))))); (case hy => exact (Hd7.out.below (by (repeat' (first | (with_reducible exact Below.refl _ _) | (with_reducible assumption) | (with_reducible refine Below.drew ?_) | (with_reducible refine below_drewN ?_ _) | ((with_reducible refine Below.alloc ?_ ?_ _); rotate_left; focus (go_size; done)) | ((with_reducible refine Below.setCell ?_ ?_ _); rotate_left; focus (go_size; done)) | ((with_reducible refine Below.trans ?_ (Below.mono (by with_reducible assumption) ?_)); rotate_left; focus (go_size; done))))))); rintro _ w8 ⟨rfl, hb8⟩; have hb8s := hb8.size; (try simp only [World.size_alloc, World.size_setCell, World.size_drew, World.heap_drewN] at hb8s); obtain ⟨hb8c, hb8f⟩ := bcell hb8; (try have : w.heap.size < w8.heap.size := by omega); (try have : w.heap.size + 1 < w8.heap.size := by omega); (try have : w.heap.size + 1 + 1 < w8.heap.size := by omega); (try have : w.heap.size + 1 + 1 + 1 < w8.heap.size := by omega); have zr : Bk w8 (w.heap.size + 1 + 1) 26 [.bool false, .int .u64 0, .int .u64 0, .int .i64 0] := (by (repeat (first | (with_reducible assumption) | ((with_reducible refine Bk.new_ ?_); (first | rfl | (simp only [World.size_alloc, World.size_setCell, World.size_drew, World.heap_drewN]; done))) | (with_reducible refine Bk.alloc ?_ _) | (with_reducible refine Bk.drew ?_) | (with_reducible refine Bk.drewN ?_ _) | ((with_reducible refine Bk.far ?_ ?_ _); rotate_left; focus (simp only []; omega)) | ((with_reducible refine Bk.below ?_ (by with_reducible assumption) ?_); rotate_left; focus (go_size; done))))); have zr_0 := zr.cell 0 rfl; have zr_1 := zr.cell 1 rfl; have zr_2 := zr.cell 2 rfl; have zr_3 := zr.cell 3 rfl; have zr_4 := zr.frozen 0; have zr_5 := zr.frozen 1; have zr_6 := zr.frozen 2; have zr_7 := zr.frozen 3; have zrl := zr.lt; clear hb8c hb8f))
      all_goals
        refine wp_named (fun W => Bk W (w.heap.size + 1 + 1) 26 [.bool (sg b' C), .int .u64 (wd C 1), .int .u64 (wd C 0), .int .i64 (S : Int)] ∧ Below w.heap.size w W) ⟨?h1, ?h2⟩ ?_
        case h1 => (first | ((repeat (first | (with_reducible assumption) | ((with_reducible refine Bk.new_ ?_); (first | rfl | (simp only [World.size_alloc, World.size_setCell, World.size_drew, World.heap_drewN]; done))) | (with_reducible refine Bk.alloc ?_ _) | (with_reducible refine Bk.drew ?_) | (with_reducible refine Bk.drewN ?_ _) | ((with_reducible refine Bk.far ?_ ?_ _); rotate_left; focus (simp only []; omega)) | ((with_reducible refine Bk.below ?_ (by with_reducible assumption) ?_); rotate_left; focus (go_size; done)))); done) | ((repeat (first | (with_reducible refine Bk.alloc ?_ _) | (with_reducible refine Bk.drew ?_) | ((with_reducible refine Bk.far ?_ ?_ _); rotate_left; focus (simp only []; omega)))); (refine ((((?_ : Bk _ _ _ [.bool false, .int .u64 0, .int .u64 0, .int .i64 0]).set_ 0 _).set_ 1 _).set_ 2 _).set_ 3 _); (repeat (first | (with_reducible assumption) | ((with_reducible refine Bk.new_ ?_); (first | rfl | (simp only [World.size_alloc, World.size_setCell, World.size_drew, World.heap_drewN]; done))) | (with_reducible refine Bk.alloc ?_ _) | (with_reducible refine Bk.drew ?_) | (with_reducible refine Bk.drewN ?_ _) | ((with_reducible refine Bk.far ?_ ?_ _); rotate_left; focus (simp only []; omega)) | ((with_reducible refine Bk.below ?_ (by with_reducible assumption) ?_); rotate_left; focus (go_size; done))))); done)
        case h2 => ((repeat' (first | (with_reducible exact Below.refl _ _) | (with_reducible assumption) | (with_reducible refine Below.drew ?_) | (with_reducible refine below_drewN ?_ _) | ((with_reducible refine Below.alloc ?_ ?_ _); rotate_left; focus (go_size; done)) | ((with_reducible refine Below.setCell ?_ ?_ _); rotate_left; focus (go_size; done)) | ((with_reducible refine Below.trans ?_ (Below.mono (by with_reducible assumption) ?_)); rotate_left; focus (go_size; done)))); done)
        rintro W ⟨k1, mb⟩
        have k1_0 := k1.cell 0 rfl
        have k1_1 := k1.cell 1 rfl
        have k1_2 := k1.cell 2 rfl
        have k1_3 := k1.cell 3 rfl
        have k1_4 := k1.frozen 0
        have k1_5 := k1.frozen 1
        have k1_6 := k1.frozen 2
        have k1_7 := k1.frozen 3
        go_wp2_with fail
        refine bodyPost_ret (by simp [results, Try.results44, go_sem, *]; try rfl) rfl ?_
        exact ⟨rfl, by (repeat' (first | (with_reducible exact Below.refl _ _) | (with_reducible assumption) | (with_reducible refine Below.drew ?_) | (with_reducible refine below_drewN ?_ _) | ((with_reducible refine Below.alloc ?_ ?_ _); rotate_left; focus (go_size; done)) | ((with_reducible refine Below.setCell ?_ ?_ _); rotate_left; focus (go_size; done)) | ((with_reducible refine Below.trans ?_ (Below.mono (by with_reducible assumption) ?_)); rotate_left; focus (go_size; done))))⟩
    · have e := HR1.out hr0 (by have := HNB.out; revert this; cases b <;> cases b' <;> simp)
      have HE := Lib.hid e
      clear hr0 e
      go_wp2_with fail
      refine (HL.out _ _ _ Hd3'.out Hd5.out).mono ?_
      rintro _ w5 ⟨v6, rfl, d6, hb5⟩; have hb5s := hb5.size; (try simp only [World.size_alloc, World.size_setCell, World.size_drew, World.heap_drewN] at hb5s); obtain ⟨hb5c, hb5f⟩ := bcell hb5; (try have : w.heap.size < w5.heap.size := by omega); (try have : w.heap.size + 1 < w5.heap.size := by omega); (try have : w.heap.size + 1 + 1 < w5.heap.size := by omega); (try have : w.heap.size + 1 + 1 + 1 < w5.heap.size := by omega); have Hd6 := Lib.hid d6; clear d6
      have qb : Bk w5 (w.heap.size + 1) 26 [.bool b', .int .u64 y1, .int .u64 y0, .int .i64 (s' : Int)] := by (repeat (first | (with_reducible assumption) | ((with_reducible refine Bk.new_ ?_); (first | rfl | (simp only [World.size_alloc, World.size_setCell, World.size_drew, World.heap_drewN]; done))) | (with_reducible refine Bk.alloc ?_ _) | (with_reducible refine Bk.drew ?_) | (with_reducible refine Bk.drewN ?_ _) | ((with_reducible refine Bk.far ?_ ?_ _); rotate_left; focus (simp only []; omega)) | ((with_reducible refine Bk.below ?_ (by with_reducible assumption) ?_); rotate_left; focus (go_size; done))))
      have qr : Bk w5 (w.heap.size + 1 + 1) 26 [.bool false, .int .u64 0, .int .u64 0, .int .i64 0] := by (repeat (first | (with_reducible assumption) | ((with_reducible refine Bk.new_ ?_); (first | rfl | (simp only [World.size_alloc, World.size_setCell, World.size_drew, World.heap_drewN]; done))) | (with_reducible refine Bk.alloc ?_ _) | (with_reducible refine Bk.drew ?_) | (with_reducible refine Bk.drewN ?_ _) | ((with_reducible refine Bk.far ?_ ?_ _); rotate_left; focus (simp only []; omega)) | ((with_reducible refine Bk.below ?_ (by with_reducible assumption) ?_); rotate_left; focus (go_size; done))))
      have qbl := qb.lt
      have qrl := qr.lt
      clear la_0 la_1 la_2 la_3 la_4 la_5 la_6 la_7
      clear lb_0 lb_1 lb_2 lb_3 lb_4 lb_5 lb_6 lb_7
      have lb_0 := qb.cell 0 rfl
      have lb_1 := qb.cell 1 rfl
      have lb_2 := qb.cell 2 rfl
      have lb_3 := qb.cell 3 rfl
      have lb_4 := qb.frozen 0
      have lb_5 := qb.frozen 1
      have lb_6 := qb.frozen 2
      have lb_7 := qb.frozen 3
      clear hb5c hb5f
      go_wp2_with fail
      go_region_held3 (fun w' => w'.cell? ⟨w.heap.size + 1, 0, none⟩ = some (.bool b')) (first | (first | (go_keep; done) | (simp [go_sem]; done) | ((try dsimp only); (repeat' apply And.intro) <;> (first | (with_reducible assumption) | ((rw [World.cell?_alloc_lt _ _ _ (by show _ < _; omega)]); go_split_ands; (first | with_reducible assumption | (refine (World.cell?_alloc_lt _ _ _ (by show _ < _; omega)).symm.trans ?_; with_reducible assumption))) | ((rw [World.cell?_setCell_other _ _ _ _ (by intro e; injection e; omega)]); with_reducible assumption) | (go_keep; done) | (simp [go_sem]; done) | (simp (disch := go_size) [*, World.cell?_alloc_some, World.cell?_setCell_far]; done)))) | (refine Bk.cell (t := 26) (cs := [.bool b', .int .u64 y1, .int .u64 y0, .int .i64 (s' : Int)]) ?_ 0 rfl; ((repeat (first | (with_reducible assumption) | ((with_reducible refine Bk.new_ ?_); (first | rfl | (simp only [World.size_alloc, World.size_setCell, World.size_drew, World.heap_drewN]; done))) | (with_reducible refine Bk.alloc ?_ _) | (with_reducible refine Bk.drew ?_) | (with_reducible refine Bk.drewN ?_ _) | ((with_reducible refine Bk.far ?_ ?_ _); rotate_left; focus (simp only []; omega)) | ((with_reducible refine Bk.below ?_ (by with_reducible assumption) ?_); rotate_left; focus (go_size; done)))); done))) (first | (go_at_call 61; (with_reducible refine (HO.out _).mono ?_); rintro _ w7 ⟨v7, rfl, d7, hb7⟩; have hb7s := hb7.size; have Hd7 := Lib.hid d7; clear d7; (try simp only [World.size_alloc, World.size_setCell, World.size_drew, World.heap_drewN] at hb7s); (try have : w.heap.size < w7.heap.size := by omega); (try have : w.heap.size + 1 < w7.heap.size := by omega); (try have : w.heap.size + 1 + 1 < w7.heap.size := by omega); (try have : w.heap.size + 1 + 1 + 1 < w7.heap.size := by omega); (try have : w5.heap.size < w7.heap.size := by omega); (try have : w5.heap.size + 1 < w7.heap.size := by omega); (try have : w5.heap.size + 1 + 1 < w7.heap.size := by omega); (try have : w5.heap.size + 1 + 1 + 1 < w7.heap.size := by omega)) | (go_at_call 60; (with_reducible refine (HT.out _ _ _ ?hx ?hy).mono ?_); (case hx => (rw [HE.out]; exact ((Hd6.out).below (by (repeat' (first | (with_reducible exact Below.refl _ _) | (with_reducible assumption) | (with_reducible refine Below.drew ?_) | (with_reducible refine below_drewN ?_ _) | ((with_reducible refine Below.alloc ?_ ?_ _); rotate_left; focus (go_size; done)) | ((with_reducible refine Below.setCell ?_ ?_ _); rotate_left; focus (go_size; done)) | ((with_reducible refine Below.trans ?_ (Below.mono (by with_reducible assumption) ?_)); rotate_left; focus (go_size; done)))))))); (case hy => exact (Hd7.out.below (by (repeat' (first | (with_reducible exact Below.refl _ _) | (with_reducible assumption) | (with_reducible refine Below.drew ?_) | (with_reducible refine below_drewN ?_ _) | ((with_reducible refine Below.alloc ?_ ?_ _); rotate_left; focus (go_size; done)) | ((with_reducible refine Below.setCell ?_ ?_ _); rotate_left; focus (go_size; done)) | ((with_reducible refine Below.trans ?_ (Below.mono (by with_reducible assumption) ?_)); rotate_left; focus (go_size; done))))))); rintro _ w8 ⟨rfl, hb8⟩; have hb8s := hb8.size; (try simp only [World.size_alloc, World.size_setCell, World.size_drew, World.heap_drewN] at hb8s); obtain ⟨hb8c, hb8f⟩ := bcell hb8; (try have : w.heap.size < w8.heap.size := by omega); (try have : w.heap.size + 1 < w8.heap.size := by omega); (try have : w.heap.size + 1 + 1 < w8.heap.size := by omega); (try have : w.heap.size + 1 + 1 + 1 < w8.heap.size := by omega); have zr : Bk w8 (w.heap.size + 1 + 1) 26 [.bool false, .int .u64 0, .int .u64 0, .int .i64 0] := (by (repeat (first | (with_reducible assumption) | ((with_reducible refine Bk.new_ ?_); (first | rfl | (simp only [World.size_alloc, World.size_setCell, World.size_drew, World.heap_drewN]; done))) | (with_reducible refine Bk.alloc ?_ _) | (with_reducible refine Bk.drew ?_) | (with_reducible refine Bk.drewN ?_ _) | ((with_reducible refine Bk.far ?_ ?_ _); rotate_left; focus (simp only []; omega)) | ((with_reducible refine Bk.below ?_ (by with_reducible assumption) ?_); rotate_left; focus (go_size; done))))); have zr_0 := zr.cell 0 rfl; have zr_1 := zr.cell 1 rfl; have zr_2 := zr.cell 2 rfl; have zr_3 := zr.cell 3 rfl; have zr_4 := zr.frozen 0; have zr_5 := zr.frozen 1; have zr_6 := zr.frozen 2; have zr_7 := zr.frozen 3; have zrl := zr.lt; clear hb8c hb8f))
      all_goals
        refine wp_named (fun W => Bk W (w.heap.size + 1 + 1) 26 [.bool (sg b' C), .int .u64 (wd C 1), .int .u64 (wd C 0), .int .i64 (S : Int)] ∧ Below w.heap.size w W) ⟨?h1, ?h2⟩ ?_
        case h1 => (first | ((repeat (first | (with_reducible assumption) | ((with_reducible refine Bk.new_ ?_); (first | rfl | (simp only [World.size_alloc, World.size_setCell, World.size_drew, World.heap_drewN]; done))) | (with_reducible refine Bk.alloc ?_ _) | (with_reducible refine Bk.drew ?_) | (with_reducible refine Bk.drewN ?_ _) | ((with_reducible refine Bk.far ?_ ?_ _); rotate_left; focus (simp only []; omega)) | ((with_reducible refine Bk.below ?_ (by with_reducible assumption) ?_); rotate_left; focus (go_size; done)))); done) | ((repeat (first | (with_reducible refine Bk.alloc ?_ _) | (with_reducible refine Bk.drew ?_) | ((with_reducible refine Bk.far ?_ ?_ _); rotate_left; focus (simp only []; omega)))); (refine ((((?_ : Bk _ _ _ [.bool false, .int .u64 0, .int .u64 0, .int .i64 0]).set_ 0 _).set_ 1 _).set_ 2 _).set_ 3 _); (repeat (first | (with_reducible assumption) | ((with_reducible refine Bk.new_ ?_); (first | rfl | (simp only [World.size_alloc, World.size_setCell, World.size_drew, World.heap_drewN]; done))) | (with_reducible refine Bk.alloc ?_ _) | (with_reducible refine Bk.drew ?_) | (with_reducible refine Bk.drewN ?_ _) | ((with_reducible refine Bk.far ?_ ?_ _); rotate_left; focus (simp only []; omega)) | ((with_reducible refine Bk.below ?_ (by with_reducible assumption) ?_); rotate_left; focus (go_size; done))))); done)
        case h2 => ((repeat' (first | (with_reducible exact Below.refl _ _) | (with_reducible assumption) | (with_reducible refine Below.drew ?_) | (with_reducible refine below_drewN ?_ _) | ((with_reducible refine Below.alloc ?_ ?_ _); rotate_left; focus (go_size; done)) | ((with_reducible refine Below.setCell ?_ ?_ _); rotate_left; focus (go_size; done)) | ((with_reducible refine Below.trans ?_ (Below.mono (by with_reducible assumption) ?_)); rotate_left; focus (go_size; done)))); done)
        rintro W ⟨k1, mb⟩
        have k1_0 := k1.cell 0 rfl
        have k1_1 := k1.cell 1 rfl
        have k1_2 := k1.cell 2 rfl
        have k1_3 := k1.cell 3 rfl
        have k1_4 := k1.frozen 0
        have k1_5 := k1.frozen 1
        have k1_6 := k1.frozen 2
        have k1_7 := k1.frozen 3
        go_wp2_with fail
        refine bodyPost_ret (by simp [results, Try.results44, go_sem, *]; try rfl) rfl ?_
        exact ⟨rfl, by (repeat' (first | (with_reducible exact Below.refl _ _) | (with_reducible assumption) | (with_reducible refine Below.drew ?_) | (with_reducible refine below_drewN ?_ _) | ((with_reducible refine Below.alloc ?_ ?_ _); rotate_left; focus (go_size; done)) | ((with_reducible refine Below.setCell ?_ ?_ _); rotate_left; focus (go_size; done)) | ((with_reducible refine Below.trans ?_ (Below.mono (by with_reducible assumption) ?_)); rotate_left; focus (go_size; done))))⟩
end Go.Proofs.Ythkgjodidkpaeaa

set_option linter.unusedSimpArgs false
set_option linter.unusedVariables false
namespace Go.Proofs.Ythkgjodidkpaeaa
open Go.RowKit

theorem or_two (x b : Int) (hx0 : 0 ≤ x) (hx : x < 18446744073709551616) (hb0 : 0 ≤ b) (hb : b ≤ 1) : bits .or .u64 (IntKind.u64.wrap (x * 2)) b = (2 * x + b) % 18446744073709551616 := by
  obtain ⟨x, rfl⟩ := Int.eq_ofNat_of_zero_le hx0
  obtain ⟨b, rfl⟩ := Int.eq_ofNat_of_zero_le hb0
  have e : IntKind.u64.wrap ((x : Int) * 2) = ((x % 9223372036854775808 * 2 : Nat) : Int) := by rw [IntKind.wrap_u64]; omega
  have h := or_gen 1 (x % 9223372036854775808) b (by omega)
  rw [Nat.pow_one] at h
  rw [e, or_sum _ _ (by omega) (by omega) h]
  omega
theorem dv_hi (R b : Nat) (hR : R < 2 ^ 128) (hb : b < 2) : bits .or .u64 (IntKind.u64.wrap (wd R 1 * 2)) (wd R 0 / 9223372036854775808) = wd ((2 * R + b) % 2 ^ 128) 1 := by
  have h := wd_two hR
  have a0 := wd_nn R 0
  have a1 := wd_lt R 0
  have b0 := wd_nn R 1
  have b1 := wd_lt R 1
  rw [or_two _ _ b0 b1 (by omega) (by omega), wd1 ((2 * R + b) % 2 ^ 128)]
  generalize wd R 0 = x0 at *
  generalize wd R 1 = x1 at *
  omega
theorem dv_lo (R b : Nat) (hR : R < 2 ^ 128) (hb : b < 2) : bits .or .u64 (IntKind.u64.wrap (wd R 0 * 2)) (b : Int) = wd ((2 * R + b) % 2 ^ 128) 0 := by
  have h := wd_two hR
  have a0 := wd_nn R 0
  have a1 := wd_lt R 0
  have b0 := wd_nn R 1
  have b1 := wd_lt R 1
  rw [or_two _ _ a0 a1 (by omega) (by omega), wd0 ((2 * R + b) % 2 ^ 128)]
  generalize wd R 0 = x0 at *
  generalize wd R 1 = x1 at *
  omega
theorem dv_over (R b : Nat) (hR : R < 2 ^ 128) (hb : b < 2) : (wd R 1 / 9223372036854775808 == 1) = decide (2 ^ 128 ≤ 2 * R + b) := by
  have h := wd_two hR
  have a0 := wd_nn R 0
  have a1 := wd_lt R 0
  have b0 := wd_nn R 1
  have b1 := wd_lt R 1
  rw [Bool.eq_iff_iff]
  simp only [beq_iff_eq, decide_eq_true_eq]
  generalize wd R 0 = x0 at *
  generalize wd R 1 = x1 at *
  omega
theorem dv_bit (n j : Nat) : bits .and .u64 (wd n (j / 64) / 2 ^ (j % 64)) 1 = ((n / 2 ^ j % 2 : Nat) : Int) := by
  unfold wd
  have hx : n / 2 ^ (64 * (j / 64)) % 2 ^ 64 < 18446744073709551616 := Nat.mod_lt _ (by decide)
  have hm : j % 64 < 64 := Nat.mod_lt _ (by decide)
  have e2 : n / 2 ^ (64 * (j / 64)) % 2 ^ 64 / 2 ^ (j % 64) % 2 = n / 2 ^ j % 2 := by
    have e1 : 2 ^ 64 = 2 ^ (j % 64) * 2 ^ (64 - j % 64) := by rw [← Nat.pow_add]; congr 1; omega
    have e3 : 2 ^ j = 2 ^ (64 * (j / 64)) * 2 ^ (j % 64) := by rw [← Nat.pow_add]; congr 1; omega
    rw [e1, Nat.mod_mul_right_div_self, Nat.div_div_eq_div_mul, ← e3]
    have hd : 2 ^ 1 ∣ 2 ^ (64 - j % 64) := Nat.pow_dvd_pow 2 (by omega)
    exact Nat.mod_mod_of_dvd _ hd
  rw [← e2]
  generalize n / 2 ^ (64 * (j / 64)) % 2 ^ 64 = x at *
  have e : ((x : Nat) : Int) / 2 ^ (j % 64) = ((x / 2 ^ (j % 64) : Nat) : Int) := by
    rw [Int.natCast_ediv, Int.natCast_pow]; rfl
  have hy : x / 2 ^ (j % 64) ≤ x := Nat.div_le_self _ _
  rw [e]
  generalize x / 2 ^ (j % 64) = y at *
  have h := bits_and_u64_nat y 1 (by omega) (by decide)
  rw [Nat.and_one_is_mod] at h
  have e1 : ((1 : Nat) : Int) = 1 := rfl
  rw [e1] at h
  rw [h]
theorem dv_next (N j : Nat) : N / 2 ^ j = 2 * (N / 2 ^ (j + 1)) + N / 2 ^ j % 2 := by
  rw [Nat.pow_succ, ← Nat.div_div_eq_div_mul]; omega
theorem dv_in (P D b : Nat) (hD : 0 < D) (h : D ≤ 2 * (P % D) + b) (hb : b < 2) : (2 * P + b) / D = 2 * (P / D) + 1 ∧ (2 * P + b) % D = 2 * (P % D) + b - D := by
  have hl := Nat.mod_lt P hD
  have e : 2 * P + b = (2 * (P % D) + b - D) + D * (2 * (P / D) + 1) := by
    have h1 := Nat.div_add_mod P D
    rw [Nat.mul_add, Nat.mul_left_comm]
    omega
  have hr : 2 * (P % D) + b - D < D := by omega
  rw [e, Nat.add_mul_div_left _ _ hD, Nat.div_eq_of_lt hr, Nat.zero_add, Nat.add_mul_mod_self_left, Nat.mod_eq_of_lt hr]
  exact ⟨rfl, rfl⟩
theorem dv_out (P D b : Nat) (hD : 0 < D) (h : 2 * (P % D) + b < D) : (2 * P + b) / D = 2 * (P / D) ∧ (2 * P + b) % D = 2 * (P % D) + b := by
  have e : 2 * P + b = (2 * (P % D) + b) + D * (2 * (P / D)) := by
    have h1 := Nat.div_add_mod P D
    rw [Nat.mul_left_comm]
    omega
  rw [e, Nat.add_mul_div_left _ _ hD, Nat.div_eq_of_lt h, Nat.zero_add, Nat.add_mul_mod_self_left, Nat.mod_eq_of_lt h]
  exact ⟨rfl, rfl⟩
/-- a bit that is not there is set: the word -/
theorem dv_set (Y j : Nat) : bits .or .u64 (wd (Y * 2 ^ (j + 1)) (j / 64)) (IntKind.u64.wrap (2 ^ (j % 64))) = wd (Y * 2 ^ (j + 1)) (j / 64) + 2 ^ (j % 64) ∧ wd (Y * 2 ^ (j + 1)) (j / 64) + 2 ^ (j % 64) < 18446744073709551616 := by
  have hm : j % 64 < 64 := Nat.mod_lt _ (by decide)
  have e0 : 2 ^ (j + 1) = 2 ^ (64 * (j / 64)) * 2 ^ (j % 64 + 1) := by rw [← Nat.pow_add]; congr 1; omega
  have e1 : Y * 2 ^ (j + 1) / 2 ^ (64 * (j / 64)) = Y * 2 ^ (j % 64 + 1) := by
    rw [e0, Nat.mul_left_comm, Nat.mul_div_cancel_left _ (Nat.two_pow_pos _)]
  have e2 : Y * 2 ^ (j % 64 + 1) % 2 ^ 64 = Y % 2 ^ (63 - j % 64) * 2 ^ (j % 64 + 1) := by
    have e3 : (2 : Nat) ^ 64 = 2 ^ (63 - j % 64) * 2 ^ (j % 64 + 1) := by rw [← Nat.pow_add]; congr 1; omega
    rw [e3, Nat.mul_mod_mul_right]
  unfold wd
  rw [e1, e2]
  have hlt : Y % 2 ^ (63 - j % 64) < 2 ^ (63 - j % 64) := Nat.mod_lt _ (Nat.two_pow_pos _)
  have e4 : (2 : Nat) ^ 64 = 2 ^ (63 - j % 64) * 2 ^ (j % 64 + 1) := by rw [← Nat.pow_add]; congr 1; omega
  generalize Y % 2 ^ (63 - j % 64) = a at *
  have h1 : (a + 1) * 2 ^ (j % 64 + 1) ≤ 2 ^ 64 := by rw [e4]; exact Nat.mul_le_mul_right _ hlt
  rw [Nat.add_mul, Nat.one_mul] at h1
  have h2 : (2 : Nat) ^ (j % 64 + 1) = 2 * 2 ^ (j % 64) := by rw [Nat.pow_succ]; omega
  have h3 : (0 : Nat) < 2 ^ (j % 64) := Nat.two_pow_pos _
  have e5 : (2 : Int) ^ (j % 64) = ((2 ^ (j % 64) : Nat) : Int) := by rw [Int.natCast_pow]; rfl
  have hor := or_gen (j % 64 + 1) a (2 ^ (j % 64)) (by omega)
  rw [e5]
  generalize a * 2 ^ (j % 64 + 1) = A at *
  generalize 2 ^ (j % 64) = B at *
  have e6 : IntKind.u64.wrap (B : Int) = (B : Int) := by rw [IntKind.wrap_u64]; omega
  rw [e6, or_sum A B (by omega) (by omega) hor]
  exact ⟨rfl, by omega⟩
theorem dv_cells (Y j : Nat) (hj : j < 256) (h : Y * 2 ^ (j + 1) < 2 ^ 256) :
    (lcells (Y * 2 ^ (j + 1))).set (j / 64) (.int .u64 (bits .or .u64 (wd (Y * 2 ^ (j + 1)) (j / 64)) (IntKind.u64.wrap (2 ^ (j % 64))))) = lcells ((2 * Y + 1) * 2 ^ j) := by
  obtain ⟨e, hlt⟩ := dv_set Y j
  rw [e]
  have h0 := wd_nn (Y * 2 ^ (j + 1)) (j / 64)
  have hp : (0 : Int) < 2 ^ (j % 64) := Int.pow_pos (by decide)
  obtain ⟨V', v1, v2, v3, v4, v5⟩ := lcells_set (Y * 2 ^ (j + 1)) (j / 64) (by omega) h (wd (Y * 2 ^ (j + 1)) (j / 64) + 2 ^ (j % 64)) (by omega) hlt
  rw [v3]
  congr 1
  have e1 : wd (Y * 2 ^ (j + 1)) (j / 64) + 2 ^ (j % 64) - wd (Y * 2 ^ (j + 1)) (j / 64) = ((2 ^ (j % 64) : Nat) : Int) := by
    rw [Int.natCast_pow]; show _ = (2 : Int) ^ (j % 64); omega
  rw [e1, ← Int.natCast_mul, ← Int.natCast_add, ← Nat.pow_add] at v2
  rw [show j % 64 + 64 * (j / 64) = j by omega] at v2
  have e2 : V' = Y * 2 ^ (j + 1) + 2 ^ j := by exact_mod_cast v2
  rw [e2, Nat.pow_succ, Nat.add_mul, Nat.one_mul, Nat.mul_comm (2 ^ j) 2, ← Nat.mul_assoc, Nat.mul_comm Y 2]
theorem dv_zero (Y j : Nat) : Y * 2 ^ (j + 1) = (2 * Y) * 2 ^ j := by
  rw [Nat.pow_succ, Nat.mul_comm (2 ^ j) 2, ← Nat.mul_assoc, Nat.mul_comm Y 2]
theorem dv_q256 {N : Nat} (hN : N < 2 ^ 256) (D j : Nat) : N / 2 ^ (j + 1) / D * 2 ^ (j + 1) < 2 ^ 256 := by
  have h1 : N / 2 ^ (j + 1) / D ≤ N / 2 ^ (j + 1) := Nat.div_le_self _ _
  have h2 : N / 2 ^ (j + 1) / D * 2 ^ (j + 1) ≤ N / 2 ^ (j + 1) * 2 ^ (j + 1) := Nat.mul_le_mul_right _ h1
  exact Nat.lt_of_le_of_lt (Nat.le_trans h2 (Nat.div_mul_le_self _ _)) hN
theorem dv_yes {N D j R b T : Nat} (hD : 0 < D) (eR : R = N / 2 ^ (j + 1) % D) (eb : b = N / 2 ^ j % 2) (eT : T = 2 * R + b) (hb : b < 2) (h : D ≤ T) :
    N / 2 ^ j / D = 2 * (N / 2 ^ (j + 1) / D) + 1 ∧ N / 2 ^ j % D = T - D := by
  have e := dv_next N j
  rw [← eb] at e
  have h2 := dv_in (N / 2 ^ (j + 1)) D b hD (by rw [← eR, ← eT]; exact h) hb
  rw [← eR, ← eT, ← e] at h2
  exact h2
theorem dv_no {N D j R b T : Nat} (hD : 0 < D) (eR : R = N / 2 ^ (j + 1) % D) (eb : b = N / 2 ^ j % 2) (eT : T = 2 * R + b) (h : T < D) :
    N / 2 ^ j / D = 2 * (N / 2 ^ (j + 1) / D) ∧ N / 2 ^ j % D = T := by
  have e := dv_next N j
  rw [← eb] at e
  have h2 := dv_out (N / 2 ^ (j + 1)) D b hD (by rw [← eR, ← eT]; exact h)
  rw [← eR, ← eT, ← e] at h2
  exact h2
end Go.Proofs.Ythkgjodidkpaeaa

set_option linter.unusedSimpArgs false
set_option linter.unusedVariables false
namespace Go.Proofs.Ythkgjodidkpaeaa
open Go.RowKit

set_option maxRecDepth 100000 in
set_option maxHeartbeats 4000000 in
theorem tenfold_any (n : Nat) (h : n * 10 < 2 ^ 256) (w : World) : Calls Try.prog 81 #[.agg #[.int .u64 (wd n 0), .int .u64 (wd n 1), .int .u64 (wd n 2), .int .u64 (wd n 3)]] w fun e w' => e = .returned (.agg #[.int .u64 (wd (n * 10) 0), .int .u64 (wd (n * 10) 1), .int .u64 (wd (n * 10) 2), .int .u64 (wd (n * 10) 3)]) ∧ Below w.heap.size w w' := by
  have H1 := Lib.hid (fun W => plus4_any n n (by omega) W)
  have H2 := Lib.hid (fun W => plus4_any (n + n) (n + n) (by omega) W)
  have H3 := Lib.hid (fun W => plus4_any (n + n + (n + n)) (n + n + (n + n)) (by omega) W)
  have H4 := Lib.hid (fun W => plus4_any (n + n + (n + n) + (n + n + (n + n))) (n + n) (by omega) W)
  rw [show n + n + (n + n) + (n + n + (n + n)) + (n + n) = n * 10 by omega] at H4
  generalize n * 10 = T at *
  generalize n + n + (n + n) + (n + n + (n + n)) = E at *
  generalize n + n + (n + n) = F at *
  generalize n + n = D at *
  clear h
  generalize wd n 0 = n0 at *
  generalize wd n 1 = n1 at *
  generalize wd n 2 = n2 at *
  generalize wd n 3 = n3 at *
  generalize wd D 0 = p0 at *
  generalize wd D 1 = p1 at *
  generalize wd D 2 = p2 at *
  generalize wd D 3 = p3 at *
  generalize wd E 0 = e0 at *
  generalize wd E 1 = e1 at *
  generalize wd E 2 = e2 at *
  generalize wd E 3 = e3 at *
  go_enter Try.func81, Try.ntmps81
  go_wp2_with fail
  refine (H1.out _).mono ?_
  rintro _ w1 ⟨rfl, hb1⟩; have hb1s := hb1.size; (try simp only [World.size_alloc, World.size_setCell, World.size_drew, World.heap_drewN] at hb1s); obtain ⟨hb1c, hb1f⟩ := bcell hb1; (try have : w.heap.size < w1.heap.size := by omega); (try have : w.heap.size + 1 < w1.heap.size := by omega); (try have : w.heap.size + 1 + 1 < w1.heap.size := by omega); (try have : w.heap.size + 1 + 1 + 1 < w1.heap.size := by omega)
  have kr : Bk w1 (w.heap.size + 1) 45 [.int .u64 0, .int .u64 0, .int .u64 0, .int .u64 0] := by (repeat (first | (with_reducible assumption) | ((with_reducible refine Bk.new_ ?_); (first | rfl | (simp only [World.size_alloc, World.size_setCell, World.size_drew, World.heap_drewN]; done))) | (with_reducible refine Bk.alloc ?_ _) | (with_reducible refine Bk.drew ?_) | (with_reducible refine Bk.drewN ?_ _) | ((with_reducible refine Bk.far ?_ ?_ _); rotate_left; focus (simp only []; omega)) | ((with_reducible refine Bk.below ?_ (by with_reducible assumption) ?_); rotate_left; focus (go_size; done))))
  have krl := kr.lt
  clear hb1c hb1f
  have tok1 : True := trivial
  go_upto_region 2 with fail
  go_cut [3, 4] (fun s3 s4 wx => ∃ g4 : Nat, s3 = .pointer (some ⟨w1.heap.size, 0, none⟩) ∧ s4 = .pointer (some ⟨g4, 0, none⟩) ∧ Bk wx w1.heap.size 45 [.int .u64 p0, .int .u64 p1, .int .u64 p2, .int .u64 p3] ∧ Bk wx g4 45 [.int .u64 e0, .int .u64 e1, .int .u64 e2, .int .u64 e3] ∧ Bk wx (w.heap.size + 1) 45 [.int .u64 0, .int .u64 0, .int .u64 0, .int .u64 0] ∧ Below w.heap.size w wx)
  case first =>
    go_region_held3 (fun w' => (w'.cell? ⟨w1.heap.size, 0, none⟩ = some (.int .u64 p0) ∧ w'.cell? ⟨w1.heap.size, 1, none⟩ = some (.int .u64 p1) ∧ w'.cell? ⟨w1.heap.size, 2, none⟩ = some (.int .u64 p2) ∧ w'.cell? ⟨w1.heap.size, 3, none⟩ = some (.int .u64 p3))) (first | (first | (go_keep; done) | (simp [go_sem]; done) | ((try dsimp only); (repeat' apply And.intro) <;> (first | (with_reducible assumption) | ((rw [World.cell?_alloc_lt _ _ _ (by show _ < _; omega)]); go_split_ands; (first | with_reducible assumption | (refine (World.cell?_alloc_lt _ _ _ (by show _ < _; omega)).symm.trans ?_; with_reducible assumption))) | ((rw [World.cell?_setCell_other _ _ _ _ (by intro e; injection e; omega)]); with_reducible assumption) | (go_keep; done) | (simp [go_sem]; done) | (simp (disch := go_size) [*, World.cell?_alloc_some, World.cell?_setCell_far]; done)))) | ((refine ⟨Bk.cell (t := 45) (cs := [.int .u64 p0, .int .u64 p1, .int .u64 p2, .int .u64 p3]) ?_ 0 rfl, Bk.cell (t := 45) (cs := [.int .u64 p0, .int .u64 p1, .int .u64 p2, .int .u64 p3]) ?_ 1 rfl, Bk.cell (t := 45) (cs := [.int .u64 p0, .int .u64 p1, .int .u64 p2, .int .u64 p3]) ?_ 2 rfl, Bk.cell (t := 45) (cs := [.int .u64 p0, .int .u64 p1, .int .u64 p2, .int .u64 p3]) ?_ 3 rfl⟩) <;> ((repeat (first | (with_reducible assumption) | ((with_reducible refine Bk.new_ ?_); (first | rfl | (simp only [World.size_alloc, World.size_setCell, World.size_drew, World.heap_drewN]; done))) | (with_reducible refine Bk.alloc ?_ _) | (with_reducible refine Bk.drew ?_) | (with_reducible refine Bk.drewN ?_ _) | ((with_reducible refine Bk.far ?_ ?_ _); rotate_left; focus (simp only []; omega)) | ((with_reducible refine Bk.below ?_ (by with_reducible assumption) ?_); rotate_left; focus (go_size; done)))); done))) (first | (go_at_call 52; have _t := tok1; (with_reducible refine (H2.out _).mono ?_); rintro _ w2 ⟨rfl, hb2⟩; have hb2s := hb2.size; (try simp only [World.size_alloc, World.size_setCell, World.size_drew, World.heap_drewN] at hb2s); obtain ⟨hb2c, hb2f⟩ := bcell hb2; (try have : w.heap.size < w2.heap.size := by omega); (try have : w.heap.size + 1 < w2.heap.size := by omega); (try have : w.heap.size + 1 + 1 < w2.heap.size := by omega); (try have : w.heap.size + 1 + 1 + 1 < w2.heap.size := by omega); (try have : w1.heap.size < w2.heap.size := by omega); (try have : w1.heap.size + 1 < w2.heap.size := by omega); (try have : w1.heap.size + 1 + 1 < w2.heap.size := by omega); (try have : w1.heap.size + 1 + 1 + 1 < w2.heap.size := by omega); clear tok1 _t) | (go_at_call 52; (with_reducible refine (H2.out _).mono ?_); rintro _ w6 ⟨rfl, hb6⟩; have hb6s := hb6.size; (try simp only [World.size_alloc, World.size_setCell, World.size_drew, World.heap_drewN] at hb6s); obtain ⟨hb6c, hb6f⟩ := bcell hb6; (try have : w.heap.size < w6.heap.size := by omega); (try have : w.heap.size + 1 < w6.heap.size := by omega); (try have : w.heap.size + 1 + 1 < w6.heap.size := by omega); (try have : w.heap.size + 1 + 1 + 1 < w6.heap.size := by omega); (try have : w1.heap.size < w6.heap.size := by omega); (try have : w1.heap.size + 1 < w6.heap.size := by omega); (try have : w1.heap.size + 1 + 1 < w6.heap.size := by omega); (try have : w1.heap.size + 1 + 1 + 1 < w6.heap.size := by omega); (try have : w2.heap.size < w6.heap.size := by omega); (try have : w2.heap.size + 1 < w6.heap.size := by omega); (try have : w2.heap.size + 1 + 1 < w6.heap.size := by omega); (try have : w2.heap.size + 1 + 1 + 1 < w6.heap.size := by omega)) | (go_at_call 52; (with_reducible refine (H3.out _).mono ?_); rintro _ w3 ⟨rfl, hb3⟩; have hb3s := hb3.size; (try simp only [World.size_alloc, World.size_setCell, World.size_drew, World.heap_drewN] at hb3s); obtain ⟨hb3c, hb3f⟩ := bcell hb3; (try have : w.heap.size < w3.heap.size := by omega); (try have : w.heap.size + 1 < w3.heap.size := by omega); (try have : w.heap.size + 1 + 1 < w3.heap.size := by omega); (try have : w.heap.size + 1 + 1 + 1 < w3.heap.size := by omega); (try have : w1.heap.size < w3.heap.size := by omega); (try have : w1.heap.size + 1 < w3.heap.size := by omega); (try have : w1.heap.size + 1 + 1 < w3.heap.size := by omega); (try have : w1.heap.size + 1 + 1 + 1 < w3.heap.size := by omega); (try have : w2.heap.size < w3.heap.size := by omega); (try have : w2.heap.size + 1 < w3.heap.size := by omega); (try have : w2.heap.size + 1 + 1 < w3.heap.size := by omega); (try have : w2.heap.size + 1 + 1 + 1 < w3.heap.size := by omega); (try have : w6.heap.size < w3.heap.size := by omega); (try have : w6.heap.size + 1 < w3.heap.size := by omega); (try have : w6.heap.size + 1 + 1 < w3.heap.size := by omega); (try have : w6.heap.size + 1 + 1 + 1 < w3.heap.size := by omega)))
    all_goals
      go_wp2_with fail
      go_meet
      exact ⟨_, rfl, rfl, by (repeat (first | (with_reducible assumption) | ((with_reducible refine Bk.new_ ?_); (first | rfl | (simp only [World.size_alloc, World.size_setCell, World.size_drew, World.heap_drewN]; done))) | (with_reducible refine Bk.alloc ?_ _) | (with_reducible refine Bk.drew ?_) | (with_reducible refine Bk.drewN ?_ _) | ((with_reducible refine Bk.far ?_ ?_ _); rotate_left; focus (simp only []; omega)) | ((with_reducible refine Bk.below ?_ (by with_reducible assumption) ?_); rotate_left; focus (go_size; done)))), by first | ((repeat (first | (with_reducible assumption) | ((with_reducible refine Bk.new_ ?_); (first | rfl | (simp only [World.size_alloc, World.size_setCell, World.size_drew, World.heap_drewN]; done))) | (with_reducible refine Bk.alloc ?_ _) | (with_reducible refine Bk.drew ?_) | (with_reducible refine Bk.drewN ?_ _) | ((with_reducible refine Bk.far ?_ ?_ _); rotate_left; focus (simp only []; omega)) | ((with_reducible refine Bk.below ?_ (by with_reducible assumption) ?_); rotate_left; focus (go_size; done)))); done) | ((repeat (first | (with_reducible refine Bk.alloc ?_ _) | (with_reducible refine Bk.drew ?_) | ((with_reducible refine Bk.far ?_ ?_ _); rotate_left; focus (simp only []; omega)))); (refine ((((?_ : Bk _ _ _ [.int .u64 0, .int .u64 0, .int .u64 0, .int .u64 0]).set_ 0 _).set_ 1 _).set_ 2 _).set_ 3 _); (repeat (first | (with_reducible assumption) | ((with_reducible refine Bk.new_ ?_); (first | rfl | (simp only [World.size_alloc, World.size_setCell, World.size_drew, World.heap_drewN]; done))) | (with_reducible refine Bk.alloc ?_ _) | (with_reducible refine Bk.drew ?_) | (with_reducible refine Bk.drewN ?_ _) | ((with_reducible refine Bk.far ?_ ?_ _); rotate_left; focus (simp only []; omega)) | ((with_reducible refine Bk.below ?_ (by with_reducible assumption) ?_); rotate_left; focus (go_size; done))))), by (repeat (first | (with_reducible assumption) | ((with_reducible refine Bk.new_ ?_); (first | rfl | (simp only [World.size_alloc, World.size_setCell, World.size_drew, World.heap_drewN]; done))) | (with_reducible refine Bk.alloc ?_ _) | (with_reducible refine Bk.drew ?_) | (with_reducible refine Bk.drewN ?_ _) | ((with_reducible refine Bk.far ?_ ?_ _); rotate_left; focus (simp only []; omega)) | ((with_reducible refine Bk.below ?_ (by with_reducible assumption) ?_); rotate_left; focus (go_size; done)))), by (repeat' (first | (with_reducible exact Below.refl _ _) | (with_reducible assumption) | (with_reducible refine Below.drew ?_) | (with_reducible refine below_drewN ?_ _) | ((with_reducible refine Below.alloc ?_ ?_ _); rotate_left; focus (go_size; done)) | ((with_reducible refine Below.setCell ?_ ?_ _); rotate_left; focus (go_size; done)) | ((with_reducible refine Below.trans ?_ (Below.mono (by with_reducible assumption) ?_)); rotate_left; focus (go_size; done))))⟩
  case rest =>
    obtain ⟨g4, rfl, rfl, k3, k4, kr2, kw⟩ := hcut
    have k3l := k3.lt
    have k4l := k4.lt
    have kr2l := kr2.lt
    have k3_0 := k3.cell 0 rfl
    have k3_1 := k3.cell 1 rfl
    have k3_2 := k3.cell 2 rfl
    have k3_3 := k3.cell 3 rfl
    have k3_4 := k3.frozen 0
    have k3_5 := k3.frozen 1
    have k3_6 := k3.frozen 2
    have k3_7 := k3.frozen 3
    have k4_0 := k4.cell 0 rfl
    have k4_1 := k4.cell 1 rfl
    have k4_2 := k4.cell 2 rfl
    have k4_3 := k4.cell 3 rfl
    have k4_4 := k4.frozen 0
    have k4_5 := k4.frozen 1
    have k4_6 := k4.frozen 2
    have k4_7 := k4.frozen 3
    go_wp2_with fail
    refine (H4.out _).mono ?_
    rintro _ w5 ⟨rfl, hb5⟩; have hb5s := hb5.size; (try simp only [World.size_alloc, World.size_setCell, World.size_drew, World.heap_drewN] at hb5s); obtain ⟨hb5c, hb5f⟩ := bcell hb5; (try have : w.heap.size < w5.heap.size := by omega); (try have : w.heap.size + 1 < w5.heap.size := by omega); (try have : w.heap.size + 1 + 1 < w5.heap.size := by omega); (try have : w.heap.size + 1 + 1 + 1 < w5.heap.size := by omega)
    have jr : Bk w5 (w.heap.size + 1) 45 [.int .u64 0, .int .u64 0, .int .u64 0, .int .u64 0] := by (repeat (first | (with_reducible assumption) | ((with_reducible refine Bk.new_ ?_); (first | rfl | (simp only [World.size_alloc, World.size_setCell, World.size_drew, World.heap_drewN]; done))) | (with_reducible refine Bk.alloc ?_ _) | (with_reducible refine Bk.drew ?_) | (with_reducible refine Bk.drewN ?_ _) | ((with_reducible refine Bk.far ?_ ?_ _); rotate_left; focus (simp only []; omega)) | ((with_reducible refine Bk.below ?_ (by with_reducible assumption) ?_); rotate_left; focus (go_size; done))))
    have jr_0 := jr.cell 0 rfl
    have jr_1 := jr.cell 1 rfl
    have jr_2 := jr.cell 2 rfl
    have jr_3 := jr.cell 3 rfl
    have jr_4 := jr.frozen 0
    have jr_5 := jr.frozen 1
    have jr_6 := jr.frozen 2
    have jr_7 := jr.frozen 3
    clear hb5c hb5f
    go_wp2_with fail
    refine bodyPost_ret (by simp [results, Try.results81, go_sem, *]; try rfl) rfl ?_
    exact ⟨rfl, by (repeat' (first | (with_reducible exact Below.refl _ _) | (with_reducible assumption) | (with_reducible refine Below.drew ?_) | (with_reducible refine below_drewN ?_ _) | ((with_reducible refine Below.alloc ?_ ?_ _); rotate_left; focus (go_size; done)) | ((with_reducible refine Below.setCell ?_ ?_ _); rotate_left; focus (go_size; done)) | ((with_reducible refine Below.trans ?_ (Below.mono (by with_reducible assumption) ?_)); rotate_left; focus (go_size; done))))⟩
theorem or_even (X b : Nat) (hX : X % 2 = 0) (hb : b < 2) : bits .or .u64 (wd X 0) (b : Int) = wd (X + b) 0 := by
  have h1 : X % 18446744073709551616 % 2 = 0 := by omega
  rw [wd0, wd0, bits_or_u64_nat (X % 18446744073709551616) b (by omega) (by omega)]
  have e : X % 18446744073709551616 ||| b = X % 18446744073709551616 + b := by
    obtain ⟨Y, hY⟩ : ∃ Y, X % 18446744073709551616 = Y * 2 ^ 1 := ⟨X % 18446744073709551616 / 2, by omega⟩
    rw [hY, Nat.mul_comm]; exact (Nat.two_pow_add_eq_or_of_lt (by omega) Y).symm
  rw [e]; omega
theorem wd_even (X b i : Nat) (hX : X % 2 = 0) (hb : b < 2) (hi : 0 < i) : wd (X + b) i = wd X i := by
  unfold wd
  congr 2
  have e : (2 : Nat) ^ (64 * i) = 2 * 2 ^ (64 * i - 1) := by rw [← Nat.pow_succ']; congr 1; omega
  rw [e, ← Nat.div_div_eq_div_mul, ← Nat.div_div_eq_div_mul]
  congr 1; omega
set_option maxRecDepth 100000 in
set_option maxHeartbeats 8000000 in
theorem rest_any (N D : Nat) (hN : N < 10 ^ 52) (hD : D < 10 ^ 52) (h0 : 0 < D) (w : World) : Calls Try.prog 84 #[.agg #[.int .u64 (wd N 0), .int .u64 (wd N 1), .int .u64 (wd N 2), .int .u64 (wd N 3)], .agg #[.int .u64 (wd D 0), .int .u64 (wd D 1), .int .u64 (wd D 2), .int .u64 (wd D 3)]] w fun e w' => e = .returned (.agg #[.int .u64 (wd (N % D) 0), .int .u64 (wd (N % D) 1), .int .u64 (wd (N % D) 2), .int .u64 (wd (N % D) 3)]) ∧ Below w.heap.size w w' := by
  have hN2 : N < 2 ^ 256 := Nat.lt_trans hN (by decide)
  have hD2 : D < 2 ^ 255 := Nat.lt_trans hD (by decide)
  have HN := Far.mk hN2
  have HD := Far.mk hD2
  have H0 := Lib.hid h0
  clear hN hD hN2 hD2 h0
  obtain ⟨Z, hZ⟩ : ∃ Z, Z = N % D := ⟨_, rfl⟩
  rw [← hZ]
  have EZ := Far.mk hZ
  clear hZ
  go_enter Try.func84, Try.ntmps84
  go_wp2_with fail
  go_loopg [6] 256 (fun k i wr => k ≤ 256 ∧ i = .int .i64 ((k : Int) - 1) ∧ Bk wr (w.heap.size + 1 + 1 + 1) 45 (lcells (N / 2 ^ k % D)) ∧
    Bk wr w.heap.size 45 (lcells N) ∧ Bk wr (w.heap.size + 1) 45 (lcells D) ∧ Bk wr (w.heap.size + 1 + 1) 45 [.int .u64 0, .int .u64 0, .int .u64 0, .int .u64 0] ∧ Below w.heap.size w wr)
  case atStart =>
    refine ⟨Nat.le_refl _, rfl, ?_, by rw [lcells_eq]; (repeat (first | (with_reducible assumption) | ((with_reducible refine Bk.new_ ?_); (first | rfl | (simp only [World.size_alloc, World.size_setCell, World.size_drew, World.heap_drewN]; done))) | (with_reducible refine Bk.alloc ?_ _) | (with_reducible refine Bk.drew ?_) | (with_reducible refine Bk.drewN ?_ _) | ((with_reducible refine Bk.far ?_ ?_ _); rotate_left; focus (simp only []; omega)) | ((with_reducible refine Bk.below ?_ (by with_reducible assumption) ?_); rotate_left; focus (go_size; done)))), by rw [lcells_eq]; (repeat (first | (with_reducible assumption) | ((with_reducible refine Bk.new_ ?_); (first | rfl | (simp only [World.size_alloc, World.size_setCell, World.size_drew, World.heap_drewN]; done))) | (with_reducible refine Bk.alloc ?_ _) | (with_reducible refine Bk.drew ?_) | (with_reducible refine Bk.drewN ?_ _) | ((with_reducible refine Bk.far ?_ ?_ _); rotate_left; focus (simp only []; omega)) | ((with_reducible refine Bk.below ?_ (by with_reducible assumption) ?_); rotate_left; focus (go_size; done)))), by (repeat (first | (with_reducible assumption) | ((with_reducible refine Bk.new_ ?_); (first | rfl | (simp only [World.size_alloc, World.size_setCell, World.size_drew, World.heap_drewN]; done))) | (with_reducible refine Bk.alloc ?_ _) | (with_reducible refine Bk.drew ?_) | (with_reducible refine Bk.drewN ?_ _) | ((with_reducible refine Bk.far ?_ ?_ _); rotate_left; focus (simp only []; omega)) | ((with_reducible refine Bk.below ?_ (by with_reducible assumption) ?_); rotate_left; focus (go_size; done)))), by (repeat' (first | (with_reducible exact Below.refl _ _) | (with_reducible assumption) | (with_reducible refine Below.drew ?_) | (with_reducible refine below_drewN ?_ _) | ((with_reducible refine Below.alloc ?_ ?_ _); rotate_left; focus (go_size; done)) | ((with_reducible refine Below.setCell ?_ ?_ _); rotate_left; focus (go_size; done)) | ((with_reducible refine Below.trans ?_ (Below.mono (by with_reducible assumption) ?_)); rotate_left; focus (go_size; done))))⟩
    rw [Nat.div_eq_of_lt HN.out, Nat.zero_mod]
    show Bk _ _ _ [.int .u64 0, .int .u64 0, .int .u64 0, .int .u64 0]
    (repeat (first | (with_reducible assumption) | ((with_reducible refine Bk.new_ ?_); (first | rfl | (simp only [World.size_alloc, World.size_setCell, World.size_drew, World.heap_drewN]; done))) | (with_reducible refine Bk.alloc ?_ _) | (with_reducible refine Bk.drew ?_) | (with_reducible refine Bk.drewN ?_ _) | ((with_reducible refine Bk.far ?_ ?_ _); rotate_left; focus (simp only []; omega)) | ((with_reducible refine Bk.below ?_ (by with_reducible assumption) ?_); rotate_left; focus (go_size; done))))
  case round =>
    obtain ⟨hk, rfl, b3, b0, b1, b2, hbel⟩ := hrel
    have l3 := b3.lt
    have HB0 := Lib.hid b0
    have HB1 := Lib.hid b1
    by_cases hk0 : gk = 0
    · subst hk0
      have hm : ¬ (0 : Int) ≤ ((0 : Nat) : Int) - 1 := by omega
      rw [Nat.pow_zero, Nat.div_one, ← EZ.out, lcells_eq] at b3
      have b3_0 := b3.cell 0 rfl
      have b3_1 := b3.cell 1 rfl
      have b3_2 := b3.cell 2 rfl
      have b3_3 := b3.cell 3 rfl
      have b3_4 := b3.frozen 0
      have b3_5 := b3.frozen 1
      have b3_6 := b3.frozen 2
      have b3_7 := b3.frozen 3
      have b2_0 := b2.cell 0 rfl
      have b2_1 := b2.cell 1 rfl
      have b2_2 := b2.cell 2 rfl
      have b2_3 := b2.cell 3 rfl
      have b2_4 := b2.frozen 0
      have b2_5 := b2.frozen 1
      have b2_6 := b2.frozen 2
      have b2_7 := b2.frozen 3
      clear b3 b2 b0 b1
      go_wp2_with fail
      refine bodyPost_ret (by simp [results, Try.results84, go_sem, *]; try rfl) rfl ?_
      exact ⟨rfl, by (repeat' (first | (with_reducible exact Below.refl _ _) | (with_reducible assumption) | (with_reducible refine Below.drew ?_) | (with_reducible refine below_drewN ?_ _) | ((with_reducible refine Below.alloc ?_ ?_ _); rotate_left; focus (go_size; done)) | ((with_reducible refine Below.setCell ?_ ?_ _); rotate_left; focus (go_size; done)) | ((with_reducible refine Below.trans ?_ (Below.mono (by with_reducible assumption) ?_)); rotate_left; focus (go_size; done))))⟩
    · obtain ⟨j, rfl⟩ : ∃ j, gk = j + 1 := ⟨gk - 1, by omega⟩
      have hx : ((j + 1 : Nat) : Int) - 1 = (j : Int) := by omega
      rw [hx]
      have j0 : (0 : Int) ≤ (j : Int) := by omega
      have j1 : (j : Int) < 256 := by omega
      have hj : j < 256 := by omega
      obtain ⟨R, hR⟩ : ∃ R, R = N / 2 ^ (j + 1) % D := ⟨_, rfl⟩
      have hRD : R < D := by rw [hR]; exact Nat.mod_lt _ H0.out
      have hDD := HD.out
      have hRR : R + R < 2 ^ 256 := by omega
      obtain ⟨b, hb⟩ : ∃ b, b = N / 2 ^ j % 2 := ⟨_, rfl⟩
      have hb2' : b < 2 := by omega
      have LB := Lib.hid (dv_bit N j)
      rw [← hb] at LB
      rw [← hR] at b3
      obtain ⟨T, hT⟩ : ∃ T, T = 2 * R + b := ⟨_, rfl⟩
      have hTl : T < 2 ^ 256 := by omega
      have ev : (R + R) % 2 = 0 := by omega
      have LO : Hid (bits .or .u64 (wd (R + R) 0) (b : Int) = wd T 0) := Lib.hid (by rw [or_even (R + R) b ev hb2', show R + R + b = T by omega])
      have LW : Hid (wd (R + R) 1 = wd T 1 ∧ wd (R + R) 2 = wd T 2 ∧ wd (R + R) 3 = wd T 3) := Lib.hid (by
        have e : T = R + R + b := by omega
        rw [e]
        exact ⟨(wd_even _ _ 1 ev hb2' (by decide)).symm, (wd_even _ _ 2 ev hb2' (by decide)).symm, (wd_even _ _ 3 ev hb2' (by decide)).symm⟩)
      have HP := Lib.hid (fun W => plus4_any R R hRR W)
      have HO := Lib.hid (fun W => order_any T D hTl (by omega) W)
      have HM := Lib.hid (fun (hle : D ≤ T) W => minus4_any T D hTl hle W)
      have HC := Lib.hid (fun (h : D ≤ T) => (dv_yes (N := N) (j := j) H0.out hR hb hT hb2' h).2)
      have HC' := Lib.hid (fun (h : T < D) => (dv_no (N := N) (j := j) H0.out hR hb hT h).2)
      clear hR hRD hDD hRR hb hT hTl ev hk0
      generalize R + R = U at *
      rw [lcells_eq] at b3
      have b3_0 := b3.cell 0 rfl
      have b3_1 := b3.cell 1 rfl
      have b3_2 := b3.cell 2 rfl
      have b3_3 := b3.cell 3 rfl
      have b3_4 := b3.frozen 0
      have b3_5 := b3.frozen 1
      have b3_6 := b3.frozen 2
      have b3_7 := b3.frozen 3
      go_wp2_with fail
      refine (HP.out _).mono ?_
      rintro _ w2 ⟨rfl, hb2⟩; have hb2s := hb2.size; (try simp only [World.size_alloc, World.size_setCell, World.size_drew, World.heap_drewN] at hb2s); obtain ⟨hb2c, hb2f⟩ := bcell hb2; (try have : w.heap.size < w2.heap.size := by omega); (try have : w.heap.size + 1 < w2.heap.size := by omega); (try have : w.heap.size + 1 + 1 < w2.heap.size := by omega); (try have : w.heap.size + 1 + 1 + 1 < w2.heap.size := by omega)
      have a3 : Bk w2 (w.heap.size + 1 + 1 + 1) 45 [.int .u64 (wd R 0), .int .u64 (wd R 1), .int .u64 (wd R 2), .int .u64 (wd R 3)] := by (repeat (first | (with_reducible assumption) | ((with_reducible refine Bk.new_ ?_); (first | rfl | (simp only [World.size_alloc, World.size_setCell, World.size_drew, World.heap_drewN]; done))) | (with_reducible refine Bk.alloc ?_ _) | (with_reducible refine Bk.drew ?_) | (with_reducible refine Bk.drewN ?_ _) | ((with_reducible refine Bk.far ?_ ?_ _); rotate_left; focus (simp only []; omega)) | ((with_reducible refine Bk.below ?_ (by with_reducible assumption) ?_); rotate_left; focus (go_size; done))))
      have a0 : Bk w2 w.heap.size 45 (lcells N) := by (repeat (first | (with_reducible assumption) | ((with_reducible refine Bk.new_ ?_); (first | rfl | (simp only [World.size_alloc, World.size_setCell, World.size_drew, World.heap_drewN]; done))) | (with_reducible refine Bk.alloc ?_ _) | (with_reducible refine Bk.drew ?_) | (with_reducible refine Bk.drewN ?_ _) | ((with_reducible refine Bk.far ?_ ?_ _); rotate_left; focus (simp only []; omega)) | ((with_reducible refine Bk.below ?_ (by with_reducible assumption) ?_); rotate_left; focus (go_size; done))))
      have a1 : Bk w2 (w.heap.size + 1) 45 (lcells D) := by (repeat (first | (with_reducible assumption) | ((with_reducible refine Bk.new_ ?_); (first | rfl | (simp only [World.size_alloc, World.size_setCell, World.size_drew, World.heap_drewN]; done))) | (with_reducible refine Bk.alloc ?_ _) | (with_reducible refine Bk.drew ?_) | (with_reducible refine Bk.drewN ?_ _) | ((with_reducible refine Bk.far ?_ ?_ _); rotate_left; focus (simp only []; omega)) | ((with_reducible refine Bk.below ?_ (by with_reducible assumption) ?_); rotate_left; focus (go_size; done))))
      have a2 : Bk w2 (w.heap.size + 1 + 1) 45 [.int .u64 0, .int .u64 0, .int .u64 0, .int .u64 0] := by (repeat (first | (with_reducible assumption) | ((with_reducible refine Bk.new_ ?_); (first | rfl | (simp only [World.size_alloc, World.size_setCell, World.size_drew, World.heap_drewN]; done))) | (with_reducible refine Bk.alloc ?_ _) | (with_reducible refine Bk.drew ?_) | (with_reducible refine Bk.drewN ?_ _) | ((with_reducible refine Bk.far ?_ ?_ _); rotate_left; focus (simp only []; omega)) | ((with_reducible refine Bk.below ?_ (by with_reducible assumption) ?_); rotate_left; focus (go_size; done))))
      have a3l := a3.lt
      clear b3_0 b3_1 b3_2 b3_3 b3_4 b3_5 b3_6 b3_7
      have a3_0 := a3.cell 0 rfl
      have a3_1 := a3.cell 1 rfl
      have a3_2 := a3.cell 2 rfl
      have a3_3 := a3.cell 3 rfl
      have a3_4 := a3.frozen 0
      have a3_5 := a3.frozen 1
      have a3_6 := a3.frozen 2
      have a3_7 := a3.frozen 3
      clear hb2c hb2f
      go_wp2_with fail
      refine wp_named (fun W => Bk W (w.heap.size + 1 + 1 + 1) 45 [.int .u64 (wd U 0), .int .u64 (wd U 1), .int .u64 (wd U 2), .int .u64 (wd U 3)] ∧ Bk W w.heap.size 45 (lcells N) ∧ Bk W (w.heap.size + 1) 45 (lcells D) ∧ Bk W (w.heap.size + 1 + 1) 45 [.int .u64 0, .int .u64 0, .int .u64 0, .int .u64 0] ∧ Below w.heap.size w W) ⟨?h1, ?h2, ?h3, ?h4, ?h5⟩ ?_
      case h1 =>
        refine ((((?_ : Bk _ _ _ [.int .u64 (wd R 0), .int .u64 (wd R 1), .int .u64 (wd R 2), .int .u64 (wd R 3)]).set_ 0 _).set_ 1 _).set_ 2 _).set_ 3 _
        ((repeat (first | (with_reducible assumption) | ((with_reducible refine Bk.new_ ?_); (first | rfl | (simp only [World.size_alloc, World.size_setCell, World.size_drew, World.heap_drewN]; done))) | (with_reducible refine Bk.alloc ?_ _) | (with_reducible refine Bk.drew ?_) | (with_reducible refine Bk.drewN ?_ _) | ((with_reducible refine Bk.far ?_ ?_ _); rotate_left; focus (simp only []; omega)) | ((with_reducible refine Bk.below ?_ (by with_reducible assumption) ?_); rotate_left; focus (go_size; done)))); done)
      case h2 => ((repeat (first | (with_reducible assumption) | ((with_reducible refine Bk.new_ ?_); (first | rfl | (simp only [World.size_alloc, World.size_setCell, World.size_drew, World.heap_drewN]; done))) | (with_reducible refine Bk.alloc ?_ _) | (with_reducible refine Bk.drew ?_) | (with_reducible refine Bk.drewN ?_ _) | ((with_reducible refine Bk.far ?_ ?_ _); rotate_left; focus (simp only []; omega)) | ((with_reducible refine Bk.below ?_ (by with_reducible assumption) ?_); rotate_left; focus (go_size; done)))); done)
      case h3 => ((repeat (first | (with_reducible assumption) | ((with_reducible refine Bk.new_ ?_); (first | rfl | (simp only [World.size_alloc, World.size_setCell, World.size_drew, World.heap_drewN]; done))) | (with_reducible refine Bk.alloc ?_ _) | (with_reducible refine Bk.drew ?_) | (with_reducible refine Bk.drewN ?_ _) | ((with_reducible refine Bk.far ?_ ?_ _); rotate_left; focus (simp only []; omega)) | ((with_reducible refine Bk.below ?_ (by with_reducible assumption) ?_); rotate_left; focus (go_size; done)))); done)
      case h4 => ((repeat (first | (with_reducible assumption) | ((with_reducible refine Bk.new_ ?_); (first | rfl | (simp only [World.size_alloc, World.size_setCell, World.size_drew, World.heap_drewN]; done))) | (with_reducible refine Bk.alloc ?_ _) | (with_reducible refine Bk.drew ?_) | (with_reducible refine Bk.drewN ?_ _) | ((with_reducible refine Bk.far ?_ ?_ _); rotate_left; focus (simp only []; omega)) | ((with_reducible refine Bk.below ?_ (by with_reducible assumption) ?_); rotate_left; focus (go_size; done)))); done)
      case h5 => ((repeat' (first | (with_reducible exact Below.refl _ _) | (with_reducible assumption) | (with_reducible refine Below.drew ?_) | (with_reducible refine below_drewN ?_ _) | ((with_reducible refine Below.alloc ?_ ?_ _); rotate_left; focus (go_size; done)) | ((with_reducible refine Below.setCell ?_ ?_ _); rotate_left; focus (go_size; done)) | ((with_reducible refine Below.trans ?_ (Below.mono (by with_reducible assumption) ?_)); rotate_left; focus (go_size; done)))); done)
      clear a3_0 a3_1 a3_2 a3_3 a3_4 a3_5 a3_6 a3_7
      rintro W1 ⟨c3, c0, c1, c2, cw⟩
      have c3l := c3.lt
      have d0 : W1.cell? ⟨w.heap.size, j / 64, none⟩ = some (.int .u64 (wd N (j / 64))) := c0.cell _ (lcells_at N _ (by omega))
      have e0 := c3.cell 0 rfl
      have f0 := c3.frozen 0
      clear hb2 hb2s a0 a1 a2 a3 a3l b0 b1 b2 b3 hbel l3
      go_wp2_with fail
      go_region
      all_goals
        rw [LB.out, LO.out]
        refine wp_named (fun W => Bk W (w.heap.size + 1 + 1 + 1) 45 [.int .u64 (wd T 0), .int .u64 (wd T 1), .int .u64 (wd T 2), .int .u64 (wd T 3)] ∧ Bk W w.heap.size 45 (lcells N) ∧ Bk W (w.heap.size + 1) 45 (lcells D) ∧ Bk W (w.heap.size + 1 + 1) 45 [.int .u64 0, .int .u64 0, .int .u64 0, .int .u64 0] ∧ Below w.heap.size w W) ⟨?h1, ?h2, ?h3, ?h4, ?h5⟩ ?_
        case h1 =>
          obtain ⟨u1, u2, u3⟩ := LW.out
          rw [← u1, ← u2, ← u3]
          repeat (first | refine Bk.drew ?_ | refine Bk.drewN ?_ _)
          exact c3.set_ 0 _
        case h2 => ((repeat (first | (with_reducible assumption) | ((with_reducible refine Bk.new_ ?_); (first | rfl | (simp only [World.size_alloc, World.size_setCell, World.size_drew, World.heap_drewN]; done))) | (with_reducible refine Bk.alloc ?_ _) | (with_reducible refine Bk.drew ?_) | (with_reducible refine Bk.drewN ?_ _) | ((with_reducible refine Bk.far ?_ ?_ _); rotate_left; focus (simp only []; omega)) | ((with_reducible refine Bk.below ?_ (by with_reducible assumption) ?_); rotate_left; focus (go_size; done)))); done)
        case h3 => ((repeat (first | (with_reducible assumption) | ((with_reducible refine Bk.new_ ?_); (first | rfl | (simp only [World.size_alloc, World.size_setCell, World.size_drew, World.heap_drewN]; done))) | (with_reducible refine Bk.alloc ?_ _) | (with_reducible refine Bk.drew ?_) | (with_reducible refine Bk.drewN ?_ _) | ((with_reducible refine Bk.far ?_ ?_ _); rotate_left; focus (simp only []; omega)) | ((with_reducible refine Bk.below ?_ (by with_reducible assumption) ?_); rotate_left; focus (go_size; done)))); done)
        case h4 => ((repeat (first | (with_reducible assumption) | ((with_reducible refine Bk.new_ ?_); (first | rfl | (simp only [World.size_alloc, World.size_setCell, World.size_drew, World.heap_drewN]; done))) | (with_reducible refine Bk.alloc ?_ _) | (with_reducible refine Bk.drew ?_) | (with_reducible refine Bk.drewN ?_ _) | ((with_reducible refine Bk.far ?_ ?_ _); rotate_left; focus (simp only []; omega)) | ((with_reducible refine Bk.below ?_ (by with_reducible assumption) ?_); rotate_left; focus (go_size; done)))); done)
        case h5 => ((repeat' (first | (with_reducible exact Below.refl _ _) | (with_reducible assumption) | (with_reducible refine Below.drew ?_) | (with_reducible refine below_drewN ?_ _) | ((with_reducible refine Below.alloc ?_ ?_ _); rotate_left; focus (go_size; done)) | ((with_reducible refine Below.setCell ?_ ?_ _); rotate_left; focus (go_size; done)) | ((with_reducible refine Below.trans ?_ (Below.mono (by with_reducible assumption) ?_)); rotate_left; focus (go_size; done)))); done)
        clear d0 e0 f0
        rintro W2 ⟨k3, k0, k1, k2, kw⟩
        have k3l := k3.lt
        have k1' := k1
        rw [lcells_eq] at k1'
        have k3_0 := k3.cell 0 rfl
        have k3_1 := k3.cell 1 rfl
        have k3_2 := k3.cell 2 rfl
        have k3_3 := k3.cell 3 rfl
        have k3_4 := k3.frozen 0
        have k3_5 := k3.frozen 1
        have k3_6 := k3.frozen 2
        have k3_7 := k3.frozen 3
        have k4_0 := k1'.cell 0 rfl
        have k4_1 := k1'.cell 1 rfl
        have k4_2 := k1'.cell 2 rfl
        have k4_3 := k1'.cell 3 rfl
        have k4_4 := k1'.frozen 0
        have k4_5 := k1'.frozen 1
        have k4_6 := k1'.frozen 2
        have k4_7 := k1'.frozen 3
        go_wp2_with fail
        refine (HO.out _).mono ?_
        rintro _ w3 ⟨rfl, hb3⟩; have hb3s := hb3.size; (try simp only [World.size_alloc, World.size_setCell, World.size_drew, World.heap_drewN] at hb3s); obtain ⟨hb3c, hb3f⟩ := bcell hb3; (try have : w.heap.size < w3.heap.size := by omega); (try have : w.heap.size + 1 < w3.heap.size := by omega); (try have : w.heap.size + 1 + 1 < w3.heap.size := by omega); (try have : w.heap.size + 1 + 1 + 1 < w3.heap.size := by omega)
        have m3 : Bk w3 (w.heap.size + 1 + 1 + 1) 45 [.int .u64 (wd T 0), .int .u64 (wd T 1), .int .u64 (wd T 2), .int .u64 (wd T 3)] := by (repeat (first | (with_reducible assumption) | ((with_reducible refine Bk.new_ ?_); (first | rfl | (simp only [World.size_alloc, World.size_setCell, World.size_drew, World.heap_drewN]; done))) | (with_reducible refine Bk.alloc ?_ _) | (with_reducible refine Bk.drew ?_) | (with_reducible refine Bk.drewN ?_ _) | ((with_reducible refine Bk.far ?_ ?_ _); rotate_left; focus (simp only []; omega)) | ((with_reducible refine Bk.below ?_ (by with_reducible assumption) ?_); rotate_left; focus (go_size; done))))
        have m0 : Bk w3 w.heap.size 45 (lcells N) := by (repeat (first | (with_reducible assumption) | ((with_reducible refine Bk.new_ ?_); (first | rfl | (simp only [World.size_alloc, World.size_setCell, World.size_drew, World.heap_drewN]; done))) | (with_reducible refine Bk.alloc ?_ _) | (with_reducible refine Bk.drew ?_) | (with_reducible refine Bk.drewN ?_ _) | ((with_reducible refine Bk.far ?_ ?_ _); rotate_left; focus (simp only []; omega)) | ((with_reducible refine Bk.below ?_ (by with_reducible assumption) ?_); rotate_left; focus (go_size; done))))
        have m1 : Bk w3 (w.heap.size + 1) 45 (lcells D) := by (repeat (first | (with_reducible assumption) | ((with_reducible refine Bk.new_ ?_); (first | rfl | (simp only [World.size_alloc, World.size_setCell, World.size_drew, World.heap_drewN]; done))) | (with_reducible refine Bk.alloc ?_ _) | (with_reducible refine Bk.drew ?_) | (with_reducible refine Bk.drewN ?_ _) | ((with_reducible refine Bk.far ?_ ?_ _); rotate_left; focus (simp only []; omega)) | ((with_reducible refine Bk.below ?_ (by with_reducible assumption) ?_); rotate_left; focus (go_size; done))))
        have m2 : Bk w3 (w.heap.size + 1 + 1) 45 [.int .u64 0, .int .u64 0, .int .u64 0, .int .u64 0] := by (repeat (first | (with_reducible assumption) | ((with_reducible refine Bk.new_ ?_); (first | rfl | (simp only [World.size_alloc, World.size_setCell, World.size_drew, World.heap_drewN]; done))) | (with_reducible refine Bk.alloc ?_ _) | (with_reducible refine Bk.drew ?_) | (with_reducible refine Bk.drewN ?_ _) | ((with_reducible refine Bk.far ?_ ?_ _); rotate_left; focus (simp only []; omega)) | ((with_reducible refine Bk.below ?_ (by with_reducible assumption) ?_); rotate_left; focus (go_size; done))))
        have mw : Below w.heap.size w w3 := by (repeat' (first | (with_reducible exact Below.refl _ _) | (with_reducible assumption) | (with_reducible refine Below.drew ?_) | (with_reducible refine below_drewN ?_ _) | ((with_reducible refine Below.alloc ?_ ?_ _); rotate_left; focus (go_size; done)) | ((with_reducible refine Below.setCell ?_ ?_ _); rotate_left; focus (go_size; done)) | ((with_reducible refine Below.trans ?_ (Below.mono (by with_reducible assumption) ?_)); rotate_left; focus (go_size; done))))
        have m3l := m3.lt
        have m1' := m1
        rw [lcells_eq] at m1'
        clear k3_0 k3_1 k3_2 k3_3 k3_4 k3_5 k3_6 k3_7
        clear k4_0 k4_1 k4_2 k4_3 k4_4 k4_5 k4_6 k4_7
        clear hb3c hb3f k1'
        by_cases hge : D ≤ T
        · have hcc : 0 ≤ cmpN T D := by unfold cmpN; split <;> (try split) <;> omega
          have HM2 := Lib.hid (fun W => HM.out hge W)
          have HC2 := Far.mk (HC.out hge)
          generalize cmpN T D = cc at *
          generalize T - D = V at *
          clear hge
          have m3_0 := m3.cell 0 rfl
          have m3_1 := m3.cell 1 rfl
          have m3_2 := m3.cell 2 rfl
          have m3_3 := m3.cell 3 rfl
          have m3_4 := m3.frozen 0
          have m3_5 := m3.frozen 1
          have m3_6 := m3.frozen 2
          have m3_7 := m3.frozen 3
          have m4_0 := m1'.cell 0 rfl
          have m4_1 := m1'.cell 1 rfl
          have m4_2 := m1'.cell 2 rfl
          have m4_3 := m1'.cell 3 rfl
          have m4_4 := m1'.frozen 0
          have m4_5 := m1'.frozen 1
          have m4_6 := m1'.frozen 2
          have m4_7 := m1'.frozen 3
          go_wp2_with fail
          refine (HM2.out _).mono ?_
          rintro _ w4 ⟨rfl, hb4⟩; have hb4s := hb4.size; (try simp only [World.size_alloc, World.size_setCell, World.size_drew, World.heap_drewN] at hb4s); obtain ⟨hb4c, hb4f⟩ := bcell hb4; (try have : w.heap.size < w4.heap.size := by omega); (try have : w.heap.size + 1 < w4.heap.size := by omega); (try have : w.heap.size + 1 + 1 < w4.heap.size := by omega); (try have : w.heap.size + 1 + 1 + 1 < w4.heap.size := by omega)
          have n3 : Bk w4 (w.heap.size + 1 + 1 + 1) 45 [.int .u64 (wd T 0), .int .u64 (wd T 1), .int .u64 (wd T 2), .int .u64 (wd T 3)] := by (repeat (first | (with_reducible assumption) | ((with_reducible refine Bk.new_ ?_); (first | rfl | (simp only [World.size_alloc, World.size_setCell, World.size_drew, World.heap_drewN]; done))) | (with_reducible refine Bk.alloc ?_ _) | (with_reducible refine Bk.drew ?_) | (with_reducible refine Bk.drewN ?_ _) | ((with_reducible refine Bk.far ?_ ?_ _); rotate_left; focus (simp only []; omega)) | ((with_reducible refine Bk.below ?_ (by with_reducible assumption) ?_); rotate_left; focus (go_size; done))))
          have n0 : Bk w4 w.heap.size 45 (lcells N) := by (repeat (first | (with_reducible assumption) | ((with_reducible refine Bk.new_ ?_); (first | rfl | (simp only [World.size_alloc, World.size_setCell, World.size_drew, World.heap_drewN]; done))) | (with_reducible refine Bk.alloc ?_ _) | (with_reducible refine Bk.drew ?_) | (with_reducible refine Bk.drewN ?_ _) | ((with_reducible refine Bk.far ?_ ?_ _); rotate_left; focus (simp only []; omega)) | ((with_reducible refine Bk.below ?_ (by with_reducible assumption) ?_); rotate_left; focus (go_size; done))))
          have n1 : Bk w4 (w.heap.size + 1) 45 (lcells D) := by (repeat (first | (with_reducible assumption) | ((with_reducible refine Bk.new_ ?_); (first | rfl | (simp only [World.size_alloc, World.size_setCell, World.size_drew, World.heap_drewN]; done))) | (with_reducible refine Bk.alloc ?_ _) | (with_reducible refine Bk.drew ?_) | (with_reducible refine Bk.drewN ?_ _) | ((with_reducible refine Bk.far ?_ ?_ _); rotate_left; focus (simp only []; omega)) | ((with_reducible refine Bk.below ?_ (by with_reducible assumption) ?_); rotate_left; focus (go_size; done))))
          have n2 : Bk w4 (w.heap.size + 1 + 1) 45 [.int .u64 0, .int .u64 0, .int .u64 0, .int .u64 0] := by (repeat (first | (with_reducible assumption) | ((with_reducible refine Bk.new_ ?_); (first | rfl | (simp only [World.size_alloc, World.size_setCell, World.size_drew, World.heap_drewN]; done))) | (with_reducible refine Bk.alloc ?_ _) | (with_reducible refine Bk.drew ?_) | (with_reducible refine Bk.drewN ?_ _) | ((with_reducible refine Bk.far ?_ ?_ _); rotate_left; focus (simp only []; omega)) | ((with_reducible refine Bk.below ?_ (by with_reducible assumption) ?_); rotate_left; focus (go_size; done))))
          clear m3_0 m3_1 m3_2 m3_3 m3_4 m3_5 m3_6 m3_7
          clear m4_0 m4_1 m4_2 m4_3 m4_4 m4_5 m4_6 m4_7
          have n3_0 := n3.cell 0 rfl
          have n3_1 := n3.cell 1 rfl
          have n3_2 := n3.cell 2 rfl
          have n3_3 := n3.cell 3 rfl
          have n3_4 := n3.frozen 0
          have n3_5 := n3.frozen 1
          have n3_6 := n3.frozen 2
          have n3_7 := n3.frozen 3
          have n3l := n3.lt
          clear hb4c hb4f
          go_wp2_with fail
          go_roundg j
          case measure => omega
          case rel =>
            refine ⟨by omega, rfl, ?_, by (repeat (first | (with_reducible assumption) | ((with_reducible refine Bk.new_ ?_); (first | rfl | (simp only [World.size_alloc, World.size_setCell, World.size_drew, World.heap_drewN]; done))) | (with_reducible refine Bk.alloc ?_ _) | (with_reducible refine Bk.drew ?_) | (with_reducible refine Bk.drewN ?_ _) | ((with_reducible refine Bk.far ?_ ?_ _); rotate_left; focus (simp only []; omega)) | ((with_reducible refine Bk.below ?_ (by with_reducible assumption) ?_); rotate_left; focus (go_size; done)))), by (repeat (first | (with_reducible assumption) | ((with_reducible refine Bk.new_ ?_); (first | rfl | (simp only [World.size_alloc, World.size_setCell, World.size_drew, World.heap_drewN]; done))) | (with_reducible refine Bk.alloc ?_ _) | (with_reducible refine Bk.drew ?_) | (with_reducible refine Bk.drewN ?_ _) | ((with_reducible refine Bk.far ?_ ?_ _); rotate_left; focus (simp only []; omega)) | ((with_reducible refine Bk.below ?_ (by with_reducible assumption) ?_); rotate_left; focus (go_size; done)))), by (repeat (first | (with_reducible assumption) | ((with_reducible refine Bk.new_ ?_); (first | rfl | (simp only [World.size_alloc, World.size_setCell, World.size_drew, World.heap_drewN]; done))) | (with_reducible refine Bk.alloc ?_ _) | (with_reducible refine Bk.drew ?_) | (with_reducible refine Bk.drewN ?_ _) | ((with_reducible refine Bk.far ?_ ?_ _); rotate_left; focus (simp only []; omega)) | ((with_reducible refine Bk.below ?_ (by with_reducible assumption) ?_); rotate_left; focus (go_size; done)))), by (repeat' (first | (with_reducible exact Below.refl _ _) | (with_reducible assumption) | (with_reducible refine Below.drew ?_) | (with_reducible refine below_drewN ?_ _) | ((with_reducible refine Below.alloc ?_ ?_ _); rotate_left; focus (go_size; done)) | ((with_reducible refine Below.setCell ?_ ?_ _); rotate_left; focus (go_size; done)) | ((with_reducible refine Below.trans ?_ (Below.mono (by with_reducible assumption) ?_)); rotate_left; focus (go_size; done))))⟩
            rw [HC2.out, lcells_eq]
            refine ((((?_ : Bk _ _ _ [.int .u64 (wd T 0), .int .u64 (wd T 1), .int .u64 (wd T 2), .int .u64 (wd T 3)]).set_ 0 _).set_ 1 _).set_ 2 _).set_ 3 _
            ((repeat (first | (with_reducible assumption) | ((with_reducible refine Bk.new_ ?_); (first | rfl | (simp only [World.size_alloc, World.size_setCell, World.size_drew, World.heap_drewN]; done))) | (with_reducible refine Bk.alloc ?_ _) | (with_reducible refine Bk.drew ?_) | (with_reducible refine Bk.drewN ?_ _) | ((with_reducible refine Bk.far ?_ ?_ _); rotate_left; focus (simp only []; omega)) | ((with_reducible refine Bk.below ?_ (by with_reducible assumption) ?_); rotate_left; focus (go_size; done)))); done)
        · have hcc : ¬ 0 ≤ cmpN T D := by unfold cmpN; rw [if_neg (by omega), if_pos (by omega)]; decide
          have HC2 := Far.mk (HC'.out (by omega))
          generalize cmpN T D = cc at *
          clear hge
          go_wp2_with fail
          go_roundg j
          case measure => omega
          case rel =>
            refine ⟨by omega, rfl, ?_, m0, m1, m2, mw⟩
            rw [HC2.out, lcells_eq]
            exact m3
end Go.Proofs.Ythkgjodidkpaeaa

set_option linter.unusedSimpArgs false
set_option linter.unusedVariables false
namespace Go.Proofs.Ythkgjodidkpaeaa
open Go.RowKit

theorem dv_less {D T T' R b : Nat} (hD : D < 2 ^ 128) (e1 : T' = T % 2 ^ 128) (hR : R < D) (e2 : T = 2 * R + b) (hb : b < 2) (h : D ≤ T) : lessW T' D = T - D := by
  unfold lessW
  split <;> omega
set_option maxHeartbeats 1000000 in
theorem div_zero (N : Nat) (w : World) : Calls Try.prog 78 #[.agg #[.int .u64 (wd N 0), .int .u64 (wd N 1), .int .u64 (wd N 2), .int .u64 (wd N 3)], .agg #[.int .u64 0, .int .u64 0]] w fun e w' => e = .returned (.tuple #[.agg #[.int .u64 0, .int .u64 0, .int .u64 0, .int .u64 0], .agg #[.int .u64 0, .int .u64 0], .int .i64 4]) ∧ Below w.heap.size w w' := by
  generalize wd N 0 = x0 at *
  generalize wd N 1 = x1 at *
  generalize wd N 2 = x2 at *
  generalize wd N 3 = x3 at *
  go_enter Try.func78, Try.ntmps78
  go_wp2_with fail
  refine bodyPost_ret (by simp [results, Try.results78, go_sem, *]; try rfl) rfl ?_
  exact ⟨rfl, by (repeat' (first | (with_reducible exact Below.refl _ _) | (with_reducible assumption) | (with_reducible refine Below.drew ?_) | (with_reducible refine below_drewN ?_ _) | ((with_reducible refine Below.alloc ?_ ?_ _); rotate_left; focus (go_size; done)) | ((with_reducible refine Below.setCell ?_ ?_ _); rotate_left; focus (go_size; done)) | ((with_reducible refine Below.trans ?_ (Below.mono (by with_reducible assumption) ?_)); rotate_left; focus (go_size; done))))⟩
set_option maxHeartbeats 4000000 in
theorem div_any (N D : Nat) (hN : N < 2 ^ 256) (hD : D < 2 ^ 128) (h0 : D ≠ 0) (w : World) :
    Calls Try.prog 78 #[.agg #[.int .u64 (wd N 0), .int .u64 (wd N 1), .int .u64 (wd N 2), .int .u64 (wd N 3)], .agg #[.int .u64 (wd D 1), .int .u64 (wd D 0)]] w fun e w' => e = .returned (.tuple #[.agg #[.int .u64 (wd (N / D) 0), .int .u64 (wd (N / D) 1), .int .u64 (wd (N / D) 2), .int .u64 (wd (N / D) 3)], .agg #[.int .u64 (wd (N % D) 1), .int .u64 (wd (N % D) 0)], .int .i64 0]) ∧ Below w.heap.size w w' := by
  have g0 : ((wd D 1 == 0) && (wd D 0 == 0)) = false := by
    have e := wd_eq_iff hD (show 0 < 2 ^ 128 by decide)
    rw [wd_zero, wd_zero] at e
    rw [e]; simpa using h0
  have HN := Far.mk hN
  have HD := Far.mk hD
  have H0 : Hid (0 < D) := Lib.hid (by omega)
  clear hN hD h0
  obtain ⟨d1, hd1⟩ : ∃ x, x = wd D 1 := ⟨_, rfl⟩
  obtain ⟨d0, hd0⟩ : ∃ x, x = wd D 0 := ⟨_, rfl⟩
  rw [← hd1, ← hd0] at g0 ⊢
  have q0 := fun W => eq_wide d1 d0 0 0 W
  rw [g0] at q0
  clear g0
  have E1 := Lib.hid hd1
  have E0 := Lib.hid hd0
  clear hd1 hd0
  go_enter Try.func78, Try.ntmps78
  go_wp2_with fail
  go_loopg [9] 256 (fun k i wr => k ≤ 256 ∧ i = .int .i64 ((k : Int) - 1) ∧ Bk wr (w.heap.size + 1 + 1 + 1 + 1) 45 (lcells (N / 2 ^ k / D * 2 ^ k)) ∧
    Bk wr (w.heap.size + 1 + 1 + 1 + 1 + 1) 24 [.int .u64 (wd (N / 2 ^ k % D) 1), .int .u64 (wd (N / 2 ^ k % D) 0)] ∧ Bk wr w.heap.size 45 (lcells N) ∧ Bk wr (w.heap.size + 1) 24 [.int .u64 d1, .int .u64 d0] ∧
    Bk wr (w.heap.size + 1 + 1) 45 [.int .u64 0, .int .u64 0, .int .u64 0, .int .u64 0] ∧ Bk wr (w.heap.size + 1 + 1 + 1) 24 [.int .u64 0, .int .u64 0] ∧ w.heap.size + 6 ≤ wr.heap.size ∧ Below w.heap.size w wr)
  case atStart =>
    refine ⟨Nat.le_refl _, rfl, ?_, ?_, by rw [lcells_eq]; (repeat (first | (with_reducible assumption) | ((with_reducible refine Bk.new_ ?_); (first | rfl | (simp only [World.size_alloc, World.size_setCell, World.size_drew, World.heap_drewN]; done))) | (with_reducible refine Bk.alloc ?_ _) | (with_reducible refine Bk.drew ?_) | (with_reducible refine Bk.drewN ?_ _) | ((with_reducible refine Bk.far ?_ ?_ _); rotate_left; focus (simp only []; omega)) | ((with_reducible refine Bk.below ?_ (by with_reducible assumption) ?_); rotate_left; focus (go_size; done)))), by (repeat (first | (with_reducible assumption) | ((with_reducible refine Bk.new_ ?_); (first | rfl | (simp only [World.size_alloc, World.size_setCell, World.size_drew, World.heap_drewN]; done))) | (with_reducible refine Bk.alloc ?_ _) | (with_reducible refine Bk.drew ?_) | (with_reducible refine Bk.drewN ?_ _) | ((with_reducible refine Bk.far ?_ ?_ _); rotate_left; focus (simp only []; omega)) | ((with_reducible refine Bk.below ?_ (by with_reducible assumption) ?_); rotate_left; focus (go_size; done)))), by (repeat (first | (with_reducible assumption) | ((with_reducible refine Bk.new_ ?_); (first | rfl | (simp only [World.size_alloc, World.size_setCell, World.size_drew, World.heap_drewN]; done))) | (with_reducible refine Bk.alloc ?_ _) | (with_reducible refine Bk.drew ?_) | (with_reducible refine Bk.drewN ?_ _) | ((with_reducible refine Bk.far ?_ ?_ _); rotate_left; focus (simp only []; omega)) | ((with_reducible refine Bk.below ?_ (by with_reducible assumption) ?_); rotate_left; focus (go_size; done)))), by (repeat (first | (with_reducible assumption) | ((with_reducible refine Bk.new_ ?_); (first | rfl | (simp only [World.size_alloc, World.size_setCell, World.size_drew, World.heap_drewN]; done))) | (with_reducible refine Bk.alloc ?_ _) | (with_reducible refine Bk.drew ?_) | (with_reducible refine Bk.drewN ?_ _) | ((with_reducible refine Bk.far ?_ ?_ _); rotate_left; focus (simp only []; omega)) | ((with_reducible refine Bk.below ?_ (by with_reducible assumption) ?_); rotate_left; focus (go_size; done)))), by go_size, by (repeat' (first | (with_reducible exact Below.refl _ _) | (with_reducible assumption) | (with_reducible refine Below.drew ?_) | (with_reducible refine below_drewN ?_ _) | ((with_reducible refine Below.alloc ?_ ?_ _); rotate_left; focus (go_size; done)) | ((with_reducible refine Below.setCell ?_ ?_ _); rotate_left; focus (go_size; done)) | ((with_reducible refine Below.trans ?_ (Below.mono (by with_reducible assumption) ?_)); rotate_left; focus (go_size; done))))⟩
    · rw [Nat.div_eq_of_lt HN.out, Nat.zero_div, Nat.zero_mul]
      show Bk _ _ _ [.int .u64 0, .int .u64 0, .int .u64 0, .int .u64 0]
      (repeat (first | (with_reducible assumption) | ((with_reducible refine Bk.new_ ?_); (first | rfl | (simp only [World.size_alloc, World.size_setCell, World.size_drew, World.heap_drewN]; done))) | (with_reducible refine Bk.alloc ?_ _) | (with_reducible refine Bk.drew ?_) | (with_reducible refine Bk.drewN ?_ _) | ((with_reducible refine Bk.far ?_ ?_ _); rotate_left; focus (simp only []; omega)) | ((with_reducible refine Bk.below ?_ (by with_reducible assumption) ?_); rotate_left; focus (go_size; done))))
    · rw [Nat.div_eq_of_lt HN.out, Nat.zero_mod]
      show Bk _ _ _ [.int .u64 0, .int .u64 0]
      (repeat (first | (with_reducible assumption) | ((with_reducible refine Bk.new_ ?_); (first | rfl | (simp only [World.size_alloc, World.size_setCell, World.size_drew, World.heap_drewN]; done))) | (with_reducible refine Bk.alloc ?_ _) | (with_reducible refine Bk.drew ?_) | (with_reducible refine Bk.drewN ?_ _) | ((with_reducible refine Bk.far ?_ ?_ _); rotate_left; focus (simp only []; omega)) | ((with_reducible refine Bk.below ?_ (by with_reducible assumption) ?_); rotate_left; focus (go_size; done))))
  case round =>
    obtain ⟨hk, rfl, b4, b5, b0, b1, b2, b3, hsz, hbel⟩ := hrel
    have B4 := Lib.hid b4
    have B5 := Lib.hid b5
    have B0 := Lib.hid b0
    have B1 := Lib.hid b1
    have B2 := Lib.hid b2
    have B3 := Lib.hid b3
    clear b4 b5 b0 b1 b2 b3
    (try have : w.heap.size < wr.heap.size := by omega); (try have : w.heap.size + 1 < wr.heap.size := by omega); (try have : w.heap.size + 1 + 1 < wr.heap.size := by omega); (try have : w.heap.size + 1 + 1 + 1 < wr.heap.size := by omega)
    have s4 : w.heap.size + 1 + 1 + 1 + 1 < wr.heap.size := by omega
    have s5 : w.heap.size + 1 + 1 + 1 + 1 + 1 < wr.heap.size := by omega
    by_cases hk0 : gk = 0
    · subst hk0
      have hm : ¬ (0 : Int) ≤ ((0 : Nat) : Int) - 1 := by omega
      rw [Nat.pow_zero, Nat.div_one, Nat.mul_one] at B4
      rw [Nat.pow_zero, Nat.div_one] at B5
      have b4 := B4.out
      rw [lcells_eq] at b4
      have q0 := b4.cell 0 rfl
      have q1 := b4.cell 1 rfl
      have q2 := b4.cell 2 rfl
      have q3 := b4.cell 3 rfl
      have r0 := B5.out.cell 0 rfl
      have r1 := B5.out.cell 1 rfl
      have p0 := B2.out.frozen 0
      have p1 := B2.out.frozen 1
      have p2 := B2.out.frozen 2
      have p3 := B2.out.frozen 3
      have o0 := B3.out.frozen 0
      have o1 := B3.out.frozen 1
      have u0 := B2.out.cell 0 rfl
      have u1 := B2.out.cell 1 rfl
      have u2 := B2.out.cell 2 rfl
      have u3 := B2.out.cell 3 rfl
      have v0 := B3.out.cell 0 rfl
      have v1 := B3.out.cell 1 rfl
      clear b4
      go_wp2_with fail
      go_region
      go_wp2_with fail
      refine bodyPost_ret (by simp [results, Try.results78, go_sem, *]; try rfl) rfl ?_
      exact ⟨rfl, by (repeat' (first | (with_reducible exact Below.refl _ _) | (with_reducible assumption) | (with_reducible refine Below.drew ?_) | (with_reducible refine below_drewN ?_ _) | ((with_reducible refine Below.alloc ?_ ?_ _); rotate_left; focus (go_size; done)) | ((with_reducible refine Below.setCell ?_ ?_ _); rotate_left; focus (go_size; done)) | ((with_reducible refine Below.trans ?_ (Below.mono (by with_reducible assumption) ?_)); rotate_left; focus (go_size; done))))⟩
    · obtain ⟨j, rfl⟩ : ∃ j, gk = j + 1 := ⟨gk - 1, by omega⟩
      have hp : (0 : Int) < ((j + 1 : Nat) : Int) := by omega
      have hx : ((j + 1 : Nat) : Int) - 1 = (j : Int) := by omega
      have j0 : (0 : Int) ≤ (j : Int) := by omega
      have hj : j < 256 := by omega
      obtain ⟨R, hR⟩ : ∃ R, R = N / 2 ^ (j + 1) % D := ⟨_, rfl⟩
      have hRD : R < D := by rw [hR]; exact Nat.mod_lt _ H0.out
      have hRw : R < 2 ^ 128 := Nat.lt_trans hRD HD.out
      obtain ⟨b, hb⟩ : ∃ b, b = N / 2 ^ j % 2 := ⟨_, rfl⟩
      have hb2' : b < 2 := by omega
      have L1 := Lib.hid (dv_hi R b hRw hb2')
      have L0 := Lib.hid (dv_lo R b hRw hb2')
      have LV := Lib.hid (dv_over R b hRw hb2')
      have LB := Lib.hid (dv_bit N j)
      rw [← hb] at LB
      rw [← hR] at B5
      obtain ⟨T, hT⟩ : ∃ T, T = 2 * R + b := ⟨_, rfl⟩
      obtain ⟨T', hT'⟩ : ∃ T', T' = T % 2 ^ 128 := ⟨_, rfl⟩
      rw [← hT, ← hT'] at L1 L0
      rw [← hT] at LV
      have ER := Far.mk hR
      have EB := Far.mk hb
      have ET := Far.mk hT
      have ET' := Far.mk hT'
      have ERD := Far.mk hRD
      have c5 := B5.out.cell 0 rfl
      have c5' := B5.out.cell 1 rfl
      have f5 := B5.out.frozen 0
      have f5' := B5.out.frozen 1
      have c0 : wr.cell? ⟨w.heap.size, j / 64, none⟩ = some (.int .u64 (wd N (j / 64))) := B0.out.cell _ (lcells_at N _ (by omega))
      clear hk0 hR hRD hRw hb hT hT' 
      obtain ⟨x1, hx1⟩ : ∃ x, x = wd R 1 := ⟨_, rfl⟩
      obtain ⟨x0, hx0⟩ : ∃ x, x = wd R 0 := ⟨_, rfl⟩
      rw [← hx1] at c5 L1 LV
      rw [← hx0] at c5' L1 L0
      clear hx1 hx0
      go_wp2_with fail
      go_region
      rw [LB.out, L1.out, L0.out]
      obtain ⟨y1, hy1⟩ : ∃ x, x = wd T' 1 := ⟨_, rfl⟩
      obtain ⟨y0, hy0⟩ : ∃ x, x = wd T' 0 := ⟨_, rfl⟩
      rw [← hy1, ← hy0]
      have m5 : Bk (((wr.setCell ⟨w.heap.size + 1 + 1 + 1 + 1 + 1, 0, none⟩ (.int .u64 y1)).setCell ⟨w.heap.size + 1 + 1 + 1 + 1 + 1, 1, none⟩ (.int .u64 y0)).drew) (w.heap.size + 1 + 1 + 1 + 1 + 1) 24 [.int .u64 y1, .int .u64 y0] := ((B5.out.set_ 0 _).set_ 1 _).drew
      have m4 : Bk (((wr.setCell ⟨w.heap.size + 1 + 1 + 1 + 1 + 1, 0, none⟩ (.int .u64 y1)).setCell ⟨w.heap.size + 1 + 1 + 1 + 1 + 1, 1, none⟩ (.int .u64 y0)).drew) (w.heap.size + 1 + 1 + 1 + 1) 45 (lcells (N / 2 ^ (j + 1) / D * 2 ^ (j + 1))) := ((B4.out.far (by simp only []; omega) _).far (by simp only []; omega) _).drew
      have m0 : Bk (((wr.setCell ⟨w.heap.size + 1 + 1 + 1 + 1 + 1, 0, none⟩ (.int .u64 y1)).setCell ⟨w.heap.size + 1 + 1 + 1 + 1 + 1, 1, none⟩ (.int .u64 y0)).drew) w.heap.size 45 (lcells N) := ((B0.out.far (by simp only []; omega) _).far (by simp only []; omega) _).drew
      have m1 : Bk (((wr.setCell ⟨w.heap.size + 1 + 1 + 1 + 1 + 1, 0, none⟩ (.int .u64 y1)).setCell ⟨w.heap.size + 1 + 1 + 1 + 1 + 1, 1, none⟩ (.int .u64 y0)).drew) (w.heap.size + 1) 24 [.int .u64 d1, .int .u64 d0] := ((B1.out.far (by simp only []; omega) _).far (by simp only []; omega) _).drew
      have m2 : Bk (((wr.setCell ⟨w.heap.size + 1 + 1 + 1 + 1 + 1, 0, none⟩ (.int .u64 y1)).setCell ⟨w.heap.size + 1 + 1 + 1 + 1 + 1, 1, none⟩ (.int .u64 y0)).drew) (w.heap.size + 1 + 1) 45 [.int .u64 0, .int .u64 0, .int .u64 0, .int .u64 0] := ((B2.out.far (by simp only []; omega) _).far (by simp only []; omega) _).drew
      have m3 : Bk (((wr.setCell ⟨w.heap.size + 1 + 1 + 1 + 1 + 1, 0, none⟩ (.int .u64 y1)).setCell ⟨w.heap.size + 1 + 1 + 1 + 1 + 1, 1, none⟩ (.int .u64 y0)).drew) (w.heap.size + 1 + 1 + 1) 24 [.int .u64 0, .int .u64 0] := ((B3.out.far (by simp only []; omega) _).far (by simp only []; omega) _).drew
      have ms : w.heap.size + 6 ≤ (((wr.setCell ⟨w.heap.size + 1 + 1 + 1 + 1 + 1, 0, none⟩ (.int .u64 y1)).setCell ⟨w.heap.size + 1 + 1 + 1 + 1 + 1, 1, none⟩ (.int .u64 y0)).drew).heap.size := by go_size
      have mb : Below w.heap.size w (((wr.setCell ⟨w.heap.size + 1 + 1 + 1 + 1 + 1, 0, none⟩ (.int .u64 y1)).setCell ⟨w.heap.size + 1 + 1 + 1 + 1 + 1, 1, none⟩ (.int .u64 y0)).drew) := by (repeat' (first | (with_reducible exact Below.refl _ _) | (with_reducible assumption) | (with_reducible refine Below.drew ?_) | (with_reducible refine below_drewN ?_ _) | ((with_reducible refine Below.alloc ?_ ?_ _); rotate_left; focus (go_size; done)) | ((with_reducible refine Below.setCell ?_ ?_ _); rotate_left; focus (go_size; done)) | ((with_reducible refine Below.trans ?_ (Below.mono (by with_reducible assumption) ?_)); rotate_left; focus (go_size; done))))
      generalize hw9 : (((wr.setCell ⟨w.heap.size + 1 + 1 + 1 + 1 + 1, 0, none⟩ (.int .u64 y1)).setCell ⟨w.heap.size + 1 + 1 + 1 + 1 + 1, 1, none⟩ (.int .u64 y0)).drew) = w9 at *
      clear hw9
      have M5 := Lib.hid m5
      have M4 := Lib.hid m4
      have M0 := Lib.hid m0
      have M2 := Lib.hid m2
      have M3 := Lib.hid m3
      have M1 := Lib.hid m1
      have cr0 := m5.cell 0 rfl
      have cr1 := m5.cell 1 rfl
      have fr0 := m5.frozen 0
      have fr1 := m5.frozen 1
      have cd0 := m1.cell 0 rfl
      have cd1 := m1.cell 1 rfl
      clear m5 m4 m0 m2 m3 m1 c5 c5' f5 f5' c0
      have hT1 : T' < 2 ^ 128 := by rw [ET'.out]; exact Nat.mod_lt _ (by decide)
      have GT1 := Far.mk hT1
      have EY1 := Lib.hid hy1
      have EY0 := Lib.hid hy0
      clear hT1 hy1 hy0
      obtain ⟨ov, hov⟩ : ∃ ov, ov = x1 / 9223372036854775808 := ⟨_, rfl⟩
      rw [← hov] at LV ⊢
      clear hov
      have HL := Lib.hid (fun W => less_any T' D GT1.out HD.out W)
      rw [← EY1.out, ← EY0.out, ← E1.out, ← E0.out] at HL
      have HC := Lib.hid (fun W => cmp_any T' D GT1.out HD.out W)
      rw [← EY1.out, ← EY0.out, ← E1.out, ← E0.out] at HC
      by_cases hv : (ov == 1) = true
      · go_wp2_with fail
        have hTD : D ≤ T := by
          have h1 := LV.out
          rw [hv] at h1
          have h2 : 2 ^ 128 ≤ T := of_decide_eq_true h1.symm
          exact Nat.le_trans (Nat.le_of_lt HD.out) h2
        have HTD := Far.mk hTD
        clear hTD
        refine (HL.out _).mono ?_
        rintro _ w2 ⟨rfl, hb2⟩
        have hb2s := hb2.size
        have n5 := M5.out.below hb2 (by omega)
        have n4 := M4.out.below hb2 (by omega)
        have n3 := M3.out.below hb2 (by omega)
        have n2 := M2.out.below hb2 (by omega)
        have n1 := M1.out.below hb2 (by omega)
        have n0 := M0.out.below hb2 (by omega)
        have N5 := Lib.hid n5
        have N4 := Lib.hid n4
        have N3 := Lib.hid n3
        have N2 := Lib.hid n2
        have N1 := Lib.hid n1
        have N0 := Lib.hid n0
        have nb : Below w.heap.size w w2 := by (repeat' (first | (with_reducible exact Below.refl _ _) | (with_reducible assumption) | (with_reducible refine Below.drew ?_) | (with_reducible refine below_drewN ?_ _) | ((with_reducible refine Below.alloc ?_ ?_ _); rotate_left; focus (go_size; done)) | ((with_reducible refine Below.setCell ?_ ?_ _); rotate_left; focus (go_size; done)) | ((with_reducible refine Below.trans ?_ (Below.mono (by with_reducible assumption) ?_)); rotate_left; focus (go_size; done))))
        have cr0 := n5.cell 0 rfl
        have cr1 := n5.cell 1 rfl
        have fr0 := n5.frozen 0
        have fr1 := n5.frozen 1
        have cd0 := n1.cell 0 rfl
        have cd1 := n1.cell 1 rfl
        have cq := n4.cell (j / 64) (lcells_at _ _ (by omega))
        have fq := n4.frozen (j / 64)
        have hq4 : j / 64 < 4 := by omega
        clear n5 n4 n3 n2 n1 n0
        go_wp2_with fail
        go_region
        go_wp2_with fail
        go_roundg j
        case measure => omega
        case rel =>
          obtain ⟨q1, q2⟩ := dv_yes H0.out ER.out EB.out ET.out hb2' HTD.out
          have n0 := N0.out
          have n1 := N1.out
          have n2 := N2.out
          have n3 := N3.out
          refine ⟨by omega, rfl, ?_, ?_, by (repeat (first | (with_reducible assumption) | ((with_reducible refine Bk.new_ ?_); (first | rfl | (simp only [World.size_alloc, World.size_setCell, World.size_drew, World.heap_drewN]; done))) | (with_reducible refine Bk.alloc ?_ _) | (with_reducible refine Bk.drew ?_) | (with_reducible refine Bk.drewN ?_ _) | ((with_reducible refine Bk.far ?_ ?_ _); rotate_left; focus (simp only []; omega)) | ((with_reducible refine Bk.below ?_ (by with_reducible assumption) ?_); rotate_left; focus (go_size; done)))), by (repeat (first | (with_reducible assumption) | ((with_reducible refine Bk.new_ ?_); (first | rfl | (simp only [World.size_alloc, World.size_setCell, World.size_drew, World.heap_drewN]; done))) | (with_reducible refine Bk.alloc ?_ _) | (with_reducible refine Bk.drew ?_) | (with_reducible refine Bk.drewN ?_ _) | ((with_reducible refine Bk.far ?_ ?_ _); rotate_left; focus (simp only []; omega)) | ((with_reducible refine Bk.below ?_ (by with_reducible assumption) ?_); rotate_left; focus (go_size; done)))), by (repeat (first | (with_reducible assumption) | ((with_reducible refine Bk.new_ ?_); (first | rfl | (simp only [World.size_alloc, World.size_setCell, World.size_drew, World.heap_drewN]; done))) | (with_reducible refine Bk.alloc ?_ _) | (with_reducible refine Bk.drew ?_) | (with_reducible refine Bk.drewN ?_ _) | ((with_reducible refine Bk.far ?_ ?_ _); rotate_left; focus (simp only []; omega)) | ((with_reducible refine Bk.below ?_ (by with_reducible assumption) ?_); rotate_left; focus (go_size; done)))), by (repeat (first | (with_reducible assumption) | ((with_reducible refine Bk.new_ ?_); (first | rfl | (simp only [World.size_alloc, World.size_setCell, World.size_drew, World.heap_drewN]; done))) | (with_reducible refine Bk.alloc ?_ _) | (with_reducible refine Bk.drew ?_) | (with_reducible refine Bk.drewN ?_ _) | ((with_reducible refine Bk.far ?_ ?_ _); rotate_left; focus (simp only []; omega)) | ((with_reducible refine Bk.below ?_ (by with_reducible assumption) ?_); rotate_left; focus (go_size; done)))), by go_size, by (repeat' (first | (with_reducible exact Below.refl _ _) | (with_reducible assumption) | (with_reducible refine Below.drew ?_) | (with_reducible refine below_drewN ?_ _) | ((with_reducible refine Below.alloc ?_ ?_ _); rotate_left; focus (go_size; done)) | ((with_reducible refine Below.setCell ?_ ?_ _); rotate_left; focus (go_size; done)) | ((with_reducible refine Below.trans ?_ (Below.mono (by with_reducible assumption) ?_)); rotate_left; focus (go_size; done))))⟩
          · rw [q1, ← dv_cells _ _ hj (dv_q256 HN.out D j)]
            exact (((N4.out.far (by simp only []; omega) _).far (by simp only []; omega) _).set_ _ _).drew
          · have e : lessW T' D = T - D := dv_less HD.out ET'.out ERD.out ET.out hb2' HTD.out
            rw [q2, ← e]
            exact (((N5.out.set_ 0 _).set_ 1 _).far (by simp only []; omega) _).drew
      · have hv' : (ov == 1) = false := by simpa using hv
        have hTs : T < 2 ^ 128 := by
          have h1 := LV.out
          rw [hv'] at h1
          have h2 := of_decide_eq_false h1.symm
          omega
        have HTS := Far.mk hTs
        clear hv hTs
        go_wp2_with fail
        refine (HC.out _).mono ?_
        rintro _ w3 ⟨rfl, hb3⟩
        have hb3s := hb3.size
        have M5 := Lib.hid (M5.out.below hb3 (by omega))
        have M4 := Lib.hid (M4.out.below hb3 (by omega))
        have M3 := Lib.hid (M3.out.below hb3 (by omega))
        have M2 := Lib.hid (M2.out.below hb3 (by omega))
        have M1 := Lib.hid (M1.out.below hb3 (by omega))
        have M0 := Lib.hid (M0.out.below hb3 (by omega))
        have mb : Below w.heap.size w w3 := by (repeat' (first | (with_reducible exact Below.refl _ _) | (with_reducible assumption) | (with_reducible refine Below.drew ?_) | (with_reducible refine below_drewN ?_ _) | ((with_reducible refine Below.alloc ?_ ?_ _); rotate_left; focus (go_size; done)) | ((with_reducible refine Below.setCell ?_ ?_ _); rotate_left; focus (go_size; done)) | ((with_reducible refine Below.trans ?_ (Below.mono (by with_reducible assumption) ?_)); rotate_left; focus (go_size; done))))
        have ms : w.heap.size + 6 ≤ w3.heap.size := by omega
        have cr0 := M5.out.cell 0 rfl
        have cr1 := M5.out.cell 1 rfl
        have fr0 := M5.out.frozen 0
        have fr1 := M5.out.frozen 1
        have cd0 := M1.out.cell 0 rfl
        have cd1 := M1.out.cell 1 rfl
        by_cases hge : D ≤ T'
        · have hcc : (0 : Int) ≤ cmpN T' D := by unfold cmpN; split; omega; split; omega; omega
          generalize cmpN T' D = cc at *
          have HTD : Far (D ≤ T) := Far.mk (by rw [ET'.out, Nat.mod_eq_of_lt HTS.out] at hge; exact hge)
          clear hge
          go_wp2_with fail
          refine (HL.out _).mono ?_
          rintro _ w2 ⟨rfl, hb2⟩
          have hb2s := hb2.size
          have n5 := M5.out.below hb2 (by omega)
          have n4 := M4.out.below hb2 (by omega)
          have n3 := M3.out.below hb2 (by omega)
          have n2 := M2.out.below hb2 (by omega)
          have n1 := M1.out.below hb2 (by omega)
          have n0 := M0.out.below hb2 (by omega)
          have N5 := Lib.hid n5
          have N4 := Lib.hid n4
          have N3 := Lib.hid n3
          have N2 := Lib.hid n2
          have N1 := Lib.hid n1
          have N0 := Lib.hid n0
          have nb : Below w.heap.size w w2 := by (repeat' (first | (with_reducible exact Below.refl _ _) | (with_reducible assumption) | (with_reducible refine Below.drew ?_) | (with_reducible refine below_drewN ?_ _) | ((with_reducible refine Below.alloc ?_ ?_ _); rotate_left; focus (go_size; done)) | ((with_reducible refine Below.setCell ?_ ?_ _); rotate_left; focus (go_size; done)) | ((with_reducible refine Below.trans ?_ (Below.mono (by with_reducible assumption) ?_)); rotate_left; focus (go_size; done))))
          have cr0 := n5.cell 0 rfl
          have cr1 := n5.cell 1 rfl
          have fr0 := n5.frozen 0
          have fr1 := n5.frozen 1
          have cd0 := n1.cell 0 rfl
          have cd1 := n1.cell 1 rfl
          have cq := n4.cell (j / 64) (lcells_at _ _ (by omega))
          have fq := n4.frozen (j / 64)
          have hq4 : j / 64 < 4 := by omega
          clear n5 n4 n3 n2 n1 n0
          go_wp2_with fail
          go_region
          go_wp2_with fail
          go_roundg j
          case measure => omega
          case rel =>
            obtain ⟨q1, q2⟩ := dv_yes H0.out ER.out EB.out ET.out hb2' HTD.out
            have n0 := N0.out
            have n1 := N1.out
            have n2 := N2.out
            have n3 := N3.out
            refine ⟨by omega, rfl, ?_, ?_, by (repeat (first | (with_reducible assumption) | ((with_reducible refine Bk.new_ ?_); (first | rfl | (simp only [World.size_alloc, World.size_setCell, World.size_drew, World.heap_drewN]; done))) | (with_reducible refine Bk.alloc ?_ _) | (with_reducible refine Bk.drew ?_) | (with_reducible refine Bk.drewN ?_ _) | ((with_reducible refine Bk.far ?_ ?_ _); rotate_left; focus (simp only []; omega)) | ((with_reducible refine Bk.below ?_ (by with_reducible assumption) ?_); rotate_left; focus (go_size; done)))), by (repeat (first | (with_reducible assumption) | ((with_reducible refine Bk.new_ ?_); (first | rfl | (simp only [World.size_alloc, World.size_setCell, World.size_drew, World.heap_drewN]; done))) | (with_reducible refine Bk.alloc ?_ _) | (with_reducible refine Bk.drew ?_) | (with_reducible refine Bk.drewN ?_ _) | ((with_reducible refine Bk.far ?_ ?_ _); rotate_left; focus (simp only []; omega)) | ((with_reducible refine Bk.below ?_ (by with_reducible assumption) ?_); rotate_left; focus (go_size; done)))), by (repeat (first | (with_reducible assumption) | ((with_reducible refine Bk.new_ ?_); (first | rfl | (simp only [World.size_alloc, World.size_setCell, World.size_drew, World.heap_drewN]; done))) | (with_reducible refine Bk.alloc ?_ _) | (with_reducible refine Bk.drew ?_) | (with_reducible refine Bk.drewN ?_ _) | ((with_reducible refine Bk.far ?_ ?_ _); rotate_left; focus (simp only []; omega)) | ((with_reducible refine Bk.below ?_ (by with_reducible assumption) ?_); rotate_left; focus (go_size; done)))), by (repeat (first | (with_reducible assumption) | ((with_reducible refine Bk.new_ ?_); (first | rfl | (simp only [World.size_alloc, World.size_setCell, World.size_drew, World.heap_drewN]; done))) | (with_reducible refine Bk.alloc ?_ _) | (with_reducible refine Bk.drew ?_) | (with_reducible refine Bk.drewN ?_ _) | ((with_reducible refine Bk.far ?_ ?_ _); rotate_left; focus (simp only []; omega)) | ((with_reducible refine Bk.below ?_ (by with_reducible assumption) ?_); rotate_left; focus (go_size; done)))), by go_size, by (repeat' (first | (with_reducible exact Below.refl _ _) | (with_reducible assumption) | (with_reducible refine Below.drew ?_) | (with_reducible refine below_drewN ?_ _) | ((with_reducible refine Below.alloc ?_ ?_ _); rotate_left; focus (go_size; done)) | ((with_reducible refine Below.setCell ?_ ?_ _); rotate_left; focus (go_size; done)) | ((with_reducible refine Below.trans ?_ (Below.mono (by with_reducible assumption) ?_)); rotate_left; focus (go_size; done))))⟩
            · rw [q1, ← dv_cells _ _ hj (dv_q256 HN.out D j)]
              exact (((N4.out.far (by simp only []; omega) _).far (by simp only []; omega) _).set_ _ _).drew
            · have e : lessW T' D = T - D := dv_less HD.out ET'.out ERD.out ET.out hb2' HTD.out
              rw [q2, ← e]
              exact (((N5.out.set_ 0 _).set_ 1 _).far (by simp only []; omega) _).drew
        · have hcc : ¬ (0 : Int) ≤ cmpN T' D := by unfold cmpN; split; omega; split; omega; omega
          generalize cmpN T' D = cc at *
          have HTD : Far (T < D) := Far.mk (by rw [ET'.out, Nat.mod_eq_of_lt HTS.out] at hge; omega)
          clear hge
          go_wp2_with fail
          go_roundg j
          case measure => omega
          case rel =>
            obtain ⟨q1, q2⟩ := dv_no H0.out ER.out EB.out ET.out HTD.out
            have m0 := M0.out
            have m1 := M1.out
            have m2 := M2.out
            have m3 := M3.out
            refine ⟨by omega, rfl, ?_, ?_, m0, m1, m2, m3, ms, mb⟩
            · rw [q1, ← dv_zero]; exact M4.out
            · have e : T' = T := by rw [ET'.out, Nat.mod_eq_of_lt HTS.out]
              rw [q2, ← e, ← EY1.out, ← EY0.out]; exact M5.out
end Go.Proofs.Ythkgjodidkpaeaa

set_option linter.unusedSimpArgs false
set_option linter.unusedVariables false
namespace Go.Proofs.Ythkgjodidkpaeaa
open Go.RowKit

theorem wd_inj4 {n m : Nat} (hn : n < 2 ^ 256) (hm : m < 2 ^ 256) (h : wd n 0 = wd m 0 ∧ wd n 1 = wd m 1 ∧ wd n 2 = wd m 2 ∧ wd n 3 = wd m 3) : n = m := by
  have h1 := wd_four hn
  have h2 := wd_four hm
  obtain ⟨e0, e1, e2, e3⟩ := h
  rw [e0, e1, e2, e3] at h1
  omega
set_option maxRecDepth 100000 in
set_option maxHeartbeats 2000000 in
theorem dmod_ok (b : Bool) (c s : Nat) (b' : Bool) (c' s' : Nat) (h : dform b c s = true) (h' : dform b' c' s' = true) (hc : c < B34) (hc' : c' < B34) (hs : s ≤ 18) (hs' : s' ≤ 18) (h0 : c' ≠ 0) (w : World) :
    Calls Try.prog 45 #[.agg #[.bool b, .int .u64 (wd (c) 1), .int .u64 (wd (c) 0), .int .i64 s], .agg #[.bool b', .int .u64 (wd (c') 1), .int .u64 (wd (c') 0), .int .i64 s']] w fun e w' => e = .returned (.tuple #[.agg #[.bool (sg b' (FitC ((restN b (unit c s) b' (unit c' s'))) (10 ^ 18))), .int .u64 (wd (FitC ((restN b (unit c s) b' (unit c' s'))) (10 ^ 18)) 1), .int .u64 (wd (FitC ((restN b (unit c s) b' (unit c' s'))) (10 ^ 18)) 0), .int .i64 (FitS ((restN b (unit c s) b' (unit c' s'))) (10 ^ 18))], .int .i64 (FitE (restN b (unit c s) b' (unit c' s')) (10 ^ 18))]) ∧ Below w.heap.size w w' := by
  obtain ⟨m, hm⟩ : ∃ m, m = max s s' := ⟨_, rfl⟩
  have m18 : m ≤ 18 := by omega
  have hk : 0 < 10 ^ (18 - m) := Nat.pow_pos (by decide)
  obtain ⟨g1, g2, g3⟩ := fit_units (restN b (c * 10 ^ (m - s)) b' (c' * 10 ^ (m - s'))) m m18
  rw [unit_split c s m (by omega) m18, unit_split c' s' m (by omega) m18, restN_scale _ _ _ _ _ hk, g1, g2, g3]
  have HF := Lib.hid (fun g W hg => formed_two b c s (Nat.lt_trans hc B34_lt) b' c' s' (Nat.lt_trans hc' B34_lt) g W hg)
  rw [h, h'] at HF
  simp only [ferr, Bool.and_true, if_true] at HF
  have HB := Lib.hid (fun W => both_any b c s b' c' s' m hc hc' hs hs' hm W)
  have HZ := Lib.hid (fun W => zero_any b' c' s' (Nat.lt_trans hc' B34_lt) W)
  rw [decide_eq_false h0] at HZ
  have hX : c * 10 ^ (m - s) < 10 ^ 52 := scaled_lt hc (by omega)
  have hY : c' * 10 ^ (m - s') < 10 ^ 52 := scaled_lt hc' (by omega)
  have hYp : 0 < c' * 10 ^ (m - s') := Nat.mul_pos (Nat.pos_of_ne_zero h0) (Nat.pow_pos (by decide))
  generalize c * 10 ^ (m - s) = X at *
  generalize c' * 10 ^ (m - s') = Y at *
  have HR := Lib.hid (fun W => rest_any X Y hX hY hYp W)
  have hrY : X % Y < Y := Nat.mod_lt _ hYp
  have hY2 : Y < 2 ^ 256 := Nat.lt_trans hY (by decide)
  have hr2 : X % Y < 2 ^ 256 := by omega
  have HM := Lib.hid (fun W => minus4_any Y (X % Y) hY2 (by omega) W)
  have hru : restN b X b' Y < 2 ^ 256 := by unfold restN; split <;> omega
  have HT := Lib.hid (fun W => fit_any b' (restN b X b' Y) m hru (by omega) W)
  have hr1 : X % Y ≠ 0 → b ≠ b' → restN b X b' Y = Y - X % Y := fun h1 h2 => by unfold restN; rw [if_pos ⟨h1, h2⟩]
  have hr3 : (X % Y = 0 ∨ b = b') → restN b X b' Y = X % Y := fun h1 => by
    unfold restN; rw [if_neg (by rintro ⟨h2, h3⟩; rcases h1 with h1 | h1; exact h2 h1; exact h3 h1)]
  have HR1 := Far.mk hr1
  have HR2 := Far.mk hr3
  have qz : ∀ W, (binOp .neq 45 (.agg #[.int .u64 (wd (X % Y) 0), .int .u64 (wd (X % Y) 1), .int .u64 (wd (X % Y) 2), .int .u64 (wd (X % Y) 3)]) (.agg #[.int .u64 0, .int .u64 0, .int .u64 0, .int .u64 0])).run Try.prog W = .ok (.bool (!(decide (X % Y = 0)))) W := fun W => by rw [neq_long, wd_eq0 hr2]
  generalize restN b X b' Y = R at *
  generalize X % Y = r at *
  obtain ⟨z, hz⟩ : ∃ z, z = decide (r = 0) := ⟨_, rfl⟩
  rw [← hz] at qz
  have HZZ := Far.mk hz
  generalize FitC R (10 ^ m) = C at *
  generalize FitS R (10 ^ m) = S at *
  generalize FitE R (10 ^ m) = E at *
  have gb : ∀ W, (binOp .neq 4 (.bool b) (.bool b')).run Try.prog W = .ok (.bool (b != b')) W := fun W => by
    cases b <;> cases b' <;> kernel_rfl
  obtain ⟨nb, hnb⟩ : ∃ nb, nb = (b != b') := ⟨_, rfl⟩
  rw [← hnb] at gb
  have HNB := Lib.hid hnb
  have hor : (z = true ∨ nb = false) → R = r := fun hh => HR2.out (by
    rcases hh with hh | hh
    · left; rw [hz] at hh; exact of_decide_eq_true hh
    · right; rw [hnb] at hh; revert hh; cases b <;> cases b' <;> simp)
  have hand : z = false → nb = true → R = Y - r := fun h1 h2 => HR1.out (by rw [hz] at h1; exact of_decide_eq_false h1) (by rw [hnb] at h2; revert h2; cases b <;> cases b' <;> simp)
  have HOR := Far.mk hor
  have HAND := Far.mk hand
  clear hz hnb hor hand HR1 HR2 HZZ hr1 hr3 hru hr2 hrY hY2 hX hY hYp g1 g2 g3 hk h0 h h' hm m18
  generalize wd X 0 = p0 at *
  generalize wd X 1 = p1 at *
  generalize wd X 2 = p2 at *
  generalize wd X 3 = p3 at *
  generalize wd Y 0 = q0 at *
  generalize wd Y 1 = q1 at *
  generalize wd Y 2 = q2 at *
  generalize wd Y 3 = q3 at *
  generalize wd c 0 = x0 at *
  generalize wd c 1 = x1 at *
  generalize wd c' 0 = y0 at *
  generalize wd c' 1 = y1 at *
  clear hc hc'
  obtain ⟨sI, hsI⟩ : ∃ sI : Int, sI = (s : Int) := ⟨_, rfl⟩
  obtain ⟨sJ, hsJ⟩ : ∃ sJ : Int, sJ = (s' : Int) := ⟨_, rfl⟩
  rw [← hsI, ← hsJ] at HF HB ⊢
  rw [← hsJ] at HZ
  clear hsI hsJ hs hs'
  obtain ⟨s, rfl⟩ : ∃ s, s = sI := ⟨_, rfl⟩
  obtain ⟨s', rfl⟩ : ∃ s', s' = sJ := ⟨_, rfl⟩
  go_enter Try.func45, Try.ntmps45
  go_wp2_with fail
  (with_reducible refine (HF.out _ _ ?hg).mono ?_)
  case hg => ((repeat (first | (with_reducible assumption) | ((with_reducible refine Bk.new_ ?_); (first | rfl | (simp only [World.size_alloc, World.size_setCell, World.size_drew, World.heap_drewN]; done))) | (with_reducible refine Bk.alloc ?_ _) | (with_reducible refine Bk.drew ?_) | (with_reducible refine Bk.drewN ?_ _) | ((with_reducible refine Bk.far ?_ ?_ _); rotate_left; focus (simp only []; omega)) | ((with_reducible refine Bk.below ?_ (by with_reducible assumption) ?_); rotate_left; focus (go_size; done)))); done)
  rintro _ w1 ⟨rfl, hb1⟩; have hb1s := hb1.size; (try simp only [World.size_alloc, World.size_setCell, World.size_drew, World.heap_drewN] at hb1s); obtain ⟨hb1c, hb1f⟩ := bcell hb1; (try have : w.heap.size < w1.heap.size := by omega); (try have : w.heap.size + 1 < w1.heap.size := by omega); (try have : w.heap.size + 1 + 1 < w1.heap.size := by omega); (try have : w.heap.size + 1 + 1 + 1 < w1.heap.size := by omega)
  have ka : Bk w1 (w.heap.size) 26 [.bool b, .int .u64 x1, .int .u64 x0, .int .i64 s] := by (repeat (first | (with_reducible assumption) | ((with_reducible refine Bk.new_ ?_); (first | rfl | (simp only [World.size_alloc, World.size_setCell, World.size_drew, World.heap_drewN]; done))) | (with_reducible refine Bk.alloc ?_ _) | (with_reducible refine Bk.drew ?_) | (with_reducible refine Bk.drewN ?_ _) | ((with_reducible refine Bk.far ?_ ?_ _); rotate_left; focus (simp only []; omega)) | ((with_reducible refine Bk.below ?_ (by with_reducible assumption) ?_); rotate_left; focus (go_size; done))))
  have ka_0 := ka.cell 0 rfl
  have ka_1 := ka.cell 1 rfl
  have ka_2 := ka.cell 2 rfl
  have ka_3 := ka.cell 3 rfl
  have ka_4 := ka.frozen 0
  have ka_5 := ka.frozen 1
  have ka_6 := ka.frozen 2
  have ka_7 := ka.frozen 3
  have kal := ka.lt
  have kb : Bk w1 (w.heap.size + 1) 26 [.bool b', .int .u64 y1, .int .u64 y0, .int .i64 s'] := by (repeat (first | (with_reducible assumption) | ((with_reducible refine Bk.new_ ?_); (first | rfl | (simp only [World.size_alloc, World.size_setCell, World.size_drew, World.heap_drewN]; done))) | (with_reducible refine Bk.alloc ?_ _) | (with_reducible refine Bk.drew ?_) | (with_reducible refine Bk.drewN ?_ _) | ((with_reducible refine Bk.far ?_ ?_ _); rotate_left; focus (simp only []; omega)) | ((with_reducible refine Bk.below ?_ (by with_reducible assumption) ?_); rotate_left; focus (go_size; done))))
  have kb_0 := kb.cell 0 rfl
  have kb_1 := kb.cell 1 rfl
  have kb_2 := kb.cell 2 rfl
  have kb_3 := kb.cell 3 rfl
  have kb_4 := kb.frozen 0
  have kb_5 := kb.frozen 1
  have kb_6 := kb.frozen 2
  have kb_7 := kb.frozen 3
  have kbl := kb.lt
  have kr : Bk w1 (w.heap.size + 1 + 1) 26 [.bool false, .int .u64 0, .int .u64 0, .int .i64 0] := by (repeat (first | (with_reducible assumption) | ((with_reducible refine Bk.new_ ?_); (first | rfl | (simp only [World.size_alloc, World.size_setCell, World.size_drew, World.heap_drewN]; done))) | (with_reducible refine Bk.alloc ?_ _) | (with_reducible refine Bk.drew ?_) | (with_reducible refine Bk.drewN ?_ _) | ((with_reducible refine Bk.far ?_ ?_ _); rotate_left; focus (simp only []; omega)) | ((with_reducible refine Bk.below ?_ (by with_reducible assumption) ?_); rotate_left; focus (go_size; done))))
  have krl := kr.lt
  clear hb1c hb1f
  go_wp2_with fail
  refine (HZ.out _).mono ?_
  rintro _ w9 ⟨rfl, hb9⟩; have hb9s := hb9.size; (try simp only [World.size_alloc, World.size_setCell, World.size_drew, World.heap_drewN] at hb9s); obtain ⟨hb9c, hb9f⟩ := bcell hb9; (try have : w.heap.size < w9.heap.size := by omega); (try have : w.heap.size + 1 < w9.heap.size := by omega); (try have : w.heap.size + 1 + 1 < w9.heap.size := by omega); (try have : w.heap.size + 1 + 1 + 1 < w9.heap.size := by omega)
  have za : Bk w9 w.heap.size 26 [.bool b, .int .u64 x1, .int .u64 x0, .int .i64 s] := by (repeat (first | (with_reducible assumption) | ((with_reducible refine Bk.new_ ?_); (first | rfl | (simp only [World.size_alloc, World.size_setCell, World.size_drew, World.heap_drewN]; done))) | (with_reducible refine Bk.alloc ?_ _) | (with_reducible refine Bk.drew ?_) | (with_reducible refine Bk.drewN ?_ _) | ((with_reducible refine Bk.far ?_ ?_ _); rotate_left; focus (simp only []; omega)) | ((with_reducible refine Bk.below ?_ (by with_reducible assumption) ?_); rotate_left; focus (go_size; done))))
  have zb : Bk w9 (w.heap.size + 1) 26 [.bool b', .int .u64 y1, .int .u64 y0, .int .i64 s'] := by (repeat (first | (with_reducible assumption) | ((with_reducible refine Bk.new_ ?_); (first | rfl | (simp only [World.size_alloc, World.size_setCell, World.size_drew, World.heap_drewN]; done))) | (with_reducible refine Bk.alloc ?_ _) | (with_reducible refine Bk.drew ?_) | (with_reducible refine Bk.drewN ?_ _) | ((with_reducible refine Bk.far ?_ ?_ _); rotate_left; focus (simp only []; omega)) | ((with_reducible refine Bk.below ?_ (by with_reducible assumption) ?_); rotate_left; focus (go_size; done))))
  have zrr : Bk w9 (w.heap.size + 1 + 1) 26 [.bool false, .int .u64 0, .int .u64 0, .int .i64 0] := by (repeat (first | (with_reducible assumption) | ((with_reducible refine Bk.new_ ?_); (first | rfl | (simp only [World.size_alloc, World.size_setCell, World.size_drew, World.heap_drewN]; done))) | (with_reducible refine Bk.alloc ?_ _) | (with_reducible refine Bk.drew ?_) | (with_reducible refine Bk.drewN ?_ _) | ((with_reducible refine Bk.far ?_ ?_ _); rotate_left; focus (simp only []; omega)) | ((with_reducible refine Bk.below ?_ (by with_reducible assumption) ?_); rotate_left; focus (go_size; done))))
  have zal := za.lt
  have zbl := zb.lt
  have zrl := zrr.lt
  clear ka_0 ka_1 ka_2 ka_3 ka_4 ka_5 ka_6 ka_7
  clear kb_0 kb_1 kb_2 kb_3 kb_4 kb_5 kb_6 kb_7
  have za_0 := za.cell 0 rfl
  have za_1 := za.cell 1 rfl
  have za_2 := za.cell 2 rfl
  have za_3 := za.cell 3 rfl
  have za_4 := za.frozen 0
  have za_5 := za.frozen 1
  have za_6 := za.frozen 2
  have za_7 := za.frozen 3
  have zb_0 := zb.cell 0 rfl
  have zb_1 := zb.cell 1 rfl
  have zb_2 := zb.cell 2 rfl
  have zb_3 := zb.cell 3 rfl
  have zb_4 := zb.frozen 0
  have zb_5 := zb.frozen 1
  have zb_6 := zb.frozen 2
  have zb_7 := zb.frozen 3
  clear hb9c hb9f
  go_wp2_with fail
  refine (HB.out _).mono ?_
  rintro _ w2 ⟨rfl, hb2⟩; have hb2s := hb2.size; (try simp only [World.size_alloc, World.size_setCell, World.size_drew, World.heap_drewN] at hb2s); obtain ⟨hb2c, hb2f⟩ := bcell hb2; (try have : w.heap.size < w2.heap.size := by omega); (try have : w.heap.size + 1 < w2.heap.size := by omega); (try have : w.heap.size + 1 + 1 < w2.heap.size := by omega); (try have : w.heap.size + 1 + 1 + 1 < w2.heap.size := by omega)
  have ja : Bk w2 (w.heap.size) 26 [.bool b, .int .u64 x1, .int .u64 x0, .int .i64 s] := by (repeat (first | (with_reducible assumption) | ((with_reducible refine Bk.new_ ?_); (first | rfl | (simp only [World.size_alloc, World.size_setCell, World.size_drew, World.heap_drewN]; done))) | (with_reducible refine Bk.alloc ?_ _) | (with_reducible refine Bk.drew ?_) | (with_reducible refine Bk.drewN ?_ _) | ((with_reducible refine Bk.far ?_ ?_ _); rotate_left; focus (simp only []; omega)) | ((with_reducible refine Bk.below ?_ (by with_reducible assumption) ?_); rotate_left; focus (go_size; done))))
  have jb : Bk w2 (w.heap.size + 1) 26 [.bool b', .int .u64 y1, .int .u64 y0, .int .i64 s'] := by (repeat (first | (with_reducible assumption) | ((with_reducible refine Bk.new_ ?_); (first | rfl | (simp only [World.size_alloc, World.size_setCell, World.size_drew, World.heap_drewN]; done))) | (with_reducible refine Bk.alloc ?_ _) | (with_reducible refine Bk.drew ?_) | (with_reducible refine Bk.drewN ?_ _) | ((with_reducible refine Bk.far ?_ ?_ _); rotate_left; focus (simp only []; omega)) | ((with_reducible refine Bk.below ?_ (by with_reducible assumption) ?_); rotate_left; focus (go_size; done))))
  have jr : Bk w2 (w.heap.size + 1 + 1) 26 [.bool false, .int .u64 0, .int .u64 0, .int .i64 0] := by (repeat (first | (with_reducible assumption) | ((with_reducible refine Bk.new_ ?_); (first | rfl | (simp only [World.size_alloc, World.size_setCell, World.size_drew, World.heap_drewN]; done))) | (with_reducible refine Bk.alloc ?_ _) | (with_reducible refine Bk.drew ?_) | (with_reducible refine Bk.drewN ?_ _) | ((with_reducible refine Bk.far ?_ ?_ _); rotate_left; focus (simp only []; omega)) | ((with_reducible refine Bk.below ?_ (by with_reducible assumption) ?_); rotate_left; focus (go_size; done))))
  have jal := ja.lt
  have jbl := jb.lt
  have jrl := jr.lt
  clear za_0 za_1 za_2 za_3 za_4 za_5 za_6 za_7
  clear zb_0 zb_1 zb_2 zb_3 zb_4 zb_5 zb_6 zb_7
  clear hb2c hb2f ka kb kr za zb zrr
  go_wp2_with fail
  refine (HR.out _).mono ?_
  rintro _ w3 ⟨rfl, hb3⟩; have hb3s := hb3.size; (try simp only [World.size_alloc, World.size_setCell, World.size_drew, World.heap_drewN] at hb3s); obtain ⟨hb3c, hb3f⟩ := bcell hb3; (try have : w.heap.size < w3.heap.size := by omega); (try have : w.heap.size + 1 < w3.heap.size := by omega); (try have : w.heap.size + 1 + 1 < w3.heap.size := by omega); (try have : w.heap.size + 1 + 1 + 1 < w3.heap.size := by omega)
  have la : Bk w3 (w.heap.size) 26 [.bool b, .int .u64 x1, .int .u64 x0, .int .i64 s] := by (repeat (first | (with_reducible assumption) | ((with_reducible refine Bk.new_ ?_); (first | rfl | (simp only [World.size_alloc, World.size_setCell, World.size_drew, World.heap_drewN]; done))) | (with_reducible refine Bk.alloc ?_ _) | (with_reducible refine Bk.drew ?_) | (with_reducible refine Bk.drewN ?_ _) | ((with_reducible refine Bk.far ?_ ?_ _); rotate_left; focus (simp only []; omega)) | ((with_reducible refine Bk.below ?_ (by with_reducible assumption) ?_); rotate_left; focus (go_size; done))))
  have lb : Bk w3 (w.heap.size + 1) 26 [.bool b', .int .u64 y1, .int .u64 y0, .int .i64 s'] := by (repeat (first | (with_reducible assumption) | ((with_reducible refine Bk.new_ ?_); (first | rfl | (simp only [World.size_alloc, World.size_setCell, World.size_drew, World.heap_drewN]; done))) | (with_reducible refine Bk.alloc ?_ _) | (with_reducible refine Bk.drew ?_) | (with_reducible refine Bk.drewN ?_ _) | ((with_reducible refine Bk.far ?_ ?_ _); rotate_left; focus (simp only []; omega)) | ((with_reducible refine Bk.below ?_ (by with_reducible assumption) ?_); rotate_left; focus (go_size; done))))
  have lr : Bk w3 (w.heap.size + 1 + 1) 26 [.bool false, .int .u64 0, .int .u64 0, .int .i64 0] := by (repeat (first | (with_reducible assumption) | ((with_reducible refine Bk.new_ ?_); (first | rfl | (simp only [World.size_alloc, World.size_setCell, World.size_drew, World.heap_drewN]; done))) | (with_reducible refine Bk.alloc ?_ _) | (with_reducible refine Bk.drew ?_) | (with_reducible refine Bk.drewN ?_ _) | ((with_reducible refine Bk.far ?_ ?_ _); rotate_left; focus (simp only []; omega)) | ((with_reducible refine Bk.below ?_ (by with_reducible assumption) ?_); rotate_left; focus (go_size; done))))
  have ly : Bk w3 (w2.heap.size + 1) 45 [.int .u64 q0, .int .u64 q1, .int .u64 q2, .int .u64 q3] := by (repeat (first | (with_reducible assumption) | ((with_reducible refine Bk.new_ ?_); (first | rfl | (simp only [World.size_alloc, World.size_setCell, World.size_drew, World.heap_drewN]; done))) | (with_reducible refine Bk.alloc ?_ _) | (with_reducible refine Bk.drew ?_) | (with_reducible refine Bk.drewN ?_ _) | ((with_reducible refine Bk.far ?_ ?_ _); rotate_left; focus (simp only []; omega)) | ((with_reducible refine Bk.below ?_ (by with_reducible assumption) ?_); rotate_left; focus (go_size; done))))
  have lal := la.lt
  have lbl := lb.lt
  have lrl := lr.lt
  have lyl := ly.lt
  have la_0 := la.cell 0 rfl
  have la_1 := la.cell 1 rfl
  have la_2 := la.cell 2 rfl
  have la_3 := la.cell 3 rfl
  have la_4 := la.frozen 0
  have la_5 := la.frozen 1
  have la_6 := la.frozen 2
  have la_7 := la.frozen 3
  have lb_0 := lb.cell 0 rfl
  have lb_1 := lb.cell 1 rfl
  have lb_2 := lb.cell 2 rfl
  have lb_3 := lb.cell 3 rfl
  have lb_4 := lb.frozen 0
  have lb_5 := lb.frozen 1
  have lb_6 := lb.frozen 2
  have lb_7 := lb.frozen 3
  clear hb3c hb3f
  cases z
  · cases nb
    · have e := HOR.out (.inr rfl)
      subst e
      go_wp2_with fail
      refine calls_named (fun W => Bk W (w.heap.size + 1 + 1) 26 [.bool false, .int .u64 0, .int .u64 0, .int .i64 0] ∧ Below w.heap.size w W) ⟨?h1, ?h2⟩ ?_
      case h1 => ((repeat (first | (with_reducible assumption) | ((with_reducible refine Bk.new_ ?_); (first | rfl | (simp only [World.size_alloc, World.size_setCell, World.size_drew, World.heap_drewN]; done))) | (with_reducible refine Bk.alloc ?_ _) | (with_reducible refine Bk.drew ?_) | (with_reducible refine Bk.drewN ?_ _) | ((with_reducible refine Bk.far ?_ ?_ _); rotate_left; focus (simp only []; omega)) | ((with_reducible refine Bk.below ?_ (by with_reducible assumption) ?_); rotate_left; focus (go_size; done)))); done)
      case h2 => ((repeat' (first | (with_reducible exact Below.refl _ _) | (with_reducible assumption) | (with_reducible refine Below.drew ?_) | (with_reducible refine below_drewN ?_ _) | ((with_reducible refine Below.alloc ?_ ?_ _); rotate_left; focus (go_size; done)) | ((with_reducible refine Below.setCell ?_ ?_ _); rotate_left; focus (go_size; done)) | ((with_reducible refine Below.trans ?_ (Below.mono (by with_reducible assumption) ?_)); rotate_left; focus (go_size; done)))); done)
      rintro W5 ⟨kr5, kw5⟩
      have kr5l := kr5.lt
      refine (HT.out _).mono ?_
      rintro _ w6 ⟨rfl, hb6⟩; have hb6s := hb6.size; (try simp only [World.size_alloc, World.size_setCell, World.size_drew, World.heap_drewN] at hb6s); obtain ⟨hb6c, hb6f⟩ := bcell hb6; (try have : w.heap.size < w6.heap.size := by omega); (try have : w.heap.size + 1 < w6.heap.size := by omega); (try have : w.heap.size + 1 + 1 < w6.heap.size := by omega); (try have : w.heap.size + 1 + 1 + 1 < w6.heap.size := by omega)
      have m6 : Bk w6 (w.heap.size + 1 + 1) 26 [.bool false, .int .u64 0, .int .u64 0, .int .i64 0] := by (repeat (first | (with_reducible assumption) | ((with_reducible refine Bk.new_ ?_); (first | rfl | (simp only [World.size_alloc, World.size_setCell, World.size_drew, World.heap_drewN]; done))) | (with_reducible refine Bk.alloc ?_ _) | (with_reducible refine Bk.drew ?_) | (with_reducible refine Bk.drewN ?_ _) | ((with_reducible refine Bk.far ?_ ?_ _); rotate_left; focus (simp only []; omega)) | ((with_reducible refine Bk.below ?_ (by with_reducible assumption) ?_); rotate_left; focus (go_size; done))))
      have m6_0 := m6.cell 0 rfl
      have m6_1 := m6.cell 1 rfl
      have m6_2 := m6.cell 2 rfl
      have m6_3 := m6.cell 3 rfl
      have m6_4 := m6.frozen 0
      have m6_5 := m6.frozen 1
      have m6_6 := m6.frozen 2
      have m6_7 := m6.frozen 3
      clear hb6c hb6f
      go_wp2_with fail
      refine bodyPost_ret (by simp [results, Try.results45, go_sem, *]; try rfl) rfl ?_
      exact ⟨rfl, by (repeat' (first | (with_reducible exact Below.refl _ _) | (with_reducible assumption) | (with_reducible refine Below.drew ?_) | (with_reducible refine below_drewN ?_ _) | ((with_reducible refine Below.alloc ?_ ?_ _); rotate_left; focus (go_size; done)) | ((with_reducible refine Below.setCell ?_ ?_ _); rotate_left; focus (go_size; done)) | ((with_reducible refine Below.trans ?_ (Below.mono (by with_reducible assumption) ?_)); rotate_left; focus (go_size; done))))⟩
    · have e := HAND.out rfl rfl
      have HE := Lib.hid e
      clear e
      have ly_0 := ly.cell 0 rfl
      have ly_1 := ly.cell 1 rfl
      have ly_2 := ly.cell 2 rfl
      have ly_3 := ly.cell 3 rfl
      have ly_4 := ly.frozen 0
      have ly_5 := ly.frozen 1
      have ly_6 := ly.frozen 2
      have ly_7 := ly.frozen 3
      go_wp2_with fail
      refine (HM.out _).mono ?_
      rintro _ w4 ⟨rfl, hb4⟩; have hb4s := hb4.size; (try simp only [World.size_alloc, World.size_setCell, World.size_drew, World.heap_drewN] at hb4s); obtain ⟨hb4c, hb4f⟩ := bcell hb4; (try have : w.heap.size < w4.heap.size := by omega); (try have : w.heap.size + 1 < w4.heap.size := by omega); (try have : w.heap.size + 1 + 1 < w4.heap.size := by omega); (try have : w.heap.size + 1 + 1 + 1 < w4.heap.size := by omega)
      have na : Bk w4 (w.heap.size) 26 [.bool b, .int .u64 x1, .int .u64 x0, .int .i64 s] := by (repeat (first | (with_reducible assumption) | ((with_reducible refine Bk.new_ ?_); (first | rfl | (simp only [World.size_alloc, World.size_setCell, World.size_drew, World.heap_drewN]; done))) | (with_reducible refine Bk.alloc ?_ _) | (with_reducible refine Bk.drew ?_) | (with_reducible refine Bk.drewN ?_ _) | ((with_reducible refine Bk.far ?_ ?_ _); rotate_left; focus (simp only []; omega)) | ((with_reducible refine Bk.below ?_ (by with_reducible assumption) ?_); rotate_left; focus (go_size; done))))
      have nb' : Bk w4 (w.heap.size + 1) 26 [.bool b', .int .u64 y1, .int .u64 y0, .int .i64 s'] := by (repeat (first | (with_reducible assumption) | ((with_reducible refine Bk.new_ ?_); (first | rfl | (simp only [World.size_alloc, World.size_setCell, World.size_drew, World.heap_drewN]; done))) | (with_reducible refine Bk.alloc ?_ _) | (with_reducible refine Bk.drew ?_) | (with_reducible refine Bk.drewN ?_ _) | ((with_reducible refine Bk.far ?_ ?_ _); rotate_left; focus (simp only []; omega)) | ((with_reducible refine Bk.below ?_ (by with_reducible assumption) ?_); rotate_left; focus (go_size; done))))
      have nr : Bk w4 (w.heap.size + 1 + 1) 26 [.bool false, .int .u64 0, .int .u64 0, .int .i64 0] := by (repeat (first | (with_reducible assumption) | ((with_reducible refine Bk.new_ ?_); (first | rfl | (simp only [World.size_alloc, World.size_setCell, World.size_drew, World.heap_drewN]; done))) | (with_reducible refine Bk.alloc ?_ _) | (with_reducible refine Bk.drew ?_) | (with_reducible refine Bk.drewN ?_ _) | ((with_reducible refine Bk.far ?_ ?_ _); rotate_left; focus (simp only []; omega)) | ((with_reducible refine Bk.below ?_ (by with_reducible assumption) ?_); rotate_left; focus (go_size; done))))
      have nx : Bk w4 (w3.heap.size) 45 [.int .u64 (wd r 0), .int .u64 (wd r 1), .int .u64 (wd r 2), .int .u64 (wd r 3)] := by (repeat (first | (with_reducible assumption) | ((with_reducible refine Bk.new_ ?_); (first | rfl | (simp only [World.size_alloc, World.size_setCell, World.size_drew, World.heap_drewN]; done))) | (with_reducible refine Bk.alloc ?_ _) | (with_reducible refine Bk.drew ?_) | (with_reducible refine Bk.drewN ?_ _) | ((with_reducible refine Bk.far ?_ ?_ _); rotate_left; focus (simp only []; omega)) | ((with_reducible refine Bk.below ?_ (by with_reducible assumption) ?_); rotate_left; focus (go_size; done))))
      have nal := na.lt
      have nbl := nb'.lt
      have nrl := nr.lt
      have nxl := nx.lt
      clear la_0 la_1 la_2 la_3 la_4 la_5 la_6 la_7
      clear lb_0 lb_1 lb_2 lb_3 lb_4 lb_5 lb_6 lb_7
      clear ly_0 ly_1 ly_2 ly_3 ly_4 ly_5 ly_6 ly_7
      have lb_0 := nb'.cell 0 rfl
      have lb_1 := nb'.cell 1 rfl
      have lb_2 := nb'.cell 2 rfl
      have lb_3 := nb'.cell 3 rfl
      have lb_4 := nb'.frozen 0
      have lb_5 := nb'.frozen 1
      have lb_6 := nb'.frozen 2
      have lb_7 := nb'.frozen 3
      have nx_0 := nx.cell 0 rfl
      have nx_1 := nx.cell 1 rfl
      have nx_2 := nx.cell 2 rfl
      have nx_3 := nx.cell 3 rfl
      have nx_4 := nx.frozen 0
      have nx_5 := nx.frozen 1
      have nx_6 := nx.frozen 2
      have nx_7 := nx.frozen 3
      clear hb4c hb4f
      rw [← HE.out]
      go_wp2_with fail
      refine calls_named (fun W => Bk W (w.heap.size + 1 + 1) 26 [.bool false, .int .u64 0, .int .u64 0, .int .i64 0] ∧ Below w.heap.size w W) ⟨?h1, ?h2⟩ ?_
      case h1 => ((repeat (first | (with_reducible assumption) | ((with_reducible refine Bk.new_ ?_); (first | rfl | (simp only [World.size_alloc, World.size_setCell, World.size_drew, World.heap_drewN]; done))) | (with_reducible refine Bk.alloc ?_ _) | (with_reducible refine Bk.drew ?_) | (with_reducible refine Bk.drewN ?_ _) | ((with_reducible refine Bk.far ?_ ?_ _); rotate_left; focus (simp only []; omega)) | ((with_reducible refine Bk.below ?_ (by with_reducible assumption) ?_); rotate_left; focus (go_size; done)))); done)
      case h2 => ((repeat' (first | (with_reducible exact Below.refl _ _) | (with_reducible assumption) | (with_reducible refine Below.drew ?_) | (with_reducible refine below_drewN ?_ _) | ((with_reducible refine Below.alloc ?_ ?_ _); rotate_left; focus (go_size; done)) | ((with_reducible refine Below.setCell ?_ ?_ _); rotate_left; focus (go_size; done)) | ((with_reducible refine Below.trans ?_ (Below.mono (by with_reducible assumption) ?_)); rotate_left; focus (go_size; done)))); done)
      rintro W5 ⟨kr5, kw5⟩
      have kr5l := kr5.lt
      refine (HT.out _).mono ?_
      rintro _ w6 ⟨rfl, hb6⟩; have hb6s := hb6.size; (try simp only [World.size_alloc, World.size_setCell, World.size_drew, World.heap_drewN] at hb6s); obtain ⟨hb6c, hb6f⟩ := bcell hb6; (try have : w.heap.size < w6.heap.size := by omega); (try have : w.heap.size + 1 < w6.heap.size := by omega); (try have : w.heap.size + 1 + 1 < w6.heap.size := by omega); (try have : w.heap.size + 1 + 1 + 1 < w6.heap.size := by omega)
      have m6 : Bk w6 (w.heap.size + 1 + 1) 26 [.bool false, .int .u64 0, .int .u64 0, .int .i64 0] := by (repeat (first | (with_reducible assumption) | ((with_reducible refine Bk.new_ ?_); (first | rfl | (simp only [World.size_alloc, World.size_setCell, World.size_drew, World.heap_drewN]; done))) | (with_reducible refine Bk.alloc ?_ _) | (with_reducible refine Bk.drew ?_) | (with_reducible refine Bk.drewN ?_ _) | ((with_reducible refine Bk.far ?_ ?_ _); rotate_left; focus (simp only []; omega)) | ((with_reducible refine Bk.below ?_ (by with_reducible assumption) ?_); rotate_left; focus (go_size; done))))
      have m6_0 := m6.cell 0 rfl
      have m6_1 := m6.cell 1 rfl
      have m6_2 := m6.cell 2 rfl
      have m6_3 := m6.cell 3 rfl
      have m6_4 := m6.frozen 0
      have m6_5 := m6.frozen 1
      have m6_6 := m6.frozen 2
      have m6_7 := m6.frozen 3
      clear hb6c hb6f
      go_wp2_with fail
      refine bodyPost_ret (by simp [results, Try.results45, go_sem, *]; try rfl) rfl ?_
      exact ⟨rfl, by (repeat' (first | (with_reducible exact Below.refl _ _) | (with_reducible assumption) | (with_reducible refine Below.drew ?_) | (with_reducible refine below_drewN ?_ _) | ((with_reducible refine Below.alloc ?_ ?_ _); rotate_left; focus (go_size; done)) | ((with_reducible refine Below.setCell ?_ ?_ _); rotate_left; focus (go_size; done)) | ((with_reducible refine Below.trans ?_ (Below.mono (by with_reducible assumption) ?_)); rotate_left; focus (go_size; done))))⟩
  · have e := HOR.out (.inl rfl)
    subst e
    go_wp2_with fail
    refine calls_named (fun W => Bk W (w.heap.size + 1 + 1) 26 [.bool false, .int .u64 0, .int .u64 0, .int .i64 0] ∧ Below w.heap.size w W) ⟨?h1, ?h2⟩ ?_
    case h1 => ((repeat (first | (with_reducible assumption) | ((with_reducible refine Bk.new_ ?_); (first | rfl | (simp only [World.size_alloc, World.size_setCell, World.size_drew, World.heap_drewN]; done))) | (with_reducible refine Bk.alloc ?_ _) | (with_reducible refine Bk.drew ?_) | (with_reducible refine Bk.drewN ?_ _) | ((with_reducible refine Bk.far ?_ ?_ _); rotate_left; focus (simp only []; omega)) | ((with_reducible refine Bk.below ?_ (by with_reducible assumption) ?_); rotate_left; focus (go_size; done)))); done)
    case h2 => ((repeat' (first | (with_reducible exact Below.refl _ _) | (with_reducible assumption) | (with_reducible refine Below.drew ?_) | (with_reducible refine below_drewN ?_ _) | ((with_reducible refine Below.alloc ?_ ?_ _); rotate_left; focus (go_size; done)) | ((with_reducible refine Below.setCell ?_ ?_ _); rotate_left; focus (go_size; done)) | ((with_reducible refine Below.trans ?_ (Below.mono (by with_reducible assumption) ?_)); rotate_left; focus (go_size; done)))); done)
    rintro W5 ⟨kr5, kw5⟩
    have kr5l := kr5.lt
    refine (HT.out _).mono ?_
    rintro _ w6 ⟨rfl, hb6⟩; have hb6s := hb6.size; (try simp only [World.size_alloc, World.size_setCell, World.size_drew, World.heap_drewN] at hb6s); obtain ⟨hb6c, hb6f⟩ := bcell hb6; (try have : w.heap.size < w6.heap.size := by omega); (try have : w.heap.size + 1 < w6.heap.size := by omega); (try have : w.heap.size + 1 + 1 < w6.heap.size := by omega); (try have : w.heap.size + 1 + 1 + 1 < w6.heap.size := by omega)
    have m6 : Bk w6 (w.heap.size + 1 + 1) 26 [.bool false, .int .u64 0, .int .u64 0, .int .i64 0] := by (repeat (first | (with_reducible assumption) | ((with_reducible refine Bk.new_ ?_); (first | rfl | (simp only [World.size_alloc, World.size_setCell, World.size_drew, World.heap_drewN]; done))) | (with_reducible refine Bk.alloc ?_ _) | (with_reducible refine Bk.drew ?_) | (with_reducible refine Bk.drewN ?_ _) | ((with_reducible refine Bk.far ?_ ?_ _); rotate_left; focus (simp only []; omega)) | ((with_reducible refine Bk.below ?_ (by with_reducible assumption) ?_); rotate_left; focus (go_size; done))))
    have m6_0 := m6.cell 0 rfl
    have m6_1 := m6.cell 1 rfl
    have m6_2 := m6.cell 2 rfl
    have m6_3 := m6.cell 3 rfl
    have m6_4 := m6.frozen 0
    have m6_5 := m6.frozen 1
    have m6_6 := m6.frozen 2
    have m6_7 := m6.frozen 3
    clear hb6c hb6f
    go_wp2_with fail
    refine bodyPost_ret (by simp [results, Try.results45, go_sem, *]; try rfl) rfl ?_
    exact ⟨rfl, by (repeat' (first | (with_reducible exact Below.refl _ _) | (with_reducible assumption) | (with_reducible refine Below.drew ?_) | (with_reducible refine below_drewN ?_ _) | ((with_reducible refine Below.alloc ?_ ?_ _); rotate_left; focus (go_size; done)) | ((with_reducible refine Below.setCell ?_ ?_ _); rotate_left; focus (go_size; done)) | ((with_reducible refine Below.trans ?_ (Below.mono (by with_reducible assumption) ?_)); rotate_left; focus (go_size; done))))⟩
end Go.Proofs.Ythkgjodidkpaeaa

set_option linter.unusedSimpArgs false
set_option linter.unusedVariables false
namespace Go.Proofs.Ythkgjodidkpaeaa
open Go.RowKit

set_option maxHeartbeats 4000000 in
theorem ddiv_zero (b : Bool) (c s : Nat) (b' : Bool) (c' s' : Nat) (h : dform b c s = true) (h' : dform b' c' s' = true) (hc : c < B34) (hc' : c' < B34) (h0 : c' = 0) (w : World) :
    Calls Try.prog 43 #[.agg #[.bool b, .int .u64 (wd (c) 1), .int .u64 (wd (c) 0), .int .i64 s], .agg #[.bool b', .int .u64 (wd (c') 1), .int .u64 (wd (c') 0), .int .i64 s']] w fun e w' => e = .returned (.tuple #[.agg #[.bool false, .int .u64 0, .int .u64 0, .int .i64 0], .int .i64 4]) ∧ Below w.heap.size w w' := by
  have HF := Lib.hid (fun g W hg => formed_two b c s (Nat.lt_trans hc B34_lt) b' c' s' (Nat.lt_trans hc' B34_lt) g W hg)
  rw [h, h'] at HF
  simp only [ferr, Bool.and_true, if_true] at HF
  have HZ := Lib.hid (fun W => zero_any b' c' s' (Nat.lt_trans hc' B34_lt) W)
  rw [decide_eq_true h0] at HZ
  generalize wd c 0 = x0 at *
  generalize wd c 1 = x1 at *
  generalize wd c' 0 = y0 at *
  generalize wd c' 1 = y1 at *
  clear hc hc' h h' h0
  obtain ⟨sI, hsI⟩ : ∃ sI : Int, sI = (s : Int) := ⟨_, rfl⟩
  obtain ⟨sJ, hsJ⟩ : ∃ sJ : Int, sJ = (s' : Int) := ⟨_, rfl⟩
  rw [← hsI, ← hsJ] at HF
  rw [← hsI, ← hsJ]
  rw [← hsJ] at HZ
  clear hsI hsJ
  obtain ⟨s, rfl⟩ : ∃ s, s = sI := ⟨_, rfl⟩
  obtain ⟨s', rfl⟩ : ∃ s', s' = sJ := ⟨_, rfl⟩
  go_enter Try.func43, Try.ntmps43
  go_wp2_with fail
  (with_reducible refine (HF.out _ _ ?hg).mono ?_)
  case hg => ((repeat (first | (with_reducible assumption) | ((with_reducible refine Bk.new_ ?_); (first | rfl | (simp only [World.size_alloc, World.size_setCell, World.size_drew, World.heap_drewN]; done))) | (with_reducible refine Bk.alloc ?_ _) | (with_reducible refine Bk.drew ?_) | (with_reducible refine Bk.drewN ?_ _) | ((with_reducible refine Bk.far ?_ ?_ _); rotate_left; focus (simp only []; omega)) | ((with_reducible refine Bk.below ?_ (by with_reducible assumption) ?_); rotate_left; focus (go_size; done)))); done)
  rintro _ w1 ⟨rfl, hb1⟩; have hb1s := hb1.size; (try simp only [World.size_alloc, World.size_setCell, World.size_drew, World.heap_drewN] at hb1s); obtain ⟨hb1c, hb1f⟩ := bcell hb1; (try have : w.heap.size < w1.heap.size := by omega); (try have : w.heap.size + 1 < w1.heap.size := by omega); (try have : w.heap.size + 1 + 1 < w1.heap.size := by omega); (try have : w.heap.size + 1 + 1 + 1 < w1.heap.size := by omega)
  have ka : Bk w1 (w.heap.size) 26 [.bool b, .int .u64 x1, .int .u64 x0, .int .i64 s] := by (repeat (first | (with_reducible assumption) | ((with_reducible refine Bk.new_ ?_); (first | rfl | (simp only [World.size_alloc, World.size_setCell, World.size_drew, World.heap_drewN]; done))) | (with_reducible refine Bk.alloc ?_ _) | (with_reducible refine Bk.drew ?_) | (with_reducible refine Bk.drewN ?_ _) | ((with_reducible refine Bk.far ?_ ?_ _); rotate_left; focus (simp only []; omega)) | ((with_reducible refine Bk.below ?_ (by with_reducible assumption) ?_); rotate_left; focus (go_size; done))))
  have ka_0 := ka.cell 0 rfl
  have ka_1 := ka.cell 1 rfl
  have ka_2 := ka.cell 2 rfl
  have ka_3 := ka.cell 3 rfl
  have ka_4 := ka.frozen 0
  have ka_5 := ka.frozen 1
  have ka_6 := ka.frozen 2
  have ka_7 := ka.frozen 3
  have kal := ka.lt
  have kb : Bk w1 (w.heap.size + 1) 26 [.bool b', .int .u64 y1, .int .u64 y0, .int .i64 s'] := by (repeat (first | (with_reducible assumption) | ((with_reducible refine Bk.new_ ?_); (first | rfl | (simp only [World.size_alloc, World.size_setCell, World.size_drew, World.heap_drewN]; done))) | (with_reducible refine Bk.alloc ?_ _) | (with_reducible refine Bk.drew ?_) | (with_reducible refine Bk.drewN ?_ _) | ((with_reducible refine Bk.far ?_ ?_ _); rotate_left; focus (simp only []; omega)) | ((with_reducible refine Bk.below ?_ (by with_reducible assumption) ?_); rotate_left; focus (go_size; done))))
  have kb_0 := kb.cell 0 rfl
  have kb_1 := kb.cell 1 rfl
  have kb_2 := kb.cell 2 rfl
  have kb_3 := kb.cell 3 rfl
  have kb_4 := kb.frozen 0
  have kb_5 := kb.frozen 1
  have kb_6 := kb.frozen 2
  have kb_7 := kb.frozen 3
  have kbl := kb.lt
  have kr : Bk w1 (w.heap.size + 1 + 1) 26 [.bool false, .int .u64 0, .int .u64 0, .int .i64 0] := by (repeat (first | (with_reducible assumption) | ((with_reducible refine Bk.new_ ?_); (first | rfl | (simp only [World.size_alloc, World.size_setCell, World.size_drew, World.heap_drewN]; done))) | (with_reducible refine Bk.alloc ?_ _) | (with_reducible refine Bk.drew ?_) | (with_reducible refine Bk.drewN ?_ _) | ((with_reducible refine Bk.far ?_ ?_ _); rotate_left; focus (simp only []; omega)) | ((with_reducible refine Bk.below ?_ (by with_reducible assumption) ?_); rotate_left; focus (go_size; done))))
  have krl := kr.lt
  clear hb1c hb1f
  go_wp2_with fail
  refine (HZ.out _).mono ?_
  rintro _ w2 ⟨rfl, hb2⟩; have hb2s := hb2.size; (try simp only [World.size_alloc, World.size_setCell, World.size_drew, World.heap_drewN] at hb2s); obtain ⟨hb2c, hb2f⟩ := bcell hb2; (try have : w.heap.size < w2.heap.size := by omega); (try have : w.heap.size + 1 < w2.heap.size := by omega); (try have : w.heap.size + 1 + 1 < w2.heap.size := by omega); (try have : w.heap.size + 1 + 1 + 1 < w2.heap.size := by omega)
  have jr : Bk w2 (w.heap.size + 1 + 1) 26 [.bool false, .int .u64 0, .int .u64 0, .int .i64 0] := by (repeat (first | (with_reducible assumption) | ((with_reducible refine Bk.new_ ?_); (first | rfl | (simp only [World.size_alloc, World.size_setCell, World.size_drew, World.heap_drewN]; done))) | (with_reducible refine Bk.alloc ?_ _) | (with_reducible refine Bk.drew ?_) | (with_reducible refine Bk.drewN ?_ _) | ((with_reducible refine Bk.far ?_ ?_ _); rotate_left; focus (simp only []; omega)) | ((with_reducible refine Bk.below ?_ (by with_reducible assumption) ?_); rotate_left; focus (go_size; done))))
  have jr_0 := jr.cell 0 rfl
  have jr_1 := jr.cell 1 rfl
  have jr_2 := jr.cell 2 rfl
  have jr_3 := jr.cell 3 rfl
  have jr_4 := jr.frozen 0
  have jr_5 := jr.frozen 1
  have jr_6 := jr.frozen 2
  have jr_7 := jr.frozen 3
  have jrl := jr.lt
  clear hb2c hb2f
  go_wp2_with fail
  refine bodyPost_ret (by simp [results, Try.results43, go_sem, *]; try rfl) rfl ?_
  exact ⟨rfl, by (repeat' (first | (with_reducible exact Below.refl _ _) | (with_reducible assumption) | (with_reducible refine Below.drew ?_) | (with_reducible refine below_drewN ?_ _) | ((with_reducible refine Below.alloc ?_ ?_ _); rotate_left; focus (go_size; done)) | ((with_reducible refine Below.setCell ?_ ?_ _); rotate_left; focus (go_size; done)) | ((with_reducible refine Below.trans ?_ (Below.mono (by with_reducible assumption) ?_)); rotate_left; focus (go_size; done))))⟩
set_option maxHeartbeats 4000000 in
theorem dmod_zero (b : Bool) (c s : Nat) (b' : Bool) (c' s' : Nat) (h : dform b c s = true) (h' : dform b' c' s' = true) (hc : c < B34) (hc' : c' < B34) (h0 : c' = 0) (w : World) :
    Calls Try.prog 45 #[.agg #[.bool b, .int .u64 (wd (c) 1), .int .u64 (wd (c) 0), .int .i64 s], .agg #[.bool b', .int .u64 (wd (c') 1), .int .u64 (wd (c') 0), .int .i64 s']] w fun e w' => e = .returned (.tuple #[.agg #[.bool false, .int .u64 0, .int .u64 0, .int .i64 0], .int .i64 4]) ∧ Below w.heap.size w w' := by
  have HF := Lib.hid (fun g W hg => formed_two b c s (Nat.lt_trans hc B34_lt) b' c' s' (Nat.lt_trans hc' B34_lt) g W hg)
  rw [h, h'] at HF
  simp only [ferr, Bool.and_true, if_true] at HF
  have HZ := Lib.hid (fun W => zero_any b' c' s' (Nat.lt_trans hc' B34_lt) W)
  rw [decide_eq_true h0] at HZ
  generalize wd c 0 = x0 at *
  generalize wd c 1 = x1 at *
  generalize wd c' 0 = y0 at *
  generalize wd c' 1 = y1 at *
  clear hc hc' h h' h0
  obtain ⟨sI, hsI⟩ : ∃ sI : Int, sI = (s : Int) := ⟨_, rfl⟩
  obtain ⟨sJ, hsJ⟩ : ∃ sJ : Int, sJ = (s' : Int) := ⟨_, rfl⟩
  rw [← hsI, ← hsJ] at HF
  rw [← hsI, ← hsJ]
  rw [← hsJ] at HZ
  clear hsI hsJ
  obtain ⟨s, rfl⟩ : ∃ s, s = sI := ⟨_, rfl⟩
  obtain ⟨s', rfl⟩ : ∃ s', s' = sJ := ⟨_, rfl⟩
  go_enter Try.func45, Try.ntmps45
  go_wp2_with fail
  (with_reducible refine (HF.out _ _ ?hg).mono ?_)
  case hg => ((repeat (first | (with_reducible assumption) | ((with_reducible refine Bk.new_ ?_); (first | rfl | (simp only [World.size_alloc, World.size_setCell, World.size_drew, World.heap_drewN]; done))) | (with_reducible refine Bk.alloc ?_ _) | (with_reducible refine Bk.drew ?_) | (with_reducible refine Bk.drewN ?_ _) | ((with_reducible refine Bk.far ?_ ?_ _); rotate_left; focus (simp only []; omega)) | ((with_reducible refine Bk.below ?_ (by with_reducible assumption) ?_); rotate_left; focus (go_size; done)))); done)
  rintro _ w1 ⟨rfl, hb1⟩; have hb1s := hb1.size; (try simp only [World.size_alloc, World.size_setCell, World.size_drew, World.heap_drewN] at hb1s); obtain ⟨hb1c, hb1f⟩ := bcell hb1; (try have : w.heap.size < w1.heap.size := by omega); (try have : w.heap.size + 1 < w1.heap.size := by omega); (try have : w.heap.size + 1 + 1 < w1.heap.size := by omega); (try have : w.heap.size + 1 + 1 + 1 < w1.heap.size := by omega)
  have ka : Bk w1 (w.heap.size) 26 [.bool b, .int .u64 x1, .int .u64 x0, .int .i64 s] := by (repeat (first | (with_reducible assumption) | ((with_reducible refine Bk.new_ ?_); (first | rfl | (simp only [World.size_alloc, World.size_setCell, World.size_drew, World.heap_drewN]; done))) | (with_reducible refine Bk.alloc ?_ _) | (with_reducible refine Bk.drew ?_) | (with_reducible refine Bk.drewN ?_ _) | ((with_reducible refine Bk.far ?_ ?_ _); rotate_left; focus (simp only []; omega)) | ((with_reducible refine Bk.below ?_ (by with_reducible assumption) ?_); rotate_left; focus (go_size; done))))
  have ka_0 := ka.cell 0 rfl
  have ka_1 := ka.cell 1 rfl
  have ka_2 := ka.cell 2 rfl
  have ka_3 := ka.cell 3 rfl
  have ka_4 := ka.frozen 0
  have ka_5 := ka.frozen 1
  have ka_6 := ka.frozen 2
  have ka_7 := ka.frozen 3
  have kal := ka.lt
  have kb : Bk w1 (w.heap.size + 1) 26 [.bool b', .int .u64 y1, .int .u64 y0, .int .i64 s'] := by (repeat (first | (with_reducible assumption) | ((with_reducible refine Bk.new_ ?_); (first | rfl | (simp only [World.size_alloc, World.size_setCell, World.size_drew, World.heap_drewN]; done))) | (with_reducible refine Bk.alloc ?_ _) | (with_reducible refine Bk.drew ?_) | (with_reducible refine Bk.drewN ?_ _) | ((with_reducible refine Bk.far ?_ ?_ _); rotate_left; focus (simp only []; omega)) | ((with_reducible refine Bk.below ?_ (by with_reducible assumption) ?_); rotate_left; focus (go_size; done))))
  have kb_0 := kb.cell 0 rfl
  have kb_1 := kb.cell 1 rfl
  have kb_2 := kb.cell 2 rfl
  have kb_3 := kb.cell 3 rfl
  have kb_4 := kb.frozen 0
  have kb_5 := kb.frozen 1
  have kb_6 := kb.frozen 2
  have kb_7 := kb.frozen 3
  have kbl := kb.lt
  have kr : Bk w1 (w.heap.size + 1 + 1) 26 [.bool false, .int .u64 0, .int .u64 0, .int .i64 0] := by (repeat (first | (with_reducible assumption) | ((with_reducible refine Bk.new_ ?_); (first | rfl | (simp only [World.size_alloc, World.size_setCell, World.size_drew, World.heap_drewN]; done))) | (with_reducible refine Bk.alloc ?_ _) | (with_reducible refine Bk.drew ?_) | (with_reducible refine Bk.drewN ?_ _) | ((with_reducible refine Bk.far ?_ ?_ _); rotate_left; focus (simp only []; omega)) | ((with_reducible refine Bk.below ?_ (by with_reducible assumption) ?_); rotate_left; focus (go_size; done))))
  have krl := kr.lt
  clear hb1c hb1f
  go_wp2_with fail
  refine (HZ.out _).mono ?_
  rintro _ w2 ⟨rfl, hb2⟩; have hb2s := hb2.size; (try simp only [World.size_alloc, World.size_setCell, World.size_drew, World.heap_drewN] at hb2s); obtain ⟨hb2c, hb2f⟩ := bcell hb2; (try have : w.heap.size < w2.heap.size := by omega); (try have : w.heap.size + 1 < w2.heap.size := by omega); (try have : w.heap.size + 1 + 1 < w2.heap.size := by omega); (try have : w.heap.size + 1 + 1 + 1 < w2.heap.size := by omega)
  have jr : Bk w2 (w.heap.size + 1 + 1) 26 [.bool false, .int .u64 0, .int .u64 0, .int .i64 0] := by (repeat (first | (with_reducible assumption) | ((with_reducible refine Bk.new_ ?_); (first | rfl | (simp only [World.size_alloc, World.size_setCell, World.size_drew, World.heap_drewN]; done))) | (with_reducible refine Bk.alloc ?_ _) | (with_reducible refine Bk.drew ?_) | (with_reducible refine Bk.drewN ?_ _) | ((with_reducible refine Bk.far ?_ ?_ _); rotate_left; focus (simp only []; omega)) | ((with_reducible refine Bk.below ?_ (by with_reducible assumption) ?_); rotate_left; focus (go_size; done))))
  have jr_0 := jr.cell 0 rfl
  have jr_1 := jr.cell 1 rfl
  have jr_2 := jr.cell 2 rfl
  have jr_3 := jr.cell 3 rfl
  have jr_4 := jr.frozen 0
  have jr_5 := jr.frozen 1
  have jr_6 := jr.frozen 2
  have jr_7 := jr.frozen 3
  have jrl := jr.lt
  clear hb2c hb2f
  go_wp2_with fail
  refine bodyPost_ret (by simp [results, Try.results45, go_sem, *]; try rfl) rfl ?_
  exact ⟨rfl, by (repeat' (first | (with_reducible exact Below.refl _ _) | (with_reducible assumption) | (with_reducible refine Below.drew ?_) | (with_reducible refine below_drewN ?_ _) | ((with_reducible refine Below.alloc ?_ ?_ _); rotate_left; focus (go_size; done)) | ((with_reducible refine Below.setCell ?_ ?_ _); rotate_left; focus (go_size; done)) | ((with_reducible refine Below.trans ?_ (Below.mono (by with_reducible assumption) ?_)); rotate_left; focus (go_size; done))))⟩
end Go.Proofs.Ythkgjodidkpaeaa
