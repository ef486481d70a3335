/- DecProducts: for all decimals a and b the program's Mul, Div and Mod and the document's answer the same: the law returns true, and what was handed in reads as it did. No condition. -/
import Derived.ProofKit
import Derived.OpenShut
import Derived.ShutString
import Derived.ChangeOld
import Derived.Below
import Derived.Lib.SmallJoins
import Derived.Test.YthkgjodidkpaeaaM4
import Derived.Test.YthkgjodidkpaeaaM5
set_option linter.unusedSimpArgs false
set_option linter.unusedVariables false
namespace Go.Proofs.Ythkgjodidkpaeaa
open Go.RowKit
open Go.ChangeShapes Go.WideShapes Go.ChangeAt
open Go.ChangeMaps (open_string shut_string)
set_option linter.unusedVariables false
theorem own : ownKnob Try.prog.godebug = none := by kernel_rfl
theorem laidOut : laidOutB Try.prog = true := by kernel_rfl

set_option maxRecDepth 100000 in
set_option maxHeartbeats 8000000 in
theorem prods_walk (b : Bool) (x1 x0 s : Int) (b' : Bool) (y1 y0 s' : Int) (n0 : Bool) (n1 n2 n3 e1 : Int) (m0 : Bool) (m1 m2 m3 e2 : Int) (p0 : Bool) (p1 p2 p3 e3 : Int)
    (H1 : ∀ W, Calls Try.prog 40 #[.agg #[.bool b, .int .u64 x1, .int .u64 x0, .int .i64 s], .agg #[.bool b', .int .u64 y1, .int .u64 y0, .int .i64 s']] W fun e w' => e = .returned (.tuple #[.agg #[.bool n0, .int .u64 n1, .int .u64 n2, .int .i64 n3], .int .i64 e1]) ∧ Below W.heap.size W w')
    (H2 : ∀ W, Calls Try.prog 41 #[.agg #[.bool b, .int .u64 x1, .int .u64 x0, .int .i64 s], .agg #[.bool b', .int .u64 y1, .int .u64 y0, .int .i64 s']] W fun e w' => e = .returned (.tuple #[.agg #[.bool n0, .int .u64 n1, .int .u64 n2, .int .i64 n3], .int .i64 e1]) ∧ Below W.heap.size W w')
    (H3 : ∀ W, Calls Try.prog 42 #[.agg #[.bool b, .int .u64 x1, .int .u64 x0, .int .i64 s], .agg #[.bool b', .int .u64 y1, .int .u64 y0, .int .i64 s']] W fun e w' => e = .returned (.tuple #[.agg #[.bool m0, .int .u64 m1, .int .u64 m2, .int .i64 m3], .int .i64 e2]) ∧ Below W.heap.size W w')
    (H4 : ∀ W, Calls Try.prog 43 #[.agg #[.bool b, .int .u64 x1, .int .u64 x0, .int .i64 s], .agg #[.bool b', .int .u64 y1, .int .u64 y0, .int .i64 s']] W fun e w' => e = .returned (.tuple #[.agg #[.bool m0, .int .u64 m1, .int .u64 m2, .int .i64 m3], .int .i64 e2]) ∧ Below W.heap.size W w')
    (H5 : ∀ W, Calls Try.prog 44 #[.agg #[.bool b, .int .u64 x1, .int .u64 x0, .int .i64 s], .agg #[.bool b', .int .u64 y1, .int .u64 y0, .int .i64 s']] W fun e w' => e = .returned (.tuple #[.agg #[.bool p0, .int .u64 p1, .int .u64 p2, .int .i64 p3], .int .i64 e3]) ∧ Below W.heap.size W w')
    (H6 : ∀ W, Calls Try.prog 45 #[.agg #[.bool b, .int .u64 x1, .int .u64 x0, .int .i64 s], .agg #[.bool b', .int .u64 y1, .int .u64 y0, .int .i64 s']] W fun e w' => e = .returned (.tuple #[.agg #[.bool p0, .int .u64 p1, .int .u64 p2, .int .i64 p3], .int .i64 e3]) ∧ Below W.heap.size W w')
    (w : World) : Calls Try.prog 9 #[.agg #[.bool b, .int .u64 x1, .int .u64 x0, .int .i64 s], .agg #[.bool b', .int .u64 y1, .int .u64 y0, .int .i64 s']] w fun e w' => e = .returned (.bool true) ∧ Below w.heap.size w w' := by
  have K1 := Lib.hid H1
  have K2 := Lib.hid H2
  have K3 := Lib.hid H3
  have K4 := Lib.hid H4
  have K5 := Lib.hid H5
  have K6 := Lib.hid H6
  clear H1 H2 H3 H4 H5 H6
  have r1 : ∀ W, (binOp .neq 26 (.agg #[.bool n0, .int .u64 n1, .int .u64 n2, .int .i64 n3]) (.agg #[.bool n0, .int .u64 n1, .int .u64 n2, .int .i64 n3])).run Try.prog W = .ok (.bool false) W := fun W => by rw [neq_dec]; simp
  have r2 : ∀ W, (binOp .neq 26 (.agg #[.bool m0, .int .u64 m1, .int .u64 m2, .int .i64 m3]) (.agg #[.bool m0, .int .u64 m1, .int .u64 m2, .int .i64 m3])).run Try.prog W = .ok (.bool false) W := fun W => by rw [neq_dec]; simp
  have r3 : ∀ W, (binOp .eql 26 (.agg #[.bool p0, .int .u64 p1, .int .u64 p2, .int .i64 p3]) (.agg #[.bool p0, .int .u64 p1, .int .u64 p2, .int .i64 p3])).run Try.prog W = .ok (.bool true) W := fun W => by rw [eq_dec]; simp
  go_enter Try.func9, Try.ntmps9
  go_wp2_with fail
  refine (known_any _).mono ?_
  rintro _ w1 ⟨rfl, hb1⟩; have hb1s := hb1.size; (try simp only [World.size_alloc, World.size_setCell, World.size_drew, World.heap_drewN] at hb1s); obtain ⟨hb1c, hb1f⟩ := bcell hb1; (try have : w.heap.size < w1.heap.size := by omega); (try have : w.heap.size + 1 < w1.heap.size := by omega); (try have : w.heap.size + 1 + 1 < w1.heap.size := by omega); (try have : w.heap.size + 1 + 1 + 1 < w1.heap.size := by omega)
  have a1 : Bk w1 w.heap.size 26 [.bool b, .int .u64 x1, .int .u64 x0, .int .i64 s] := by (repeat (first | (with_reducible assumption) | ((with_reducible refine Bk.new_ ?_); (first | rfl | (simp only [World.size_alloc, World.size_setCell, World.size_drew, World.heap_drewN]; done))) | (with_reducible refine Bk.alloc ?_ _) | (with_reducible refine Bk.drew ?_) | (with_reducible refine Bk.drewN ?_ _) | ((with_reducible refine Bk.far ?_ ?_ _); rotate_left; focus (simp only []; omega)) | ((with_reducible refine Bk.below ?_ (by with_reducible assumption) ?_); rotate_left; focus (go_size; done))))
  have b1 : Bk w1 (w.heap.size + 1) 26 [.bool b', .int .u64 y1, .int .u64 y0, .int .i64 s'] := by (repeat (first | (with_reducible assumption) | ((with_reducible refine Bk.new_ ?_); (first | rfl | (simp only [World.size_alloc, World.size_setCell, World.size_drew, World.heap_drewN]; done))) | (with_reducible refine Bk.alloc ?_ _) | (with_reducible refine Bk.drew ?_) | (with_reducible refine Bk.drewN ?_ _) | ((with_reducible refine Bk.far ?_ ?_ _); rotate_left; focus (simp only []; omega)) | ((with_reducible refine Bk.below ?_ (by with_reducible assumption) ?_); rotate_left; focus (go_size; done))))
  have a1_0 := a1.cell 0 rfl
  have a1_1 := a1.cell 1 rfl
  have a1_2 := a1.cell 2 rfl
  have a1_3 := a1.cell 3 rfl
  have a1_4 := a1.frozen 0
  have a1_5 := a1.frozen 1
  have a1_6 := a1.frozen 2
  have a1_7 := a1.frozen 3
  have a1l := a1.lt
  have b1_0 := b1.cell 0 rfl
  have b1_1 := b1.cell 1 rfl
  have b1_2 := b1.cell 2 rfl
  have b1_3 := b1.cell 3 rfl
  have b1_4 := b1.frozen 0
  have b1_5 := b1.frozen 1
  have b1_6 := b1.frozen 2
  have b1_7 := b1.frozen 3
  have b1l := b1.lt
  clear hb1c hb1f
  go_wp2_with fail
  refine (K1.out _).mono ?_
  rintro _ w4 ⟨rfl, hb4⟩; have hb4s := hb4.size; (try simp only [World.size_alloc, World.size_setCell, World.size_drew, World.heap_drewN] at hb4s); obtain ⟨hb4c, hb4f⟩ := bcell hb4; (try have : w.heap.size < w4.heap.size := by omega); (try have : w.heap.size + 1 < w4.heap.size := by omega); (try have : w.heap.size + 1 + 1 < w4.heap.size := by omega); (try have : w.heap.size + 1 + 1 + 1 < w4.heap.size := by omega)
  have a4 : Bk w4 w.heap.size 26 [.bool b, .int .u64 x1, .int .u64 x0, .int .i64 s] := by (repeat (first | (with_reducible assumption) | ((with_reducible refine Bk.new_ ?_); (first | rfl | (simp only [World.size_alloc, World.size_setCell, World.size_drew, World.heap_drewN]; done))) | (with_reducible refine Bk.alloc ?_ _) | (with_reducible refine Bk.drew ?_) | (with_reducible refine Bk.drewN ?_ _) | ((with_reducible refine Bk.far ?_ ?_ _); rotate_left; focus (simp only []; omega)) | ((with_reducible refine Bk.below ?_ (by with_reducible assumption) ?_); rotate_left; focus (go_size; done))))
  have b4 : Bk w4 (w.heap.size + 1) 26 [.bool b', .int .u64 y1, .int .u64 y0, .int .i64 s'] := by (repeat (first | (with_reducible assumption) | ((with_reducible refine Bk.new_ ?_); (first | rfl | (simp only [World.size_alloc, World.size_setCell, World.size_drew, World.heap_drewN]; done))) | (with_reducible refine Bk.alloc ?_ _) | (with_reducible refine Bk.drew ?_) | (with_reducible refine Bk.drewN ?_ _) | ((with_reducible refine Bk.far ?_ ?_ _); rotate_left; focus (simp only []; omega)) | ((with_reducible refine Bk.below ?_ (by with_reducible assumption) ?_); rotate_left; focus (go_size; done))))
  clear a1_0 a1_1 a1_2 a1_3 a1_4 a1_5 a1_6 a1_7
  clear b1_0 b1_1 b1_2 b1_3 b1_4 b1_5 b1_6 b1_7
  have a4_0 := a4.cell 0 rfl
  have a4_1 := a4.cell 1 rfl
  have a4_2 := a4.cell 2 rfl
  have a4_3 := a4.cell 3 rfl
  have a4_4 := a4.frozen 0
  have a4_5 := a4.frozen 1
  have a4_6 := a4.frozen 2
  have a4_7 := a4.frozen 3
  have a4l := a4.lt
  have b4_0 := b4.cell 0 rfl
  have b4_1 := b4.cell 1 rfl
  have b4_2 := b4.cell 2 rfl
  have b4_3 := b4.cell 3 rfl
  have b4_4 := b4.frozen 0
  have b4_5 := b4.frozen 1
  have b4_6 := b4.frozen 2
  have b4_7 := b4.frozen 3
  have b4l := b4.lt
  clear hb4c hb4f
  go_wp2_with fail
  obtain ⟨gx, hgx⟩ : ∃ gx, gx = w4.heap.size := ⟨_, rfl⟩
  refine calls_named (fun W => Bk W w.heap.size 26 [.bool b, .int .u64 x1, .int .u64 x0, .int .i64 s] ∧ Bk W (w.heap.size + 1) 26 [.bool b', .int .u64 y1, .int .u64 y0, .int .i64 s'] ∧ Bk W w4.heap.size 26 [.bool n0, .int .u64 n1, .int .u64 n2, .int .i64 n3] ∧ Below w.heap.size w W) ⟨?h1, ?h2, ?h3, ?h4⟩ ?_
  case h1 => ((repeat (first | (with_reducible assumption) | ((with_reducible refine Bk.new_ ?_); (first | rfl | (simp only [World.size_alloc, World.size_setCell, World.size_drew, World.heap_drewN]; done))) | (with_reducible refine Bk.alloc ?_ _) | (with_reducible refine Bk.drew ?_) | (with_reducible refine Bk.drewN ?_ _) | ((with_reducible refine Bk.far ?_ ?_ _); rotate_left; focus (simp only []; omega)) | ((with_reducible refine Bk.below ?_ (by with_reducible assumption) ?_); rotate_left; focus (go_size; done)))); done)
  case h2 => ((repeat (first | (with_reducible assumption) | ((with_reducible refine Bk.new_ ?_); (first | rfl | (simp only [World.size_alloc, World.size_setCell, World.size_drew, World.heap_drewN]; done))) | (with_reducible refine Bk.alloc ?_ _) | (with_reducible refine Bk.drew ?_) | (with_reducible refine Bk.drewN ?_ _) | ((with_reducible refine Bk.far ?_ ?_ _); rotate_left; focus (simp only []; omega)) | ((with_reducible refine Bk.below ?_ (by with_reducible assumption) ?_); rotate_left; focus (go_size; done)))); done)
  case h3 => ((repeat (first | (with_reducible assumption) | ((with_reducible refine Bk.new_ ?_); (first | rfl | (simp only [World.size_alloc, World.size_setCell, World.size_drew, World.heap_drewN]; done))) | (with_reducible refine Bk.alloc ?_ _) | (with_reducible refine Bk.drew ?_) | (with_reducible refine Bk.drewN ?_ _) | ((with_reducible refine Bk.far ?_ ?_ _); rotate_left; focus (simp only []; omega)) | ((with_reducible refine Bk.below ?_ (by with_reducible assumption) ?_); rotate_left; focus (go_size; done)))); done)
  case h4 => ((repeat' (first | (with_reducible exact Below.refl _ _) | (with_reducible assumption) | (with_reducible refine Below.drew ?_) | (with_reducible refine below_drewN ?_ _) | ((with_reducible refine Below.alloc ?_ ?_ _); rotate_left; focus (go_size; done)) | ((with_reducible refine Below.setCell ?_ ?_ _); rotate_left; focus (go_size; done)) | ((with_reducible refine Below.trans ?_ (Below.mono (by with_reducible assumption) ?_)); rotate_left; focus (go_size; done)))); done)
  clear a4_0 a4_1 a4_2 a4_3 a4_4 a4_5 a4_6 a4_7
  clear b4_0 b4_1 b4_2 b4_3 b4_4 b4_5 b4_6 b4_7
  rw [← hgx]
  have gx1 : w.heap.size + 1 < gx := by omega
  clear hgx
  rintro W4 ⟨ka4, kb4, kx4, kw4⟩
  have kxl4 := kx4.lt
  clear hb1 hb4 hb1s hb4s a1 a4 b1 b4 a1l a4l b1l b4l
  refine (K2.out _).mono ?_
  rintro _ w5 ⟨rfl, hb5⟩; have hb5s := hb5.size; (try simp only [World.size_alloc, World.size_setCell, World.size_drew, World.heap_drewN] at hb5s); obtain ⟨hb5c, hb5f⟩ := bcell hb5; (try have : w.heap.size < w5.heap.size := by omega); (try have : w.heap.size + 1 < w5.heap.size := by omega); (try have : w.heap.size + 1 + 1 < w5.heap.size := by omega); (try have : w.heap.size + 1 + 1 + 1 < w5.heap.size := by omega)
  have a5 : Bk w5 w.heap.size 26 [.bool b, .int .u64 x1, .int .u64 x0, .int .i64 s] := by (repeat (first | (with_reducible assumption) | ((with_reducible refine Bk.new_ ?_); (first | rfl | (simp only [World.size_alloc, World.size_setCell, World.size_drew, World.heap_drewN]; done))) | (with_reducible refine Bk.alloc ?_ _) | (with_reducible refine Bk.drew ?_) | (with_reducible refine Bk.drewN ?_ _) | ((with_reducible refine Bk.far ?_ ?_ _); rotate_left; focus (simp only []; omega)) | ((with_reducible refine Bk.below ?_ (by with_reducible assumption) ?_); rotate_left; focus (go_size; done))))
  have b5 : Bk w5 (w.heap.size + 1) 26 [.bool b', .int .u64 y1, .int .u64 y0, .int .i64 s'] := by (repeat (first | (with_reducible assumption) | ((with_reducible refine Bk.new_ ?_); (first | rfl | (simp only [World.size_alloc, World.size_setCell, World.size_drew, World.heap_drewN]; done))) | (with_reducible refine Bk.alloc ?_ _) | (with_reducible refine Bk.drew ?_) | (with_reducible refine Bk.drewN ?_ _) | ((with_reducible refine Bk.far ?_ ?_ _); rotate_left; focus (simp only []; omega)) | ((with_reducible refine Bk.below ?_ (by with_reducible assumption) ?_); rotate_left; focus (go_size; done))))
  have x5 : Bk w5 gx 26 [.bool n0, .int .u64 n1, .int .u64 n2, .int .i64 n3] := by (repeat (first | (with_reducible assumption) | ((with_reducible refine Bk.new_ ?_); (first | rfl | (simp only [World.size_alloc, World.size_setCell, World.size_drew, World.heap_drewN]; done))) | (with_reducible refine Bk.alloc ?_ _) | (with_reducible refine Bk.drew ?_) | (with_reducible refine Bk.drewN ?_ _) | ((with_reducible refine Bk.far ?_ ?_ _); rotate_left; focus (simp only []; omega)) | ((with_reducible refine Bk.below ?_ (by with_reducible assumption) ?_); rotate_left; focus (go_size; done))))
  have a5_0 := a5.cell 0 rfl
  have a5_1 := a5.cell 1 rfl
  have a5_2 := a5.cell 2 rfl
  have a5_3 := a5.cell 3 rfl
  have a5_4 := a5.frozen 0
  have a5_5 := a5.frozen 1
  have a5_6 := a5.frozen 2
  have a5_7 := a5.frozen 3
  have a5l := a5.lt
  have b5_0 := b5.cell 0 rfl
  have b5_1 := b5.cell 1 rfl
  have b5_2 := b5.cell 2 rfl
  have b5_3 := b5.cell 3 rfl
  have b5_4 := b5.frozen 0
  have b5_5 := b5.frozen 1
  have b5_6 := b5.frozen 2
  have b5_7 := b5.frozen 3
  have b5l := b5.lt
  have x5_0 := x5.cell 0 rfl
  have x5_1 := x5.cell 1 rfl
  have x5_2 := x5.cell 2 rfl
  have x5_3 := x5.cell 3 rfl
  have x5_4 := x5.frozen 0
  have x5_5 := x5.frozen 1
  have x5_6 := x5.frozen 2
  have x5_7 := x5.frozen 3
  have x5l := x5.lt
  clear hb5c hb5f
  go_wp2_with fail
  obtain ⟨gy, hgy⟩ : ∃ gy, gy = w5.heap.size := ⟨_, rfl⟩
  refine calls_named (fun W => Bk W w.heap.size 26 [.bool b, .int .u64 x1, .int .u64 x0, .int .i64 s] ∧ Bk W (w.heap.size + 1) 26 [.bool b', .int .u64 y1, .int .u64 y0, .int .i64 s'] ∧ Bk W gx 26 [.bool n0, .int .u64 n1, .int .u64 n2, .int .i64 n3] ∧ Bk W w5.heap.size 26 [.bool n0, .int .u64 n1, .int .u64 n2, .int .i64 n3] ∧ Below w.heap.size w W) ⟨?h1, ?h2, ?h3, ?h4, ?h5⟩ ?_
  case h1 => ((repeat (first | (with_reducible assumption) | ((with_reducible refine Bk.new_ ?_); (first | rfl | (simp only [World.size_alloc, World.size_setCell, World.size_drew, World.heap_drewN]; done))) | (with_reducible refine Bk.alloc ?_ _) | (with_reducible refine Bk.drew ?_) | (with_reducible refine Bk.drewN ?_ _) | ((with_reducible refine Bk.far ?_ ?_ _); rotate_left; focus (simp only []; omega)) | ((with_reducible refine Bk.below ?_ (by with_reducible assumption) ?_); rotate_left; focus (go_size; done)))); done)
  case h2 => ((repeat (first | (with_reducible assumption) | ((with_reducible refine Bk.new_ ?_); (first | rfl | (simp only [World.size_alloc, World.size_setCell, World.size_drew, World.heap_drewN]; done))) | (with_reducible refine Bk.alloc ?_ _) | (with_reducible refine Bk.drew ?_) | (with_reducible refine Bk.drewN ?_ _) | ((with_reducible refine Bk.far ?_ ?_ _); rotate_left; focus (simp only []; omega)) | ((with_reducible refine Bk.below ?_ (by with_reducible assumption) ?_); rotate_left; focus (go_size; done)))); done)
  case h3 => ((repeat (first | (with_reducible assumption) | ((with_reducible refine Bk.new_ ?_); (first | rfl | (simp only [World.size_alloc, World.size_setCell, World.size_drew, World.heap_drewN]; done))) | (with_reducible refine Bk.alloc ?_ _) | (with_reducible refine Bk.drew ?_) | (with_reducible refine Bk.drewN ?_ _) | ((with_reducible refine Bk.far ?_ ?_ _); rotate_left; focus (simp only []; omega)) | ((with_reducible refine Bk.below ?_ (by with_reducible assumption) ?_); rotate_left; focus (go_size; done)))); done)
  case h4 => ((repeat (first | (with_reducible assumption) | ((with_reducible refine Bk.new_ ?_); (first | rfl | (simp only [World.size_alloc, World.size_setCell, World.size_drew, World.heap_drewN]; done))) | (with_reducible refine Bk.alloc ?_ _) | (with_reducible refine Bk.drew ?_) | (with_reducible refine Bk.drewN ?_ _) | ((with_reducible refine Bk.far ?_ ?_ _); rotate_left; focus (simp only []; omega)) | ((with_reducible refine Bk.below ?_ (by with_reducible assumption) ?_); rotate_left; focus (go_size; done)))); done)
  case h5 => ((repeat' (first | (with_reducible exact Below.refl _ _) | (with_reducible assumption) | (with_reducible refine Below.drew ?_) | (with_reducible refine below_drewN ?_ _) | ((with_reducible refine Below.alloc ?_ ?_ _); rotate_left; focus (go_size; done)) | ((with_reducible refine Below.setCell ?_ ?_ _); rotate_left; focus (go_size; done)) | ((with_reducible refine Below.trans ?_ (Below.mono (by with_reducible assumption) ?_)); rotate_left; focus (go_size; done)))); done)
  clear a5_0 a5_1 a5_2 a5_3 a5_4 a5_5 a5_6 a5_7
  clear b5_0 b5_1 b5_2 b5_3 b5_4 b5_5 b5_6 b5_7
  clear x5_0 x5_1 x5_2 x5_3 x5_4 x5_5 x5_6 x5_7
  rw [← hgy]
  have gy1 : gx < gy := by omega
  clear hgy
  rintro W5 ⟨ka5, kb5, kx5, ky5, kw5⟩
  have kxl5 := kx5.lt
  have kyl5 := ky5.lt
  clear hb5 hb5s a5 b5 x5 a5l b5l x5l ka4 kb4 kx4 kw4 kxl4
  refine (K3.out _).mono ?_
  rintro _ w6 ⟨rfl, hb6⟩; have hb6s := hb6.size; (try simp only [World.size_alloc, World.size_setCell, World.size_drew, World.heap_drewN] at hb6s); obtain ⟨hb6c, hb6f⟩ := bcell hb6; (try have : w.heap.size < w6.heap.size := by omega); (try have : w.heap.size + 1 < w6.heap.size := by omega); (try have : w.heap.size + 1 + 1 < w6.heap.size := by omega); (try have : w.heap.size + 1 + 1 + 1 < w6.heap.size := by omega)
  have a6 : Bk w6 w.heap.size 26 [.bool b, .int .u64 x1, .int .u64 x0, .int .i64 s] := by (repeat (first | (with_reducible assumption) | ((with_reducible refine Bk.new_ ?_); (first | rfl | (simp only [World.size_alloc, World.size_setCell, World.size_drew, World.heap_drewN]; done))) | (with_reducible refine Bk.alloc ?_ _) | (with_reducible refine Bk.drew ?_) | (with_reducible refine Bk.drewN ?_ _) | ((with_reducible refine Bk.far ?_ ?_ _); rotate_left; focus (simp only []; omega)) | ((with_reducible refine Bk.below ?_ (by with_reducible assumption) ?_); rotate_left; focus (go_size; done))))
  have b6 : Bk w6 (w.heap.size + 1) 26 [.bool b', .int .u64 y1, .int .u64 y0, .int .i64 s'] := by (repeat (first | (with_reducible assumption) | ((with_reducible refine Bk.new_ ?_); (first | rfl | (simp only [World.size_alloc, World.size_setCell, World.size_drew, World.heap_drewN]; done))) | (with_reducible refine Bk.alloc ?_ _) | (with_reducible refine Bk.drew ?_) | (with_reducible refine Bk.drewN ?_ _) | ((with_reducible refine Bk.far ?_ ?_ _); rotate_left; focus (simp only []; omega)) | ((with_reducible refine Bk.below ?_ (by with_reducible assumption) ?_); rotate_left; focus (go_size; done))))
  have x6 : Bk w6 gx 26 [.bool n0, .int .u64 n1, .int .u64 n2, .int .i64 n3] := by (repeat (first | (with_reducible assumption) | ((with_reducible refine Bk.new_ ?_); (first | rfl | (simp only [World.size_alloc, World.size_setCell, World.size_drew, World.heap_drewN]; done))) | (with_reducible refine Bk.alloc ?_ _) | (with_reducible refine Bk.drew ?_) | (with_reducible refine Bk.drewN ?_ _) | ((with_reducible refine Bk.far ?_ ?_ _); rotate_left; focus (simp only []; omega)) | ((with_reducible refine Bk.below ?_ (by with_reducible assumption) ?_); rotate_left; focus (go_size; done))))
  have y6 : Bk w6 gy 26 [.bool n0, .int .u64 n1, .int .u64 n2, .int .i64 n3] := by (repeat (first | (with_reducible assumption) | ((with_reducible refine Bk.new_ ?_); (first | rfl | (simp only [World.size_alloc, World.size_setCell, World.size_drew, World.heap_drewN]; done))) | (with_reducible refine Bk.alloc ?_ _) | (with_reducible refine Bk.drew ?_) | (with_reducible refine Bk.drewN ?_ _) | ((with_reducible refine Bk.far ?_ ?_ _); rotate_left; focus (simp only []; omega)) | ((with_reducible refine Bk.below ?_ (by with_reducible assumption) ?_); rotate_left; focus (go_size; done))))
  have a6_0 := a6.cell 0 rfl
  have a6_1 := a6.cell 1 rfl
  have a6_2 := a6.cell 2 rfl
  have a6_3 := a6.cell 3 rfl
  have a6_4 := a6.frozen 0
  have a6_5 := a6.frozen 1
  have a6_6 := a6.frozen 2
  have a6_7 := a6.frozen 3
  have a6l := a6.lt
  have b6_0 := b6.cell 0 rfl
  have b6_1 := b6.cell 1 rfl
  have b6_2 := b6.cell 2 rfl
  have b6_3 := b6.cell 3 rfl
  have b6_4 := b6.frozen 0
  have b6_5 := b6.frozen 1
  have b6_6 := b6.frozen 2
  have b6_7 := b6.frozen 3
  have b6l := b6.lt
  have x6_0 := x6.cell 0 rfl
  have x6_1 := x6.cell 1 rfl
  have x6_2 := x6.cell 2 rfl
  have x6_3 := x6.cell 3 rfl
  have x6_4 := x6.frozen 0
  have x6_5 := x6.frozen 1
  have x6_6 := x6.frozen 2
  have x6_7 := x6.frozen 3
  have x6l := x6.lt
  have y6_0 := y6.cell 0 rfl
  have y6_1 := y6.cell 1 rfl
  have y6_2 := y6.cell 2 rfl
  have y6_3 := y6.cell 3 rfl
  have y6_4 := y6.frozen 0
  have y6_5 := y6.frozen 1
  have y6_6 := y6.frozen 2
  have y6_7 := y6.frozen 3
  have y6l := y6.lt
  clear hb6c hb6f
  go_wp2_with fail
  refine calls_named (fun W => Bk W w.heap.size 26 [.bool b, .int .u64 x1, .int .u64 x0, .int .i64 s] ∧ Bk W (w.heap.size + 1) 26 [.bool b', .int .u64 y1, .int .u64 y0, .int .i64 s'] ∧ Bk W gx 26 [.bool m0, .int .u64 m1, .int .u64 m2, .int .i64 m3] ∧ Bk W gy 26 [.bool n0, .int .u64 n1, .int .u64 n2, .int .i64 n3] ∧ Below w.heap.size w W) ⟨?h1, ?h2, ?h3, ?h4, ?h5⟩ ?_
  case h1 => ((repeat (first | (with_reducible assumption) | ((with_reducible refine Bk.new_ ?_); (first | rfl | (simp only [World.size_alloc, World.size_setCell, World.size_drew, World.heap_drewN]; done))) | (with_reducible refine Bk.alloc ?_ _) | (with_reducible refine Bk.drew ?_) | (with_reducible refine Bk.drewN ?_ _) | ((with_reducible refine Bk.far ?_ ?_ _); rotate_left; focus (simp only []; omega)) | ((with_reducible refine Bk.below ?_ (by with_reducible assumption) ?_); rotate_left; focus (go_size; done)))); done)
  case h2 => ((repeat (first | (with_reducible assumption) | ((with_reducible refine Bk.new_ ?_); (first | rfl | (simp only [World.size_alloc, World.size_setCell, World.size_drew, World.heap_drewN]; done))) | (with_reducible refine Bk.alloc ?_ _) | (with_reducible refine Bk.drew ?_) | (with_reducible refine Bk.drewN ?_ _) | ((with_reducible refine Bk.far ?_ ?_ _); rotate_left; focus (simp only []; omega)) | ((with_reducible refine Bk.below ?_ (by with_reducible assumption) ?_); rotate_left; focus (go_size; done)))); done)
  case h3 => (first | ((repeat (first | (with_reducible assumption) | ((with_reducible refine Bk.new_ ?_); (first | rfl | (simp only [World.size_alloc, World.size_setCell, World.size_drew, World.heap_drewN]; done))) | (with_reducible refine Bk.alloc ?_ _) | (with_reducible refine Bk.drew ?_) | (with_reducible refine Bk.drewN ?_ _) | ((with_reducible refine Bk.far ?_ ?_ _); rotate_left; focus (simp only []; omega)) | ((with_reducible refine Bk.below ?_ (by with_reducible assumption) ?_); rotate_left; focus (go_size; done)))); done) | ((repeat (first | (with_reducible refine Bk.alloc ?_ _) | (with_reducible refine Bk.drew ?_) | ((with_reducible refine Bk.far ?_ ?_ _); rotate_left; focus (simp only []; omega)))); (refine ((((?_ : Bk _ _ _ [.bool n0, .int .u64 n1, .int .u64 n2, .int .i64 n3]).set_ 0 _).set_ 1 _).set_ 2 _).set_ 3 _); (repeat (first | (with_reducible assumption) | ((with_reducible refine Bk.new_ ?_); (first | rfl | (simp only [World.size_alloc, World.size_setCell, World.size_drew, World.heap_drewN]; done))) | (with_reducible refine Bk.alloc ?_ _) | (with_reducible refine Bk.drew ?_) | (with_reducible refine Bk.drewN ?_ _) | ((with_reducible refine Bk.far ?_ ?_ _); rotate_left; focus (simp only []; omega)) | ((with_reducible refine Bk.below ?_ (by with_reducible assumption) ?_); rotate_left; focus (go_size; done))))); done)
  case h4 => ((repeat (first | (with_reducible assumption) | ((with_reducible refine Bk.new_ ?_); (first | rfl | (simp only [World.size_alloc, World.size_setCell, World.size_drew, World.heap_drewN]; done))) | (with_reducible refine Bk.alloc ?_ _) | (with_reducible refine Bk.drew ?_) | (with_reducible refine Bk.drewN ?_ _) | ((with_reducible refine Bk.far ?_ ?_ _); rotate_left; focus (simp only []; omega)) | ((with_reducible refine Bk.below ?_ (by with_reducible assumption) ?_); rotate_left; focus (go_size; done)))); done)
  case h5 => ((repeat' (first | (with_reducible exact Below.refl _ _) | (with_reducible assumption) | (with_reducible refine Below.drew ?_) | (with_reducible refine below_drewN ?_ _) | ((with_reducible refine Below.alloc ?_ ?_ _); rotate_left; focus (go_size; done)) | ((with_reducible refine Below.setCell ?_ ?_ _); rotate_left; focus (go_size; done)) | ((with_reducible refine Below.trans ?_ (Below.mono (by with_reducible assumption) ?_)); rotate_left; focus (go_size; done)))); done)
  clear a6_0 a6_1 a6_2 a6_3 a6_4 a6_5 a6_6 a6_7
  clear b6_0 b6_1 b6_2 b6_3 b6_4 b6_5 b6_6 b6_7
  clear x6_0 x6_1 x6_2 x6_3 x6_4 x6_5 x6_6 x6_7
  clear y6_0 y6_1 y6_2 y6_3 y6_4 y6_5 y6_6 y6_7
  rintro W6 ⟨ka6, kb6, kx6, ky6, kw6⟩
  have kxl6 := kx6.lt
  have kyl6 := ky6.lt
  refine (K4.out _).mono ?_
  rintro _ w7 ⟨rfl, hb7⟩; have hb7s := hb7.size; (try simp only [World.size_alloc, World.size_setCell, World.size_drew, World.heap_drewN] at hb7s); obtain ⟨hb7c, hb7f⟩ := bcell hb7; (try have : w.heap.size < w7.heap.size := by omega); (try have : w.heap.size + 1 < w7.heap.size := by omega); (try have : w.heap.size + 1 + 1 < w7.heap.size := by omega); (try have : w.heap.size + 1 + 1 + 1 < w7.heap.size := by omega)
  have a7 : Bk w7 w.heap.size 26 [.bool b, .int .u64 x1, .int .u64 x0, .int .i64 s] := by (repeat (first | (with_reducible assumption) | ((with_reducible refine Bk.new_ ?_); (first | rfl | (simp only [World.size_alloc, World.size_setCell, World.size_drew, World.heap_drewN]; done))) | (with_reducible refine Bk.alloc ?_ _) | (with_reducible refine Bk.drew ?_) | (with_reducible refine Bk.drewN ?_ _) | ((with_reducible refine Bk.far ?_ ?_ _); rotate_left; focus (simp only []; omega)) | ((with_reducible refine Bk.below ?_ (by with_reducible assumption) ?_); rotate_left; focus (go_size; done))))
  have b7 : Bk w7 (w.heap.size + 1) 26 [.bool b', .int .u64 y1, .int .u64 y0, .int .i64 s'] := by (repeat (first | (with_reducible assumption) | ((with_reducible refine Bk.new_ ?_); (first | rfl | (simp only [World.size_alloc, World.size_setCell, World.size_drew, World.heap_drewN]; done))) | (with_reducible refine Bk.alloc ?_ _) | (with_reducible refine Bk.drew ?_) | (with_reducible refine Bk.drewN ?_ _) | ((with_reducible refine Bk.far ?_ ?_ _); rotate_left; focus (simp only []; omega)) | ((with_reducible refine Bk.below ?_ (by with_reducible assumption) ?_); rotate_left; focus (go_size; done))))
  have x7 : Bk w7 gx 26 [.bool m0, .int .u64 m1, .int .u64 m2, .int .i64 m3] := by (repeat (first | (with_reducible assumption) | ((with_reducible refine Bk.new_ ?_); (first | rfl | (simp only [World.size_alloc, World.size_setCell, World.size_drew, World.heap_drewN]; done))) | (with_reducible refine Bk.alloc ?_ _) | (with_reducible refine Bk.drew ?_) | (with_reducible refine Bk.drewN ?_ _) | ((with_reducible refine Bk.far ?_ ?_ _); rotate_left; focus (simp only []; omega)) | ((with_reducible refine Bk.below ?_ (by with_reducible assumption) ?_); rotate_left; focus (go_size; done))))
  have y7 : Bk w7 gy 26 [.bool n0, .int .u64 n1, .int .u64 n2, .int .i64 n3] := by (repeat (first | (with_reducible assumption) | ((with_reducible refine Bk.new_ ?_); (first | rfl | (simp only [World.size_alloc, World.size_setCell, World.size_drew, World.heap_drewN]; done))) | (with_reducible refine Bk.alloc ?_ _) | (with_reducible refine Bk.drew ?_) | (with_reducible refine Bk.drewN ?_ _) | ((with_reducible refine Bk.far ?_ ?_ _); rotate_left; focus (simp only []; omega)) | ((with_reducible refine Bk.below ?_ (by with_reducible assumption) ?_); rotate_left; focus (go_size; done))))
  have a7_0 := a7.cell 0 rfl
  have a7_1 := a7.cell 1 rfl
  have a7_2 := a7.cell 2 rfl
  have a7_3 := a7.cell 3 rfl
  have a7_4 := a7.frozen 0
  have a7_5 := a7.frozen 1
  have a7_6 := a7.frozen 2
  have a7_7 := a7.frozen 3
  have a7l := a7.lt
  have b7_0 := b7.cell 0 rfl
  have b7_1 := b7.cell 1 rfl
  have b7_2 := b7.cell 2 rfl
  have b7_3 := b7.cell 3 rfl
  have b7_4 := b7.frozen 0
  have b7_5 := b7.frozen 1
  have b7_6 := b7.frozen 2
  have b7_7 := b7.frozen 3
  have b7l := b7.lt
  have x7_0 := x7.cell 0 rfl
  have x7_1 := x7.cell 1 rfl
  have x7_2 := x7.cell 2 rfl
  have x7_3 := x7.cell 3 rfl
  have x7_4 := x7.frozen 0
  have x7_5 := x7.frozen 1
  have x7_6 := x7.frozen 2
  have x7_7 := x7.frozen 3
  have x7l := x7.lt
  have y7_0 := y7.cell 0 rfl
  have y7_1 := y7.cell 1 rfl
  have y7_2 := y7.cell 2 rfl
  have y7_3 := y7.cell 3 rfl
  have y7_4 := y7.frozen 0
  have y7_5 := y7.frozen 1
  have y7_6 := y7.frozen 2
  have y7_7 := y7.frozen 3
  have y7l := y7.lt
  clear hb7c hb7f
  go_wp2_with fail
  refine calls_named (fun W => Bk W w.heap.size 26 [.bool b, .int .u64 x1, .int .u64 x0, .int .i64 s] ∧ Bk W (w.heap.size + 1) 26 [.bool b', .int .u64 y1, .int .u64 y0, .int .i64 s'] ∧ Bk W gx 26 [.bool m0, .int .u64 m1, .int .u64 m2, .int .i64 m3] ∧ Bk W gy 26 [.bool m0, .int .u64 m1, .int .u64 m2, .int .i64 m3] ∧ Below w.heap.size w W) ⟨?h1, ?h2, ?h3, ?h4, ?h5⟩ ?_
  case h1 => ((repeat (first | (with_reducible assumption) | ((with_reducible refine Bk.new_ ?_); (first | rfl | (simp only [World.size_alloc, World.size_setCell, World.size_drew, World.heap_drewN]; done))) | (with_reducible refine Bk.alloc ?_ _) | (with_reducible refine Bk.drew ?_) | (with_reducible refine Bk.drewN ?_ _) | ((with_reducible refine Bk.far ?_ ?_ _); rotate_left; focus (simp only []; omega)) | ((with_reducible refine Bk.below ?_ (by with_reducible assumption) ?_); rotate_left; focus (go_size; done)))); done)
  case h2 => ((repeat (first | (with_reducible assumption) | ((with_reducible refine Bk.new_ ?_); (first | rfl | (simp only [World.size_alloc, World.size_setCell, World.size_drew, World.heap_drewN]; done))) | (with_reducible refine Bk.alloc ?_ _) | (with_reducible refine Bk.drew ?_) | (with_reducible refine Bk.drewN ?_ _) | ((with_reducible refine Bk.far ?_ ?_ _); rotate_left; focus (simp only []; omega)) | ((with_reducible refine Bk.below ?_ (by with_reducible assumption) ?_); rotate_left; focus (go_size; done)))); done)
  case h3 => ((repeat (first | (with_reducible assumption) | ((with_reducible refine Bk.new_ ?_); (first | rfl | (simp only [World.size_alloc, World.size_setCell, World.size_drew, World.heap_drewN]; done))) | (with_reducible refine Bk.alloc ?_ _) | (with_reducible refine Bk.drew ?_) | (with_reducible refine Bk.drewN ?_ _) | ((with_reducible refine Bk.far ?_ ?_ _); rotate_left; focus (simp only []; omega)) | ((with_reducible refine Bk.below ?_ (by with_reducible assumption) ?_); rotate_left; focus (go_size; done)))); done)
  case h4 => (first | ((repeat (first | (with_reducible assumption) | ((with_reducible refine Bk.new_ ?_); (first | rfl | (simp only [World.size_alloc, World.size_setCell, World.size_drew, World.heap_drewN]; done))) | (with_reducible refine Bk.alloc ?_ _) | (with_reducible refine Bk.drew ?_) | (with_reducible refine Bk.drewN ?_ _) | ((with_reducible refine Bk.far ?_ ?_ _); rotate_left; focus (simp only []; omega)) | ((with_reducible refine Bk.below ?_ (by with_reducible assumption) ?_); rotate_left; focus (go_size; done)))); done) | ((repeat (first | (with_reducible refine Bk.alloc ?_ _) | (with_reducible refine Bk.drew ?_) | ((with_reducible refine Bk.far ?_ ?_ _); rotate_left; focus (simp only []; omega)))); (refine ((((?_ : Bk _ _ _ [.bool n0, .int .u64 n1, .int .u64 n2, .int .i64 n3]).set_ 0 _).set_ 1 _).set_ 2 _).set_ 3 _); (repeat (first | (with_reducible assumption) | ((with_reducible refine Bk.new_ ?_); (first | rfl | (simp only [World.size_alloc, World.size_setCell, World.size_drew, World.heap_drewN]; done))) | (with_reducible refine Bk.alloc ?_ _) | (with_reducible refine Bk.drew ?_) | (with_reducible refine Bk.drewN ?_ _) | ((with_reducible refine Bk.far ?_ ?_ _); rotate_left; focus (simp only []; omega)) | ((with_reducible refine Bk.below ?_ (by with_reducible assumption) ?_); rotate_left; focus (go_size; done))))); done)
  case h5 => ((repeat' (first | (with_reducible exact Below.refl _ _) | (with_reducible assumption) | (with_reducible refine Below.drew ?_) | (with_reducible refine below_drewN ?_ _) | ((with_reducible refine Below.alloc ?_ ?_ _); rotate_left; focus (go_size; done)) | ((with_reducible refine Below.setCell ?_ ?_ _); rotate_left; focus (go_size; done)) | ((with_reducible refine Below.trans ?_ (Below.mono (by with_reducible assumption) ?_)); rotate_left; focus (go_size; done)))); done)
  clear a7_0 a7_1 a7_2 a7_3 a7_4 a7_5 a7_6 a7_7
  clear b7_0 b7_1 b7_2 b7_3 b7_4 b7_5 b7_6 b7_7
  clear x7_0 x7_1 x7_2 x7_3 x7_4 x7_5 x7_6 x7_7
  clear y7_0 y7_1 y7_2 y7_3 y7_4 y7_5 y7_6 y7_7
  rintro W7 ⟨ka7, kb7, kx7, ky7, kw7⟩
  have kxl7 := kx7.lt
  have kyl7 := ky7.lt
  refine (K5.out _).mono ?_
  rintro _ w8 ⟨rfl, hb8⟩; have hb8s := hb8.size; (try simp only [World.size_alloc, World.size_setCell, World.size_drew, World.heap_drewN] at hb8s); obtain ⟨hb8c, hb8f⟩ := bcell hb8; (try have : w.heap.size < w8.heap.size := by omega); (try have : w.heap.size + 1 < w8.heap.size := by omega); (try have : w.heap.size + 1 + 1 < w8.heap.size := by omega); (try have : w.heap.size + 1 + 1 + 1 < w8.heap.size := by omega)
  have a8 : Bk w8 w.heap.size 26 [.bool b, .int .u64 x1, .int .u64 x0, .int .i64 s] := by (repeat (first | (with_reducible assumption) | ((with_reducible refine Bk.new_ ?_); (first | rfl | (simp only [World.size_alloc, World.size_setCell, World.size_drew, World.heap_drewN]; done))) | (with_reducible refine Bk.alloc ?_ _) | (with_reducible refine Bk.drew ?_) | (with_reducible refine Bk.drewN ?_ _) | ((with_reducible refine Bk.far ?_ ?_ _); rotate_left; focus (simp only []; omega)) | ((with_reducible refine Bk.below ?_ (by with_reducible assumption) ?_); rotate_left; focus (go_size; done))))
  have b8 : Bk w8 (w.heap.size + 1) 26 [.bool b', .int .u64 y1, .int .u64 y0, .int .i64 s'] := by (repeat (first | (with_reducible assumption) | ((with_reducible refine Bk.new_ ?_); (first | rfl | (simp only [World.size_alloc, World.size_setCell, World.size_drew, World.heap_drewN]; done))) | (with_reducible refine Bk.alloc ?_ _) | (with_reducible refine Bk.drew ?_) | (with_reducible refine Bk.drewN ?_ _) | ((with_reducible refine Bk.far ?_ ?_ _); rotate_left; focus (simp only []; omega)) | ((with_reducible refine Bk.below ?_ (by with_reducible assumption) ?_); rotate_left; focus (go_size; done))))
  have x8 : Bk w8 gx 26 [.bool m0, .int .u64 m1, .int .u64 m2, .int .i64 m3] := by (repeat (first | (with_reducible assumption) | ((with_reducible refine Bk.new_ ?_); (first | rfl | (simp only [World.size_alloc, World.size_setCell, World.size_drew, World.heap_drewN]; done))) | (with_reducible refine Bk.alloc ?_ _) | (with_reducible refine Bk.drew ?_) | (with_reducible refine Bk.drewN ?_ _) | ((with_reducible refine Bk.far ?_ ?_ _); rotate_left; focus (simp only []; omega)) | ((with_reducible refine Bk.below ?_ (by with_reducible assumption) ?_); rotate_left; focus (go_size; done))))
  have y8 : Bk w8 gy 26 [.bool m0, .int .u64 m1, .int .u64 m2, .int .i64 m3] := by (repeat (first | (with_reducible assumption) | ((with_reducible refine Bk.new_ ?_); (first | rfl | (simp only [World.size_alloc, World.size_setCell, World.size_drew, World.heap_drewN]; done))) | (with_reducible refine Bk.alloc ?_ _) | (with_reducible refine Bk.drew ?_) | (with_reducible refine Bk.drewN ?_ _) | ((with_reducible refine Bk.far ?_ ?_ _); rotate_left; focus (simp only []; omega)) | ((with_reducible refine Bk.below ?_ (by with_reducible assumption) ?_); rotate_left; focus (go_size; done))))
  have a8_0 := a8.cell 0 rfl
  have a8_1 := a8.cell 1 rfl
  have a8_2 := a8.cell 2 rfl
  have a8_3 := a8.cell 3 rfl
  have a8_4 := a8.frozen 0
  have a8_5 := a8.frozen 1
  have a8_6 := a8.frozen 2
  have a8_7 := a8.frozen 3
  have a8l := a8.lt
  have b8_0 := b8.cell 0 rfl
  have b8_1 := b8.cell 1 rfl
  have b8_2 := b8.cell 2 rfl
  have b8_3 := b8.cell 3 rfl
  have b8_4 := b8.frozen 0
  have b8_5 := b8.frozen 1
  have b8_6 := b8.frozen 2
  have b8_7 := b8.frozen 3
  have b8l := b8.lt
  have x8_0 := x8.cell 0 rfl
  have x8_1 := x8.cell 1 rfl
  have x8_2 := x8.cell 2 rfl
  have x8_3 := x8.cell 3 rfl
  have x8_4 := x8.frozen 0
  have x8_5 := x8.frozen 1
  have x8_6 := x8.frozen 2
  have x8_7 := x8.frozen 3
  have x8l := x8.lt
  have y8_0 := y8.cell 0 rfl
  have y8_1 := y8.cell 1 rfl
  have y8_2 := y8.cell 2 rfl
  have y8_3 := y8.cell 3 rfl
  have y8_4 := y8.frozen 0
  have y8_5 := y8.frozen 1
  have y8_6 := y8.frozen 2
  have y8_7 := y8.frozen 3
  have y8l := y8.lt
  clear hb8c hb8f
  go_wp2_with fail
  refine calls_named (fun W => Bk W w.heap.size 26 [.bool b, .int .u64 x1, .int .u64 x0, .int .i64 s] ∧ Bk W (w.heap.size + 1) 26 [.bool b', .int .u64 y1, .int .u64 y0, .int .i64 s'] ∧ Bk W gx 26 [.bool p0, .int .u64 p1, .int .u64 p2, .int .i64 p3] ∧ Bk W gy 26 [.bool m0, .int .u64 m1, .int .u64 m2, .int .i64 m3] ∧ Below w.heap.size w W) ⟨?h1, ?h2, ?h3, ?h4, ?h5⟩ ?_
  case h1 => ((repeat (first | (with_reducible assumption) | ((with_reducible refine Bk.new_ ?_); (first | rfl | (simp only [World.size_alloc, World.size_setCell, World.size_drew, World.heap_drewN]; done))) | (with_reducible refine Bk.alloc ?_ _) | (with_reducible refine Bk.drew ?_) | (with_reducible refine Bk.drewN ?_ _) | ((with_reducible refine Bk.far ?_ ?_ _); rotate_left; focus (simp only []; omega)) | ((with_reducible refine Bk.below ?_ (by with_reducible assumption) ?_); rotate_left; focus (go_size; done)))); done)
  case h2 => ((repeat (first | (with_reducible assumption) | ((with_reducible refine Bk.new_ ?_); (first | rfl | (simp only [World.size_alloc, World.size_setCell, World.size_drew, World.heap_drewN]; done))) | (with_reducible refine Bk.alloc ?_ _) | (with_reducible refine Bk.drew ?_) | (with_reducible refine Bk.drewN ?_ _) | ((with_reducible refine Bk.far ?_ ?_ _); rotate_left; focus (simp only []; omega)) | ((with_reducible refine Bk.below ?_ (by with_reducible assumption) ?_); rotate_left; focus (go_size; done)))); done)
  case h3 => (first | ((repeat (first | (with_reducible assumption) | ((with_reducible refine Bk.new_ ?_); (first | rfl | (simp only [World.size_alloc, World.size_setCell, World.size_drew, World.heap_drewN]; done))) | (with_reducible refine Bk.alloc ?_ _) | (with_reducible refine Bk.drew ?_) | (with_reducible refine Bk.drewN ?_ _) | ((with_reducible refine Bk.far ?_ ?_ _); rotate_left; focus (simp only []; omega)) | ((with_reducible refine Bk.below ?_ (by with_reducible assumption) ?_); rotate_left; focus (go_size; done)))); done) | ((repeat (first | (with_reducible refine Bk.alloc ?_ _) | (with_reducible refine Bk.drew ?_) | ((with_reducible refine Bk.far ?_ ?_ _); rotate_left; focus (simp only []; omega)))); (refine ((((?_ : Bk _ _ _ [.bool m0, .int .u64 m1, .int .u64 m2, .int .i64 m3]).set_ 0 _).set_ 1 _).set_ 2 _).set_ 3 _); (repeat (first | (with_reducible assumption) | ((with_reducible refine Bk.new_ ?_); (first | rfl | (simp only [World.size_alloc, World.size_setCell, World.size_drew, World.heap_drewN]; done))) | (with_reducible refine Bk.alloc ?_ _) | (with_reducible refine Bk.drew ?_) | (with_reducible refine Bk.drewN ?_ _) | ((with_reducible refine Bk.far ?_ ?_ _); rotate_left; focus (simp only []; omega)) | ((with_reducible refine Bk.below ?_ (by with_reducible assumption) ?_); rotate_left; focus (go_size; done))))); done)
  case h4 => ((repeat (first | (with_reducible assumption) | ((with_reducible refine Bk.new_ ?_); (first | rfl | (simp only [World.size_alloc, World.size_setCell, World.size_drew, World.heap_drewN]; done))) | (with_reducible refine Bk.alloc ?_ _) | (with_reducible refine Bk.drew ?_) | (with_reducible refine Bk.drewN ?_ _) | ((with_reducible refine Bk.far ?_ ?_ _); rotate_left; focus (simp only []; omega)) | ((with_reducible refine Bk.below ?_ (by with_reducible assumption) ?_); rotate_left; focus (go_size; done)))); done)
  case h5 => ((repeat' (first | (with_reducible exact Below.refl _ _) | (with_reducible assumption) | (with_reducible refine Below.drew ?_) | (with_reducible refine below_drewN ?_ _) | ((with_reducible refine Below.alloc ?_ ?_ _); rotate_left; focus (go_size; done)) | ((with_reducible refine Below.setCell ?_ ?_ _); rotate_left; focus (go_size; done)) | ((with_reducible refine Below.trans ?_ (Below.mono (by with_reducible assumption) ?_)); rotate_left; focus (go_size; done)))); done)
  clear a8_0 a8_1 a8_2 a8_3 a8_4 a8_5 a8_6 a8_7
  clear b8_0 b8_1 b8_2 b8_3 b8_4 b8_5 b8_6 b8_7
  clear x8_0 x8_1 x8_2 x8_3 x8_4 x8_5 x8_6 x8_7
  clear y8_0 y8_1 y8_2 y8_3 y8_4 y8_5 y8_6 y8_7
  rintro W8 ⟨ka8, kb8, kx8, ky8, kw8⟩
  have kxl8 := kx8.lt
  have kyl8 := ky8.lt
  refine (K6.out _).mono ?_
  rintro _ w11 ⟨rfl, hb11⟩; have hb11s := hb11.size; (try simp only [World.size_alloc, World.size_setCell, World.size_drew, World.heap_drewN] at hb11s); obtain ⟨hb11c, hb11f⟩ := bcell hb11; (try have : w.heap.size < w11.heap.size := by omega); (try have : w.heap.size + 1 < w11.heap.size := by omega); (try have : w.heap.size + 1 + 1 < w11.heap.size := by omega); (try have : w.heap.size + 1 + 1 + 1 < w11.heap.size := by omega)
  have a11 : Bk w11 w.heap.size 26 [.bool b, .int .u64 x1, .int .u64 x0, .int .i64 s] := by (repeat (first | (with_reducible assumption) | ((with_reducible refine Bk.new_ ?_); (first | rfl | (simp only [World.size_alloc, World.size_setCell, World.size_drew, World.heap_drewN]; done))) | (with_reducible refine Bk.alloc ?_ _) | (with_reducible refine Bk.drew ?_) | (with_reducible refine Bk.drewN ?_ _) | ((with_reducible refine Bk.far ?_ ?_ _); rotate_left; focus (simp only []; omega)) | ((with_reducible refine Bk.below ?_ (by with_reducible assumption) ?_); rotate_left; focus (go_size; done))))
  have b11 : Bk w11 (w.heap.size + 1) 26 [.bool b', .int .u64 y1, .int .u64 y0, .int .i64 s'] := by (repeat (first | (with_reducible assumption) | ((with_reducible refine Bk.new_ ?_); (first | rfl | (simp only [World.size_alloc, World.size_setCell, World.size_drew, World.heap_drewN]; done))) | (with_reducible refine Bk.alloc ?_ _) | (with_reducible refine Bk.drew ?_) | (with_reducible refine Bk.drewN ?_ _) | ((with_reducible refine Bk.far ?_ ?_ _); rotate_left; focus (simp only []; omega)) | ((with_reducible refine Bk.below ?_ (by with_reducible assumption) ?_); rotate_left; focus (go_size; done))))
  have x11 : Bk w11 gx 26 [.bool p0, .int .u64 p1, .int .u64 p2, .int .i64 p3] := by (repeat (first | (with_reducible assumption) | ((with_reducible refine Bk.new_ ?_); (first | rfl | (simp only [World.size_alloc, World.size_setCell, World.size_drew, World.heap_drewN]; done))) | (with_reducible refine Bk.alloc ?_ _) | (with_reducible refine Bk.drew ?_) | (with_reducible refine Bk.drewN ?_ _) | ((with_reducible refine Bk.far ?_ ?_ _); rotate_left; focus (simp only []; omega)) | ((with_reducible refine Bk.below ?_ (by with_reducible assumption) ?_); rotate_left; focus (go_size; done))))
  have y11 : Bk w11 gy 26 [.bool m0, .int .u64 m1, .int .u64 m2, .int .i64 m3] := by (repeat (first | (with_reducible assumption) | ((with_reducible refine Bk.new_ ?_); (first | rfl | (simp only [World.size_alloc, World.size_setCell, World.size_drew, World.heap_drewN]; done))) | (with_reducible refine Bk.alloc ?_ _) | (with_reducible refine Bk.drew ?_) | (with_reducible refine Bk.drewN ?_ _) | ((with_reducible refine Bk.far ?_ ?_ _); rotate_left; focus (simp only []; omega)) | ((with_reducible refine Bk.below ?_ (by with_reducible assumption) ?_); rotate_left; focus (go_size; done))))
  have a11_0 := a11.cell 0 rfl
  have a11_1 := a11.cell 1 rfl
  have a11_2 := a11.cell 2 rfl
  have a11_3 := a11.cell 3 rfl
  have a11_4 := a11.frozen 0
  have a11_5 := a11.frozen 1
  have a11_6 := a11.frozen 2
  have a11_7 := a11.frozen 3
  have a11l := a11.lt
  have b11_0 := b11.cell 0 rfl
  have b11_1 := b11.cell 1 rfl
  have b11_2 := b11.cell 2 rfl
  have b11_3 := b11.cell 3 rfl
  have b11_4 := b11.frozen 0
  have b11_5 := b11.frozen 1
  have b11_6 := b11.frozen 2
  have b11_7 := b11.frozen 3
  have b11l := b11.lt
  have x11_0 := x11.cell 0 rfl
  have x11_1 := x11.cell 1 rfl
  have x11_2 := x11.cell 2 rfl
  have x11_3 := x11.cell 3 rfl
  have x11_4 := x11.frozen 0
  have x11_5 := x11.frozen 1
  have x11_6 := x11.frozen 2
  have x11_7 := x11.frozen 3
  have x11l := x11.lt
  have y11_0 := y11.cell 0 rfl
  have y11_1 := y11.cell 1 rfl
  have y11_2 := y11.cell 2 rfl
  have y11_3 := y11.cell 3 rfl
  have y11_4 := y11.frozen 0
  have y11_5 := y11.frozen 1
  have y11_6 := y11.frozen 2
  have y11_7 := y11.frozen 3
  have y11l := y11.lt
  clear hb11c hb11f
  go_wp2_with fail
  go_ret
  exact ⟨rfl, by (repeat' (first | (with_reducible exact Below.refl _ _) | (with_reducible assumption) | (with_reducible refine Below.drew ?_) | (with_reducible refine below_drewN ?_ _) | ((with_reducible refine Below.alloc ?_ ?_ _); rotate_left; focus (go_size; done)) | ((with_reducible refine Below.setCell ?_ ?_ _); rotate_left; focus (go_size; done)) | ((with_reducible refine Below.trans ?_ (Below.mono (by with_reducible assumption) ?_)); rotate_left; focus (go_size; done))))⟩
theorem walk_DecProducts (b : Bool) (a0 a1 a2 : Int) (h0 : (Lit.int .u64 a0).wf = true) (h1 : (Lit.int .u64 a1).wf = true) (h2 : (Lit.int .i64 a2).wf = true) (b' : Bool) (c0 c1 c2 : Int) (k0 : (Lit.int .u64 c0).wf = true) (k1 : (Lit.int .u64 c1).wf = true) (k2 : (Lit.int .i64 c2).wf = true) (w : World) :
    Calls Try.prog 9 #[.agg #[.bool b, .int .u64 a0, .int .u64 a1, .int .i64 a2], .agg #[.bool b', .int .u64 c0, .int .u64 c1, .int .i64 c2]] w fun e w' => e = .returned (.bool true) ∧ Below w.heap.size w w' := by
  obtain ⟨g0, g1⟩ := wf_word h0
  obtain ⟨g2, g3⟩ := wf_word h1
  obtain ⟨g4, g5⟩ := wf_word k0
  obtain ⟨g6, g7⟩ := wf_word k1
  obtain ⟨n, hn, _, rfl, rfl⟩ := wd_make a0 a1 g0 g1 g2 g3
  obtain ⟨m, hm, _, rfl, rfl⟩ := wd_make c0 c1 g4 g5 g6 g7
  clear g0 g1 g2 g3 g4 g5 g6 g7 h0 h1 k0 k1
  by_cases hab : dform b n a2 = true ∧ dform b' m c2 = true
  · obtain ⟨ha, hb⟩ := hab
    obtain ⟨s, rfl, f1, f2, f3, f4⟩ := (dform_iff _ _ _).1 ha
    obtain ⟨t, rfl, f5, f6, f7, f8⟩ := (dform_iff _ _ _).1 hb
    by_cases hz : m = 0
    · exact prods_walk _ _ _ _ _ _ _ _ _ _ _ _ _ _ _ _ _ _ _ _ _ _ _ (fun W => docmul_ok b n s b' m t ha hb f1 f5 f2 f6 W) (fun W => dmul_ok b n s b' m t ha hb f1 f5 f2 f6 W) (fun W => docdiv_zero2 b n s b' m t ha hb f1 f5 f2 f6 hz W) (fun W => ddiv_zero b n s b' m t ha hb f1 f5 hz W) (fun W => docmod_zero2 b n s b' m t ha hb f1 f5 f2 f6 hz W) (fun W => dmod_zero b n s b' m t ha hb f1 f5 hz W) w
    · exact prods_walk _ _ _ _ _ _ _ _ _ _ _ _ _ _ _ _ _ _ _ _ _ _ _ (fun W => docmul_ok b n s b' m t ha hb f1 f5 f2 f6 W) (fun W => dmul_ok b n s b' m t ha hb f1 f5 f2 f6 W) (fun W => docdiv_ok b n s b' m t ha hb f1 f5 f2 f6 hz W) (fun W => ddiv_ok b n s b' m t ha hb f1 f5 f2 f6 hz W) (fun W => docmod_ok b n s b' m t ha hb f1 f5 f2 f6 hz W) (fun W => dmod_ok b n s b' m t ha hb f1 f5 f2 f6 hz W) w
  · have hf : (dform b n a2 && dform b' m c2) = false := by
      rw [Bool.and_eq_false_iff]
      by_cases ha : dform b n a2 = true
      · right; exact Bool.eq_false_iff.2 fun hb => hab ⟨ha, hb⟩
      · left; exact Bool.eq_false_iff.2 ha
    exact prods_walk _ _ _ _ _ _ _ _ _ _ _ _ _ _ _ _ _ _ _ _ _ _ _ (fun W => docmul_bad b n a2 b' m c2 hn hm hf W) (fun W => dmul_bad b n a2 b' m c2 hn hm hf W) (fun W => docdiv_bad b n a2 b' m c2 hn hm hf W) (fun W => ddiv_bad b n a2 b' m c2 hn hm hf W) (fun W => docmod_bad b n a2 b' m c2 hn hm hf W) (fun W => dmod_bad b n a2 b' m c2 hn hm hf W) w

set_option maxRecDepth 100000 in
theorem lifted_DecProducts (os : Os) (started : os.Started) (H : Type) (enc : TypeId × Value → H) :
    ReturnsInHanded {} Try.checked os 9 .any (Rows.decProductsSpec.pre6 enc Try.prog Try.f9 Rows.decProductsRow.domain false) (Rows.decProductsSpec.post enc Try.prog Try.f9 false true false false) := by
  refine returnsInHanded_of_change (C := Try.checked) own started (by kernel_rfl) Try.func9
    (ChangeSpec.witness6 (enc := enc) (C := Try.checked) false ⟨#[], #[.agg #[.bool false, .int .u64 0, .int .u64 0, .int .i64 0], .agg #[.bool false, .int .u64 0, .int .u64 0, .int .i64 0]], []⟩ 8 (by kernel_rfl) (by kernel_rfl) (by kernel_rfl) (by kernel_rfl)) ?_
  intro W base args ds gs before hval0 hW hcnd _
  have hval : ∀ (j : Nat) t v, Try.f9.params[j]? = some t → args[j]? = some v → Value.okWide Try.prog W .any base t v := hval0
  have hW' := hW
  obtain ⟨p, q, hA0, hV, rfl, hfz, hnd⟩ := hW
  have hA : DataW.TrodAll enc Try.prog W 0 (fun _ => true) true Try.f9.params.toList args.toList ds p := hA0
  rw [Try.params9] at hA hval
  obtain ⟨v0, vs0, d0, ds0, p0, q0, hargs0, rfl, rfl, h0, r0⟩ := trodAll_cons hA
  obtain ⟨v1, vs1, d1, ds1, p1, q1, hargs1, rfl, rfl, h1, r1⟩ := trodAll_cons r0
  obtain ⟨rfl, rfl, rfl⟩ := trodAll_nil r1
  obtain rfl : args = #[v0, v1] := by cases args; simp_all
  obtain ⟨rfl, rfl⟩ := trodVars_none hV
  have k0 := h0
  have lt0 : ∀ x ∈ p0, x.block < W.heap.size := by obtain ⟨m, hm⟩ := k0; exact DataW.trod_lt m _ _ _ hm
  have k1 := h1
  have lt1 : ∀ x ∈ p1, x.block < W.heap.size := by obtain ⟨m, hm⟩ := k1; exact DataW.trod_lt m _ _ _ hm
  obtain ⟨b0, a00, a01, a02, rfl, w00, w01, w02⟩ := open_dec (hval 0 26 v0 rfl rfl) h0
  obtain ⟨b1, a10, a11, a12, rfl, w10, w11, w12⟩ := open_dec (hval 1 26 v1 rfl rfl) h1
  clear hA0 hval0
  refine (walk_DecProducts b0 a00 a01 a02 w00 w01 w02 b1 a10 a11 a12 w10 w11 w12 W).mono fun e W' ⟨he, bel⟩ => ?_
  subst he
  exact ⟨_, rfl, _, _, _, [], _, [], hW', trodAll_mk1 (shut_bool Try.underlying4 _), (trodAll_cons_mk (Below.trod laidOut (by kernel_rfl) (of_decide_eq_true (by kernel_rfl)) k0 bel lt0) (trodAll_cons_mk (Below.trod laidOut (by kernel_rfl) (of_decide_eq_true (by kernel_rfl)) k1 bel lt1) trodAll_mk0)), rfl, bel.frame _, fun h => by cases h⟩

theorem DecProducts_holds : Rows.DecProductsSaid :=
  OpenClaim.holds_of_wide 9 Try.f9 rfl rfl rfl rfl rfl rfl rfl ⟨rfl, rfl, rfl, rfl, rfl⟩ rfl rfl rfl rfl rfl (by kernel_rfl) Try.func9 (by kernel_rfl)
    (of_decide_eq_true (by kernel_rfl)) (by unfold Func.isWrapper; first | (rw [if_pos (by decide +kernel)]; kernel_rfl) | (rw [if_neg (by decide +kernel)]; exact ⟨rfl, rfl⟩))
    (fun os started H enc _ => lifted_DecProducts os started H enc)
#print axioms DecProducts_holds
end Go.Proofs.Ythkgjodidkpaeaa
