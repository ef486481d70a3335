/- DecOrders: for all decimals a, b and c the program's order is that of the difference's sign, sums keep it, the negative turns it round: the law returns true, and what was handed in reads as it did. No condition. -/
import Derived.ProofKit
import Derived.OpenShut
import Derived.ShutString
import Derived.ChangeOld
import Derived.Below
import Derived.Lib.SmallJoins
import Derived.Test.YthkgjodidkpaeaaM2
import Derived.Test.YthkgjodidkpaeaaM3
set_option linter.unusedSimpArgs false
set_option linter.unusedVariables false
namespace Go.Proofs.Ythkgjodidkpaeaa
open Go.RowKit
open Go.ChangeShapes Go.WideShapes Go.ChangeAt
open Go.ChangeMaps (open_string shut_string)
set_option linter.unusedVariables false
theorem own : ownKnob Try.prog.godebug = none := by kernel_rfl
theorem laidOut : laidOutB Try.prog = true := by kernel_rfl

set_option maxRecDepth 100000 in
set_option maxHeartbeats 4000000 in
theorem orders_bad (b : Bool) (x1 x0 s : Int) (b' : Bool) (y1 y0 s' : Int) (t0 : Bool) (t1 t2 t3 : Int) (fa fb : Bool) (hf : (fa && fb) = false)
    (H1 : ∀ W, Calls Try.prog 12 #[.agg #[.bool b, .int .u64 x1, .int .u64 x0, .int .i64 s], .agg #[.bool b', .int .u64 y1, .int .u64 y0, .int .i64 s']] W fun e w' => e = .returned (.tuple #[.int .i64 0, .int .i64 2]) ∧ Below W.heap.size W w')
    (H2 : ∀ W, Calls Try.prog 13 #[.agg #[.bool b, .int .u64 x1, .int .u64 x0, .int .i64 s]] W fun e w' => e = .returned (.bool fa) ∧ Below W.heap.size W w')
    (H3 : ∀ W, Calls Try.prog 13 #[.agg #[.bool b', .int .u64 y1, .int .u64 y0, .int .i64 s']] W fun e w' => e = .returned (.bool fb) ∧ Below W.heap.size W w')
    (w : World) : Calls Try.prog 3 #[.agg #[.bool b, .int .u64 x1, .int .u64 x0, .int .i64 s], .agg #[.bool b', .int .u64 y1, .int .u64 y0, .int .i64 s'], .agg #[.bool t0, .int .u64 t1, .int .u64 t2, .int .i64 t3]] w fun e w' => e = .returned (.bool true) ∧ Below w.heap.size w w' := by
  have K1 := Lib.hid H1
  have K2 := Lib.hid H2
  have K3 := Lib.hid H3
  clear H1 H2 H3
  go_enter Try.func3, Try.ntmps3
  go_wp2_with fail
  refine (known_any _).mono ?_
  rintro _ w1 ⟨rfl, hb1⟩; have hb1s := hb1.size; (try simp only [World.size_alloc, World.size_setCell, World.size_drew, World.heap_drewN] at hb1s); obtain ⟨hb1c, hb1f⟩ := bcell hb1; (try have : w.heap.size < w1.heap.size := by omega); (try have : w.heap.size + 1 < w1.heap.size := by omega); (try have : w.heap.size + 1 + 1 < w1.heap.size := by omega); (try have : w.heap.size + 1 + 1 + 1 < w1.heap.size := by omega)
  have a1 : Bk w1 w.heap.size 26 [.bool b, .int .u64 x1, .int .u64 x0, .int .i64 s] := by (repeat (first | (with_reducible assumption) | ((with_reducible refine Bk.new_ ?_); (first | rfl | (simp only [World.size_alloc, World.size_setCell, World.size_drew, World.heap_drewN]; done))) | (with_reducible refine Bk.alloc ?_ _) | (with_reducible refine Bk.drew ?_) | (with_reducible refine Bk.drewN ?_ _) | ((with_reducible refine Bk.far ?_ ?_ _); rotate_left; focus (simp only []; omega)) | ((with_reducible refine Bk.below ?_ (by with_reducible assumption) ?_); rotate_left; focus (go_size; done))))
  have b1 : Bk w1 (w.heap.size + 1) 26 [.bool b', .int .u64 y1, .int .u64 y0, .int .i64 s'] := by (repeat (first | (with_reducible assumption) | ((with_reducible refine Bk.new_ ?_); (first | rfl | (simp only [World.size_alloc, World.size_setCell, World.size_drew, World.heap_drewN]; done))) | (with_reducible refine Bk.alloc ?_ _) | (with_reducible refine Bk.drew ?_) | (with_reducible refine Bk.drewN ?_ _) | ((with_reducible refine Bk.far ?_ ?_ _); rotate_left; focus (simp only []; omega)) | ((with_reducible refine Bk.below ?_ (by with_reducible assumption) ?_); rotate_left; focus (go_size; done))))
  have c1 : Bk w1 (w.heap.size + 1 + 1) 26 [.bool t0, .int .u64 t1, .int .u64 t2, .int .i64 t3] := by (repeat (first | (with_reducible assumption) | ((with_reducible refine Bk.new_ ?_); (first | rfl | (simp only [World.size_alloc, World.size_setCell, World.size_drew, World.heap_drewN]; done))) | (with_reducible refine Bk.alloc ?_ _) | (with_reducible refine Bk.drew ?_) | (with_reducible refine Bk.drewN ?_ _) | ((with_reducible refine Bk.far ?_ ?_ _); rotate_left; focus (simp only []; omega)) | ((with_reducible refine Bk.below ?_ (by with_reducible assumption) ?_); rotate_left; focus (go_size; done))))
  have a1_0 := a1.cell 0 rfl
  have a1_1 := a1.cell 1 rfl
  have a1_2 := a1.cell 2 rfl
  have a1_3 := a1.cell 3 rfl
  have a1_4 := a1.frozen 0
  have a1_5 := a1.frozen 1
  have a1_6 := a1.frozen 2
  have a1_7 := a1.frozen 3
  have a1l := a1.lt
  have b1_0 := b1.cell 0 rfl
  have b1_1 := b1.cell 1 rfl
  have b1_2 := b1.cell 2 rfl
  have b1_3 := b1.cell 3 rfl
  have b1_4 := b1.frozen 0
  have b1_5 := b1.frozen 1
  have b1_6 := b1.frozen 2
  have b1_7 := b1.frozen 3
  have b1l := b1.lt
  have c1_0 := c1.cell 0 rfl
  have c1_1 := c1.cell 1 rfl
  have c1_2 := c1.cell 2 rfl
  have c1_3 := c1.cell 3 rfl
  have c1_4 := c1.frozen 0
  have c1_5 := c1.frozen 1
  have c1_6 := c1.frozen 2
  have c1_7 := c1.frozen 3
  have c1l := c1.lt
  clear hb1c hb1f
  go_wp2_with fail
  refine (K1.out _).mono ?_
  rintro _ w2 ⟨rfl, hb2⟩; have hb2s := hb2.size; (try simp only [World.size_alloc, World.size_setCell, World.size_drew, World.heap_drewN] at hb2s); obtain ⟨hb2c, hb2f⟩ := bcell hb2; (try have : w.heap.size < w2.heap.size := by omega); (try have : w.heap.size + 1 < w2.heap.size := by omega); (try have : w.heap.size + 1 + 1 < w2.heap.size := by omega); (try have : w.heap.size + 1 + 1 + 1 < w2.heap.size := by omega)
  have a2 : Bk w2 w.heap.size 26 [.bool b, .int .u64 x1, .int .u64 x0, .int .i64 s] := by (repeat (first | (with_reducible assumption) | ((with_reducible refine Bk.new_ ?_); (first | rfl | (simp only [World.size_alloc, World.size_setCell, World.size_drew, World.heap_drewN]; done))) | (with_reducible refine Bk.alloc ?_ _) | (with_reducible refine Bk.drew ?_) | (with_reducible refine Bk.drewN ?_ _) | ((with_reducible refine Bk.far ?_ ?_ _); rotate_left; focus (simp only []; omega)) | ((with_reducible refine Bk.below ?_ (by with_reducible assumption) ?_); rotate_left; focus (go_size; done))))
  have b2 : Bk w2 (w.heap.size + 1) 26 [.bool b', .int .u64 y1, .int .u64 y0, .int .i64 s'] := by (repeat (first | (with_reducible assumption) | ((with_reducible refine Bk.new_ ?_); (first | rfl | (simp only [World.size_alloc, World.size_setCell, World.size_drew, World.heap_drewN]; done))) | (with_reducible refine Bk.alloc ?_ _) | (with_reducible refine Bk.drew ?_) | (with_reducible refine Bk.drewN ?_ _) | ((with_reducible refine Bk.far ?_ ?_ _); rotate_left; focus (simp only []; omega)) | ((with_reducible refine Bk.below ?_ (by with_reducible assumption) ?_); rotate_left; focus (go_size; done))))
  have c2 : Bk w2 (w.heap.size + 1 + 1) 26 [.bool t0, .int .u64 t1, .int .u64 t2, .int .i64 t3] := by (repeat (first | (with_reducible assumption) | ((with_reducible refine Bk.new_ ?_); (first | rfl | (simp only [World.size_alloc, World.size_setCell, World.size_drew, World.heap_drewN]; done))) | (with_reducible refine Bk.alloc ?_ _) | (with_reducible refine Bk.drew ?_) | (with_reducible refine Bk.drewN ?_ _) | ((with_reducible refine Bk.far ?_ ?_ _); rotate_left; focus (simp only []; omega)) | ((with_reducible refine Bk.below ?_ (by with_reducible assumption) ?_); rotate_left; focus (go_size; done))))
  have a2_0 := a2.cell 0 rfl
  have a2_1 := a2.cell 1 rfl
  have a2_2 := a2.cell 2 rfl
  have a2_3 := a2.cell 3 rfl
  have a2_4 := a2.frozen 0
  have a2_5 := a2.frozen 1
  have a2_6 := a2.frozen 2
  have a2_7 := a2.frozen 3
  have a2l := a2.lt
  have b2_0 := b2.cell 0 rfl
  have b2_1 := b2.cell 1 rfl
  have b2_2 := b2.cell 2 rfl
  have b2_3 := b2.cell 3 rfl
  have b2_4 := b2.frozen 0
  have b2_5 := b2.frozen 1
  have b2_6 := b2.frozen 2
  have b2_7 := b2.frozen 3
  have b2l := b2.lt
  have c2_0 := c2.cell 0 rfl
  have c2_1 := c2.cell 1 rfl
  have c2_2 := c2.cell 2 rfl
  have c2_3 := c2.cell 3 rfl
  have c2_4 := c2.frozen 0
  have c2_5 := c2.frozen 1
  have c2_6 := c2.frozen 2
  have c2_7 := c2.frozen 3
  have c2l := c2.lt
  clear hb2c hb2f
  clear a1_0 a1_1 a1_2 a1_3 a1_4 a1_5 a1_6 a1_7
  clear b1_0 b1_1 b1_2 b1_3 b1_4 b1_5 b1_6 b1_7
  clear c1_0 c1_1 c1_2 c1_3 c1_4 c1_5 c1_6 c1_7
  go_wp2_with fail
  refine (K2.out _).mono ?_
  rintro _ w3 ⟨rfl, hb3⟩; have hb3s := hb3.size; (try simp only [World.size_alloc, World.size_setCell, World.size_drew, World.heap_drewN] at hb3s); obtain ⟨hb3c, hb3f⟩ := bcell hb3; (try have : w.heap.size < w3.heap.size := by omega); (try have : w.heap.size + 1 < w3.heap.size := by omega); (try have : w.heap.size + 1 + 1 < w3.heap.size := by omega); (try have : w.heap.size + 1 + 1 + 1 < w3.heap.size := by omega)
  have a3 : Bk w3 w.heap.size 26 [.bool b, .int .u64 x1, .int .u64 x0, .int .i64 s] := by (repeat (first | (with_reducible assumption) | ((with_reducible refine Bk.new_ ?_); (first | rfl | (simp only [World.size_alloc, World.size_setCell, World.size_drew, World.heap_drewN]; done))) | (with_reducible refine Bk.alloc ?_ _) | (with_reducible refine Bk.drew ?_) | (with_reducible refine Bk.drewN ?_ _) | ((with_reducible refine Bk.far ?_ ?_ _); rotate_left; focus (simp only []; omega)) | ((with_reducible refine Bk.below ?_ (by with_reducible assumption) ?_); rotate_left; focus (go_size; done))))
  have b3 : Bk w3 (w.heap.size + 1) 26 [.bool b', .int .u64 y1, .int .u64 y0, .int .i64 s'] := by (repeat (first | (with_reducible assumption) | ((with_reducible refine Bk.new_ ?_); (first | rfl | (simp only [World.size_alloc, World.size_setCell, World.size_drew, World.heap_drewN]; done))) | (with_reducible refine Bk.alloc ?_ _) | (with_reducible refine Bk.drew ?_) | (with_reducible refine Bk.drewN ?_ _) | ((with_reducible refine Bk.far ?_ ?_ _); rotate_left; focus (simp only []; omega)) | ((with_reducible refine Bk.below ?_ (by with_reducible assumption) ?_); rotate_left; focus (go_size; done))))
  have c3 : Bk w3 (w.heap.size + 1 + 1) 26 [.bool t0, .int .u64 t1, .int .u64 t2, .int .i64 t3] := by (repeat (first | (with_reducible assumption) | ((with_reducible refine Bk.new_ ?_); (first | rfl | (simp only [World.size_alloc, World.size_setCell, World.size_drew, World.heap_drewN]; done))) | (with_reducible refine Bk.alloc ?_ _) | (with_reducible refine Bk.drew ?_) | (with_reducible refine Bk.drewN ?_ _) | ((with_reducible refine Bk.far ?_ ?_ _); rotate_left; focus (simp only []; omega)) | ((with_reducible refine Bk.below ?_ (by with_reducible assumption) ?_); rotate_left; focus (go_size; done))))
  have a3_0 := a3.cell 0 rfl
  have a3_1 := a3.cell 1 rfl
  have a3_2 := a3.cell 2 rfl
  have a3_3 := a3.cell 3 rfl
  have a3_4 := a3.frozen 0
  have a3_5 := a3.frozen 1
  have a3_6 := a3.frozen 2
  have a3_7 := a3.frozen 3
  have a3l := a3.lt
  have b3_0 := b3.cell 0 rfl
  have b3_1 := b3.cell 1 rfl
  have b3_2 := b3.cell 2 rfl
  have b3_3 := b3.cell 3 rfl
  have b3_4 := b3.frozen 0
  have b3_5 := b3.frozen 1
  have b3_6 := b3.frozen 2
  have b3_7 := b3.frozen 3
  have b3l := b3.lt
  have c3_0 := c3.cell 0 rfl
  have c3_1 := c3.cell 1 rfl
  have c3_2 := c3.cell 2 rfl
  have c3_3 := c3.cell 3 rfl
  have c3_4 := c3.frozen 0
  have c3_5 := c3.frozen 1
  have c3_6 := c3.frozen 2
  have c3_7 := c3.frozen 3
  have c3l := c3.lt
  clear hb3c hb3f
  clear a2_0 a2_1 a2_2 a2_3 a2_4 a2_5 a2_6 a2_7
  clear b2_0 b2_1 b2_2 b2_3 b2_4 b2_5 b2_6 b2_7
  clear c2_0 c2_1 c2_2 c2_3 c2_4 c2_5 c2_6 c2_7
  cases fa
  · go_wp2_with fail
    go_ret
    exact ⟨rfl, by (repeat' (first | (with_reducible exact Below.refl _ _) | (with_reducible assumption) | (with_reducible refine Below.drew ?_) | (with_reducible refine below_drewN ?_ _) | ((with_reducible refine Below.alloc ?_ ?_ _); rotate_left; focus (go_size; done)) | ((with_reducible refine Below.setCell ?_ ?_ _); rotate_left; focus (go_size; done)) | ((with_reducible refine Below.trans ?_ (Below.mono (by with_reducible assumption) ?_)); rotate_left; focus (go_size; done))))⟩
  · obtain rfl : fb = false := by simpa using hf
    go_wp2_with fail
    refine (K3.out _).mono ?_
    rintro _ w4 ⟨rfl, hb4⟩; have hb4s := hb4.size; (try simp only [World.size_alloc, World.size_setCell, World.size_drew, World.heap_drewN] at hb4s); obtain ⟨hb4c, hb4f⟩ := bcell hb4; (try have : w.heap.size < w4.heap.size := by omega); (try have : w.heap.size + 1 < w4.heap.size := by omega); (try have : w.heap.size + 1 + 1 < w4.heap.size := by omega); (try have : w.heap.size + 1 + 1 + 1 < w4.heap.size := by omega)
    go_wp2_with fail
    go_ret
    exact ⟨rfl, by (repeat' (first | (with_reducible exact Below.refl _ _) | (with_reducible assumption) | (with_reducible refine Below.drew ?_) | (with_reducible refine below_drewN ?_ _) | ((with_reducible refine Below.alloc ?_ ?_ _); rotate_left; focus (go_size; done)) | ((with_reducible refine Below.setCell ?_ ?_ _); rotate_left; focus (go_size; done)) | ((with_reducible refine Below.trans ?_ (Below.mono (by with_reducible assumption) ?_)); rotate_left; focus (go_size; done))))⟩
set_option maxRecDepth 100000 in
set_option maxHeartbeats 8000000 in
theorem orders_ok (b : Bool) (x1 x0 s : Int) (b' : Bool) (y1 y0 s' : Int) (t0 : Bool) (t1 t2 t3 : Int) (o : Int) (ho1 : -1 ≤ o) (ho2 : o ≤ 1) (n0 : Bool) (n1 n2 n3 : Int) (m0 : Bool) (m1 m2 m3 : Int) (fc : Bool) (p0 : Bool) (p1 p2 p3 e4 : Int) (q0 : Bool) (q1 q2 q3 e5 : Int) (s6 : Int)
    (H1 : ∀ W, Calls Try.prog 12 #[.agg #[.bool b, .int .u64 x1, .int .u64 x0, .int .i64 s], .agg #[.bool b', .int .u64 y1, .int .u64 y0, .int .i64 s']] W fun e w' => e = .returned (.tuple #[.int .i64 o, .int .i64 0]) ∧ Below W.heap.size W w')
    (H2 : ∀ W, Calls Try.prog 13 #[.agg #[.bool b, .int .u64 x1, .int .u64 x0, .int .i64 s]] W fun e w' => e = .returned (.bool true) ∧ Below W.heap.size W w')
    (H3 : ∀ W, Calls Try.prog 13 #[.agg #[.bool b', .int .u64 y1, .int .u64 y0, .int .i64 s']] W fun e w' => e = .returned (.bool true) ∧ Below W.heap.size W w')
    (H4 : ∀ W, Calls Try.prog 12 #[.agg #[.bool b', .int .u64 y1, .int .u64 y0, .int .i64 s'], .agg #[.bool b, .int .u64 x1, .int .u64 x0, .int .i64 s]] W fun e w' => e = .returned (.tuple #[.int .i64 (-o), .int .i64 0]) ∧ Below W.heap.size W w')
    (H5 : ∀ W, Calls Try.prog 14 #[.agg #[.bool b, .int .u64 x1, .int .u64 x0, .int .i64 s]] W fun e w' => e = .returned (.tuple #[.agg #[.bool n0, .int .u64 n1, .int .u64 n2, .int .i64 n3], .int .i64 0]) ∧ Below W.heap.size W w')
    (H6 : ∀ W, Calls Try.prog 14 #[.agg #[.bool b', .int .u64 y1, .int .u64 y0, .int .i64 s']] W fun e w' => e = .returned (.tuple #[.agg #[.bool m0, .int .u64 m1, .int .u64 m2, .int .i64 m3], .int .i64 0]) ∧ Below W.heap.size W w')
    (H7 : ∀ W, Calls Try.prog 12 #[.agg #[.bool m0, .int .u64 m1, .int .u64 m2, .int .i64 m3], .agg #[.bool n0, .int .u64 n1, .int .u64 n2, .int .i64 n3]] W fun e w' => e = .returned (.tuple #[.int .i64 o, .int .i64 0]) ∧ Below W.heap.size W w')
    (r0 : ∀ W, (binOp .eql 26 (.agg #[.bool b, .int .u64 x1, .int .u64 x0, .int .i64 s]) (.agg #[.bool b', .int .u64 y1, .int .u64 y0, .int .i64 s'])).run Try.prog W = .ok (.bool (o == 0)) W)
    (H8 : ∀ W, Calls Try.prog 13 #[.agg #[.bool t0, .int .u64 t1, .int .u64 t2, .int .i64 t3]] W fun e w' => e = .returned (.bool fc) ∧ Below W.heap.size W w')
    (H9 : fc = true → ∀ W, Calls Try.prog 15 #[.agg #[.bool b, .int .u64 x1, .int .u64 x0, .int .i64 s], .agg #[.bool t0, .int .u64 t1, .int .u64 t2, .int .i64 t3]] W fun e w' => e = .returned (.tuple #[.agg #[.bool p0, .int .u64 p1, .int .u64 p2, .int .i64 p3], .int .i64 e4]) ∧ Below W.heap.size W w')
    (H10 : fc = true → ∀ W, Calls Try.prog 15 #[.agg #[.bool b', .int .u64 y1, .int .u64 y0, .int .i64 s'], .agg #[.bool t0, .int .u64 t1, .int .u64 t2, .int .i64 t3]] W fun e w' => e = .returned (.tuple #[.agg #[.bool q0, .int .u64 q1, .int .u64 q2, .int .i64 q3], .int .i64 e5]) ∧ Below W.heap.size W w')
    (he4 : fc = true → e4 = 0 ∨ e4 = 3) (he5 : fc = true → e5 = 0 ∨ e5 = 3)
    (H11 : fc = true → e4 = 0 → e5 = 0 → (s6 = 0 ∨ s6 = o) ∧ ∀ W, Calls Try.prog 12 #[.agg #[.bool p0, .int .u64 p1, .int .u64 p2, .int .i64 p3], .agg #[.bool q0, .int .u64 q1, .int .u64 q2, .int .i64 q3]] W fun e w' => e = .returned (.tuple #[.int .i64 s6, .int .i64 0]) ∧ Below W.heap.size W w')
    (w : World) : Calls Try.prog 3 #[.agg #[.bool b, .int .u64 x1, .int .u64 x0, .int .i64 s], .agg #[.bool b', .int .u64 y1, .int .u64 y0, .int .i64 s'], .agg #[.bool t0, .int .u64 t1, .int .u64 t2, .int .i64 t3]] w fun e w' => e = .returned (.bool true) ∧ Below w.heap.size w w' := by
  have K1 := Lib.hid H1
  have K2 := Lib.hid H2
  have K3 := Lib.hid H3
  have K4 := Lib.hid H4
  have K5 := Lib.hid H5
  have K6 := Lib.hid H6
  have K7 := Lib.hid H7
  have K8 := Lib.hid H8
  have K9 := Lib.hid H9
  have K10 := Lib.hid H10
  have K11 := Lib.hid H11
  have E4 := Lib.hid he4
  have E5 := Lib.hid he5
  clear H1 H2 H3 H4 H5 H6 H7 H8 H9 H10 H11 he4 he5
  go_enter Try.func3, Try.ntmps3
  go_wp2_with fail
  refine (known_any _).mono ?_
  rintro _ w1 ⟨rfl, hb1⟩; have hb1s := hb1.size; (try simp only [World.size_alloc, World.size_setCell, World.size_drew, World.heap_drewN] at hb1s); obtain ⟨hb1c, hb1f⟩ := bcell hb1; (try have : w.heap.size < w1.heap.size := by omega); (try have : w.heap.size + 1 < w1.heap.size := by omega); (try have : w.heap.size + 1 + 1 < w1.heap.size := by omega); (try have : w.heap.size + 1 + 1 + 1 < w1.heap.size := by omega)
  have a1 : Bk w1 w.heap.size 26 [.bool b, .int .u64 x1, .int .u64 x0, .int .i64 s] := by (repeat (first | (with_reducible assumption) | ((with_reducible refine Bk.new_ ?_); (first | rfl | (simp only [World.size_alloc, World.size_setCell, World.size_drew, World.heap_drewN]; done))) | (with_reducible refine Bk.alloc ?_ _) | (with_reducible refine Bk.drew ?_) | (with_reducible refine Bk.drewN ?_ _) | ((with_reducible refine Bk.far ?_ ?_ _); rotate_left; focus (simp only []; omega)) | ((with_reducible refine Bk.below ?_ (by with_reducible assumption) ?_); rotate_left; focus (go_size; done))))
  have b1 : Bk w1 (w.heap.size + 1) 26 [.bool b', .int .u64 y1, .int .u64 y0, .int .i64 s'] := by (repeat (first | (with_reducible assumption) | ((with_reducible refine Bk.new_ ?_); (first | rfl | (simp only [World.size_alloc, World.size_setCell, World.size_drew, World.heap_drewN]; done))) | (with_reducible refine Bk.alloc ?_ _) | (with_reducible refine Bk.drew ?_) | (with_reducible refine Bk.drewN ?_ _) | ((with_reducible refine Bk.far ?_ ?_ _); rotate_left; focus (simp only []; omega)) | ((with_reducible refine Bk.below ?_ (by with_reducible assumption) ?_); rotate_left; focus (go_size; done))))
  have c1 : Bk w1 (w.heap.size + 1 + 1) 26 [.bool t0, .int .u64 t1, .int .u64 t2, .int .i64 t3] := by (repeat (first | (with_reducible assumption) | ((with_reducible refine Bk.new_ ?_); (first | rfl | (simp only [World.size_alloc, World.size_setCell, World.size_drew, World.heap_drewN]; done))) | (with_reducible refine Bk.alloc ?_ _) | (with_reducible refine Bk.drew ?_) | (with_reducible refine Bk.drewN ?_ _) | ((with_reducible refine Bk.far ?_ ?_ _); rotate_left; focus (simp only []; omega)) | ((with_reducible refine Bk.below ?_ (by with_reducible assumption) ?_); rotate_left; focus (go_size; done))))
  have a1_0 := a1.cell 0 rfl
  have a1_1 := a1.cell 1 rfl
  have a1_2 := a1.cell 2 rfl
  have a1_3 := a1.cell 3 rfl
  have a1_4 := a1.frozen 0
  have a1_5 := a1.frozen 1
  have a1_6 := a1.frozen 2
  have a1_7 := a1.frozen 3
  have a1l := a1.lt
  have b1_0 := b1.cell 0 rfl
  have b1_1 := b1.cell 1 rfl
  have b1_2 := b1.cell 2 rfl
  have b1_3 := b1.cell 3 rfl
  have b1_4 := b1.frozen 0
  have b1_5 := b1.frozen 1
  have b1_6 := b1.frozen 2
  have b1_7 := b1.frozen 3
  have b1l := b1.lt
  have c1_0 := c1.cell 0 rfl
  have c1_1 := c1.cell 1 rfl
  have c1_2 := c1.cell 2 rfl
  have c1_3 := c1.cell 3 rfl
  have c1_4 := c1.frozen 0
  have c1_5 := c1.frozen 1
  have c1_6 := c1.frozen 2
  have c1_7 := c1.frozen 3
  have c1l := c1.lt
  clear hb1c hb1f
  go_wp2_with fail
  refine (K1.out _).mono ?_
  rintro _ w2 ⟨rfl, hb2⟩; have hb2s := hb2.size; (try simp only [World.size_alloc, World.size_setCell, World.size_drew, World.heap_drewN] at hb2s); obtain ⟨hb2c, hb2f⟩ := bcell hb2; (try have : w.heap.size < w2.heap.size := by omega); (try have : w.heap.size + 1 < w2.heap.size := by omega); (try have : w.heap.size + 1 + 1 < w2.heap.size := by omega); (try have : w.heap.size + 1 + 1 + 1 < w2.heap.size := by omega)
  have a2 : Bk w2 w.heap.size 26 [.bool b, .int .u64 x1, .int .u64 x0, .int .i64 s] := by (repeat (first | (with_reducible assumption) | ((with_reducible refine Bk.new_ ?_); (first | rfl | (simp only [World.size_alloc, World.size_setCell, World.size_drew, World.heap_drewN]; done))) | (with_reducible refine Bk.alloc ?_ _) | (with_reducible refine Bk.drew ?_) | (with_reducible refine Bk.drewN ?_ _) | ((with_reducible refine Bk.far ?_ ?_ _); rotate_left; focus (simp only []; omega)) | ((with_reducible refine Bk.below ?_ (by with_reducible assumption) ?_); rotate_left; focus (go_size; done))))
  have b2 : Bk w2 (w.heap.size + 1) 26 [.bool b', .int .u64 y1, .int .u64 y0, .int .i64 s'] := by (repeat (first | (with_reducible assumption) | ((with_reducible refine Bk.new_ ?_); (first | rfl | (simp only [World.size_alloc, World.size_setCell, World.size_drew, World.heap_drewN]; done))) | (with_reducible refine Bk.alloc ?_ _) | (with_reducible refine Bk.drew ?_) | (with_reducible refine Bk.drewN ?_ _) | ((with_reducible refine Bk.far ?_ ?_ _); rotate_left; focus (simp only []; omega)) | ((with_reducible refine Bk.below ?_ (by with_reducible assumption) ?_); rotate_left; focus (go_size; done))))
  have c2 : Bk w2 (w.heap.size + 1 + 1) 26 [.bool t0, .int .u64 t1, .int .u64 t2, .int .i64 t3] := by (repeat (first | (with_reducible assumption) | ((with_reducible refine Bk.new_ ?_); (first | rfl | (simp only [World.size_alloc, World.size_setCell, World.size_drew, World.heap_drewN]; done))) | (with_reducible refine Bk.alloc ?_ _) | (with_reducible refine Bk.drew ?_) | (with_reducible refine Bk.drewN ?_ _) | ((with_reducible refine Bk.far ?_ ?_ _); rotate_left; focus (simp only []; omega)) | ((with_reducible refine Bk.below ?_ (by with_reducible assumption) ?_); rotate_left; focus (go_size; done))))
  have a2_0 := a2.cell 0 rfl
  have a2_1 := a2.cell 1 rfl
  have a2_2 := a2.cell 2 rfl
  have a2_3 := a2.cell 3 rfl
  have a2_4 := a2.frozen 0
  have a2_5 := a2.frozen 1
  have a2_6 := a2.frozen 2
  have a2_7 := a2.frozen 3
  have a2l := a2.lt
  have b2_0 := b2.cell 0 rfl
  have b2_1 := b2.cell 1 rfl
  have b2_2 := b2.cell 2 rfl
  have b2_3 := b2.cell 3 rfl
  have b2_4 := b2.frozen 0
  have b2_5 := b2.frozen 1
  have b2_6 := b2.frozen 2
  have b2_7 := b2.frozen 3
  have b2l := b2.lt
  have c2_0 := c2.cell 0 rfl
  have c2_1 := c2.cell 1 rfl
  have c2_2 := c2.cell 2 rfl
  have c2_3 := c2.cell 3 rfl
  have c2_4 := c2.frozen 0
  have c2_5 := c2.frozen 1
  have c2_6 := c2.frozen 2
  have c2_7 := c2.frozen 3
  have c2l := c2.lt
  clear hb2c hb2f
  clear a1_0 a1_1 a1_2 a1_3 a1_4 a1_5 a1_6 a1_7
  clear b1_0 b1_1 b1_2 b1_3 b1_4 b1_5 b1_6 b1_7
  clear c1_0 c1_1 c1_2 c1_3 c1_4 c1_5 c1_6 c1_7
  go_wp2_with fail
  refine (K2.out _).mono ?_
  rintro _ w3 ⟨rfl, hb3⟩; have hb3s := hb3.size; (try simp only [World.size_alloc, World.size_setCell, World.size_drew, World.heap_drewN] at hb3s); obtain ⟨hb3c, hb3f⟩ := bcell hb3; (try have : w.heap.size < w3.heap.size := by omega); (try have : w.heap.size + 1 < w3.heap.size := by omega); (try have : w.heap.size + 1 + 1 < w3.heap.size := by omega); (try have : w.heap.size + 1 + 1 + 1 < w3.heap.size := by omega)
  have a3 : Bk w3 w.heap.size 26 [.bool b, .int .u64 x1, .int .u64 x0, .int .i64 s] := by (repeat (first | (with_reducible assumption) | ((with_reducible refine Bk.new_ ?_); (first | rfl | (simp only [World.size_alloc, World.size_setCell, World.size_drew, World.heap_drewN]; done))) | (with_reducible refine Bk.alloc ?_ _) | (with_reducible refine Bk.drew ?_) | (with_reducible refine Bk.drewN ?_ _) | ((with_reducible refine Bk.far ?_ ?_ _); rotate_left; focus (simp only []; omega)) | ((with_reducible refine Bk.below ?_ (by with_reducible assumption) ?_); rotate_left; focus (go_size; done))))
  have b3 : Bk w3 (w.heap.size + 1) 26 [.bool b', .int .u64 y1, .int .u64 y0, .int .i64 s'] := by (repeat (first | (with_reducible assumption) | ((with_reducible refine Bk.new_ ?_); (first | rfl | (simp only [World.size_alloc, World.size_setCell, World.size_drew, World.heap_drewN]; done))) | (with_reducible refine Bk.alloc ?_ _) | (with_reducible refine Bk.drew ?_) | (with_reducible refine Bk.drewN ?_ _) | ((with_reducible refine Bk.far ?_ ?_ _); rotate_left; focus (simp only []; omega)) | ((with_reducible refine Bk.below ?_ (by with_reducible assumption) ?_); rotate_left; focus (go_size; done))))
  have c3 : Bk w3 (w.heap.size + 1 + 1) 26 [.bool t0, .int .u64 t1, .int .u64 t2, .int .i64 t3] := by (repeat (first | (with_reducible assumption) | ((with_reducible refine Bk.new_ ?_); (first | rfl | (simp only [World.size_alloc, World.size_setCell, World.size_drew, World.heap_drewN]; done))) | (with_reducible refine Bk.alloc ?_ _) | (with_reducible refine Bk.drew ?_) | (with_reducible refine Bk.drewN ?_ _) | ((with_reducible refine Bk.far ?_ ?_ _); rotate_left; focus (simp only []; omega)) | ((with_reducible refine Bk.below ?_ (by with_reducible assumption) ?_); rotate_left; focus (go_size; done))))
  have a3_0 := a3.cell 0 rfl
  have a3_1 := a3.cell 1 rfl
  have a3_2 := a3.cell 2 rfl
  have a3_3 := a3.cell 3 rfl
  have a3_4 := a3.frozen 0
  have a3_5 := a3.frozen 1
  have a3_6 := a3.frozen 2
  have a3_7 := a3.frozen 3
  have a3l := a3.lt
  have b3_0 := b3.cell 0 rfl
  have b3_1 := b3.cell 1 rfl
  have b3_2 := b3.cell 2 rfl
  have b3_3 := b3.cell 3 rfl
  have b3_4 := b3.frozen 0
  have b3_5 := b3.frozen 1
  have b3_6 := b3.frozen 2
  have b3_7 := b3.frozen 3
  have b3l := b3.lt
  have c3_0 := c3.cell 0 rfl
  have c3_1 := c3.cell 1 rfl
  have c3_2 := c3.cell 2 rfl
  have c3_3 := c3.cell 3 rfl
  have c3_4 := c3.frozen 0
  have c3_5 := c3.frozen 1
  have c3_6 := c3.frozen 2
  have c3_7 := c3.frozen 3
  have c3l := c3.lt
  clear hb3c hb3f
  clear a2_0 a2_1 a2_2 a2_3 a2_4 a2_5 a2_6 a2_7
  clear b2_0 b2_1 b2_2 b2_3 b2_4 b2_5 b2_6 b2_7
  clear c2_0 c2_1 c2_2 c2_3 c2_4 c2_5 c2_6 c2_7
  go_wp2_with fail
  refine (K3.out _).mono ?_
  rintro _ w4 ⟨rfl, hb4⟩; have hb4s := hb4.size; (try simp only [World.size_alloc, World.size_setCell, World.size_drew, World.heap_drewN] at hb4s); obtain ⟨hb4c, hb4f⟩ := bcell hb4; (try have : w.heap.size < w4.heap.size := by omega); (try have : w.heap.size + 1 < w4.heap.size := by omega); (try have : w.heap.size + 1 + 1 < w4.heap.size := by omega); (try have : w.heap.size + 1 + 1 + 1 < w4.heap.size := by omega)
  have a4 : Bk w4 w.heap.size 26 [.bool b, .int .u64 x1, .int .u64 x0, .int .i64 s] := by (repeat (first | (with_reducible assumption) | ((with_reducible refine Bk.new_ ?_); (first | rfl | (simp only [World.size_alloc, World.size_setCell, World.size_drew, World.heap_drewN]; done))) | (with_reducible refine Bk.alloc ?_ _) | (with_reducible refine Bk.drew ?_) | (with_reducible refine Bk.drewN ?_ _) | ((with_reducible refine Bk.far ?_ ?_ _); rotate_left; focus (simp only []; omega)) | ((with_reducible refine Bk.below ?_ (by with_reducible assumption) ?_); rotate_left; focus (go_size; done))))
  have b4 : Bk w4 (w.heap.size + 1) 26 [.bool b', .int .u64 y1, .int .u64 y0, .int .i64 s'] := by (repeat (first | (with_reducible assumption) | ((with_reducible refine Bk.new_ ?_); (first | rfl | (simp only [World.size_alloc, World.size_setCell, World.size_drew, World.heap_drewN]; done))) | (with_reducible refine Bk.alloc ?_ _) | (with_reducible refine Bk.drew ?_) | (with_reducible refine Bk.drewN ?_ _) | ((with_reducible refine Bk.far ?_ ?_ _); rotate_left; focus (simp only []; omega)) | ((with_reducible refine Bk.below ?_ (by with_reducible assumption) ?_); rotate_left; focus (go_size; done))))
  have c4 : Bk w4 (w.heap.size + 1 + 1) 26 [.bool t0, .int .u64 t1, .int .u64 t2, .int .i64 t3] := by (repeat (first | (with_reducible assumption) | ((with_reducible refine Bk.new_ ?_); (first | rfl | (simp only [World.size_alloc, World.size_setCell, World.size_drew, World.heap_drewN]; done))) | (with_reducible refine Bk.alloc ?_ _) | (with_reducible refine Bk.drew ?_) | (with_reducible refine Bk.drewN ?_ _) | ((with_reducible refine Bk.far ?_ ?_ _); rotate_left; focus (simp only []; omega)) | ((with_reducible refine Bk.below ?_ (by with_reducible assumption) ?_); rotate_left; focus (go_size; done))))
  have a4_0 := a4.cell 0 rfl
  have a4_1 := a4.cell 1 rfl
  have a4_2 := a4.cell 2 rfl
  have a4_3 := a4.cell 3 rfl
  have a4_4 := a4.frozen 0
  have a4_5 := a4.frozen 1
  have a4_6 := a4.frozen 2
  have a4_7 := a4.frozen 3
  have a4l := a4.lt
  have b4_0 := b4.cell 0 rfl
  have b4_1 := b4.cell 1 rfl
  have b4_2 := b4.cell 2 rfl
  have b4_3 := b4.cell 3 rfl
  have b4_4 := b4.frozen 0
  have b4_5 := b4.frozen 1
  have b4_6 := b4.frozen 2
  have b4_7 := b4.frozen 3
  have b4l := b4.lt
  have c4_0 := c4.cell 0 rfl
  have c4_1 := c4.cell 1 rfl
  have c4_2 := c4.cell 2 rfl
  have c4_3 := c4.cell 3 rfl
  have c4_4 := c4.frozen 0
  have c4_5 := c4.frozen 1
  have c4_6 := c4.frozen 2
  have c4_7 := c4.frozen 3
  have c4l := c4.lt
  clear hb4c hb4f
  clear a3_0 a3_1 a3_2 a3_3 a3_4 a3_5 a3_6 a3_7
  clear b3_0 b3_1 b3_2 b3_3 b3_4 b3_5 b3_6 b3_7
  clear c3_0 c3_1 c3_2 c3_3 c3_4 c3_5 c3_6 c3_7
  go_wp2_with fail
  refine (K4.out _).mono ?_
  rintro _ w5 ⟨rfl, hb5⟩; have hb5s := hb5.size; (try simp only [World.size_alloc, World.size_setCell, World.size_drew, World.heap_drewN] at hb5s); obtain ⟨hb5c, hb5f⟩ := bcell hb5; (try have : w.heap.size < w5.heap.size := by omega); (try have : w.heap.size + 1 < w5.heap.size := by omega); (try have : w.heap.size + 1 + 1 < w5.heap.size := by omega); (try have : w.heap.size + 1 + 1 + 1 < w5.heap.size := by omega)
  have a5 : Bk w5 w.heap.size 26 [.bool b, .int .u64 x1, .int .u64 x0, .int .i64 s] := by (repeat (first | (with_reducible assumption) | ((with_reducible refine Bk.new_ ?_); (first | rfl | (simp only [World.size_alloc, World.size_setCell, World.size_drew, World.heap_drewN]; done))) | (with_reducible refine Bk.alloc ?_ _) | (with_reducible refine Bk.drew ?_) | (with_reducible refine Bk.drewN ?_ _) | ((with_reducible refine Bk.far ?_ ?_ _); rotate_left; focus (simp only []; omega)) | ((with_reducible refine Bk.below ?_ (by with_reducible assumption) ?_); rotate_left; focus (go_size; done))))
  have b5 : Bk w5 (w.heap.size + 1) 26 [.bool b', .int .u64 y1, .int .u64 y0, .int .i64 s'] := by (repeat (first | (with_reducible assumption) | ((with_reducible refine Bk.new_ ?_); (first | rfl | (simp only [World.size_alloc, World.size_setCell, World.size_drew, World.heap_drewN]; done))) | (with_reducible refine Bk.alloc ?_ _) | (with_reducible refine Bk.drew ?_) | (with_reducible refine Bk.drewN ?_ _) | ((with_reducible refine Bk.far ?_ ?_ _); rotate_left; focus (simp only []; omega)) | ((with_reducible refine Bk.below ?_ (by with_reducible assumption) ?_); rotate_left; focus (go_size; done))))
  have c5 : Bk w5 (w.heap.size + 1 + 1) 26 [.bool t0, .int .u64 t1, .int .u64 t2, .int .i64 t3] := by (repeat (first | (with_reducible assumption) | ((with_reducible refine Bk.new_ ?_); (first | rfl | (simp only [World.size_alloc, World.size_setCell, World.size_drew, World.heap_drewN]; done))) | (with_reducible refine Bk.alloc ?_ _) | (with_reducible refine Bk.drew ?_) | (with_reducible refine Bk.drewN ?_ _) | ((with_reducible refine Bk.far ?_ ?_ _); rotate_left; focus (simp only []; omega)) | ((with_reducible refine Bk.below ?_ (by with_reducible assumption) ?_); rotate_left; focus (go_size; done))))
  have a5_0 := a5.cell 0 rfl
  have a5_1 := a5.cell 1 rfl
  have a5_2 := a5.cell 2 rfl
  have a5_3 := a5.cell 3 rfl
  have a5_4 := a5.frozen 0
  have a5_5 := a5.frozen 1
  have a5_6 := a5.frozen 2
  have a5_7 := a5.frozen 3
  have a5l := a5.lt
  have b5_0 := b5.cell 0 rfl
  have b5_1 := b5.cell 1 rfl
  have b5_2 := b5.cell 2 rfl
  have b5_3 := b5.cell 3 rfl
  have b5_4 := b5.frozen 0
  have b5_5 := b5.frozen 1
  have b5_6 := b5.frozen 2
  have b5_7 := b5.frozen 3
  have b5l := b5.lt
  have c5_0 := c5.cell 0 rfl
  have c5_1 := c5.cell 1 rfl
  have c5_2 := c5.cell 2 rfl
  have c5_3 := c5.cell 3 rfl
  have c5_4 := c5.frozen 0
  have c5_5 := c5.frozen 1
  have c5_6 := c5.frozen 2
  have c5_7 := c5.frozen 3
  have c5l := c5.lt
  clear hb5c hb5f
  clear a4_0 a4_1 a4_2 a4_3 a4_4 a4_5 a4_6 a4_7
  clear b4_0 b4_1 b4_2 b4_3 b4_4 b4_5 b4_6 b4_7
  clear c4_0 c4_1 c4_2 c4_3 c4_4 c4_5 c4_6 c4_7
  go_wp2_with fail
  refine (K5.out _).mono ?_
  rintro _ w6 ⟨rfl, hb6⟩; have hb6s := hb6.size; (try simp only [World.size_alloc, World.size_setCell, World.size_drew, World.heap_drewN] at hb6s); obtain ⟨hb6c, hb6f⟩ := bcell hb6; (try have : w.heap.size < w6.heap.size := by omega); (try have : w.heap.size + 1 < w6.heap.size := by omega); (try have : w.heap.size + 1 + 1 < w6.heap.size := by omega); (try have : w.heap.size + 1 + 1 + 1 < w6.heap.size := by omega)
  have a6 : Bk w6 w.heap.size 26 [.bool b, .int .u64 x1, .int .u64 x0, .int .i64 s] := by (repeat (first | (with_reducible assumption) | ((with_reducible refine Bk.new_ ?_); (first | rfl | (simp only [World.size_alloc, World.size_setCell, World.size_drew, World.heap_drewN]; done))) | (with_reducible refine Bk.alloc ?_ _) | (with_reducible refine Bk.drew ?_) | (with_reducible refine Bk.drewN ?_ _) | ((with_reducible refine Bk.far ?_ ?_ _); rotate_left; focus (simp only []; omega)) | ((with_reducible refine Bk.below ?_ (by with_reducible assumption) ?_); rotate_left; focus (go_size; done))))
  have b6 : Bk w6 (w.heap.size + 1) 26 [.bool b', .int .u64 y1, .int .u64 y0, .int .i64 s'] := by (repeat (first | (with_reducible assumption) | ((with_reducible refine Bk.new_ ?_); (first | rfl | (simp only [World.size_alloc, World.size_setCell, World.size_drew, World.heap_drewN]; done))) | (with_reducible refine Bk.alloc ?_ _) | (with_reducible refine Bk.drew ?_) | (with_reducible refine Bk.drewN ?_ _) | ((with_reducible refine Bk.far ?_ ?_ _); rotate_left; focus (simp only []; omega)) | ((with_reducible refine Bk.below ?_ (by with_reducible assumption) ?_); rotate_left; focus (go_size; done))))
  have c6 : Bk w6 (w.heap.size + 1 + 1) 26 [.bool t0, .int .u64 t1, .int .u64 t2, .int .i64 t3] := by (repeat (first | (with_reducible assumption) | ((with_reducible refine Bk.new_ ?_); (first | rfl | (simp only [World.size_alloc, World.size_setCell, World.size_drew, World.heap_drewN]; done))) | (with_reducible refine Bk.alloc ?_ _) | (with_reducible refine Bk.drew ?_) | (with_reducible refine Bk.drewN ?_ _) | ((with_reducible refine Bk.far ?_ ?_ _); rotate_left; focus (simp only []; omega)) | ((with_reducible refine Bk.below ?_ (by with_reducible assumption) ?_); rotate_left; focus (go_size; done))))
  have a6_0 := a6.cell 0 rfl
  have a6_1 := a6.cell 1 rfl
  have a6_2 := a6.cell 2 rfl
  have a6_3 := a6.cell 3 rfl
  have a6_4 := a6.frozen 0
  have a6_5 := a6.frozen 1
  have a6_6 := a6.frozen 2
  have a6_7 := a6.frozen 3
  have a6l := a6.lt
  have b6_0 := b6.cell 0 rfl
  have b6_1 := b6.cell 1 rfl
  have b6_2 := b6.cell 2 rfl
  have b6_3 := b6.cell 3 rfl
  have b6_4 := b6.frozen 0
  have b6_5 := b6.frozen 1
  have b6_6 := b6.frozen 2
  have b6_7 := b6.frozen 3
  have b6l := b6.lt
  have c6_0 := c6.cell 0 rfl
  have c6_1 := c6.cell 1 rfl
  have c6_2 := c6.cell 2 rfl
  have c6_3 := c6.cell 3 rfl
  have c6_4 := c6.frozen 0
  have c6_5 := c6.frozen 1
  have c6_6 := c6.frozen 2
  have c6_7 := c6.frozen 3
  have c6l := c6.lt
  clear hb6c hb6f
  clear a5_0 a5_1 a5_2 a5_3 a5_4 a5_5 a5_6 a5_7
  clear b5_0 b5_1 b5_2 b5_3 b5_4 b5_5 b5_6 b5_7
  clear c5_0 c5_1 c5_2 c5_3 c5_4 c5_5 c5_6 c5_7
  go_wp2_with fail
  refine (K6.out _).mono ?_
  rintro _ w7 ⟨rfl, hb7⟩; have hb7s := hb7.size; (try simp only [World.size_alloc, World.size_setCell, World.size_drew, World.heap_drewN] at hb7s); obtain ⟨hb7c, hb7f⟩ := bcell hb7; (try have : w.heap.size < w7.heap.size := by omega); (try have : w.heap.size + 1 < w7.heap.size := by omega); (try have : w.heap.size + 1 + 1 < w7.heap.size := by omega); (try have : w.heap.size + 1 + 1 + 1 < w7.heap.size := by omega)
  have a7 : Bk w7 w.heap.size 26 [.bool b, .int .u64 x1, .int .u64 x0, .int .i64 s] := by (repeat (first | (with_reducible assumption) | ((with_reducible refine Bk.new_ ?_); (first | rfl | (simp only [World.size_alloc, World.size_setCell, World.size_drew, World.heap_drewN]; done))) | (with_reducible refine Bk.alloc ?_ _) | (with_reducible refine Bk.drew ?_) | (with_reducible refine Bk.drewN ?_ _) | ((with_reducible refine Bk.far ?_ ?_ _); rotate_left; focus (simp only []; omega)) | ((with_reducible refine Bk.below ?_ (by with_reducible assumption) ?_); rotate_left; focus (go_size; done))))
  have b7 : Bk w7 (w.heap.size + 1) 26 [.bool b', .int .u64 y1, .int .u64 y0, .int .i64 s'] := by (repeat (first | (with_reducible assumption) | ((with_reducible refine Bk.new_ ?_); (first | rfl | (simp only [World.size_alloc, World.size_setCell, World.size_drew, World.heap_drewN]; done))) | (with_reducible refine Bk.alloc ?_ _) | (with_reducible refine Bk.drew ?_) | (with_reducible refine Bk.drewN ?_ _) | ((with_reducible refine Bk.far ?_ ?_ _); rotate_left; focus (simp only []; omega)) | ((with_reducible refine Bk.below ?_ (by with_reducible assumption) ?_); rotate_left; focus (go_size; done))))
  have c7 : Bk w7 (w.heap.size + 1 + 1) 26 [.bool t0, .int .u64 t1, .int .u64 t2, .int .i64 t3] := by (repeat (first | (with_reducible assumption) | ((with_reducible refine Bk.new_ ?_); (first | rfl | (simp only [World.size_alloc, World.size_setCell, World.size_drew, World.heap_drewN]; done))) | (with_reducible refine Bk.alloc ?_ _) | (with_reducible refine Bk.drew ?_) | (with_reducible refine Bk.drewN ?_ _) | ((with_reducible refine Bk.far ?_ ?_ _); rotate_left; focus (simp only []; omega)) | ((with_reducible refine Bk.below ?_ (by with_reducible assumption) ?_); rotate_left; focus (go_size; done))))
  have a7_0 := a7.cell 0 rfl
  have a7_1 := a7.cell 1 rfl
  have a7_2 := a7.cell 2 rfl
  have a7_3 := a7.cell 3 rfl
  have a7_4 := a7.frozen 0
  have a7_5 := a7.frozen 1
  have a7_6 := a7.frozen 2
  have a7_7 := a7.frozen 3
  have a7l := a7.lt
  have b7_0 := b7.cell 0 rfl
  have b7_1 := b7.cell 1 rfl
  have b7_2 := b7.cell 2 rfl
  have b7_3 := b7.cell 3 rfl
  have b7_4 := b7.frozen 0
  have b7_5 := b7.frozen 1
  have b7_6 := b7.frozen 2
  have b7_7 := b7.frozen 3
  have b7l := b7.lt
  have c7_0 := c7.cell 0 rfl
  have c7_1 := c7.cell 1 rfl
  have c7_2 := c7.cell 2 rfl
  have c7_3 := c7.cell 3 rfl
  have c7_4 := c7.frozen 0
  have c7_5 := c7.frozen 1
  have c7_6 := c7.frozen 2
  have c7_7 := c7.frozen 3
  have c7l := c7.lt
  clear hb7c hb7f
  have x7 : Bk w7 w6.heap.size 26 [.bool n0, .int .u64 n1, .int .u64 n2, .int .i64 n3] := by (repeat (first | (with_reducible assumption) | ((with_reducible refine Bk.new_ ?_); (first | rfl | (simp only [World.size_alloc, World.size_setCell, World.size_drew, World.heap_drewN]; done))) | (with_reducible refine Bk.alloc ?_ _) | (with_reducible refine Bk.drew ?_) | (with_reducible refine Bk.drewN ?_ _) | ((with_reducible refine Bk.far ?_ ?_ _); rotate_left; focus (simp only []; omega)) | ((with_reducible refine Bk.below ?_ (by with_reducible assumption) ?_); rotate_left; focus (go_size; done))))
  have x7_0 := x7.cell 0 rfl
  have x7_1 := x7.cell 1 rfl
  have x7_2 := x7.cell 2 rfl
  have x7_3 := x7.cell 3 rfl
  have x7_4 := x7.frozen 0
  have x7_5 := x7.frozen 1
  have x7_6 := x7.frozen 2
  have x7_7 := x7.frozen 3
  have x7l := x7.lt
  clear a6_0 a6_1 a6_2 a6_3 a6_4 a6_5 a6_6 a6_7
  clear b6_0 b6_1 b6_2 b6_3 b6_4 b6_5 b6_6 b6_7
  clear c6_0 c6_1 c6_2 c6_3 c6_4 c6_5 c6_6 c6_7
  go_wp2_with fail
  refine (K7.out _).mono ?_
  rintro _ w8 ⟨rfl, hb8⟩; have hb8s := hb8.size; (try simp only [World.size_alloc, World.size_setCell, World.size_drew, World.heap_drewN] at hb8s); obtain ⟨hb8c, hb8f⟩ := bcell hb8; (try have : w.heap.size < w8.heap.size := by omega); (try have : w.heap.size + 1 < w8.heap.size := by omega); (try have : w.heap.size + 1 + 1 < w8.heap.size := by omega); (try have : w.heap.size + 1 + 1 + 1 < w8.heap.size := by omega)
  have a8 : Bk w8 w.heap.size 26 [.bool b, .int .u64 x1, .int .u64 x0, .int .i64 s] := by (repeat (first | (with_reducible assumption) | ((with_reducible refine Bk.new_ ?_); (first | rfl | (simp only [World.size_alloc, World.size_setCell, World.size_drew, World.heap_drewN]; done))) | (with_reducible refine Bk.alloc ?_ _) | (with_reducible refine Bk.drew ?_) | (with_reducible refine Bk.drewN ?_ _) | ((with_reducible refine Bk.far ?_ ?_ _); rotate_left; focus (simp only []; omega)) | ((with_reducible refine Bk.below ?_ (by with_reducible assumption) ?_); rotate_left; focus (go_size; done))))
  have b8 : Bk w8 (w.heap.size + 1) 26 [.bool b', .int .u64 y1, .int .u64 y0, .int .i64 s'] := by (repeat (first | (with_reducible assumption) | ((with_reducible refine Bk.new_ ?_); (first | rfl | (simp only [World.size_alloc, World.size_setCell, World.size_drew, World.heap_drewN]; done))) | (with_reducible refine Bk.alloc ?_ _) | (with_reducible refine Bk.drew ?_) | (with_reducible refine Bk.drewN ?_ _) | ((with_reducible refine Bk.far ?_ ?_ _); rotate_left; focus (simp only []; omega)) | ((with_reducible refine Bk.below ?_ (by with_reducible assumption) ?_); rotate_left; focus (go_size; done))))
  have c8 : Bk w8 (w.heap.size + 1 + 1) 26 [.bool t0, .int .u64 t1, .int .u64 t2, .int .i64 t3] := by (repeat (first | (with_reducible assumption) | ((with_reducible refine Bk.new_ ?_); (first | rfl | (simp only [World.size_alloc, World.size_setCell, World.size_drew, World.heap_drewN]; done))) | (with_reducible refine Bk.alloc ?_ _) | (with_reducible refine Bk.drew ?_) | (with_reducible refine Bk.drewN ?_ _) | ((with_reducible refine Bk.far ?_ ?_ _); rotate_left; focus (simp only []; omega)) | ((with_reducible refine Bk.below ?_ (by with_reducible assumption) ?_); rotate_left; focus (go_size; done))))
  have a8_0 := a8.cell 0 rfl
  have a8_1 := a8.cell 1 rfl
  have a8_2 := a8.cell 2 rfl
  have a8_3 := a8.cell 3 rfl
  have a8_4 := a8.frozen 0
  have a8_5 := a8.frozen 1
  have a8_6 := a8.frozen 2
  have a8_7 := a8.frozen 3
  have a8l := a8.lt
  have b8_0 := b8.cell 0 rfl
  have b8_1 := b8.cell 1 rfl
  have b8_2 := b8.cell 2 rfl
  have b8_3 := b8.cell 3 rfl
  have b8_4 := b8.frozen 0
  have b8_5 := b8.frozen 1
  have b8_6 := b8.frozen 2
  have b8_7 := b8.frozen 3
  have b8l := b8.lt
  have c8_0 := c8.cell 0 rfl
  have c8_1 := c8.cell 1 rfl
  have c8_2 := c8.cell 2 rfl
  have c8_3 := c8.cell 3 rfl
  have c8_4 := c8.frozen 0
  have c8_5 := c8.frozen 1
  have c8_6 := c8.frozen 2
  have c8_7 := c8.frozen 3
  have c8l := c8.lt
  clear hb8c hb8f
  clear a7_0 a7_1 a7_2 a7_3 a7_4 a7_5 a7_6 a7_7
  clear b7_0 b7_1 b7_2 b7_3 b7_4 b7_5 b7_6 b7_7
  clear c7_0 c7_1 c7_2 c7_3 c7_4 c7_5 c7_6 c7_7
  clear x7_0 x7_1 x7_2 x7_3 x7_4 x7_5 x7_6 x7_7
  go_wp2_with fail
  refine (K8.out _).mono ?_
  rintro _ w9 ⟨rfl, hb9⟩; have hb9s := hb9.size; (try simp only [World.size_alloc, World.size_setCell, World.size_drew, World.heap_drewN] at hb9s); obtain ⟨hb9c, hb9f⟩ := bcell hb9; (try have : w.heap.size < w9.heap.size := by omega); (try have : w.heap.size + 1 < w9.heap.size := by omega); (try have : w.heap.size + 1 + 1 < w9.heap.size := by omega); (try have : w.heap.size + 1 + 1 + 1 < w9.heap.size := by omega)
  have a9 : Bk w9 w.heap.size 26 [.bool b, .int .u64 x1, .int .u64 x0, .int .i64 s] := by (repeat (first | (with_reducible assumption) | ((with_reducible refine Bk.new_ ?_); (first | rfl | (simp only [World.size_alloc, World.size_setCell, World.size_drew, World.heap_drewN]; done))) | (with_reducible refine Bk.alloc ?_ _) | (with_reducible refine Bk.drew ?_) | (with_reducible refine Bk.drewN ?_ _) | ((with_reducible refine Bk.far ?_ ?_ _); rotate_left; focus (simp only []; omega)) | ((with_reducible refine Bk.below ?_ (by with_reducible assumption) ?_); rotate_left; focus (go_size; done))))
  have b9 : Bk w9 (w.heap.size + 1) 26 [.bool b', .int .u64 y1, .int .u64 y0, .int .i64 s'] := by (repeat (first | (with_reducible assumption) | ((with_reducible refine Bk.new_ ?_); (first | rfl | (simp only [World.size_alloc, World.size_setCell, World.size_drew, World.heap_drewN]; done))) | (with_reducible refine Bk.alloc ?_ _) | (with_reducible refine Bk.drew ?_) | (with_reducible refine Bk.drewN ?_ _) | ((with_reducible refine Bk.far ?_ ?_ _); rotate_left; focus (simp only []; omega)) | ((with_reducible refine Bk.below ?_ (by with_reducible assumption) ?_); rotate_left; focus (go_size; done))))
  have c9 : Bk w9 (w.heap.size + 1 + 1) 26 [.bool t0, .int .u64 t1, .int .u64 t2, .int .i64 t3] := by (repeat (first | (with_reducible assumption) | ((with_reducible refine Bk.new_ ?_); (first | rfl | (simp only [World.size_alloc, World.size_setCell, World.size_drew, World.heap_drewN]; done))) | (with_reducible refine Bk.alloc ?_ _) | (with_reducible refine Bk.drew ?_) | (with_reducible refine Bk.drewN ?_ _) | ((with_reducible refine Bk.far ?_ ?_ _); rotate_left; focus (simp only []; omega)) | ((with_reducible refine Bk.below ?_ (by with_reducible assumption) ?_); rotate_left; focus (go_size; done))))
  have a9_0 := a9.cell 0 rfl
  have a9_1 := a9.cell 1 rfl
  have a9_2 := a9.cell 2 rfl
  have a9_3 := a9.cell 3 rfl
  have a9_4 := a9.frozen 0
  have a9_5 := a9.frozen 1
  have a9_6 := a9.frozen 2
  have a9_7 := a9.frozen 3
  have a9l := a9.lt
  have b9_0 := b9.cell 0 rfl
  have b9_1 := b9.cell 1 rfl
  have b9_2 := b9.cell 2 rfl
  have b9_3 := b9.cell 3 rfl
  have b9_4 := b9.frozen 0
  have b9_5 := b9.frozen 1
  have b9_6 := b9.frozen 2
  have b9_7 := b9.frozen 3
  have b9l := b9.lt
  have c9_0 := c9.cell 0 rfl
  have c9_1 := c9.cell 1 rfl
  have c9_2 := c9.cell 2 rfl
  have c9_3 := c9.cell 3 rfl
  have c9_4 := c9.frozen 0
  have c9_5 := c9.frozen 1
  have c9_6 := c9.frozen 2
  have c9_7 := c9.frozen 3
  have c9l := c9.lt
  clear hb9c hb9f
  clear a8_0 a8_1 a8_2 a8_3 a8_4 a8_5 a8_6 a8_7
  clear b8_0 b8_1 b8_2 b8_3 b8_4 b8_5 b8_6 b8_7
  clear c8_0 c8_1 c8_2 c8_3 c8_4 c8_5 c8_6 c8_7
  cases fc
  · go_wp2_with fail
    go_ret
    exact ⟨rfl, by (repeat' (first | (with_reducible exact Below.refl _ _) | (with_reducible assumption) | (with_reducible refine Below.drew ?_) | (with_reducible refine below_drewN ?_ _) | ((with_reducible refine Below.alloc ?_ ?_ _); rotate_left; focus (go_size; done)) | ((with_reducible refine Below.setCell ?_ ?_ _); rotate_left; focus (go_size; done)) | ((with_reducible refine Below.trans ?_ (Below.mono (by with_reducible assumption) ?_)); rotate_left; focus (go_size; done))))⟩
  · have L9 := Lib.hid (K9.out rfl)
    have L10 := Lib.hid (K10.out rfl)
    have L11 := Lib.hid (K11.out rfl)
    have F4 := E4.out rfl
    have F5 := E5.out rfl
    clear E4 E5
    have mw : Below w.heap.size w w9 := by (repeat' (first | (with_reducible exact Below.refl _ _) | (with_reducible assumption) | (with_reducible refine Below.drew ?_) | (with_reducible refine below_drewN ?_ _) | ((with_reducible refine Below.alloc ?_ ?_ _); rotate_left; focus (go_size; done)) | ((with_reducible refine Below.setCell ?_ ?_ _); rotate_left; focus (go_size; done)) | ((with_reducible refine Below.trans ?_ (Below.mono (by with_reducible assumption) ?_)); rotate_left; focus (go_size; done))))
    clear hb1 hb2 hb3 hb4 hb5 hb6 hb7 hb8 hb9 hb1s hb2s hb3s hb4s hb5s hb6s hb7s hb8s a1 a2 a3 a4 a5 a6 a7 a8 b1 b2 b3 b4 b5 b6 b7 b8 c1 c2 c3 c4 c5 c6 c7 c8 x7 r0 K9 K10 K11
    rcases F4 with rfl | rfl
    · rcases F5 with rfl | rfl
      · obtain ⟨hs6, L12⟩ := L11.out rfl rfl
        have M12 := Lib.hid L12
        clear L12 L11
        go_wp2_with fail
        refine (L9.out _).mono ?_
        rintro _ w10 ⟨rfl, hb10⟩; have hb10s := hb10.size; (try simp only [World.size_alloc, World.size_setCell, World.size_drew, World.heap_drewN] at hb10s); obtain ⟨hb10c, hb10f⟩ := bcell hb10; (try have : w.heap.size < w10.heap.size := by omega); (try have : w.heap.size + 1 < w10.heap.size := by omega); (try have : w.heap.size + 1 + 1 < w10.heap.size := by omega); (try have : w.heap.size + 1 + 1 + 1 < w10.heap.size := by omega)
        have a10 : Bk w10 w.heap.size 26 [.bool b, .int .u64 x1, .int .u64 x0, .int .i64 s] := by (repeat (first | (with_reducible assumption) | ((with_reducible refine Bk.new_ ?_); (first | rfl | (simp only [World.size_alloc, World.size_setCell, World.size_drew, World.heap_drewN]; done))) | (with_reducible refine Bk.alloc ?_ _) | (with_reducible refine Bk.drew ?_) | (with_reducible refine Bk.drewN ?_ _) | ((with_reducible refine Bk.far ?_ ?_ _); rotate_left; focus (simp only []; omega)) | ((with_reducible refine Bk.below ?_ (by with_reducible assumption) ?_); rotate_left; focus (go_size; done))))
        have b10 : Bk w10 (w.heap.size + 1) 26 [.bool b', .int .u64 y1, .int .u64 y0, .int .i64 s'] := by (repeat (first | (with_reducible assumption) | ((with_reducible refine Bk.new_ ?_); (first | rfl | (simp only [World.size_alloc, World.size_setCell, World.size_drew, World.heap_drewN]; done))) | (with_reducible refine Bk.alloc ?_ _) | (with_reducible refine Bk.drew ?_) | (with_reducible refine Bk.drewN ?_ _) | ((with_reducible refine Bk.far ?_ ?_ _); rotate_left; focus (simp only []; omega)) | ((with_reducible refine Bk.below ?_ (by with_reducible assumption) ?_); rotate_left; focus (go_size; done))))
        have c10 : Bk w10 (w.heap.size + 1 + 1) 26 [.bool t0, .int .u64 t1, .int .u64 t2, .int .i64 t3] := by (repeat (first | (with_reducible assumption) | ((with_reducible refine Bk.new_ ?_); (first | rfl | (simp only [World.size_alloc, World.size_setCell, World.size_drew, World.heap_drewN]; done))) | (with_reducible refine Bk.alloc ?_ _) | (with_reducible refine Bk.drew ?_) | (with_reducible refine Bk.drewN ?_ _) | ((with_reducible refine Bk.far ?_ ?_ _); rotate_left; focus (simp only []; omega)) | ((with_reducible refine Bk.below ?_ (by with_reducible assumption) ?_); rotate_left; focus (go_size; done))))
        have a10_0 := a10.cell 0 rfl
        have a10_1 := a10.cell 1 rfl
        have a10_2 := a10.cell 2 rfl
        have a10_3 := a10.cell 3 rfl
        have a10_4 := a10.frozen 0
        have a10_5 := a10.frozen 1
        have a10_6 := a10.frozen 2
        have a10_7 := a10.frozen 3
        have a10l := a10.lt
        have b10_0 := b10.cell 0 rfl
        have b10_1 := b10.cell 1 rfl
        have b10_2 := b10.cell 2 rfl
        have b10_3 := b10.cell 3 rfl
        have b10_4 := b10.frozen 0
        have b10_5 := b10.frozen 1
        have b10_6 := b10.frozen 2
        have b10_7 := b10.frozen 3
        have b10l := b10.lt
        have c10_0 := c10.cell 0 rfl
        have c10_1 := c10.cell 1 rfl
        have c10_2 := c10.cell 2 rfl
        have c10_3 := c10.cell 3 rfl
        have c10_4 := c10.frozen 0
        have c10_5 := c10.frozen 1
        have c10_6 := c10.frozen 2
        have c10_7 := c10.frozen 3
        have c10l := c10.lt
        clear hb10c hb10f
        clear a9_0 a9_1 a9_2 a9_3 a9_4 a9_5 a9_6 a9_7
        clear b9_0 b9_1 b9_2 b9_3 b9_4 b9_5 b9_6 b9_7
        clear c9_0 c9_1 c9_2 c9_3 c9_4 c9_5 c9_6 c9_7
        go_wp2_with fail
        refine (L10.out _).mono ?_
        rintro _ w11 ⟨rfl, hb11⟩; have hb11s := hb11.size; (try simp only [World.size_alloc, World.size_setCell, World.size_drew, World.heap_drewN] at hb11s); obtain ⟨hb11c, hb11f⟩ := bcell hb11; (try have : w.heap.size < w11.heap.size := by omega); (try have : w.heap.size + 1 < w11.heap.size := by omega); (try have : w.heap.size + 1 + 1 < w11.heap.size := by omega); (try have : w.heap.size + 1 + 1 + 1 < w11.heap.size := by omega)
        have x11 : Bk w11 w10.heap.size 26 [.bool p0, .int .u64 p1, .int .u64 p2, .int .i64 p3] := by (repeat (first | (with_reducible assumption) | ((with_reducible refine Bk.new_ ?_); (first | rfl | (simp only [World.size_alloc, World.size_setCell, World.size_drew, World.heap_drewN]; done))) | (with_reducible refine Bk.alloc ?_ _) | (with_reducible refine Bk.drew ?_) | (with_reducible refine Bk.drewN ?_ _) | ((with_reducible refine Bk.far ?_ ?_ _); rotate_left; focus (simp only []; omega)) | ((with_reducible refine Bk.below ?_ (by with_reducible assumption) ?_); rotate_left; focus (go_size; done))))
        have x11_0 := x11.cell 0 rfl
        have x11_1 := x11.cell 1 rfl
        have x11_2 := x11.cell 2 rfl
        have x11_3 := x11.cell 3 rfl
        have x11_4 := x11.frozen 0
        have x11_5 := x11.frozen 1
        have x11_6 := x11.frozen 2
        have x11_7 := x11.frozen 3
        have x11l := x11.lt
        clear a10_0 a10_1 a10_2 a10_3 a10_4 a10_5 a10_6 a10_7
        clear b10_0 b10_1 b10_2 b10_3 b10_4 b10_5 b10_6 b10_7
        clear c10_0 c10_1 c10_2 c10_3 c10_4 c10_5 c10_6 c10_7
        clear hb11c hb11f
        go_wp2_with fail
        refine (M12.out _).mono ?_
        rintro _ w12 ⟨rfl, hb12⟩; have hb12s := hb12.size; (try simp only [World.size_alloc, World.size_setCell, World.size_drew, World.heap_drewN] at hb12s); obtain ⟨hb12c, hb12f⟩ := bcell hb12; (try have : w.heap.size < w12.heap.size := by omega); (try have : w.heap.size + 1 < w12.heap.size := by omega); (try have : w.heap.size + 1 + 1 < w12.heap.size := by omega); (try have : w.heap.size + 1 + 1 + 1 < w12.heap.size := by omega)
        rcases hs6 with rfl | rfl
        · go_wp2_with fail
          go_ret
          exact ⟨rfl, by (repeat' (first | (with_reducible exact Below.refl _ _) | (with_reducible assumption) | (with_reducible refine Below.drew ?_) | (with_reducible refine below_drewN ?_ _) | ((with_reducible refine Below.alloc ?_ ?_ _); rotate_left; focus (go_size; done)) | ((with_reducible refine Below.setCell ?_ ?_ _); rotate_left; focus (go_size; done)) | ((with_reducible refine Below.trans ?_ (Below.mono (by with_reducible assumption) ?_)); rotate_left; focus (go_size; done))))⟩
        · by_cases hz : s6 = 0
          · have hz2 : (s6 == 0) = true := by simpa using hz
            clear hz
            go_wp2_with fail
            go_ret
            exact ⟨by first | rfl | simp, by (repeat' (first | (with_reducible exact Below.refl _ _) | (with_reducible assumption) | (with_reducible refine Below.drew ?_) | (with_reducible refine below_drewN ?_ _) | ((with_reducible refine Below.alloc ?_ ?_ _); rotate_left; focus (go_size; done)) | ((with_reducible refine Below.setCell ?_ ?_ _); rotate_left; focus (go_size; done)) | ((with_reducible refine Below.trans ?_ (Below.mono (by with_reducible assumption) ?_)); rotate_left; focus (go_size; done))))⟩
          · have hz2 : (s6 == 0) = false := by simpa using hz
            clear hz
            go_wp2_with fail
            go_ret
            exact ⟨by first | rfl | simp, by (repeat' (first | (with_reducible exact Below.refl _ _) | (with_reducible assumption) | (with_reducible refine Below.drew ?_) | (with_reducible refine below_drewN ?_ _) | ((with_reducible refine Below.alloc ?_ ?_ _); rotate_left; focus (go_size; done)) | ((with_reducible refine Below.setCell ?_ ?_ _); rotate_left; focus (go_size; done)) | ((with_reducible refine Below.trans ?_ (Below.mono (by with_reducible assumption) ?_)); rotate_left; focus (go_size; done))))⟩
      · clear L11
        go_wp2_with fail
        refine (L9.out _).mono ?_
        rintro _ w10 ⟨rfl, hb10⟩; have hb10s := hb10.size; (try simp only [World.size_alloc, World.size_setCell, World.size_drew, World.heap_drewN] at hb10s); obtain ⟨hb10c, hb10f⟩ := bcell hb10; (try have : w.heap.size < w10.heap.size := by omega); (try have : w.heap.size + 1 < w10.heap.size := by omega); (try have : w.heap.size + 1 + 1 < w10.heap.size := by omega); (try have : w.heap.size + 1 + 1 + 1 < w10.heap.size := by omega)
        have a10 : Bk w10 w.heap.size 26 [.bool b, .int .u64 x1, .int .u64 x0, .int .i64 s] := by (repeat (first | (with_reducible assumption) | ((with_reducible refine Bk.new_ ?_); (first | rfl | (simp only [World.size_alloc, World.size_setCell, World.size_drew, World.heap_drewN]; done))) | (with_reducible refine Bk.alloc ?_ _) | (with_reducible refine Bk.drew ?_) | (with_reducible refine Bk.drewN ?_ _) | ((with_reducible refine Bk.far ?_ ?_ _); rotate_left; focus (simp only []; omega)) | ((with_reducible refine Bk.below ?_ (by with_reducible assumption) ?_); rotate_left; focus (go_size; done))))
        have b10 : Bk w10 (w.heap.size + 1) 26 [.bool b', .int .u64 y1, .int .u64 y0, .int .i64 s'] := by (repeat (first | (with_reducible assumption) | ((with_reducible refine Bk.new_ ?_); (first | rfl | (simp only [World.size_alloc, World.size_setCell, World.size_drew, World.heap_drewN]; done))) | (with_reducible refine Bk.alloc ?_ _) | (with_reducible refine Bk.drew ?_) | (with_reducible refine Bk.drewN ?_ _) | ((with_reducible refine Bk.far ?_ ?_ _); rotate_left; focus (simp only []; omega)) | ((with_reducible refine Bk.below ?_ (by with_reducible assumption) ?_); rotate_left; focus (go_size; done))))
        have c10 : Bk w10 (w.heap.size + 1 + 1) 26 [.bool t0, .int .u64 t1, .int .u64 t2, .int .i64 t3] := by (repeat (first | (with_reducible assumption) | ((with_reducible refine Bk.new_ ?_); (first | rfl | (simp only [World.size_alloc, World.size_setCell, World.size_drew, World.heap_drewN]; done))) | (with_reducible refine Bk.alloc ?_ _) | (with_reducible refine Bk.drew ?_) | (with_reducible refine Bk.drewN ?_ _) | ((with_reducible refine Bk.far ?_ ?_ _); rotate_left; focus (simp only []; omega)) | ((with_reducible refine Bk.below ?_ (by with_reducible assumption) ?_); rotate_left; focus (go_size; done))))
        have a10_0 := a10.cell 0 rfl
        have a10_1 := a10.cell 1 rfl
        have a10_2 := a10.cell 2 rfl
        have a10_3 := a10.cell 3 rfl
        have a10_4 := a10.frozen 0
        have a10_5 := a10.frozen 1
        have a10_6 := a10.frozen 2
        have a10_7 := a10.frozen 3
        have a10l := a10.lt
        have b10_0 := b10.cell 0 rfl
        have b10_1 := b10.cell 1 rfl
        have b10_2 := b10.cell 2 rfl
        have b10_3 := b10.cell 3 rfl
        have b10_4 := b10.frozen 0
        have b10_5 := b10.frozen 1
        have b10_6 := b10.frozen 2
        have b10_7 := b10.frozen 3
        have b10l := b10.lt
        have c10_0 := c10.cell 0 rfl
        have c10_1 := c10.cell 1 rfl
        have c10_2 := c10.cell 2 rfl
        have c10_3 := c10.cell 3 rfl
        have c10_4 := c10.frozen 0
        have c10_5 := c10.frozen 1
        have c10_6 := c10.frozen 2
        have c10_7 := c10.frozen 3
        have c10l := c10.lt
        clear hb10c hb10f
        clear a9_0 a9_1 a9_2 a9_3 a9_4 a9_5 a9_6 a9_7
        clear b9_0 b9_1 b9_2 b9_3 b9_4 b9_5 b9_6 b9_7
        clear c9_0 c9_1 c9_2 c9_3 c9_4 c9_5 c9_6 c9_7
        go_wp2_with fail
        refine (L10.out _).mono ?_
        rintro _ w11 ⟨rfl, hb11⟩; have hb11s := hb11.size; (try simp only [World.size_alloc, World.size_setCell, World.size_drew, World.heap_drewN] at hb11s); obtain ⟨hb11c, hb11f⟩ := bcell hb11; (try have : w.heap.size < w11.heap.size := by omega); (try have : w.heap.size + 1 < w11.heap.size := by omega); (try have : w.heap.size + 1 + 1 < w11.heap.size := by omega); (try have : w.heap.size + 1 + 1 + 1 < w11.heap.size := by omega)
        have x11 : Bk w11 w10.heap.size 26 [.bool p0, .int .u64 p1, .int .u64 p2, .int .i64 p3] := by (repeat (first | (with_reducible assumption) | ((with_reducible refine Bk.new_ ?_); (first | rfl | (simp only [World.size_alloc, World.size_setCell, World.size_drew, World.heap_drewN]; done))) | (with_reducible refine Bk.alloc ?_ _) | (with_reducible refine Bk.drew ?_) | (with_reducible refine Bk.drewN ?_ _) | ((with_reducible refine Bk.far ?_ ?_ _); rotate_left; focus (simp only []; omega)) | ((with_reducible refine Bk.below ?_ (by with_reducible assumption) ?_); rotate_left; focus (go_size; done))))
        have x11_0 := x11.cell 0 rfl
        have x11_1 := x11.cell 1 rfl
        have x11_2 := x11.cell 2 rfl
        have x11_3 := x11.cell 3 rfl
        have x11_4 := x11.frozen 0
        have x11_5 := x11.frozen 1
        have x11_6 := x11.frozen 2
        have x11_7 := x11.frozen 3
        have x11l := x11.lt
        clear a10_0 a10_1 a10_2 a10_3 a10_4 a10_5 a10_6 a10_7
        clear b10_0 b10_1 b10_2 b10_3 b10_4 b10_5 b10_6 b10_7
        clear c10_0 c10_1 c10_2 c10_3 c10_4 c10_5 c10_6 c10_7
        clear hb11c hb11f
        go_wp2_with fail
        go_ret
        exact ⟨by first | rfl | simp, by (repeat' (first | (with_reducible exact Below.refl _ _) | (with_reducible assumption) | (with_reducible refine Below.drew ?_) | (with_reducible refine below_drewN ?_ _) | ((with_reducible refine Below.alloc ?_ ?_ _); rotate_left; focus (go_size; done)) | ((with_reducible refine Below.setCell ?_ ?_ _); rotate_left; focus (go_size; done)) | ((with_reducible refine Below.trans ?_ (Below.mono (by with_reducible assumption) ?_)); rotate_left; focus (go_size; done))))⟩
    · clear L11
      rcases F5 with rfl | rfl
      ·
        go_wp2_with fail
        refine (L9.out _).mono ?_
        rintro _ w10 ⟨rfl, hb10⟩; have hb10s := hb10.size; (try simp only [World.size_alloc, World.size_setCell, World.size_drew, World.heap_drewN] at hb10s); obtain ⟨hb10c, hb10f⟩ := bcell hb10; (try have : w.heap.size < w10.heap.size := by omega); (try have : w.heap.size + 1 < w10.heap.size := by omega); (try have : w.heap.size + 1 + 1 < w10.heap.size := by omega); (try have : w.heap.size + 1 + 1 + 1 < w10.heap.size := by omega)
        have a10 : Bk w10 w.heap.size 26 [.bool b, .int .u64 x1, .int .u64 x0, .int .i64 s] := by (repeat (first | (with_reducible assumption) | ((with_reducible refine Bk.new_ ?_); (first | rfl | (simp only [World.size_alloc, World.size_setCell, World.size_drew, World.heap_drewN]; done))) | (with_reducible refine Bk.alloc ?_ _) | (with_reducible refine Bk.drew ?_) | (with_reducible refine Bk.drewN ?_ _) | ((with_reducible refine Bk.far ?_ ?_ _); rotate_left; focus (simp only []; omega)) | ((with_reducible refine Bk.below ?_ (by with_reducible assumption) ?_); rotate_left; focus (go_size; done))))
        have b10 : Bk w10 (w.heap.size + 1) 26 [.bool b', .int .u64 y1, .int .u64 y0, .int .i64 s'] := by (repeat (first | (with_reducible assumption) | ((with_reducible refine Bk.new_ ?_); (first | rfl | (simp only [World.size_alloc, World.size_setCell, World.size_drew, World.heap_drewN]; done))) | (with_reducible refine Bk.alloc ?_ _) | (with_reducible refine Bk.drew ?_) | (with_reducible refine Bk.drewN ?_ _) | ((with_reducible refine Bk.far ?_ ?_ _); rotate_left; focus (simp only []; omega)) | ((with_reducible refine Bk.below ?_ (by with_reducible assumption) ?_); rotate_left; focus (go_size; done))))
        have c10 : Bk w10 (w.heap.size + 1 + 1) 26 [.bool t0, .int .u64 t1, .int .u64 t2, .int .i64 t3] := by (repeat (first | (with_reducible assumption) | ((with_reducible refine Bk.new_ ?_); (first | rfl | (simp only [World.size_alloc, World.size_setCell, World.size_drew, World.heap_drewN]; done))) | (with_reducible refine Bk.alloc ?_ _) | (with_reducible refine Bk.drew ?_) | (with_reducible refine Bk.drewN ?_ _) | ((with_reducible refine Bk.far ?_ ?_ _); rotate_left; focus (simp only []; omega)) | ((with_reducible refine Bk.below ?_ (by with_reducible assumption) ?_); rotate_left; focus (go_size; done))))
        have a10_0 := a10.cell 0 rfl
        have a10_1 := a10.cell 1 rfl
        have a10_2 := a10.cell 2 rfl
        have a10_3 := a10.cell 3 rfl
        have a10_4 := a10.frozen 0
        have a10_5 := a10.frozen 1
        have a10_6 := a10.frozen 2
        have a10_7 := a10.frozen 3
        have a10l := a10.lt
        have b10_0 := b10.cell 0 rfl
        have b10_1 := b10.cell 1 rfl
        have b10_2 := b10.cell 2 rfl
        have b10_3 := b10.cell 3 rfl
        have b10_4 := b10.frozen 0
        have b10_5 := b10.frozen 1
        have b10_6 := b10.frozen 2
        have b10_7 := b10.frozen 3
        have b10l := b10.lt
        have c10_0 := c10.cell 0 rfl
        have c10_1 := c10.cell 1 rfl
        have c10_2 := c10.cell 2 rfl
        have c10_3 := c10.cell 3 rfl
        have c10_4 := c10.frozen 0
        have c10_5 := c10.frozen 1
        have c10_6 := c10.frozen 2
        have c10_7 := c10.frozen 3
        have c10l := c10.lt
        clear hb10c hb10f
        clear a9_0 a9_1 a9_2 a9_3 a9_4 a9_5 a9_6 a9_7
        clear b9_0 b9_1 b9_2 b9_3 b9_4 b9_5 b9_6 b9_7
        clear c9_0 c9_1 c9_2 c9_3 c9_4 c9_5 c9_6 c9_7
        go_wp2_with fail
        refine (L10.out _).mono ?_
        rintro _ w11 ⟨rfl, hb11⟩; have hb11s := hb11.size; (try simp only [World.size_alloc, World.size_setCell, World.size_drew, World.heap_drewN] at hb11s); obtain ⟨hb11c, hb11f⟩ := bcell hb11; (try have : w.heap.size < w11.heap.size := by omega); (try have : w.heap.size + 1 < w11.heap.size := by omega); (try have : w.heap.size + 1 + 1 < w11.heap.size := by omega); (try have : w.heap.size + 1 + 1 + 1 < w11.heap.size := by omega)
        have x11 : Bk w11 w10.heap.size 26 [.bool p0, .int .u64 p1, .int .u64 p2, .int .i64 p3] := by (repeat (first | (with_reducible assumption) | ((with_reducible refine Bk.new_ ?_); (first | rfl | (simp only [World.size_alloc, World.size_setCell, World.size_drew, World.heap_drewN]; done))) | (with_reducible refine Bk.alloc ?_ _) | (with_reducible refine Bk.drew ?_) | (with_reducible refine Bk.drewN ?_ _) | ((with_reducible refine Bk.far ?_ ?_ _); rotate_left; focus (simp only []; omega)) | ((with_reducible refine Bk.below ?_ (by with_reducible assumption) ?_); rotate_left; focus (go_size; done))))
        have x11_0 := x11.cell 0 rfl
        have x11_1 := x11.cell 1 rfl
        have x11_2 := x11.cell 2 rfl
        have x11_3 := x11.cell 3 rfl
        have x11_4 := x11.frozen 0
        have x11_5 := x11.frozen 1
        have x11_6 := x11.frozen 2
        have x11_7 := x11.frozen 3
        have x11l := x11.lt
        clear a10_0 a10_1 a10_2 a10_3 a10_4 a10_5 a10_6 a10_7
        clear b10_0 b10_1 b10_2 b10_3 b10_4 b10_5 b10_6 b10_7
        clear c10_0 c10_1 c10_2 c10_3 c10_4 c10_5 c10_6 c10_7
        clear hb11c hb11f
        go_wp2_with fail
        go_ret
        exact ⟨by first | rfl | simp, by (repeat' (first | (with_reducible exact Below.refl _ _) | (with_reducible assumption) | (with_reducible refine Below.drew ?_) | (with_reducible refine below_drewN ?_ _) | ((with_reducible refine Below.alloc ?_ ?_ _); rotate_left; focus (go_size; done)) | ((with_reducible refine Below.setCell ?_ ?_ _); rotate_left; focus (go_size; done)) | ((with_reducible refine Below.trans ?_ (Below.mono (by with_reducible assumption) ?_)); rotate_left; focus (go_size; done))))⟩
      ·
        go_wp2_with fail
        refine (L9.out _).mono ?_
        rintro _ w10 ⟨rfl, hb10⟩; have hb10s := hb10.size; (try simp only [World.size_alloc, World.size_setCell, World.size_drew, World.heap_drewN] at hb10s); obtain ⟨hb10c, hb10f⟩ := bcell hb10; (try have : w.heap.size < w10.heap.size := by omega); (try have : w.heap.size + 1 < w10.heap.size := by omega); (try have : w.heap.size + 1 + 1 < w10.heap.size := by omega); (try have : w.heap.size + 1 + 1 + 1 < w10.heap.size := by omega)
        have a10 : Bk w10 w.heap.size 26 [.bool b, .int .u64 x1, .int .u64 x0, .int .i64 s] := by (repeat (first | (with_reducible assumption) | ((with_reducible refine Bk.new_ ?_); (first | rfl | (simp only [World.size_alloc, World.size_setCell, World.size_drew, World.heap_drewN]; done))) | (with_reducible refine Bk.alloc ?_ _) | (with_reducible refine Bk.drew ?_) | (with_reducible refine Bk.drewN ?_ _) | ((with_reducible refine Bk.far ?_ ?_ _); rotate_left; focus (simp only []; omega)) | ((with_reducible refine Bk.below ?_ (by with_reducible assumption) ?_); rotate_left; focus (go_size; done))))
        have b10 : Bk w10 (w.heap.size + 1) 26 [.bool b', .int .u64 y1, .int .u64 y0, .int .i64 s'] := by (repeat (first | (with_reducible assumption) | ((with_reducible refine Bk.new_ ?_); (first | rfl | (simp only [World.size_alloc, World.size_setCell, World.size_drew, World.heap_drewN]; done))) | (with_reducible refine Bk.alloc ?_ _) | (with_reducible refine Bk.drew ?_) | (with_reducible refine Bk.drewN ?_ _) | ((with_reducible refine Bk.far ?_ ?_ _); rotate_left; focus (simp only []; omega)) | ((with_reducible refine Bk.below ?_ (by with_reducible assumption) ?_); rotate_left; focus (go_size; done))))
        have c10 : Bk w10 (w.heap.size + 1 + 1) 26 [.bool t0, .int .u64 t1, .int .u64 t2, .int .i64 t3] := by (repeat (first | (with_reducible assumption) | ((with_reducible refine Bk.new_ ?_); (first | rfl | (simp only [World.size_alloc, World.size_setCell, World.size_drew, World.heap_drewN]; done))) | (with_reducible refine Bk.alloc ?_ _) | (with_reducible refine Bk.drew ?_) | (with_reducible refine Bk.drewN ?_ _) | ((with_reducible refine Bk.far ?_ ?_ _); rotate_left; focus (simp only []; omega)) | ((with_reducible refine Bk.below ?_ (by with_reducible assumption) ?_); rotate_left; focus (go_size; done))))
        have a10_0 := a10.cell 0 rfl
        have a10_1 := a10.cell 1 rfl
        have a10_2 := a10.cell 2 rfl
        have a10_3 := a10.cell 3 rfl
        have a10_4 := a10.frozen 0
        have a10_5 := a10.frozen 1
        have a10_6 := a10.frozen 2
        have a10_7 := a10.frozen 3
        have a10l := a10.lt
        have b10_0 := b10.cell 0 rfl
        have b10_1 := b10.cell 1 rfl
        have b10_2 := b10.cell 2 rfl
        have b10_3 := b10.cell 3 rfl
        have b10_4 := b10.frozen 0
        have b10_5 := b10.frozen 1
        have b10_6 := b10.frozen 2
        have b10_7 := b10.frozen 3
        have b10l := b10.lt
        have c10_0 := c10.cell 0 rfl
        have c10_1 := c10.cell 1 rfl
        have c10_2 := c10.cell 2 rfl
        have c10_3 := c10.cell 3 rfl
        have c10_4 := c10.frozen 0
        have c10_5 := c10.frozen 1
        have c10_6 := c10.frozen 2
        have c10_7 := c10.frozen 3
        have c10l := c10.lt
        clear hb10c hb10f
        clear a9_0 a9_1 a9_2 a9_3 a9_4 a9_5 a9_6 a9_7
        clear b9_0 b9_1 b9_2 b9_3 b9_4 b9_5 b9_6 b9_7
        clear c9_0 c9_1 c9_2 c9_3 c9_4 c9_5 c9_6 c9_7
        go_wp2_with fail
        refine (L10.out _).mono ?_
        rintro _ w11 ⟨rfl, hb11⟩; have hb11s := hb11.size; (try simp only [World.size_alloc, World.size_setCell, World.size_drew, World.heap_drewN] at hb11s); obtain ⟨hb11c, hb11f⟩ := bcell hb11; (try have : w.heap.size < w11.heap.size := by omega); (try have : w.heap.size + 1 < w11.heap.size := by omega); (try have : w.heap.size + 1 + 1 < w11.heap.size := by omega); (try have : w.heap.size + 1 + 1 + 1 < w11.heap.size := by omega)
        have x11 : Bk w11 w10.heap.size 26 [.bool p0, .int .u64 p1, .int .u64 p2, .int .i64 p3] := by (repeat (first | (with_reducible assumption) | ((with_reducible refine Bk.new_ ?_); (first | rfl | (simp only [World.size_alloc, World.size_setCell, World.size_drew, World.heap_drewN]; done))) | (with_reducible refine Bk.alloc ?_ _) | (with_reducible refine Bk.drew ?_) | (with_reducible refine Bk.drewN ?_ _) | ((with_reducible refine Bk.far ?_ ?_ _); rotate_left; focus (simp only []; omega)) | ((with_reducible refine Bk.below ?_ (by with_reducible assumption) ?_); rotate_left; focus (go_size; done))))
        have x11_0 := x11.cell 0 rfl
        have x11_1 := x11.cell 1 rfl
        have x11_2 := x11.cell 2 rfl
        have x11_3 := x11.cell 3 rfl
        have x11_4 := x11.frozen 0
        have x11_5 := x11.frozen 1
        have x11_6 := x11.frozen 2
        have x11_7 := x11.frozen 3
        have x11l := x11.lt
        clear a10_0 a10_1 a10_2 a10_3 a10_4 a10_5 a10_6 a10_7
        clear b10_0 b10_1 b10_2 b10_3 b10_4 b10_5 b10_6 b10_7
        clear c10_0 c10_1 c10_2 c10_3 c10_4 c10_5 c10_6 c10_7
        clear hb11c hb11f
        go_wp2_with fail
        go_ret
        exact ⟨by first | rfl | simp, by (repeat' (first | (with_reducible exact Below.refl _ _) | (with_reducible assumption) | (with_reducible refine Below.drew ?_) | (with_reducible refine below_drewN ?_ _) | ((with_reducible refine Below.alloc ?_ ?_ _); rotate_left; focus (go_size; done)) | ((with_reducible refine Below.setCell ?_ ?_ _); rotate_left; focus (go_size; done)) | ((with_reducible refine Below.trans ?_ (Below.mono (by with_reducible assumption) ?_)); rotate_left; focus (go_size; done))))⟩
theorem walk_DecOrders (b : Bool) (a0 a1 a2 : Int) (h0 : (Lit.int .u64 a0).wf = true) (h1 : (Lit.int .u64 a1).wf = true) (h2 : (Lit.int .i64 a2).wf = true) (b' : Bool) (c0 c1 c2 : Int) (k0 : (Lit.int .u64 c0).wf = true) (k1 : (Lit.int .u64 c1).wf = true) (k2 : (Lit.int .i64 c2).wf = true)
    (b'' : Bool) (d0 d1 d2 : Int) (l0 : (Lit.int .u64 d0).wf = true) (l1 : (Lit.int .u64 d1).wf = true) (l2 : (Lit.int .i64 d2).wf = true) (w : World) :
    Calls Try.prog 3 #[.agg #[.bool b, .int .u64 a0, .int .u64 a1, .int .i64 a2], .agg #[.bool b', .int .u64 c0, .int .u64 c1, .int .i64 c2], .agg #[.bool b'', .int .u64 d0, .int .u64 d1, .int .i64 d2]] w fun e w' => e = .returned (.bool true) ∧ Below w.heap.size w w' := by
  obtain ⟨g0, g1⟩ := wf_word h0
  obtain ⟨g2, g3⟩ := wf_word h1
  obtain ⟨g4, g5⟩ := wf_word k0
  obtain ⟨g6, g7⟩ := wf_word k1
  obtain ⟨g8, g9⟩ := wf_word l0
  obtain ⟨ga, gb⟩ := wf_word l1
  obtain ⟨n, hn, _, rfl, rfl⟩ := wd_make a0 a1 g0 g1 g2 g3
  obtain ⟨m, hm, _, rfl, rfl⟩ := wd_make c0 c1 g4 g5 g6 g7
  obtain ⟨k, hk, _, rfl, rfl⟩ := wd_make d0 d1 g8 g9 ga gb
  clear g0 g1 g2 g3 g4 g5 g6 g7 g8 g9 ga gb h0 h1 k0 k1 l0 l1
  by_cases hab : dform b n a2 = true ∧ dform b' m c2 = true
  · obtain ⟨ha, hb⟩ := hab
    obtain ⟨s, rfl, f1, f2, f3, f4⟩ := (dform_iff _ _ _).1 ha
    obtain ⟨t, rfl, f5, f6, f7, f8⟩ := (dform_iff _ _ _).1 hb
    have za : unit n s = 0 → b = false := fun h => (f3 (unit_nil.1 h)).1
    have zb : unit m t = 0 → b' = false := fun h => (f7 (unit_nil.1 h)).1
    have o1 : ordD b (unit n s) b' (unit m t) = ordS (sval b (unit n s)) (sval b' (unit m t)) := ordD_sval za zb
    have o2 : ordD b' (unit m t) b (unit n s) = -ordS (sval b (unit n s)) (sval b' (unit m t)) := by rw [ordD_sval zb za, ordS_swap]
    have sz : ∀ (bb : Bool) (c e : Nat), unit c e = 0 → sg (!bb) c = false := fun bb c e h => by rw [unit_nil.1 h, sg_zero]
    have o3 : ordD (sg (!b') m) (unit m t) (sg (!b) n) (unit n s) = ordS (sval b (unit n s)) (sval b' (unit m t)) := by
      rw [ordD_sval (sz b' m t) (sz b n s), sval_neg, sval_neg, ordS_neg]
    have hna := dform_turn ha
    have hnb := dform_turn hb
    have hbd : -1 ≤ ordS (sval b (unit n s)) (sval b' (unit m t)) ∧ ordS (sval b (unit n s)) (sval b' (unit m t)) ≤ 1 := by unfold ordS; (repeat' split) <;> omega
    have r0 : ∀ W, (binOp .eql 26 (.agg #[.bool b, .int .u64 (wd (n) 1), .int .u64 (wd (n) 0), .int .i64 s]) (.agg #[.bool b', .int .u64 (wd (m) 1), .int .u64 (wd (m) 0), .int .i64 t])).run Try.prog W = .ok (.bool (ordS (sval b (unit n s)) (sval b' (unit m t)) == 0)) W := fun W => by
      rw [eq_dec]
      congr 2
      rw [Bool.eq_iff_iff]
      simp only [Bool.and_eq_true, beq_iff_eq]
      rw [ordS_zero]
      constructor
      · rintro ⟨e0, e1, e2, e3⟩
        have := wd_inj hn hm e1 e2
        have e4 : s = t := by exact_mod_cast e3
        rw [this, e0, e4]
      · intro h
        obtain ⟨e0, e1⟩ := sval_inj h za zb
        obtain ⟨e2, e3⟩ := unit_inj f2 f6 e1 (fun h => (f3 h).2) f4 (fun h => (f7 h).2) f8
        rw [e0, e2, e3]
        exact ⟨rfl, rfl, rfl, rfl⟩
    have hc1 := fun W => dcmp_ok b n s b' m t ha hb f1 f5 f2 f6 W
    have hc2 := fun W => dcmp_ok b' m t b n s hb ha f5 f1 f6 f2 W
    have hc3 := fun W => dcmp_ok (sg (!b') m) m t (sg (!b) n) n s hnb hna f5 f1 f6 f2 W
    rw [o1] at hc1
    rw [o2] at hc2
    rw [o3] at hc3
    by_cases hc : dform b'' k d2 = true
    · obtain ⟨u, rfl, j1, j2, j3, j4⟩ := (dform_iff _ _ _).1 hc
      have hx := fun W => add_ok b n s b'' k u ha hc f1 j1 f2 j2 W
      have hy := fun W => add_ok b' m t b'' k u hb hc f5 j1 f6 j2 W
      have v1 := sval_sum b b'' (unit n s) (unit k u)
      have v2 := sval_sum b' b'' (unit m t) (unit k u)
      generalize sab b (unit n s) b'' (unit k u) = U at *
      generalize sgn b (unit n s) b'' (unit k u) = N at *
      generalize sab b' (unit m t) b'' (unit k u) = V at *
      generalize sgn b' (unit m t) b'' (unit k u) = M at *
      have fU := fit_form N U (10 ^ 18)
      have fV := fit_form M V (10 ^ 18)
      have eU := fit_err U (10 ^ 18)
      have eV := fit_err V (10 ^ 18)
      refine orders_ok _ _ _ _ _ _ _ _ _ _ _ _ _ hbd.1 hbd.2 _ _ _ _ _ _ _ _ true _ _ _ _ _ _ _ _ _ _ (ordS (sval N (fitU U)) (sval M (fitU V))) hc1 (fun W => by have := rform_any b n s hn W; rwa [ha] at this) (fun W => by have := rform_any b' m t hm W; rwa [hb] at this) hc2 (fun W => neg_ok b n s hn ha W) (fun W => neg_ok b' m t hm hb W) hc3 r0 (fun W => by have := rform_any b'' k u hk W; rwa [hc] at this) (fun _ => hx) (fun _ => hy) (fun _ => ?_) (fun _ => ?_) (fun _ e1 e2 => ⟨?_, ?_⟩) w
      · rcases eU with h | h
        · exact .inl h
        · exact .inr h.1
      · rcases eV with h | h
        · exact .inl h
        · exact .inr h.1
      · exact sums_order v1 v2 e1 e2
      · intro W
        have hz1 : unit (FitC U (10 ^ 18)) (FitS U (10 ^ 18)) = 0 → sg N (FitC U (10 ^ 18)) = false := fun h => by rw [unit_nil.1 h, sg_zero]
        have hz2 : unit (FitC V (10 ^ 18)) (FitS V (10 ^ 18)) = 0 → sg M (FitC V (10 ^ 18)) = false := fun h => by rw [unit_nil.1 h, sg_zero]
        have := dcmp_ok (sg N (FitC U (10 ^ 18))) (FitC U (10 ^ 18)) (FitS U (10 ^ 18)) (sg M (FitC V (10 ^ 18))) (FitC V (10 ^ 18)) (FitS V (10 ^ 18)) ((dform_iff _ _ _).2 ⟨_, rfl, fU⟩) ((dform_iff _ _ _).2 ⟨_, rfl, fV⟩) fU.1 fV.1 fU.2.1 fV.2.1 W
        rw [ordD_sval hz1 hz2, sval_sg, sval_sg] at this
        exact this
    · have hc' : dform b'' k d2 = false := by simpa using hc
      exact orders_ok _ _ _ _ _ _ _ _ _ _ _ _ _ hbd.1 hbd.2 _ _ _ _ _ _ _ _ false false 0 0 0 0 false 0 0 0 0 0 hc1 (fun W => by have := rform_any b n s hn W; rwa [ha] at this) (fun W => by have := rform_any b' m t hm W; rwa [hb] at this) hc2 (fun W => neg_ok b n s hn ha W) (fun W => neg_ok b' m t hm hb W) hc3 r0 (fun W => by have := rform_any b'' k d2 hk W; rwa [hc'] at this) (fun h => by cases h) (fun h => by cases h) (fun h => by cases h) (fun h => by cases h) (fun h => by cases h) w
  · have hf : (dform b n a2 && dform b' m c2) = false := by
      rw [Bool.and_eq_false_iff]
      by_cases ha : dform b n a2 = true
      · right; exact Bool.eq_false_iff.2 fun hb => hab ⟨ha, hb⟩
      · left; exact Bool.eq_false_iff.2 ha
    exact orders_bad _ _ _ _ _ _ _ _ _ _ _ _ _ _ hf (fun W => dcmp_bad b n a2 b' m c2 hn hm hf W) (fun W => rform_any b n a2 hn W) (fun W => rform_any b' m c2 hm W) w

set_option maxRecDepth 100000 in
theorem lifted_DecOrders (os : Os) (started : os.Started) (H : Type) (enc : TypeId × Value → H) :
    ReturnsInHanded {} Try.checked os 3 .any (Rows.decOrdersSpec.pre6 enc Try.prog Try.f3 Rows.decOrdersRow.domain false) (Rows.decOrdersSpec.post enc Try.prog Try.f3 false true false false) := by
  refine returnsInHanded_of_change (C := Try.checked) own started (by kernel_rfl) Try.func3
    (ChangeSpec.witness6 (enc := enc) (C := Try.checked) false ⟨#[], #[.agg #[.bool false, .int .u64 0, .int .u64 0, .int .i64 0], .agg #[.bool false, .int .u64 0, .int .u64 0, .int .i64 0], .agg #[.bool false, .int .u64 0, .int .u64 0, .int .i64 0]], []⟩ 8 (by kernel_rfl) (by kernel_rfl) (by kernel_rfl) (by kernel_rfl)) ?_
  intro W base args ds gs before hval0 hW hcnd _
  have hval : ∀ (j : Nat) t v, Try.f3.params[j]? = some t → args[j]? = some v → Value.okWide Try.prog W .any base t v := hval0
  have hW' := hW
  obtain ⟨p, q, hA0, hV, rfl, hfz, hnd⟩ := hW
  have hA : DataW.TrodAll enc Try.prog W 0 (fun _ => true) true Try.f3.params.toList args.toList ds p := hA0
  rw [Try.params3] at hA hval
  obtain ⟨v0, vs0, d0, ds0, p0, q0, hargs0, rfl, rfl, h0, r0⟩ := trodAll_cons hA
  obtain ⟨v1, vs1, d1, ds1, p1, q1, hargs1, rfl, rfl, h1, r1⟩ := trodAll_cons r0
  obtain ⟨v2, vs2, d2, ds2, p2, q2, hargs2, rfl, rfl, h2, r2⟩ := trodAll_cons r1
  obtain ⟨rfl, rfl, rfl⟩ := trodAll_nil r2
  obtain rfl : args = #[v0, v1, v2] := by cases args; simp_all
  obtain ⟨rfl, rfl⟩ := trodVars_none hV
  have k0 := h0
  have lt0 : ∀ x ∈ p0, x.block < W.heap.size := by obtain ⟨m, hm⟩ := k0; exact DataW.trod_lt m _ _ _ hm
  have k1 := h1
  have lt1 : ∀ x ∈ p1, x.block < W.heap.size := by obtain ⟨m, hm⟩ := k1; exact DataW.trod_lt m _ _ _ hm
  have k2 := h2
  have lt2 : ∀ x ∈ p2, x.block < W.heap.size := by obtain ⟨m, hm⟩ := k2; exact DataW.trod_lt m _ _ _ hm
  obtain ⟨b0, a00, a01, a02, rfl, w00, w01, w02⟩ := open_dec (hval 0 26 v0 rfl rfl) h0
  obtain ⟨b1, a10, a11, a12, rfl, w10, w11, w12⟩ := open_dec (hval 1 26 v1 rfl rfl) h1
  obtain ⟨b2, a20, a21, a22, rfl, w20, w21, w22⟩ := open_dec (hval 2 26 v2 rfl rfl) h2
  clear hA0 hval0
  refine (walk_DecOrders b0 a00 a01 a02 w00 w01 w02 b1 a10 a11 a12 w10 w11 w12 b2 a20 a21 a22 w20 w21 w22 W).mono fun e W' ⟨he, bel⟩ => ?_
  subst he
  exact ⟨_, rfl, _, _, _, [], _, [], hW', trodAll_mk1 (shut_bool Try.underlying4 _), (trodAll_cons_mk (Below.trod laidOut (by kernel_rfl) (of_decide_eq_true (by kernel_rfl)) k0 bel lt0) (trodAll_cons_mk (Below.trod laidOut (by kernel_rfl) (of_decide_eq_true (by kernel_rfl)) k1 bel lt1) (trodAll_cons_mk (Below.trod laidOut (by kernel_rfl) (of_decide_eq_true (by kernel_rfl)) k2 bel lt2) trodAll_mk0))), rfl, bel.frame _, fun h => by cases h⟩

theorem DecOrders_holds : Rows.DecOrdersSaid :=
  OpenClaim.holds_of_wide 3 Try.f3 rfl rfl rfl rfl rfl rfl rfl ⟨rfl, rfl, rfl, rfl, rfl⟩ rfl rfl rfl rfl rfl (by kernel_rfl) Try.func3 (by kernel_rfl)
    (of_decide_eq_true (by kernel_rfl)) (by unfold Func.isWrapper; first | (rw [if_pos (by decide +kernel)]; kernel_rfl) | (rw [if_neg (by decide +kernel)]; exact ⟨rfl, rfl⟩))
    (fun os started H enc _ => lifted_DecOrders os started H enc)
#print axioms DecOrders_holds
end Go.Proofs.Ythkgjodidkpaeaa
