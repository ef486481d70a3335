/- The contracts of the functions that the law reaches, part 3: what each returns and what becomes of memory. -/
import Derived.RegionTactic
import Derived.BigRegion
import Derived.StillTailTactics
import Derived.Test.YthkgjodidkpaeaaM1
import Derived.Test.YthkgjodidkpaeaaM2
set_option linter.unusedSimpArgs false
set_option linter.unusedVariables false
namespace Go.Proofs.Ythkgjodidkpaeaa
open Go.RowKit

theorem take_lit {P : Program} {ops : Array Oper} {Q : Exit → Act → World → Prop} {md : Region.Mode} {S : World → Prop} {i : Nat} {oi : Oper} {v : Value} {fuel : Nat} {listed : Array Bool} {a : Act} {w : World} (hi : ops[i]? = some oi)
    (hs : Region.noSelect ops = true) (hf : Region.free md ops listed i = true) (hr : (Region.ready md ops listed).contains i = true)
    (hQ : ∀ c a w, Q (.panic c) (a.put oi.dst v) w → Q (.panic c) a w) (hy : YieldsIf P ops S oi v a) (hS : S w)
    (h : wpAnyH P md ops Q S fuel (listed.setIfInBounds i true) (a.put oi.dst v) w) : wpAnyH P md ops Q S (fuel + 1) listed a w := wpAnyH_take hi hs hf hr hQ hy hS h
set_option maxRecDepth 100000 in
set_option maxHeartbeats 8000000 in
theorem parts_ok (b : Bool) (x1 x0 s : Int) (b' : Bool) (y1 y0 s' : Int) (l0 : Bool) (l1 l2 : Int) (h0 : Bool) (h1 h2 : Int) (g0 : Bool) (g1 g2 g3 : Int) (x y : Int) (hx : x ≤ 0) (hy : y ≤ 0) (q q1 : Bool) (hq : q = false ∨ (q = true ∧ q1 = false)) (r0 : Bool) (r1 r2 r3 ee : Int) (z : Bool) (t0 : Bool) (t1 t2 t3 : Int) (u0 : Bool) (u1 u2 u3 o : Int) (ho : o ≤ 0) (rz : Bool)
    (H1 : ∀ W, Calls Try.prog 13 #[.agg #[.bool b, .int .u64 x1, .int .u64 x0, .int .i64 s]] W fun e w' => e = .returned (.bool true) ∧ Below W.heap.size W w')
    (H2 : ∀ W, Calls Try.prog 13 #[.agg #[.bool b', .int .u64 y1, .int .u64 y0, .int .i64 s']] W fun e w' => e = .returned (.bool true) ∧ Below W.heap.size W w')
    (H3 : ∀ W, Calls Try.prog 35 #[.agg #[.bool b, .int .u64 x1, .int .u64 x0, .int .i64 s]] W fun e w' => e = .returned (.tuple #[.agg #[.bool l0, .int .u64 l1, .int .u64 l2, .int .i64 0], .int .i64 0]) ∧ Below W.heap.size W w')
    (H4 : ∀ W, Calls Try.prog 37 #[.agg #[.bool b, .int .u64 x1, .int .u64 x0, .int .i64 s]] W fun e w' => e = .returned (.tuple #[.agg #[.bool h0, .int .u64 h1, .int .u64 h2, .int .i64 0], .int .i64 0]) ∧ Below W.heap.size W w')
    (H5 : ∀ W, Calls Try.prog 39 #[.agg #[.bool b, .int .u64 x1, .int .u64 x0, .int .i64 s], .int .i64 18] W fun e w' => e = .returned (.tuple #[.agg #[.bool b, .int .u64 x1, .int .u64 x0, .int .i64 s], .int .i64 0]) ∧ Below W.heap.size W w')
    (H6 : ∀ W, Calls Try.prog 29 #[.agg #[.bool h0, .int .u64 h1, .int .u64 h2, .int .i64 0], .agg #[.bool l0, .int .u64 l1, .int .u64 l2, .int .i64 0]] W fun e w' => e = .returned (.tuple #[.agg #[.bool g0, .int .u64 g1, .int .u64 g2, .int .i64 g3], .int .i64 0]) ∧ Below W.heap.size W w')
    (H7 : ∀ W, Calls Try.prog 12 #[.agg #[.bool l0, .int .u64 l1, .int .u64 l2, .int .i64 0], .agg #[.bool b, .int .u64 x1, .int .u64 x0, .int .i64 s]] W fun e w' => e = .returned (.tuple #[.int .i64 x, .int .i64 0]) ∧ Below W.heap.size W w')
    (H8 : ∀ W, Calls Try.prog 12 #[.agg #[.bool b, .int .u64 x1, .int .u64 x0, .int .i64 s], .agg #[.bool h0, .int .u64 h1, .int .u64 h2, .int .i64 0]] W fun e w' => e = .returned (.tuple #[.int .i64 y, .int .i64 0]) ∧ Below W.heap.size W w')
    (H9 : ∀ W, Calls Try.prog 17 #[.int .i64 0] W fun e w' => e = .returned (.agg #[.bool false, .int .u64 0, .int .u64 0, .int .i64 0]) ∧ Below W.heap.size W w')
    (H10 : ∀ W, Calls Try.prog 17 #[.int .i64 1] W fun e w' => e = .returned (.agg #[.bool false, .int .u64 0, .int .u64 1, .int .i64 0]) ∧ Below W.heap.size W w')
    (H11 : ∀ W, Calls Try.prog 45 #[.agg #[.bool b, .int .u64 x1, .int .u64 x0, .int .i64 s], .agg #[.bool b', .int .u64 y1, .int .u64 y0, .int .i64 s']] W fun e w' => e = .returned (.tuple #[.agg #[.bool r0, .int .u64 r1, .int .u64 r2, .int .i64 r3], .int .i64 ee]) ∧ Below W.heap.size W w')
    (H12 : z = false → ∀ W, Calls Try.prog 26 #[.agg #[.bool r0, .int .u64 r1, .int .u64 r2, .int .i64 r3]] W fun e w' => e = .returned (.tuple #[.agg #[.bool t0, .int .u64 t1, .int .u64 t2, .int .i64 t3], .int .i64 0]) ∧ Below W.heap.size W w')
    (H13 : z = false → ∀ W, Calls Try.prog 26 #[.agg #[.bool b', .int .u64 y1, .int .u64 y0, .int .i64 s']] W fun e w' => e = .returned (.tuple #[.agg #[.bool u0, .int .u64 u1, .int .u64 u2, .int .i64 u3], .int .i64 0]) ∧ Below W.heap.size W w')
    (H14 : z = false → ∀ W, Calls Try.prog 12 #[.agg #[.bool t0, .int .u64 t1, .int .u64 t2, .int .i64 t3], .agg #[.bool u0, .int .u64 u1, .int .u64 u2, .int .i64 u3]] W fun e w' => e = .returned (.tuple #[.int .i64 o, .int .i64 0]) ∧ Below W.heap.size W w')
    (c0 : ∀ W, (binOp .neq 26 (.agg #[.bool g0, .int .u64 g1, .int .u64 g2, .int .i64 g3]) (.agg #[.bool false, .int .u64 0, .int .u64 0, .int .i64 0])).run Try.prog W = .ok (.bool q) W)
    (c1 : ∀ W, (binOp .neq 26 (.agg #[.bool g0, .int .u64 g1, .int .u64 g2, .int .i64 g3]) (.agg #[.bool false, .int .u64 0, .int .u64 1, .int .i64 0])).run Try.prog W = .ok (.bool q1) W)
    (c2 : ∀ W, (binOp .eql 26 (.agg #[.bool b', .int .u64 y1, .int .u64 y0, .int .i64 s']) (.agg #[.bool false, .int .u64 0, .int .u64 0, .int .i64 0])).run Try.prog W = .ok (.bool z) W)
    (c3 : ∀ W, (binOp .eql 26 (.agg #[.bool r0, .int .u64 r1, .int .u64 r2, .int .i64 r3]) (.agg #[.bool false, .int .u64 0, .int .u64 0, .int .i64 0])).run Try.prog W = .ok (.bool rz) W)
    (hz : z = true → ee = 4 ∧ rz = true) (hn : z = false → ee = 0 ∧ (rz = true ∨ r0 = b'))
    (w : World) : Calls Try.prog 10 #[.agg #[.bool b, .int .u64 x1, .int .u64 x0, .int .i64 s], .agg #[.bool b', .int .u64 y1, .int .u64 y0, .int .i64 s']] w fun e w' => e = .returned (.bool true) ∧ Below w.heap.size w w' := by
  have K1 := Lib.hid H1
  have K2 := Lib.hid H2
  have K3 := Lib.hid H3
  have K4 := Lib.hid H4
  have K5 := Lib.hid H5
  have K6 := Lib.hid H6
  have K7 := Lib.hid H7
  have K8 := Lib.hid H8
  have K9 := Lib.hid H9
  have K10 := Lib.hid H10
  have K11 := Lib.hid H11
  have K12 := Lib.hid H12
  have K13 := Lib.hid H13
  have K14 := Lib.hid H14
  clear H1 H2 H3 H4 H5 H6 H7 H8 H9 H10 H11 H12 H13 H14
  have r5 : ∀ W, (binOp .neq 26 (.agg #[.bool b, .int .u64 x1, .int .u64 x0, .int .i64 s]) (.agg #[.bool b, .int .u64 x1, .int .u64 x0, .int .i64 s])).run Try.prog W = .ok (.bool false) W := fun W => by rw [neq_dec]; simp
  have HZ := Lib.hid hz
  have hx2 : decide (0 < x) = false := decide_eq_false (by omega)
  have hy2 : decide (0 < y) = false := decide_eq_false (by omega)
  have HX := Lib.hid hx
  have HY := Lib.hid hy
  clear hx hy
  have HN := Lib.hid hn
  clear hz hn
  go_enter Try.func10, Try.ntmps10
  go_wp2_with fail
  refine (known_any _).mono ?_
  rintro _ w1 ⟨rfl, hb1⟩; have hb1s := hb1.size; (try simp only [World.size_alloc, World.size_setCell, World.size_drew, World.heap_drewN] at hb1s); obtain ⟨hb1c, hb1f⟩ := bcell hb1; (try have : w.heap.size < w1.heap.size := by omega); (try have : w.heap.size + 1 < w1.heap.size := by omega); (try have : w.heap.size + 1 + 1 < w1.heap.size := by omega); (try have : w.heap.size + 1 + 1 + 1 < w1.heap.size := by omega)
  have aq1 : Bk w1 (w.heap.size) 26 [.bool b, .int .u64 x1, .int .u64 x0, .int .i64 s] := by (repeat (first | (with_reducible assumption) | ((with_reducible refine Bk.new_ ?_); (first | rfl | (simp only [World.size_alloc, World.size_setCell, World.size_drew, World.heap_drewN]; done))) | (with_reducible refine Bk.alloc ?_ _) | (with_reducible refine Bk.drew ?_) | (with_reducible refine Bk.drewN ?_ _) | ((with_reducible refine Bk.far ?_ ?_ _); rotate_left; focus (simp only []; omega)) | ((with_reducible refine Bk.below ?_ (by with_reducible assumption) ?_); rotate_left; focus (go_size; done))))
  have aq1_0 := aq1.cell 0 rfl
  have aq1_1 := aq1.cell 1 rfl
  have aq1_2 := aq1.cell 2 rfl
  have aq1_3 := aq1.cell 3 rfl
  have aq1_4 := aq1.frozen 0
  have aq1_5 := aq1.frozen 1
  have aq1_6 := aq1.frozen 2
  have aq1_7 := aq1.frozen 3
  have aq1l := aq1.lt
  have cq1 : Bk w1 (w.heap.size + 1) 26 [.bool b', .int .u64 y1, .int .u64 y0, .int .i64 s'] := by (repeat (first | (with_reducible assumption) | ((with_reducible refine Bk.new_ ?_); (first | rfl | (simp only [World.size_alloc, World.size_setCell, World.size_drew, World.heap_drewN]; done))) | (with_reducible refine Bk.alloc ?_ _) | (with_reducible refine Bk.drew ?_) | (with_reducible refine Bk.drewN ?_ _) | ((with_reducible refine Bk.far ?_ ?_ _); rotate_left; focus (simp only []; omega)) | ((with_reducible refine Bk.below ?_ (by with_reducible assumption) ?_); rotate_left; focus (go_size; done))))
  have cq1_0 := cq1.cell 0 rfl
  have cq1_1 := cq1.cell 1 rfl
  have cq1_2 := cq1.cell 2 rfl
  have cq1_3 := cq1.cell 3 rfl
  have cq1_4 := cq1.frozen 0
  have cq1_5 := cq1.frozen 1
  have cq1_6 := cq1.frozen 2
  have cq1_7 := cq1.frozen 3
  have cq1l := cq1.lt
  clear hb1c hb1f
  go_wp2_with fail
  refine calls_named (fun W => Bk W (w.heap.size) 26 [.bool b, .int .u64 x1, .int .u64 x0, .int .i64 s] ∧ Bk W (w.heap.size + 1) 26 [.bool b', .int .u64 y1, .int .u64 y0, .int .i64 s'] ∧ Below w.heap.size w W) ⟨?h0, ?h1, ?h2⟩ ?_
  case h0 => ((repeat (first | (with_reducible assumption) | ((with_reducible refine Bk.new_ ?_); (first | rfl | (simp only [World.size_alloc, World.size_setCell, World.size_drew, World.heap_drewN]; done))) | (with_reducible refine Bk.alloc ?_ _) | (with_reducible refine Bk.drew ?_) | (with_reducible refine Bk.drewN ?_ _) | ((with_reducible refine Bk.far ?_ ?_ _); rotate_left; focus (simp only []; omega)) | ((with_reducible refine Bk.below ?_ (by with_reducible assumption) ?_); rotate_left; focus (go_size; done)))); done)
  case h1 => ((repeat (first | (with_reducible assumption) | ((with_reducible refine Bk.new_ ?_); (first | rfl | (simp only [World.size_alloc, World.size_setCell, World.size_drew, World.heap_drewN]; done))) | (with_reducible refine Bk.alloc ?_ _) | (with_reducible refine Bk.drew ?_) | (with_reducible refine Bk.drewN ?_ _) | ((with_reducible refine Bk.far ?_ ?_ _); rotate_left; focus (simp only []; omega)) | ((with_reducible refine Bk.below ?_ (by with_reducible assumption) ?_); rotate_left; focus (go_size; done)))); done)
  case h2 => ((repeat' (first | (with_reducible exact Below.refl _ _) | (with_reducible assumption) | (with_reducible refine Below.drew ?_) | (with_reducible refine below_drewN ?_ _) | ((with_reducible refine Below.alloc ?_ ?_ _); rotate_left; focus (go_size; done)) | ((with_reducible refine Below.setCell ?_ ?_ _); rotate_left; focus (go_size; done)) | ((with_reducible refine Below.trans ?_ (Below.mono (by with_reducible assumption) ?_)); rotate_left; focus (go_size; done)))); done)
  clear aq1_0 aq1_1 aq1_2 aq1_3 aq1_4 aq1_5 aq1_6 aq1_7
  clear cq1_0 cq1_1 cq1_2 cq1_3 cq1_4 cq1_5 cq1_6 cq1_7
  try clear hb1 hb1s
  try clear aq1 aq1l
  try clear cq1 cq1l
  try clear kal
  try clear kcl
  try clear ka
  try clear kc
  try clear kw
  rintro W1 ⟨ka, kc, kw⟩
  have kal := ka.lt
  have kcl := kc.lt
  refine (K1.out _).mono ?_
  rintro _ w2 ⟨rfl, hb2⟩; have hb2s := hb2.size; (try simp only [World.size_alloc, World.size_setCell, World.size_drew, World.heap_drewN] at hb2s); obtain ⟨hb2c, hb2f⟩ := bcell hb2; (try have : w.heap.size < w2.heap.size := by omega); (try have : w.heap.size + 1 < w2.heap.size := by omega); (try have : w.heap.size + 1 + 1 < w2.heap.size := by omega); (try have : w.heap.size + 1 + 1 + 1 < w2.heap.size := by omega)
  have aq2 : Bk w2 (w.heap.size) 26 [.bool b, .int .u64 x1, .int .u64 x0, .int .i64 s] := by (repeat (first | (with_reducible assumption) | ((with_reducible refine Bk.new_ ?_); (first | rfl | (simp only [World.size_alloc, World.size_setCell, World.size_drew, World.heap_drewN]; done))) | (with_reducible refine Bk.alloc ?_ _) | (with_reducible refine Bk.drew ?_) | (with_reducible refine Bk.drewN ?_ _) | ((with_reducible refine Bk.far ?_ ?_ _); rotate_left; focus (simp only []; omega)) | ((with_reducible refine Bk.below ?_ (by with_reducible assumption) ?_); rotate_left; focus (go_size; done))))
  have aq2_0 := aq2.cell 0 rfl
  have aq2_1 := aq2.cell 1 rfl
  have aq2_2 := aq2.cell 2 rfl
  have aq2_3 := aq2.cell 3 rfl
  have aq2_4 := aq2.frozen 0
  have aq2_5 := aq2.frozen 1
  have aq2_6 := aq2.frozen 2
  have aq2_7 := aq2.frozen 3
  have aq2l := aq2.lt
  have cq2 : Bk w2 (w.heap.size + 1) 26 [.bool b', .int .u64 y1, .int .u64 y0, .int .i64 s'] := by (repeat (first | (with_reducible assumption) | ((with_reducible refine Bk.new_ ?_); (first | rfl | (simp only [World.size_alloc, World.size_setCell, World.size_drew, World.heap_drewN]; done))) | (with_reducible refine Bk.alloc ?_ _) | (with_reducible refine Bk.drew ?_) | (with_reducible refine Bk.drewN ?_ _) | ((with_reducible refine Bk.far ?_ ?_ _); rotate_left; focus (simp only []; omega)) | ((with_reducible refine Bk.below ?_ (by with_reducible assumption) ?_); rotate_left; focus (go_size; done))))
  have cq2_0 := cq2.cell 0 rfl
  have cq2_1 := cq2.cell 1 rfl
  have cq2_2 := cq2.cell 2 rfl
  have cq2_3 := cq2.cell 3 rfl
  have cq2_4 := cq2.frozen 0
  have cq2_5 := cq2.frozen 1
  have cq2_6 := cq2.frozen 2
  have cq2_7 := cq2.frozen 3
  have cq2l := cq2.lt
  clear hb2c hb2f
  go_wp2_with fail
  refine calls_named (fun W => Bk W (w.heap.size) 26 [.bool b, .int .u64 x1, .int .u64 x0, .int .i64 s] ∧ Bk W (w.heap.size + 1) 26 [.bool b', .int .u64 y1, .int .u64 y0, .int .i64 s'] ∧ Below w.heap.size w W) ⟨?h0, ?h1, ?h2⟩ ?_
  case h0 => ((repeat (first | (with_reducible assumption) | ((with_reducible refine Bk.new_ ?_); (first | rfl | (simp only [World.size_alloc, World.size_setCell, World.size_drew, World.heap_drewN]; done))) | (with_reducible refine Bk.alloc ?_ _) | (with_reducible refine Bk.drew ?_) | (with_reducible refine Bk.drewN ?_ _) | ((with_reducible refine Bk.far ?_ ?_ _); rotate_left; focus (simp only []; omega)) | ((with_reducible refine Bk.below ?_ (by with_reducible assumption) ?_); rotate_left; focus (go_size; done)))); done)
  case h1 => ((repeat (first | (with_reducible assumption) | ((with_reducible refine Bk.new_ ?_); (first | rfl | (simp only [World.size_alloc, World.size_setCell, World.size_drew, World.heap_drewN]; done))) | (with_reducible refine Bk.alloc ?_ _) | (with_reducible refine Bk.drew ?_) | (with_reducible refine Bk.drewN ?_ _) | ((with_reducible refine Bk.far ?_ ?_ _); rotate_left; focus (simp only []; omega)) | ((with_reducible refine Bk.below ?_ (by with_reducible assumption) ?_); rotate_left; focus (go_size; done)))); done)
  case h2 => ((repeat' (first | (with_reducible exact Below.refl _ _) | (with_reducible assumption) | (with_reducible refine Below.drew ?_) | (with_reducible refine below_drewN ?_ _) | ((with_reducible refine Below.alloc ?_ ?_ _); rotate_left; focus (go_size; done)) | ((with_reducible refine Below.setCell ?_ ?_ _); rotate_left; focus (go_size; done)) | ((with_reducible refine Below.trans ?_ (Below.mono (by with_reducible assumption) ?_)); rotate_left; focus (go_size; done)))); done)
  clear aq2_0 aq2_1 aq2_2 aq2_3 aq2_4 aq2_5 aq2_6 aq2_7
  clear cq2_0 cq2_1 cq2_2 cq2_3 cq2_4 cq2_5 cq2_6 cq2_7
  try clear hb2 hb2s
  try clear aq2 aq2l
  try clear cq2 cq2l
  try clear kal
  try clear kcl
  try clear ka
  try clear kc
  try clear kw
  rintro W2 ⟨ka, kc, kw⟩
  have kal := ka.lt
  have kcl := kc.lt
  refine (K2.out _).mono ?_
  rintro _ w3 ⟨rfl, hb3⟩; have hb3s := hb3.size; (try simp only [World.size_alloc, World.size_setCell, World.size_drew, World.heap_drewN] at hb3s); obtain ⟨hb3c, hb3f⟩ := bcell hb3; (try have : w.heap.size < w3.heap.size := by omega); (try have : w.heap.size + 1 < w3.heap.size := by omega); (try have : w.heap.size + 1 + 1 < w3.heap.size := by omega); (try have : w.heap.size + 1 + 1 + 1 < w3.heap.size := by omega)
  have aq3 : Bk w3 (w.heap.size) 26 [.bool b, .int .u64 x1, .int .u64 x0, .int .i64 s] := by (repeat (first | (with_reducible assumption) | ((with_reducible refine Bk.new_ ?_); (first | rfl | (simp only [World.size_alloc, World.size_setCell, World.size_drew, World.heap_drewN]; done))) | (with_reducible refine Bk.alloc ?_ _) | (with_reducible refine Bk.drew ?_) | (with_reducible refine Bk.drewN ?_ _) | ((with_reducible refine Bk.far ?_ ?_ _); rotate_left; focus (simp only []; omega)) | ((with_reducible refine Bk.below ?_ (by with_reducible assumption) ?_); rotate_left; focus (go_size; done))))
  have aq3_0 := aq3.cell 0 rfl
  have aq3_1 := aq3.cell 1 rfl
  have aq3_2 := aq3.cell 2 rfl
  have aq3_3 := aq3.cell 3 rfl
  have aq3_4 := aq3.frozen 0
  have aq3_5 := aq3.frozen 1
  have aq3_6 := aq3.frozen 2
  have aq3_7 := aq3.frozen 3
  have aq3l := aq3.lt
  have cq3 : Bk w3 (w.heap.size + 1) 26 [.bool b', .int .u64 y1, .int .u64 y0, .int .i64 s'] := by (repeat (first | (with_reducible assumption) | ((with_reducible refine Bk.new_ ?_); (first | rfl | (simp only [World.size_alloc, World.size_setCell, World.size_drew, World.heap_drewN]; done))) | (with_reducible refine Bk.alloc ?_ _) | (with_reducible refine Bk.drew ?_) | (with_reducible refine Bk.drewN ?_ _) | ((with_reducible refine Bk.far ?_ ?_ _); rotate_left; focus (simp only []; omega)) | ((with_reducible refine Bk.below ?_ (by with_reducible assumption) ?_); rotate_left; focus (go_size; done))))
  have cq3_0 := cq3.cell 0 rfl
  have cq3_1 := cq3.cell 1 rfl
  have cq3_2 := cq3.cell 2 rfl
  have cq3_3 := cq3.cell 3 rfl
  have cq3_4 := cq3.frozen 0
  have cq3_5 := cq3.frozen 1
  have cq3_6 := cq3.frozen 2
  have cq3_7 := cq3.frozen 3
  have cq3l := cq3.lt
  clear hb3c hb3f
  go_wp2_with fail
  refine calls_named (fun W => Bk W (w.heap.size) 26 [.bool b, .int .u64 x1, .int .u64 x0, .int .i64 s] ∧ Bk W (w.heap.size + 1) 26 [.bool b', .int .u64 y1, .int .u64 y0, .int .i64 s'] ∧ Below w.heap.size w W) ⟨?h0, ?h1, ?h2⟩ ?_
  case h0 => ((repeat (first | (with_reducible assumption) | ((with_reducible refine Bk.new_ ?_); (first | rfl | (simp only [World.size_alloc, World.size_setCell, World.size_drew, World.heap_drewN]; done))) | (with_reducible refine Bk.alloc ?_ _) | (with_reducible refine Bk.drew ?_) | (with_reducible refine Bk.drewN ?_ _) | ((with_reducible refine Bk.far ?_ ?_ _); rotate_left; focus (simp only []; omega)) | ((with_reducible refine Bk.below ?_ (by with_reducible assumption) ?_); rotate_left; focus (go_size; done)))); done)
  case h1 => ((repeat (first | (with_reducible assumption) | ((with_reducible refine Bk.new_ ?_); (first | rfl | (simp only [World.size_alloc, World.size_setCell, World.size_drew, World.heap_drewN]; done))) | (with_reducible refine Bk.alloc ?_ _) | (with_reducible refine Bk.drew ?_) | (with_reducible refine Bk.drewN ?_ _) | ((with_reducible refine Bk.far ?_ ?_ _); rotate_left; focus (simp only []; omega)) | ((with_reducible refine Bk.below ?_ (by with_reducible assumption) ?_); rotate_left; focus (go_size; done)))); done)
  case h2 => ((repeat' (first | (with_reducible exact Below.refl _ _) | (with_reducible assumption) | (with_reducible refine Below.drew ?_) | (with_reducible refine below_drewN ?_ _) | ((with_reducible refine Below.alloc ?_ ?_ _); rotate_left; focus (go_size; done)) | ((with_reducible refine Below.setCell ?_ ?_ _); rotate_left; focus (go_size; done)) | ((with_reducible refine Below.trans ?_ (Below.mono (by with_reducible assumption) ?_)); rotate_left; focus (go_size; done)))); done)
  clear aq3_0 aq3_1 aq3_2 aq3_3 aq3_4 aq3_5 aq3_6 aq3_7
  clear cq3_0 cq3_1 cq3_2 cq3_3 cq3_4 cq3_5 cq3_6 cq3_7
  try clear hb3 hb3s
  try clear aq3 aq3l
  try clear cq3 cq3l
  try clear kal
  try clear kcl
  try clear ka
  try clear kc
  try clear kw
  rintro W3 ⟨ka, kc, kw⟩
  have kal := ka.lt
  have kcl := kc.lt
  refine (K3.out _).mono ?_
  rintro _ w4 ⟨rfl, hb4⟩; have hb4s := hb4.size; (try simp only [World.size_alloc, World.size_setCell, World.size_drew, World.heap_drewN] at hb4s); obtain ⟨hb4c, hb4f⟩ := bcell hb4; (try have : w.heap.size < w4.heap.size := by omega); (try have : w.heap.size + 1 < w4.heap.size := by omega); (try have : w.heap.size + 1 + 1 < w4.heap.size := by omega); (try have : w.heap.size + 1 + 1 + 1 < w4.heap.size := by omega)
  have aq4 : Bk w4 (w.heap.size) 26 [.bool b, .int .u64 x1, .int .u64 x0, .int .i64 s] := by (repeat (first | (with_reducible assumption) | ((with_reducible refine Bk.new_ ?_); (first | rfl | (simp only [World.size_alloc, World.size_setCell, World.size_drew, World.heap_drewN]; done))) | (with_reducible refine Bk.alloc ?_ _) | (with_reducible refine Bk.drew ?_) | (with_reducible refine Bk.drewN ?_ _) | ((with_reducible refine Bk.far ?_ ?_ _); rotate_left; focus (simp only []; omega)) | ((with_reducible refine Bk.below ?_ (by with_reducible assumption) ?_); rotate_left; focus (go_size; done))))
  have aq4_0 := aq4.cell 0 rfl
  have aq4_1 := aq4.cell 1 rfl
  have aq4_2 := aq4.cell 2 rfl
  have aq4_3 := aq4.cell 3 rfl
  have aq4_4 := aq4.frozen 0
  have aq4_5 := aq4.frozen 1
  have aq4_6 := aq4.frozen 2
  have aq4_7 := aq4.frozen 3
  have aq4l := aq4.lt
  have cq4 : Bk w4 (w.heap.size + 1) 26 [.bool b', .int .u64 y1, .int .u64 y0, .int .i64 s'] := by (repeat (first | (with_reducible assumption) | ((with_reducible refine Bk.new_ ?_); (first | rfl | (simp only [World.size_alloc, World.size_setCell, World.size_drew, World.heap_drewN]; done))) | (with_reducible refine Bk.alloc ?_ _) | (with_reducible refine Bk.drew ?_) | (with_reducible refine Bk.drewN ?_ _) | ((with_reducible refine Bk.far ?_ ?_ _); rotate_left; focus (simp only []; omega)) | ((with_reducible refine Bk.below ?_ (by with_reducible assumption) ?_); rotate_left; focus (go_size; done))))
  have cq4_0 := cq4.cell 0 rfl
  have cq4_1 := cq4.cell 1 rfl
  have cq4_2 := cq4.cell 2 rfl
  have cq4_3 := cq4.cell 3 rfl
  have cq4_4 := cq4.frozen 0
  have cq4_5 := cq4.frozen 1
  have cq4_6 := cq4.frozen 2
  have cq4_7 := cq4.frozen 3
  have cq4l := cq4.lt
  clear hb4c hb4f
  go_wp2_with fail
  obtain ⟨gl, hgl⟩ : ∃ gl, gl = w4.heap.size := ⟨_, rfl⟩
  refine calls_named (fun W => Bk W (w.heap.size) 26 [.bool b, .int .u64 x1, .int .u64 x0, .int .i64 s] ∧ Bk W (w.heap.size + 1) 26 [.bool b', .int .u64 y1, .int .u64 y0, .int .i64 s'] ∧ Bk W w4.heap.size 26 [.bool l0, .int .u64 l1, .int .u64 l2, .int .i64 0] ∧ Below w.heap.size w W) ⟨?h0, ?h1, ?h2, ?h3⟩ ?_
  case h0 => ((repeat (first | (with_reducible assumption) | ((with_reducible refine Bk.new_ ?_); (first | rfl | (simp only [World.size_alloc, World.size_setCell, World.size_drew, World.heap_drewN]; done))) | (with_reducible refine Bk.alloc ?_ _) | (with_reducible refine Bk.drew ?_) | (with_reducible refine Bk.drewN ?_ _) | ((with_reducible refine Bk.far ?_ ?_ _); rotate_left; focus (simp only []; omega)) | ((with_reducible refine Bk.below ?_ (by with_reducible assumption) ?_); rotate_left; focus (go_size; done)))); done)
  case h1 => ((repeat (first | (with_reducible assumption) | ((with_reducible refine Bk.new_ ?_); (first | rfl | (simp only [World.size_alloc, World.size_setCell, World.size_drew, World.heap_drewN]; done))) | (with_reducible refine Bk.alloc ?_ _) | (with_reducible refine Bk.drew ?_) | (with_reducible refine Bk.drewN ?_ _) | ((with_reducible refine Bk.far ?_ ?_ _); rotate_left; focus (simp only []; omega)) | ((with_reducible refine Bk.below ?_ (by with_reducible assumption) ?_); rotate_left; focus (go_size; done)))); done)
  case h2 => ((repeat (first | (with_reducible assumption) | ((with_reducible refine Bk.new_ ?_); (first | rfl | (simp only [World.size_alloc, World.size_setCell, World.size_drew, World.heap_drewN]; done))) | (with_reducible refine Bk.alloc ?_ _) | (with_reducible refine Bk.drew ?_) | (with_reducible refine Bk.drewN ?_ _) | ((with_reducible refine Bk.far ?_ ?_ _); rotate_left; focus (simp only []; omega)) | ((with_reducible refine Bk.below ?_ (by with_reducible assumption) ?_); rotate_left; focus (go_size; done)))); done)
  case h3 => ((repeat' (first | (with_reducible exact Below.refl _ _) | (with_reducible assumption) | (with_reducible refine Below.drew ?_) | (with_reducible refine below_drewN ?_ _) | ((with_reducible refine Below.alloc ?_ ?_ _); rotate_left; focus (go_size; done)) | ((with_reducible refine Below.setCell ?_ ?_ _); rotate_left; focus (go_size; done)) | ((with_reducible refine Below.trans ?_ (Below.mono (by with_reducible assumption) ?_)); rotate_left; focus (go_size; done)))); done)
  clear aq4_0 aq4_1 aq4_2 aq4_3 aq4_4 aq4_5 aq4_6 aq4_7
  clear cq4_0 cq4_1 cq4_2 cq4_3 cq4_4 cq4_5 cq4_6 cq4_7
  rw [← hgl]
  have gl_a : w.heap.size < gl := by omega
  have gl_c : w.heap.size + 1 < gl := by omega
  clear hgl
  try clear hb4 hb4s
  try clear aq4 aq4l
  try clear cq4 cq4l
  try clear kal
  try clear kcl
  try clear ka
  try clear kc
  try clear kw
  rintro W4 ⟨ka, kc, kl, kw⟩
  have kal := ka.lt
  have kcl := kc.lt
  have kll := kl.lt
  refine (K4.out _).mono ?_
  rintro _ w5 ⟨rfl, hb5⟩; have hb5s := hb5.size; (try simp only [World.size_alloc, World.size_setCell, World.size_drew, World.heap_drewN] at hb5s); obtain ⟨hb5c, hb5f⟩ := bcell hb5; (try have : w.heap.size < w5.heap.size := by omega); (try have : w.heap.size + 1 < w5.heap.size := by omega); (try have : w.heap.size + 1 + 1 < w5.heap.size := by omega); (try have : w.heap.size + 1 + 1 + 1 < w5.heap.size := by omega)
  have aq5 : Bk w5 (w.heap.size) 26 [.bool b, .int .u64 x1, .int .u64 x0, .int .i64 s] := by (repeat (first | (with_reducible assumption) | ((with_reducible refine Bk.new_ ?_); (first | rfl | (simp only [World.size_alloc, World.size_setCell, World.size_drew, World.heap_drewN]; done))) | (with_reducible refine Bk.alloc ?_ _) | (with_reducible refine Bk.drew ?_) | (with_reducible refine Bk.drewN ?_ _) | ((with_reducible refine Bk.far ?_ ?_ _); rotate_left; focus (simp only []; omega)) | ((with_reducible refine Bk.below ?_ (by with_reducible assumption) ?_); rotate_left; focus (go_size; done))))
  have aq5_0 := aq5.cell 0 rfl
  have aq5_1 := aq5.cell 1 rfl
  have aq5_2 := aq5.cell 2 rfl
  have aq5_3 := aq5.cell 3 rfl
  have aq5_4 := aq5.frozen 0
  have aq5_5 := aq5.frozen 1
  have aq5_6 := aq5.frozen 2
  have aq5_7 := aq5.frozen 3
  have aq5l := aq5.lt
  have cq5 : Bk w5 (w.heap.size + 1) 26 [.bool b', .int .u64 y1, .int .u64 y0, .int .i64 s'] := by (repeat (first | (with_reducible assumption) | ((with_reducible refine Bk.new_ ?_); (first | rfl | (simp only [World.size_alloc, World.size_setCell, World.size_drew, World.heap_drewN]; done))) | (with_reducible refine Bk.alloc ?_ _) | (with_reducible refine Bk.drew ?_) | (with_reducible refine Bk.drewN ?_ _) | ((with_reducible refine Bk.far ?_ ?_ _); rotate_left; focus (simp only []; omega)) | ((with_reducible refine Bk.below ?_ (by with_reducible assumption) ?_); rotate_left; focus (go_size; done))))
  have cq5_0 := cq5.cell 0 rfl
  have cq5_1 := cq5.cell 1 rfl
  have cq5_2 := cq5.cell 2 rfl
  have cq5_3 := cq5.cell 3 rfl
  have cq5_4 := cq5.frozen 0
  have cq5_5 := cq5.frozen 1
  have cq5_6 := cq5.frozen 2
  have cq5_7 := cq5.frozen 3
  have cq5l := cq5.lt
  have lq5 : Bk w5 (gl) 26 [.bool l0, .int .u64 l1, .int .u64 l2, .int .i64 0] := by (repeat (first | (with_reducible assumption) | ((with_reducible refine Bk.new_ ?_); (first | rfl | (simp only [World.size_alloc, World.size_setCell, World.size_drew, World.heap_drewN]; done))) | (with_reducible refine Bk.alloc ?_ _) | (with_reducible refine Bk.drew ?_) | (with_reducible refine Bk.drewN ?_ _) | ((with_reducible refine Bk.far ?_ ?_ _); rotate_left; focus (simp only []; omega)) | ((with_reducible refine Bk.below ?_ (by with_reducible assumption) ?_); rotate_left; focus (go_size; done))))
  have lq5_0 := lq5.cell 0 rfl
  have lq5_1 := lq5.cell 1 rfl
  have lq5_2 := lq5.cell 2 rfl
  have lq5_3 := lq5.cell 3 rfl
  have lq5_4 := lq5.frozen 0
  have lq5_5 := lq5.frozen 1
  have lq5_6 := lq5.frozen 2
  have lq5_7 := lq5.frozen 3
  have lq5l := lq5.lt
  clear hb5c hb5f
  go_wp2_with fail
  obtain ⟨gh, hgh⟩ : ∃ gh, gh = w5.heap.size := ⟨_, rfl⟩
  refine calls_named (fun W => Bk W (w.heap.size) 26 [.bool b, .int .u64 x1, .int .u64 x0, .int .i64 s] ∧ Bk W (w.heap.size + 1) 26 [.bool b', .int .u64 y1, .int .u64 y0, .int .i64 s'] ∧ Bk W (gl) 26 [.bool l0, .int .u64 l1, .int .u64 l2, .int .i64 0] ∧ Bk W w5.heap.size 26 [.bool h0, .int .u64 h1, .int .u64 h2, .int .i64 0] ∧ Below w.heap.size w W) ⟨?h0, ?h1, ?h2, ?h3, ?h4⟩ ?_
  case h0 => ((repeat (first | (with_reducible assumption) | ((with_reducible refine Bk.new_ ?_); (first | rfl | (simp only [World.size_alloc, World.size_setCell, World.size_drew, World.heap_drewN]; done))) | (with_reducible refine Bk.alloc ?_ _) | (with_reducible refine Bk.drew ?_) | (with_reducible refine Bk.drewN ?_ _) | ((with_reducible refine Bk.far ?_ ?_ _); rotate_left; focus (simp only []; omega)) | ((with_reducible refine Bk.below ?_ (by with_reducible assumption) ?_); rotate_left; focus (go_size; done)))); done)
  case h1 => ((repeat (first | (with_reducible assumption) | ((with_reducible refine Bk.new_ ?_); (first | rfl | (simp only [World.size_alloc, World.size_setCell, World.size_drew, World.heap_drewN]; done))) | (with_reducible refine Bk.alloc ?_ _) | (with_reducible refine Bk.drew ?_) | (with_reducible refine Bk.drewN ?_ _) | ((with_reducible refine Bk.far ?_ ?_ _); rotate_left; focus (simp only []; omega)) | ((with_reducible refine Bk.below ?_ (by with_reducible assumption) ?_); rotate_left; focus (go_size; done)))); done)
  case h2 => ((repeat (first | (with_reducible assumption) | ((with_reducible refine Bk.new_ ?_); (first | rfl | (simp only [World.size_alloc, World.size_setCell, World.size_drew, World.heap_drewN]; done))) | (with_reducible refine Bk.alloc ?_ _) | (with_reducible refine Bk.drew ?_) | (with_reducible refine Bk.drewN ?_ _) | ((with_reducible refine Bk.far ?_ ?_ _); rotate_left; focus (simp only []; omega)) | ((with_reducible refine Bk.below ?_ (by with_reducible assumption) ?_); rotate_left; focus (go_size; done)))); done)
  case h3 => ((repeat (first | (with_reducible assumption) | ((with_reducible refine Bk.new_ ?_); (first | rfl | (simp only [World.size_alloc, World.size_setCell, World.size_drew, World.heap_drewN]; done))) | (with_reducible refine Bk.alloc ?_ _) | (with_reducible refine Bk.drew ?_) | (with_reducible refine Bk.drewN ?_ _) | ((with_reducible refine Bk.far ?_ ?_ _); rotate_left; focus (simp only []; omega)) | ((with_reducible refine Bk.below ?_ (by with_reducible assumption) ?_); rotate_left; focus (go_size; done)))); done)
  case h4 => ((repeat' (first | (with_reducible exact Below.refl _ _) | (with_reducible assumption) | (with_reducible refine Below.drew ?_) | (with_reducible refine below_drewN ?_ _) | ((with_reducible refine Below.alloc ?_ ?_ _); rotate_left; focus (go_size; done)) | ((with_reducible refine Below.setCell ?_ ?_ _); rotate_left; focus (go_size; done)) | ((with_reducible refine Below.trans ?_ (Below.mono (by with_reducible assumption) ?_)); rotate_left; focus (go_size; done)))); done)
  clear aq5_0 aq5_1 aq5_2 aq5_3 aq5_4 aq5_5 aq5_6 aq5_7
  clear cq5_0 cq5_1 cq5_2 cq5_3 cq5_4 cq5_5 cq5_6 cq5_7
  clear lq5_0 lq5_1 lq5_2 lq5_3 lq5_4 lq5_5 lq5_6 lq5_7
  rw [← hgh]
  have gh_a : w.heap.size < gh := by omega
  have gh_c : w.heap.size + 1 < gh := by omega
  have gh_l : gl < gh := by omega
  clear hgh
  try clear hb5 hb5s
  try clear aq5 aq5l
  try clear cq5 cq5l
  try clear lq5 lq5l
  try clear kal
  try clear kcl
  try clear kll
  try clear ka
  try clear kc
  try clear kl
  try clear kw
  rintro W5 ⟨ka, kc, kl, kh, kw⟩
  have kal := ka.lt
  have kcl := kc.lt
  have kll := kl.lt
  have khl := kh.lt
  refine (K5.out _).mono ?_
  rintro _ w6 ⟨rfl, hb6⟩; have hb6s := hb6.size; (try simp only [World.size_alloc, World.size_setCell, World.size_drew, World.heap_drewN] at hb6s); obtain ⟨hb6c, hb6f⟩ := bcell hb6; (try have : w.heap.size < w6.heap.size := by omega); (try have : w.heap.size + 1 < w6.heap.size := by omega); (try have : w.heap.size + 1 + 1 < w6.heap.size := by omega); (try have : w.heap.size + 1 + 1 + 1 < w6.heap.size := by omega)
  have aq6 : Bk w6 (w.heap.size) 26 [.bool b, .int .u64 x1, .int .u64 x0, .int .i64 s] := by (repeat (first | (with_reducible assumption) | ((with_reducible refine Bk.new_ ?_); (first | rfl | (simp only [World.size_alloc, World.size_setCell, World.size_drew, World.heap_drewN]; done))) | (with_reducible refine Bk.alloc ?_ _) | (with_reducible refine Bk.drew ?_) | (with_reducible refine Bk.drewN ?_ _) | ((with_reducible refine Bk.far ?_ ?_ _); rotate_left; focus (simp only []; omega)) | ((with_reducible refine Bk.below ?_ (by with_reducible assumption) ?_); rotate_left; focus (go_size; done))))
  have aq6_0 := aq6.cell 0 rfl
  have aq6_1 := aq6.cell 1 rfl
  have aq6_2 := aq6.cell 2 rfl
  have aq6_3 := aq6.cell 3 rfl
  have aq6_4 := aq6.frozen 0
  have aq6_5 := aq6.frozen 1
  have aq6_6 := aq6.frozen 2
  have aq6_7 := aq6.frozen 3
  have aq6l := aq6.lt
  have cq6 : Bk w6 (w.heap.size + 1) 26 [.bool b', .int .u64 y1, .int .u64 y0, .int .i64 s'] := by (repeat (first | (with_reducible assumption) | ((with_reducible refine Bk.new_ ?_); (first | rfl | (simp only [World.size_alloc, World.size_setCell, World.size_drew, World.heap_drewN]; done))) | (with_reducible refine Bk.alloc ?_ _) | (with_reducible refine Bk.drew ?_) | (with_reducible refine Bk.drewN ?_ _) | ((with_reducible refine Bk.far ?_ ?_ _); rotate_left; focus (simp only []; omega)) | ((with_reducible refine Bk.below ?_ (by with_reducible assumption) ?_); rotate_left; focus (go_size; done))))
  have cq6_0 := cq6.cell 0 rfl
  have cq6_1 := cq6.cell 1 rfl
  have cq6_2 := cq6.cell 2 rfl
  have cq6_3 := cq6.cell 3 rfl
  have cq6_4 := cq6.frozen 0
  have cq6_5 := cq6.frozen 1
  have cq6_6 := cq6.frozen 2
  have cq6_7 := cq6.frozen 3
  have cq6l := cq6.lt
  have lq6 : Bk w6 (gl) 26 [.bool l0, .int .u64 l1, .int .u64 l2, .int .i64 0] := by (repeat (first | (with_reducible assumption) | ((with_reducible refine Bk.new_ ?_); (first | rfl | (simp only [World.size_alloc, World.size_setCell, World.size_drew, World.heap_drewN]; done))) | (with_reducible refine Bk.alloc ?_ _) | (with_reducible refine Bk.drew ?_) | (with_reducible refine Bk.drewN ?_ _) | ((with_reducible refine Bk.far ?_ ?_ _); rotate_left; focus (simp only []; omega)) | ((with_reducible refine Bk.below ?_ (by with_reducible assumption) ?_); rotate_left; focus (go_size; done))))
  have lq6_0 := lq6.cell 0 rfl
  have lq6_1 := lq6.cell 1 rfl
  have lq6_2 := lq6.cell 2 rfl
  have lq6_3 := lq6.cell 3 rfl
  have lq6_4 := lq6.frozen 0
  have lq6_5 := lq6.frozen 1
  have lq6_6 := lq6.frozen 2
  have lq6_7 := lq6.frozen 3
  have lq6l := lq6.lt
  have hq6 : Bk w6 (gh) 26 [.bool h0, .int .u64 h1, .int .u64 h2, .int .i64 0] := by (repeat (first | (with_reducible assumption) | ((with_reducible refine Bk.new_ ?_); (first | rfl | (simp only [World.size_alloc, World.size_setCell, World.size_drew, World.heap_drewN]; done))) | (with_reducible refine Bk.alloc ?_ _) | (with_reducible refine Bk.drew ?_) | (with_reducible refine Bk.drewN ?_ _) | ((with_reducible refine Bk.far ?_ ?_ _); rotate_left; focus (simp only []; omega)) | ((with_reducible refine Bk.below ?_ (by with_reducible assumption) ?_); rotate_left; focus (go_size; done))))
  have hq6_0 := hq6.cell 0 rfl
  have hq6_1 := hq6.cell 1 rfl
  have hq6_2 := hq6.cell 2 rfl
  have hq6_3 := hq6.cell 3 rfl
  have hq6_4 := hq6.frozen 0
  have hq6_5 := hq6.frozen 1
  have hq6_6 := hq6.frozen 2
  have hq6_7 := hq6.frozen 3
  have hq6l := hq6.lt
  clear hb6c hb6f
  go_wp2_with fail
  obtain ⟨gm, hgm⟩ : ∃ gm, gm = w6.heap.size := ⟨_, rfl⟩
  refine calls_named (fun W => Bk W (w.heap.size) 26 [.bool b, .int .u64 x1, .int .u64 x0, .int .i64 s] ∧ Bk W (w.heap.size + 1) 26 [.bool b', .int .u64 y1, .int .u64 y0, .int .i64 s'] ∧ Bk W (gl) 26 [.bool l0, .int .u64 l1, .int .u64 l2, .int .i64 0] ∧ Bk W (gh) 26 [.bool h0, .int .u64 h1, .int .u64 h2, .int .i64 0] ∧ Bk W w6.heap.size 26 [.bool b, .int .u64 x1, .int .u64 x0, .int .i64 s] ∧ Below w.heap.size w W) ⟨?h0, ?h1, ?h2, ?h3, ?h4, ?h5⟩ ?_
  case h0 => ((repeat (first | (with_reducible assumption) | ((with_reducible refine Bk.new_ ?_); (first | rfl | (simp only [World.size_alloc, World.size_setCell, World.size_drew, World.heap_drewN]; done))) | (with_reducible refine Bk.alloc ?_ _) | (with_reducible refine Bk.drew ?_) | (with_reducible refine Bk.drewN ?_ _) | ((with_reducible refine Bk.far ?_ ?_ _); rotate_left; focus (simp only []; omega)) | ((with_reducible refine Bk.below ?_ (by with_reducible assumption) ?_); rotate_left; focus (go_size; done)))); done)
  case h1 => ((repeat (first | (with_reducible assumption) | ((with_reducible refine Bk.new_ ?_); (first | rfl | (simp only [World.size_alloc, World.size_setCell, World.size_drew, World.heap_drewN]; done))) | (with_reducible refine Bk.alloc ?_ _) | (with_reducible refine Bk.drew ?_) | (with_reducible refine Bk.drewN ?_ _) | ((with_reducible refine Bk.far ?_ ?_ _); rotate_left; focus (simp only []; omega)) | ((with_reducible refine Bk.below ?_ (by with_reducible assumption) ?_); rotate_left; focus (go_size; done)))); done)
  case h2 => ((repeat (first | (with_reducible assumption) | ((with_reducible refine Bk.new_ ?_); (first | rfl | (simp only [World.size_alloc, World.size_setCell, World.size_drew, World.heap_drewN]; done))) | (with_reducible refine Bk.alloc ?_ _) | (with_reducible refine Bk.drew ?_) | (with_reducible refine Bk.drewN ?_ _) | ((with_reducible refine Bk.far ?_ ?_ _); rotate_left; focus (simp only []; omega)) | ((with_reducible refine Bk.below ?_ (by with_reducible assumption) ?_); rotate_left; focus (go_size; done)))); done)
  case h3 => ((repeat (first | (with_reducible assumption) | ((with_reducible refine Bk.new_ ?_); (first | rfl | (simp only [World.size_alloc, World.size_setCell, World.size_drew, World.heap_drewN]; done))) | (with_reducible refine Bk.alloc ?_ _) | (with_reducible refine Bk.drew ?_) | (with_reducible refine Bk.drewN ?_ _) | ((with_reducible refine Bk.far ?_ ?_ _); rotate_left; focus (simp only []; omega)) | ((with_reducible refine Bk.below ?_ (by with_reducible assumption) ?_); rotate_left; focus (go_size; done)))); done)
  case h4 => ((repeat (first | (with_reducible assumption) | ((with_reducible refine Bk.new_ ?_); (first | rfl | (simp only [World.size_alloc, World.size_setCell, World.size_drew, World.heap_drewN]; done))) | (with_reducible refine Bk.alloc ?_ _) | (with_reducible refine Bk.drew ?_) | (with_reducible refine Bk.drewN ?_ _) | ((with_reducible refine Bk.far ?_ ?_ _); rotate_left; focus (simp only []; omega)) | ((with_reducible refine Bk.below ?_ (by with_reducible assumption) ?_); rotate_left; focus (go_size; done)))); done)
  case h5 => ((repeat' (first | (with_reducible exact Below.refl _ _) | (with_reducible assumption) | (with_reducible refine Below.drew ?_) | (with_reducible refine below_drewN ?_ _) | ((with_reducible refine Below.alloc ?_ ?_ _); rotate_left; focus (go_size; done)) | ((with_reducible refine Below.setCell ?_ ?_ _); rotate_left; focus (go_size; done)) | ((with_reducible refine Below.trans ?_ (Below.mono (by with_reducible assumption) ?_)); rotate_left; focus (go_size; done)))); done)
  clear aq6_0 aq6_1 aq6_2 aq6_3 aq6_4 aq6_5 aq6_6 aq6_7
  clear cq6_0 cq6_1 cq6_2 cq6_3 cq6_4 cq6_5 cq6_6 cq6_7
  clear lq6_0 lq6_1 lq6_2 lq6_3 lq6_4 lq6_5 lq6_6 lq6_7
  clear hq6_0 hq6_1 hq6_2 hq6_3 hq6_4 hq6_5 hq6_6 hq6_7
  rw [← hgm]
  have gm_a : w.heap.size < gm := by omega
  have gm_c : w.heap.size + 1 < gm := by omega
  have gm_l : gl < gm := by omega
  have gm_h : gh < gm := by omega
  clear hgm
  try clear hb6 hb6s
  try clear aq6 aq6l
  try clear cq6 cq6l
  try clear lq6 lq6l
  try clear hq6 hq6l
  try clear kal
  try clear kcl
  try clear kll
  try clear khl
  try clear ka
  try clear kc
  try clear kl
  try clear kh
  try clear kw
  rintro W6 ⟨ka, kc, kl, kh, km, kw⟩
  have kal := ka.lt
  have kcl := kc.lt
  have kll := kl.lt
  have khl := kh.lt
  have kml := km.lt
  refine (K6.out _).mono ?_
  rintro _ w7 ⟨rfl, hb7⟩; have hb7s := hb7.size; (try simp only [World.size_alloc, World.size_setCell, World.size_drew, World.heap_drewN] at hb7s); obtain ⟨hb7c, hb7f⟩ := bcell hb7; (try have : w.heap.size < w7.heap.size := by omega); (try have : w.heap.size + 1 < w7.heap.size := by omega); (try have : w.heap.size + 1 + 1 < w7.heap.size := by omega); (try have : w.heap.size + 1 + 1 + 1 < w7.heap.size := by omega)
  have aq7 : Bk w7 (w.heap.size) 26 [.bool b, .int .u64 x1, .int .u64 x0, .int .i64 s] := by (repeat (first | (with_reducible assumption) | ((with_reducible refine Bk.new_ ?_); (first | rfl | (simp only [World.size_alloc, World.size_setCell, World.size_drew, World.heap_drewN]; done))) | (with_reducible refine Bk.alloc ?_ _) | (with_reducible refine Bk.drew ?_) | (with_reducible refine Bk.drewN ?_ _) | ((with_reducible refine Bk.far ?_ ?_ _); rotate_left; focus (simp only []; omega)) | ((with_reducible refine Bk.below ?_ (by with_reducible assumption) ?_); rotate_left; focus (go_size; done))))
  have aq7_0 := aq7.cell 0 rfl
  have aq7_1 := aq7.cell 1 rfl
  have aq7_2 := aq7.cell 2 rfl
  have aq7_3 := aq7.cell 3 rfl
  have aq7_4 := aq7.frozen 0
  have aq7_5 := aq7.frozen 1
  have aq7_6 := aq7.frozen 2
  have aq7_7 := aq7.frozen 3
  have aq7l := aq7.lt
  have cq7 : Bk w7 (w.heap.size + 1) 26 [.bool b', .int .u64 y1, .int .u64 y0, .int .i64 s'] := by (repeat (first | (with_reducible assumption) | ((with_reducible refine Bk.new_ ?_); (first | rfl | (simp only [World.size_alloc, World.size_setCell, World.size_drew, World.heap_drewN]; done))) | (with_reducible refine Bk.alloc ?_ _) | (with_reducible refine Bk.drew ?_) | (with_reducible refine Bk.drewN ?_ _) | ((with_reducible refine Bk.far ?_ ?_ _); rotate_left; focus (simp only []; omega)) | ((with_reducible refine Bk.below ?_ (by with_reducible assumption) ?_); rotate_left; focus (go_size; done))))
  have cq7_0 := cq7.cell 0 rfl
  have cq7_1 := cq7.cell 1 rfl
  have cq7_2 := cq7.cell 2 rfl
  have cq7_3 := cq7.cell 3 rfl
  have cq7_4 := cq7.frozen 0
  have cq7_5 := cq7.frozen 1
  have cq7_6 := cq7.frozen 2
  have cq7_7 := cq7.frozen 3
  have cq7l := cq7.lt
  have lq7 : Bk w7 (gl) 26 [.bool l0, .int .u64 l1, .int .u64 l2, .int .i64 0] := by (repeat (first | (with_reducible assumption) | ((with_reducible refine Bk.new_ ?_); (first | rfl | (simp only [World.size_alloc, World.size_setCell, World.size_drew, World.heap_drewN]; done))) | (with_reducible refine Bk.alloc ?_ _) | (with_reducible refine Bk.drew ?_) | (with_reducible refine Bk.drewN ?_ _) | ((with_reducible refine Bk.far ?_ ?_ _); rotate_left; focus (simp only []; omega)) | ((with_reducible refine Bk.below ?_ (by with_reducible assumption) ?_); rotate_left; focus (go_size; done))))
  have lq7_0 := lq7.cell 0 rfl
  have lq7_1 := lq7.cell 1 rfl
  have lq7_2 := lq7.cell 2 rfl
  have lq7_3 := lq7.cell 3 rfl
  have lq7_4 := lq7.frozen 0
  have lq7_5 := lq7.frozen 1
  have lq7_6 := lq7.frozen 2
  have lq7_7 := lq7.frozen 3
  have lq7l := lq7.lt
  have hq7 : Bk w7 (gh) 26 [.bool h0, .int .u64 h1, .int .u64 h2, .int .i64 0] := by (repeat (first | (with_reducible assumption) | ((with_reducible refine Bk.new_ ?_); (first | rfl | (simp only [World.size_alloc, World.size_setCell, World.size_drew, World.heap_drewN]; done))) | (with_reducible refine Bk.alloc ?_ _) | (with_reducible refine Bk.drew ?_) | (with_reducible refine Bk.drewN ?_ _) | ((with_reducible refine Bk.far ?_ ?_ _); rotate_left; focus (simp only []; omega)) | ((with_reducible refine Bk.below ?_ (by with_reducible assumption) ?_); rotate_left; focus (go_size; done))))
  have hq7_0 := hq7.cell 0 rfl
  have hq7_1 := hq7.cell 1 rfl
  have hq7_2 := hq7.cell 2 rfl
  have hq7_3 := hq7.cell 3 rfl
  have hq7_4 := hq7.frozen 0
  have hq7_5 := hq7.frozen 1
  have hq7_6 := hq7.frozen 2
  have hq7_7 := hq7.frozen 3
  have hq7l := hq7.lt
  have mq7 : Bk w7 (gm) 26 [.bool b, .int .u64 x1, .int .u64 x0, .int .i64 s] := by (repeat (first | (with_reducible assumption) | ((with_reducible refine Bk.new_ ?_); (first | rfl | (simp only [World.size_alloc, World.size_setCell, World.size_drew, World.heap_drewN]; done))) | (with_reducible refine Bk.alloc ?_ _) | (with_reducible refine Bk.drew ?_) | (with_reducible refine Bk.drewN ?_ _) | ((with_reducible refine Bk.far ?_ ?_ _); rotate_left; focus (simp only []; omega)) | ((with_reducible refine Bk.below ?_ (by with_reducible assumption) ?_); rotate_left; focus (go_size; done))))
  have mq7_0 := mq7.cell 0 rfl
  have mq7_1 := mq7.cell 1 rfl
  have mq7_2 := mq7.cell 2 rfl
  have mq7_3 := mq7.cell 3 rfl
  have mq7_4 := mq7.frozen 0
  have mq7_5 := mq7.frozen 1
  have mq7_6 := mq7.frozen 2
  have mq7_7 := mq7.frozen 3
  have mq7l := mq7.lt
  clear hb7c hb7f
  go_wp2_with fail
  obtain ⟨gg, hgg⟩ : ∃ gg, gg = w7.heap.size := ⟨_, rfl⟩
  refine calls_named (fun W => Bk W (w.heap.size) 26 [.bool b, .int .u64 x1, .int .u64 x0, .int .i64 s] ∧ Bk W (w.heap.size + 1) 26 [.bool b', .int .u64 y1, .int .u64 y0, .int .i64 s'] ∧ Bk W (gl) 26 [.bool l0, .int .u64 l1, .int .u64 l2, .int .i64 0] ∧ Bk W (gh) 26 [.bool h0, .int .u64 h1, .int .u64 h2, .int .i64 0] ∧ Bk W (gm) 26 [.bool b, .int .u64 x1, .int .u64 x0, .int .i64 s] ∧ Bk W w7.heap.size 26 [.bool g0, .int .u64 g1, .int .u64 g2, .int .i64 g3] ∧ Below w.heap.size w W) ⟨?h0, ?h1, ?h2, ?h3, ?h4, ?h5, ?h6⟩ ?_
  case h0 => ((repeat (first | (with_reducible assumption) | ((with_reducible refine Bk.new_ ?_); (first | rfl | (simp only [World.size_alloc, World.size_setCell, World.size_drew, World.heap_drewN]; done))) | (with_reducible refine Bk.alloc ?_ _) | (with_reducible refine Bk.drew ?_) | (with_reducible refine Bk.drewN ?_ _) | ((with_reducible refine Bk.far ?_ ?_ _); rotate_left; focus (simp only []; omega)) | ((with_reducible refine Bk.below ?_ (by with_reducible assumption) ?_); rotate_left; focus (go_size; done)))); done)
  case h1 => ((repeat (first | (with_reducible assumption) | ((with_reducible refine Bk.new_ ?_); (first | rfl | (simp only [World.size_alloc, World.size_setCell, World.size_drew, World.heap_drewN]; done))) | (with_reducible refine Bk.alloc ?_ _) | (with_reducible refine Bk.drew ?_) | (with_reducible refine Bk.drewN ?_ _) | ((with_reducible refine Bk.far ?_ ?_ _); rotate_left; focus (simp only []; omega)) | ((with_reducible refine Bk.below ?_ (by with_reducible assumption) ?_); rotate_left; focus (go_size; done)))); done)
  case h2 => ((repeat (first | (with_reducible assumption) | ((with_reducible refine Bk.new_ ?_); (first | rfl | (simp only [World.size_alloc, World.size_setCell, World.size_drew, World.heap_drewN]; done))) | (with_reducible refine Bk.alloc ?_ _) | (with_reducible refine Bk.drew ?_) | (with_reducible refine Bk.drewN ?_ _) | ((with_reducible refine Bk.far ?_ ?_ _); rotate_left; focus (simp only []; omega)) | ((with_reducible refine Bk.below ?_ (by with_reducible assumption) ?_); rotate_left; focus (go_size; done)))); done)
  case h3 => ((repeat (first | (with_reducible assumption) | ((with_reducible refine Bk.new_ ?_); (first | rfl | (simp only [World.size_alloc, World.size_setCell, World.size_drew, World.heap_drewN]; done))) | (with_reducible refine Bk.alloc ?_ _) | (with_reducible refine Bk.drew ?_) | (with_reducible refine Bk.drewN ?_ _) | ((with_reducible refine Bk.far ?_ ?_ _); rotate_left; focus (simp only []; omega)) | ((with_reducible refine Bk.below ?_ (by with_reducible assumption) ?_); rotate_left; focus (go_size; done)))); done)
  case h4 => ((repeat (first | (with_reducible assumption) | ((with_reducible refine Bk.new_ ?_); (first | rfl | (simp only [World.size_alloc, World.size_setCell, World.size_drew, World.heap_drewN]; done))) | (with_reducible refine Bk.alloc ?_ _) | (with_reducible refine Bk.drew ?_) | (with_reducible refine Bk.drewN ?_ _) | ((with_reducible refine Bk.far ?_ ?_ _); rotate_left; focus (simp only []; omega)) | ((with_reducible refine Bk.below ?_ (by with_reducible assumption) ?_); rotate_left; focus (go_size; done)))); done)
  case h5 => ((repeat (first | (with_reducible assumption) | ((with_reducible refine Bk.new_ ?_); (first | rfl | (simp only [World.size_alloc, World.size_setCell, World.size_drew, World.heap_drewN]; done))) | (with_reducible refine Bk.alloc ?_ _) | (with_reducible refine Bk.drew ?_) | (with_reducible refine Bk.drewN ?_ _) | ((with_reducible refine Bk.far ?_ ?_ _); rotate_left; focus (simp only []; omega)) | ((with_reducible refine Bk.below ?_ (by with_reducible assumption) ?_); rotate_left; focus (go_size; done)))); done)
  case h6 => ((repeat' (first | (with_reducible exact Below.refl _ _) | (with_reducible assumption) | (with_reducible refine Below.drew ?_) | (with_reducible refine below_drewN ?_ _) | ((with_reducible refine Below.alloc ?_ ?_ _); rotate_left; focus (go_size; done)) | ((with_reducible refine Below.setCell ?_ ?_ _); rotate_left; focus (go_size; done)) | ((with_reducible refine Below.trans ?_ (Below.mono (by with_reducible assumption) ?_)); rotate_left; focus (go_size; done)))); done)
  clear aq7_0 aq7_1 aq7_2 aq7_3 aq7_4 aq7_5 aq7_6 aq7_7
  clear cq7_0 cq7_1 cq7_2 cq7_3 cq7_4 cq7_5 cq7_6 cq7_7
  clear lq7_0 lq7_1 lq7_2 lq7_3 lq7_4 lq7_5 lq7_6 lq7_7
  clear hq7_0 hq7_1 hq7_2 hq7_3 hq7_4 hq7_5 hq7_6 hq7_7
  clear mq7_0 mq7_1 mq7_2 mq7_3 mq7_4 mq7_5 mq7_6 mq7_7
  rw [← hgg]
  have gg_a : w.heap.size < gg := by omega
  have gg_c : w.heap.size + 1 < gg := by omega
  have gg_l : gl < gg := by omega
  have gg_h : gh < gg := by omega
  have gg_m : gm < gg := by omega
  clear hgg
  try clear hb7 hb7s
  try clear aq7 aq7l
  try clear cq7 cq7l
  try clear lq7 lq7l
  try clear hq7 hq7l
  try clear mq7 mq7l
  try clear kal
  try clear kcl
  try clear kll
  try clear khl
  try clear kml
  try clear ka
  try clear kc
  try clear kl
  try clear kh
  try clear km
  try clear kw
  rintro W7 ⟨ka, kc, kl, kh, km, kg, kw⟩
  have kal := ka.lt
  have kcl := kc.lt
  have kll := kl.lt
  have khl := kh.lt
  have kml := km.lt
  have kgl := kg.lt
  refine (K7.out _).mono ?_
  rintro _ w8 ⟨rfl, hb8⟩; have hb8s := hb8.size; (try simp only [World.size_alloc, World.size_setCell, World.size_drew, World.heap_drewN] at hb8s); obtain ⟨hb8c, hb8f⟩ := bcell hb8; (try have : w.heap.size < w8.heap.size := by omega); (try have : w.heap.size + 1 < w8.heap.size := by omega); (try have : w.heap.size + 1 + 1 < w8.heap.size := by omega); (try have : w.heap.size + 1 + 1 + 1 < w8.heap.size := by omega)
  have aq8 : Bk w8 (w.heap.size) 26 [.bool b, .int .u64 x1, .int .u64 x0, .int .i64 s] := by (repeat (first | (with_reducible assumption) | ((with_reducible refine Bk.new_ ?_); (first | rfl | (simp only [World.size_alloc, World.size_setCell, World.size_drew, World.heap_drewN]; done))) | (with_reducible refine Bk.alloc ?_ _) | (with_reducible refine Bk.drew ?_) | (with_reducible refine Bk.drewN ?_ _) | ((with_reducible refine Bk.far ?_ ?_ _); rotate_left; focus (simp only []; omega)) | ((with_reducible refine Bk.below ?_ (by with_reducible assumption) ?_); rotate_left; focus (go_size; done))))
  have aq8_0 := aq8.cell 0 rfl
  have aq8_1 := aq8.cell 1 rfl
  have aq8_2 := aq8.cell 2 rfl
  have aq8_3 := aq8.cell 3 rfl
  have aq8_4 := aq8.frozen 0
  have aq8_5 := aq8.frozen 1
  have aq8_6 := aq8.frozen 2
  have aq8_7 := aq8.frozen 3
  have aq8l := aq8.lt
  have cq8 : Bk w8 (w.heap.size + 1) 26 [.bool b', .int .u64 y1, .int .u64 y0, .int .i64 s'] := by (repeat (first | (with_reducible assumption) | ((with_reducible refine Bk.new_ ?_); (first | rfl | (simp only [World.size_alloc, World.size_setCell, World.size_drew, World.heap_drewN]; done))) | (with_reducible refine Bk.alloc ?_ _) | (with_reducible refine Bk.drew ?_) | (with_reducible refine Bk.drewN ?_ _) | ((with_reducible refine Bk.far ?_ ?_ _); rotate_left; focus (simp only []; omega)) | ((with_reducible refine Bk.below ?_ (by with_reducible assumption) ?_); rotate_left; focus (go_size; done))))
  have cq8_0 := cq8.cell 0 rfl
  have cq8_1 := cq8.cell 1 rfl
  have cq8_2 := cq8.cell 2 rfl
  have cq8_3 := cq8.cell 3 rfl
  have cq8_4 := cq8.frozen 0
  have cq8_5 := cq8.frozen 1
  have cq8_6 := cq8.frozen 2
  have cq8_7 := cq8.frozen 3
  have cq8l := cq8.lt
  have lq8 : Bk w8 (gl) 26 [.bool l0, .int .u64 l1, .int .u64 l2, .int .i64 0] := by (repeat (first | (with_reducible assumption) | ((with_reducible refine Bk.new_ ?_); (first | rfl | (simp only [World.size_alloc, World.size_setCell, World.size_drew, World.heap_drewN]; done))) | (with_reducible refine Bk.alloc ?_ _) | (with_reducible refine Bk.drew ?_) | (with_reducible refine Bk.drewN ?_ _) | ((with_reducible refine Bk.far ?_ ?_ _); rotate_left; focus (simp only []; omega)) | ((with_reducible refine Bk.below ?_ (by with_reducible assumption) ?_); rotate_left; focus (go_size; done))))
  have lq8_0 := lq8.cell 0 rfl
  have lq8_1 := lq8.cell 1 rfl
  have lq8_2 := lq8.cell 2 rfl
  have lq8_3 := lq8.cell 3 rfl
  have lq8_4 := lq8.frozen 0
  have lq8_5 := lq8.frozen 1
  have lq8_6 := lq8.frozen 2
  have lq8_7 := lq8.frozen 3
  have lq8l := lq8.lt
  have hq8 : Bk w8 (gh) 26 [.bool h0, .int .u64 h1, .int .u64 h2, .int .i64 0] := by (repeat (first | (with_reducible assumption) | ((with_reducible refine Bk.new_ ?_); (first | rfl | (simp only [World.size_alloc, World.size_setCell, World.size_drew, World.heap_drewN]; done))) | (with_reducible refine Bk.alloc ?_ _) | (with_reducible refine Bk.drew ?_) | (with_reducible refine Bk.drewN ?_ _) | ((with_reducible refine Bk.far ?_ ?_ _); rotate_left; focus (simp only []; omega)) | ((with_reducible refine Bk.below ?_ (by with_reducible assumption) ?_); rotate_left; focus (go_size; done))))
  have hq8_0 := hq8.cell 0 rfl
  have hq8_1 := hq8.cell 1 rfl
  have hq8_2 := hq8.cell 2 rfl
  have hq8_3 := hq8.cell 3 rfl
  have hq8_4 := hq8.frozen 0
  have hq8_5 := hq8.frozen 1
  have hq8_6 := hq8.frozen 2
  have hq8_7 := hq8.frozen 3
  have hq8l := hq8.lt
  have mq8 : Bk w8 (gm) 26 [.bool b, .int .u64 x1, .int .u64 x0, .int .i64 s] := by (repeat (first | (with_reducible assumption) | ((with_reducible refine Bk.new_ ?_); (first | rfl | (simp only [World.size_alloc, World.size_setCell, World.size_drew, World.heap_drewN]; done))) | (with_reducible refine Bk.alloc ?_ _) | (with_reducible refine Bk.drew ?_) | (with_reducible refine Bk.drewN ?_ _) | ((with_reducible refine Bk.far ?_ ?_ _); rotate_left; focus (simp only []; omega)) | ((with_reducible refine Bk.below ?_ (by with_reducible assumption) ?_); rotate_left; focus (go_size; done))))
  have mq8_0 := mq8.cell 0 rfl
  have mq8_1 := mq8.cell 1 rfl
  have mq8_2 := mq8.cell 2 rfl
  have mq8_3 := mq8.cell 3 rfl
  have mq8_4 := mq8.frozen 0
  have mq8_5 := mq8.frozen 1
  have mq8_6 := mq8.frozen 2
  have mq8_7 := mq8.frozen 3
  have mq8l := mq8.lt
  have gq8 : Bk w8 (gg) 26 [.bool g0, .int .u64 g1, .int .u64 g2, .int .i64 g3] := by (repeat (first | (with_reducible assumption) | ((with_reducible refine Bk.new_ ?_); (first | rfl | (simp only [World.size_alloc, World.size_setCell, World.size_drew, World.heap_drewN]; done))) | (with_reducible refine Bk.alloc ?_ _) | (with_reducible refine Bk.drew ?_) | (with_reducible refine Bk.drewN ?_ _) | ((with_reducible refine Bk.far ?_ ?_ _); rotate_left; focus (simp only []; omega)) | ((with_reducible refine Bk.below ?_ (by with_reducible assumption) ?_); rotate_left; focus (go_size; done))))
  have gq8_0 := gq8.cell 0 rfl
  have gq8_1 := gq8.cell 1 rfl
  have gq8_2 := gq8.cell 2 rfl
  have gq8_3 := gq8.cell 3 rfl
  have gq8_4 := gq8.frozen 0
  have gq8_5 := gq8.frozen 1
  have gq8_6 := gq8.frozen 2
  have gq8_7 := gq8.frozen 3
  have gq8l := gq8.lt
  clear hb8c hb8f
  go_wp2_with fail
  refine calls_named (fun W => Bk W (w.heap.size) 26 [.bool b, .int .u64 x1, .int .u64 x0, .int .i64 s] ∧ Bk W (w.heap.size + 1) 26 [.bool b', .int .u64 y1, .int .u64 y0, .int .i64 s'] ∧ Bk W (gl) 26 [.bool l0, .int .u64 l1, .int .u64 l2, .int .i64 0] ∧ Bk W (gh) 26 [.bool h0, .int .u64 h1, .int .u64 h2, .int .i64 0] ∧ Bk W (gm) 26 [.bool b, .int .u64 x1, .int .u64 x0, .int .i64 s] ∧ Bk W (gg) 26 [.bool g0, .int .u64 g1, .int .u64 g2, .int .i64 g3] ∧ Below w.heap.size w W) ⟨?h0, ?h1, ?h2, ?h3, ?h4, ?h5, ?h6⟩ ?_
  case h0 => ((repeat (first | (with_reducible assumption) | ((with_reducible refine Bk.new_ ?_); (first | rfl | (simp only [World.size_alloc, World.size_setCell, World.size_drew, World.heap_drewN]; done))) | (with_reducible refine Bk.alloc ?_ _) | (with_reducible refine Bk.drew ?_) | (with_reducible refine Bk.drewN ?_ _) | ((with_reducible refine Bk.far ?_ ?_ _); rotate_left; focus (simp only []; omega)) | ((with_reducible refine Bk.below ?_ (by with_reducible assumption) ?_); rotate_left; focus (go_size; done)))); done)
  case h1 => ((repeat (first | (with_reducible assumption) | ((with_reducible refine Bk.new_ ?_); (first | rfl | (simp only [World.size_alloc, World.size_setCell, World.size_drew, World.heap_drewN]; done))) | (with_reducible refine Bk.alloc ?_ _) | (with_reducible refine Bk.drew ?_) | (with_reducible refine Bk.drewN ?_ _) | ((with_reducible refine Bk.far ?_ ?_ _); rotate_left; focus (simp only []; omega)) | ((with_reducible refine Bk.below ?_ (by with_reducible assumption) ?_); rotate_left; focus (go_size; done)))); done)
  case h2 => ((repeat (first | (with_reducible assumption) | ((with_reducible refine Bk.new_ ?_); (first | rfl | (simp only [World.size_alloc, World.size_setCell, World.size_drew, World.heap_drewN]; done))) | (with_reducible refine Bk.alloc ?_ _) | (with_reducible refine Bk.drew ?_) | (with_reducible refine Bk.drewN ?_ _) | ((with_reducible refine Bk.far ?_ ?_ _); rotate_left; focus (simp only []; omega)) | ((with_reducible refine Bk.below ?_ (by with_reducible assumption) ?_); rotate_left; focus (go_size; done)))); done)
  case h3 => ((repeat (first | (with_reducible assumption) | ((with_reducible refine Bk.new_ ?_); (first | rfl | (simp only [World.size_alloc, World.size_setCell, World.size_drew, World.heap_drewN]; done))) | (with_reducible refine Bk.alloc ?_ _) | (with_reducible refine Bk.drew ?_) | (with_reducible refine Bk.drewN ?_ _) | ((with_reducible refine Bk.far ?_ ?_ _); rotate_left; focus (simp only []; omega)) | ((with_reducible refine Bk.below ?_ (by with_reducible assumption) ?_); rotate_left; focus (go_size; done)))); done)
  case h4 => ((repeat (first | (with_reducible assumption) | ((with_reducible refine Bk.new_ ?_); (first | rfl | (simp only [World.size_alloc, World.size_setCell, World.size_drew, World.heap_drewN]; done))) | (with_reducible refine Bk.alloc ?_ _) | (with_reducible refine Bk.drew ?_) | (with_reducible refine Bk.drewN ?_ _) | ((with_reducible refine Bk.far ?_ ?_ _); rotate_left; focus (simp only []; omega)) | ((with_reducible refine Bk.below ?_ (by with_reducible assumption) ?_); rotate_left; focus (go_size; done)))); done)
  case h5 => ((repeat (first | (with_reducible assumption) | ((with_reducible refine Bk.new_ ?_); (first | rfl | (simp only [World.size_alloc, World.size_setCell, World.size_drew, World.heap_drewN]; done))) | (with_reducible refine Bk.alloc ?_ _) | (with_reducible refine Bk.drew ?_) | (with_reducible refine Bk.drewN ?_ _) | ((with_reducible refine Bk.far ?_ ?_ _); rotate_left; focus (simp only []; omega)) | ((with_reducible refine Bk.below ?_ (by with_reducible assumption) ?_); rotate_left; focus (go_size; done)))); done)
  case h6 => ((repeat' (first | (with_reducible exact Below.refl _ _) | (with_reducible assumption) | (with_reducible refine Below.drew ?_) | (with_reducible refine below_drewN ?_ _) | ((with_reducible refine Below.alloc ?_ ?_ _); rotate_left; focus (go_size; done)) | ((with_reducible refine Below.setCell ?_ ?_ _); rotate_left; focus (go_size; done)) | ((with_reducible refine Below.trans ?_ (Below.mono (by with_reducible assumption) ?_)); rotate_left; focus (go_size; done)))); done)
  clear aq8_0 aq8_1 aq8_2 aq8_3 aq8_4 aq8_5 aq8_6 aq8_7
  clear cq8_0 cq8_1 cq8_2 cq8_3 cq8_4 cq8_5 cq8_6 cq8_7
  clear lq8_0 lq8_1 lq8_2 lq8_3 lq8_4 lq8_5 lq8_6 lq8_7
  clear hq8_0 hq8_1 hq8_2 hq8_3 hq8_4 hq8_5 hq8_6 hq8_7
  clear mq8_0 mq8_1 mq8_2 mq8_3 mq8_4 mq8_5 mq8_6 mq8_7
  clear gq8_0 gq8_1 gq8_2 gq8_3 gq8_4 gq8_5 gq8_6 gq8_7
  try clear hb8 hb8s
  try clear aq8 aq8l
  try clear cq8 cq8l
  try clear lq8 lq8l
  try clear hq8 hq8l
  try clear mq8 mq8l
  try clear gq8 gq8l
  try clear kal
  try clear kcl
  try clear kll
  try clear khl
  try clear kml
  try clear kgl
  try clear ka
  try clear kc
  try clear kl
  try clear kh
  try clear km
  try clear kg
  try clear kw
  rintro W8 ⟨ka, kc, kl, kh, km, kg, kw⟩
  have kal := ka.lt
  have kcl := kc.lt
  have kll := kl.lt
  have khl := kh.lt
  have kml := km.lt
  have kgl := kg.lt
  refine (K8.out _).mono ?_
  rintro _ w9 ⟨rfl, hb9⟩; have hb9s := hb9.size; (try simp only [World.size_alloc, World.size_setCell, World.size_drew, World.heap_drewN] at hb9s); obtain ⟨hb9c, hb9f⟩ := bcell hb9; (try have : w.heap.size < w9.heap.size := by omega); (try have : w.heap.size + 1 < w9.heap.size := by omega); (try have : w.heap.size + 1 + 1 < w9.heap.size := by omega); (try have : w.heap.size + 1 + 1 + 1 < w9.heap.size := by omega)
  have aq9 : Bk w9 (w.heap.size) 26 [.bool b, .int .u64 x1, .int .u64 x0, .int .i64 s] := by (repeat (first | (with_reducible assumption) | ((with_reducible refine Bk.new_ ?_); (first | rfl | (simp only [World.size_alloc, World.size_setCell, World.size_drew, World.heap_drewN]; done))) | (with_reducible refine Bk.alloc ?_ _) | (with_reducible refine Bk.drew ?_) | (with_reducible refine Bk.drewN ?_ _) | ((with_reducible refine Bk.far ?_ ?_ _); rotate_left; focus (simp only []; omega)) | ((with_reducible refine Bk.below ?_ (by with_reducible assumption) ?_); rotate_left; focus (go_size; done))))
  have aq9_0 := aq9.cell 0 rfl
  have aq9_1 := aq9.cell 1 rfl
  have aq9_2 := aq9.cell 2 rfl
  have aq9_3 := aq9.cell 3 rfl
  have aq9_4 := aq9.frozen 0
  have aq9_5 := aq9.frozen 1
  have aq9_6 := aq9.frozen 2
  have aq9_7 := aq9.frozen 3
  have aq9l := aq9.lt
  have cq9 : Bk w9 (w.heap.size + 1) 26 [.bool b', .int .u64 y1, .int .u64 y0, .int .i64 s'] := by (repeat (first | (with_reducible assumption) | ((with_reducible refine Bk.new_ ?_); (first | rfl | (simp only [World.size_alloc, World.size_setCell, World.size_drew, World.heap_drewN]; done))) | (with_reducible refine Bk.alloc ?_ _) | (with_reducible refine Bk.drew ?_) | (with_reducible refine Bk.drewN ?_ _) | ((with_reducible refine Bk.far ?_ ?_ _); rotate_left; focus (simp only []; omega)) | ((with_reducible refine Bk.below ?_ (by with_reducible assumption) ?_); rotate_left; focus (go_size; done))))
  have cq9_0 := cq9.cell 0 rfl
  have cq9_1 := cq9.cell 1 rfl
  have cq9_2 := cq9.cell 2 rfl
  have cq9_3 := cq9.cell 3 rfl
  have cq9_4 := cq9.frozen 0
  have cq9_5 := cq9.frozen 1
  have cq9_6 := cq9.frozen 2
  have cq9_7 := cq9.frozen 3
  have cq9l := cq9.lt
  have lq9 : Bk w9 (gl) 26 [.bool l0, .int .u64 l1, .int .u64 l2, .int .i64 0] := by (repeat (first | (with_reducible assumption) | ((with_reducible refine Bk.new_ ?_); (first | rfl | (simp only [World.size_alloc, World.size_setCell, World.size_drew, World.heap_drewN]; done))) | (with_reducible refine Bk.alloc ?_ _) | (with_reducible refine Bk.drew ?_) | (with_reducible refine Bk.drewN ?_ _) | ((with_reducible refine Bk.far ?_ ?_ _); rotate_left; focus (simp only []; omega)) | ((with_reducible refine Bk.below ?_ (by with_reducible assumption) ?_); rotate_left; focus (go_size; done))))
  have lq9_0 := lq9.cell 0 rfl
  have lq9_1 := lq9.cell 1 rfl
  have lq9_2 := lq9.cell 2 rfl
  have lq9_3 := lq9.cell 3 rfl
  have lq9_4 := lq9.frozen 0
  have lq9_5 := lq9.frozen 1
  have lq9_6 := lq9.frozen 2
  have lq9_7 := lq9.frozen 3
  have lq9l := lq9.lt
  have hq9 : Bk w9 (gh) 26 [.bool h0, .int .u64 h1, .int .u64 h2, .int .i64 0] := by (repeat (first | (with_reducible assumption) | ((with_reducible refine Bk.new_ ?_); (first | rfl | (simp only [World.size_alloc, World.size_setCell, World.size_drew, World.heap_drewN]; done))) | (with_reducible refine Bk.alloc ?_ _) | (with_reducible refine Bk.drew ?_) | (with_reducible refine Bk.drewN ?_ _) | ((with_reducible refine Bk.far ?_ ?_ _); rotate_left; focus (simp only []; omega)) | ((with_reducible refine Bk.below ?_ (by with_reducible assumption) ?_); rotate_left; focus (go_size; done))))
  have hq9_0 := hq9.cell 0 rfl
  have hq9_1 := hq9.cell 1 rfl
  have hq9_2 := hq9.cell 2 rfl
  have hq9_3 := hq9.cell 3 rfl
  have hq9_4 := hq9.frozen 0
  have hq9_5 := hq9.frozen 1
  have hq9_6 := hq9.frozen 2
  have hq9_7 := hq9.frozen 3
  have hq9l := hq9.lt
  have mq9 : Bk w9 (gm) 26 [.bool b, .int .u64 x1, .int .u64 x0, .int .i64 s] := by (repeat (first | (with_reducible assumption) | ((with_reducible refine Bk.new_ ?_); (first | rfl | (simp only [World.size_alloc, World.size_setCell, World.size_drew, World.heap_drewN]; done))) | (with_reducible refine Bk.alloc ?_ _) | (with_reducible refine Bk.drew ?_) | (with_reducible refine Bk.drewN ?_ _) | ((with_reducible refine Bk.far ?_ ?_ _); rotate_left; focus (simp only []; omega)) | ((with_reducible refine Bk.below ?_ (by with_reducible assumption) ?_); rotate_left; focus (go_size; done))))
  have mq9_0 := mq9.cell 0 rfl
  have mq9_1 := mq9.cell 1 rfl
  have mq9_2 := mq9.cell 2 rfl
  have mq9_3 := mq9.cell 3 rfl
  have mq9_4 := mq9.frozen 0
  have mq9_5 := mq9.frozen 1
  have mq9_6 := mq9.frozen 2
  have mq9_7 := mq9.frozen 3
  have mq9l := mq9.lt
  have gq9 : Bk w9 (gg) 26 [.bool g0, .int .u64 g1, .int .u64 g2, .int .i64 g3] := by (repeat (first | (with_reducible assumption) | ((with_reducible refine Bk.new_ ?_); (first | rfl | (simp only [World.size_alloc, World.size_setCell, World.size_drew, World.heap_drewN]; done))) | (with_reducible refine Bk.alloc ?_ _) | (with_reducible refine Bk.drew ?_) | (with_reducible refine Bk.drewN ?_ _) | ((with_reducible refine Bk.far ?_ ?_ _); rotate_left; focus (simp only []; omega)) | ((with_reducible refine Bk.below ?_ (by with_reducible assumption) ?_); rotate_left; focus (go_size; done))))
  have gq9_0 := gq9.cell 0 rfl
  have gq9_1 := gq9.cell 1 rfl
  have gq9_2 := gq9.cell 2 rfl
  have gq9_3 := gq9.cell 3 rfl
  have gq9_4 := gq9.frozen 0
  have gq9_5 := gq9.frozen 1
  have gq9_6 := gq9.frozen 2
  have gq9_7 := gq9.frozen 3
  have gq9l := gq9.lt
  clear hb9c hb9f
  go_wp2_with fail
  refine wp_named (fun W => Bk W (w.heap.size) 26 [.bool b, .int .u64 x1, .int .u64 x0, .int .i64 s] ∧ Bk W (w.heap.size + 1) 26 [.bool b', .int .u64 y1, .int .u64 y0, .int .i64 s'] ∧ Bk W (gl) 26 [.bool l0, .int .u64 l1, .int .u64 l2, .int .i64 0] ∧ Bk W (gh) 26 [.bool h0, .int .u64 h1, .int .u64 h2, .int .i64 0] ∧ Bk W (gm) 26 [.bool b, .int .u64 x1, .int .u64 x0, .int .i64 s] ∧ Bk W (gg) 26 [.bool g0, .int .u64 g1, .int .u64 g2, .int .i64 g3] ∧ Below w.heap.size w W) ⟨?h0, ?h1, ?h2, ?h3, ?h4, ?h5, ?h6⟩ ?_
  case h0 => ((repeat (first | (with_reducible assumption) | ((with_reducible refine Bk.new_ ?_); (first | rfl | (simp only [World.size_alloc, World.size_setCell, World.size_drew, World.heap_drewN]; done))) | (with_reducible refine Bk.alloc ?_ _) | (with_reducible refine Bk.drew ?_) | (with_reducible refine Bk.drewN ?_ _) | ((with_reducible refine Bk.far ?_ ?_ _); rotate_left; focus (simp only []; omega)) | ((with_reducible refine Bk.below ?_ (by with_reducible assumption) ?_); rotate_left; focus (go_size; done)))); done)
  case h1 => ((repeat (first | (with_reducible assumption) | ((with_reducible refine Bk.new_ ?_); (first | rfl | (simp only [World.size_alloc, World.size_setCell, World.size_drew, World.heap_drewN]; done))) | (with_reducible refine Bk.alloc ?_ _) | (with_reducible refine Bk.drew ?_) | (with_reducible refine Bk.drewN ?_ _) | ((with_reducible refine Bk.far ?_ ?_ _); rotate_left; focus (simp only []; omega)) | ((with_reducible refine Bk.below ?_ (by with_reducible assumption) ?_); rotate_left; focus (go_size; done)))); done)
  case h2 => ((repeat (first | (with_reducible assumption) | ((with_reducible refine Bk.new_ ?_); (first | rfl | (simp only [World.size_alloc, World.size_setCell, World.size_drew, World.heap_drewN]; done))) | (with_reducible refine Bk.alloc ?_ _) | (with_reducible refine Bk.drew ?_) | (with_reducible refine Bk.drewN ?_ _) | ((with_reducible refine Bk.far ?_ ?_ _); rotate_left; focus (simp only []; omega)) | ((with_reducible refine Bk.below ?_ (by with_reducible assumption) ?_); rotate_left; focus (go_size; done)))); done)
  case h3 => ((repeat (first | (with_reducible assumption) | ((with_reducible refine Bk.new_ ?_); (first | rfl | (simp only [World.size_alloc, World.size_setCell, World.size_drew, World.heap_drewN]; done))) | (with_reducible refine Bk.alloc ?_ _) | (with_reducible refine Bk.drew ?_) | (with_reducible refine Bk.drewN ?_ _) | ((with_reducible refine Bk.far ?_ ?_ _); rotate_left; focus (simp only []; omega)) | ((with_reducible refine Bk.below ?_ (by with_reducible assumption) ?_); rotate_left; focus (go_size; done)))); done)
  case h4 => ((repeat (first | (with_reducible assumption) | ((with_reducible refine Bk.new_ ?_); (first | rfl | (simp only [World.size_alloc, World.size_setCell, World.size_drew, World.heap_drewN]; done))) | (with_reducible refine Bk.alloc ?_ _) | (with_reducible refine Bk.drew ?_) | (with_reducible refine Bk.drewN ?_ _) | ((with_reducible refine Bk.far ?_ ?_ _); rotate_left; focus (simp only []; omega)) | ((with_reducible refine Bk.below ?_ (by with_reducible assumption) ?_); rotate_left; focus (go_size; done)))); done)
  case h5 => ((repeat (first | (with_reducible assumption) | ((with_reducible refine Bk.new_ ?_); (first | rfl | (simp only [World.size_alloc, World.size_setCell, World.size_drew, World.heap_drewN]; done))) | (with_reducible refine Bk.alloc ?_ _) | (with_reducible refine Bk.drew ?_) | (with_reducible refine Bk.drewN ?_ _) | ((with_reducible refine Bk.far ?_ ?_ _); rotate_left; focus (simp only []; omega)) | ((with_reducible refine Bk.below ?_ (by with_reducible assumption) ?_); rotate_left; focus (go_size; done)))); done)
  case h6 => ((repeat' (first | (with_reducible exact Below.refl _ _) | (with_reducible assumption) | (with_reducible refine Below.drew ?_) | (with_reducible refine below_drewN ?_ _) | ((with_reducible refine Below.alloc ?_ ?_ _); rotate_left; focus (go_size; done)) | ((with_reducible refine Below.setCell ?_ ?_ _); rotate_left; focus (go_size; done)) | ((with_reducible refine Below.trans ?_ (Below.mono (by with_reducible assumption) ?_)); rotate_left; focus (go_size; done)))); done)
  clear aq9_0 aq9_1 aq9_2 aq9_3 aq9_4 aq9_5 aq9_6 aq9_7
  clear cq9_0 cq9_1 cq9_2 cq9_3 cq9_4 cq9_5 cq9_6 cq9_7
  clear lq9_0 lq9_1 lq9_2 lq9_3 lq9_4 lq9_5 lq9_6 lq9_7
  clear hq9_0 hq9_1 hq9_2 hq9_3 hq9_4 hq9_5 hq9_6 hq9_7
  clear mq9_0 mq9_1 mq9_2 mq9_3 mq9_4 mq9_5 mq9_6 mq9_7
  clear gq9_0 gq9_1 gq9_2 gq9_3 gq9_4 gq9_5 gq9_6 gq9_7
  try clear hb9 hb9s
  try clear aq9 aq9l
  try clear cq9 cq9l
  try clear lq9 lq9l
  try clear hq9 hq9l
  try clear mq9 mq9l
  try clear gq9 gq9l
  try clear kal
  try clear kcl
  try clear kll
  try clear khl
  try clear kml
  try clear kgl
  try clear ka
  try clear kc
  try clear kl
  try clear kh
  try clear km
  try clear kg
  try clear kw
  rintro W9 ⟨ka, kc, kl, kh, km, kg, kw⟩
  have kal := ka.lt
  have kcl := kc.lt
  have kll := kl.lt
  have khl := kh.lt
  have kml := km.lt
  have kgl := kg.lt
  have ca0 := ka.cell 0 rfl
  have ca1 := ka.cell 1 rfl
  have ca2 := ka.cell 2 rfl
  have ca3 := ka.cell 3 rfl
  have cm0 := km.cell 0 rfl
  have cm1 := km.cell 1 rfl
  have cm2 := km.cell 2 rfl
  have cm3 := km.cell 3 rfl
  have cg0 := kg.cell 0 rfl
  have cg1 := kg.cell 1 rfl
  have cg2 := kg.cell 2 rfl
  have cg3 := kg.cell 3 rfl
  have cl3 := kl.cell 3 rfl
  have ch3 := kh.cell 3 rfl
  have HA := Lib.hid (And.intro ka (And.intro kc (And.intro km (And.intro kg (And.intro kl kh)))))
  have C2 := Lib.hid c2
  have C3 := Lib.hid c3
  clear ka kc km kg kl kh c2 c3 gl_a gl_c gh_a gh_c gh_l gm_a gm_c gm_l gm_h gg_a gg_c gg_l gg_h gg_m
  rcases hq with rfl | ⟨rfl, rfl⟩
  · skip
    refine wp_region_held_drew (S := (fun w' => (w'.cell? ⟨w.heap.size, 0, none⟩ = some (.bool b) ∧ w'.cell? ⟨w.heap.size, 1, none⟩ = some (.int .u64 x1) ∧ w'.cell? ⟨w.heap.size, 2, none⟩ = some (.int .u64 x0) ∧ w'.cell? ⟨w.heap.size, 3, none⟩ = some (.int .i64 s)) ∧ w'.cell? ⟨gl, 3, none⟩ = some (.int .i64 0) ∧ w'.cell? ⟨gh, 3, none⟩ = some (.int .i64 0) ∧ (w'.cell? ⟨gm, 0, none⟩ = some (.bool b) ∧ w'.cell? ⟨gm, 1, none⟩ = some (.int .u64 x1) ∧ w'.cell? ⟨gm, 2, none⟩ = some (.int .u64 x0) ∧ w'.cell? ⟨gm, 3, none⟩ = some (.int .i64 s)) ∧ (w'.cell? ⟨gg, 0, none⟩ = some (.bool g0) ∧ w'.cell? ⟨gg, 1, none⟩ = some (.int .u64 g1) ∧ w'.cell? ⟨gg, 2, none⟩ = some (.int .u64 g2) ∧ w'.cell? ⟨gg, 3, none⟩ = some (.int .i64 g3)))) (by kernel_rfl) ?_ (fun hHeld => ?_)
    focus (first | (go_keep; done) | (simp [go_sem]; done) | ((try dsimp only); (repeat' apply And.intro) <;> (first | (with_reducible assumption) | ((rw [World.cell?_alloc_lt _ _ _ (by show _ < _; omega)]); go_split_ands; (first | with_reducible assumption | (refine (World.cell?_alloc_lt _ _ _ (by show _ < _; omega)).symm.trans ?_; with_reducible assumption))) | ((rw [World.cell?_setCell_other _ _ _ _ (by intro e; injection e; omega)]); with_reducible assumption) | (go_keep; done) | (simp [go_sem]; done) | (simp (disch := go_size) [*, World.cell?_alloc_some, World.cell?_setCell_far]; done))))
    refine take_lit (i := 0) (oi := ?_) (v := ?_) ?_ ?_ ?_ ?_ ?_ (Or.inl ⟨?_, ?_⟩) ?_ ?_
    rotate_left
    rotate_left
    focus (simp only [List.getElem?_toArray, List.getElem?_cons_succ, List.getElem?_cons_zero]; rfl)
    focus kernel_rfl
    focus kernel_rfl
    focus kernel_rfl
    focus (exact fun _ _ _ h => h)
    focus rfl
    focus ((intro w hSw; (try dsimp only at hSw); go_simp); first | done | with_reducible rfl)
    focus assumption
    (try simp only [Act.put, List.setIfInBounds_toArray, List.set_cons_zero, List.set_cons_succ])
    refine take_lit (i := 1) (oi := ?_) (v := ?_) ?_ ?_ ?_ ?_ ?_ (Or.inl ⟨?_, ?_⟩) ?_ ?_
    rotate_left
    rotate_left
    focus (simp only [List.getElem?_toArray, List.getElem?_cons_succ, List.getElem?_cons_zero]; rfl)
    focus kernel_rfl
    focus kernel_rfl
    focus kernel_rfl
    focus (exact fun _ _ _ h => h)
    focus rfl
    focus ((intro w hSw; (try dsimp only at hSw); go_simp); first | done | with_reducible rfl)
    focus assumption
    (try simp only [Act.put, List.setIfInBounds_toArray, List.set_cons_zero, List.set_cons_succ])
    refine take_lit (i := 2) (oi := ?_) (v := ?_) ?_ ?_ ?_ ?_ ?_ (Or.inl ⟨?_, ?_⟩) ?_ ?_
    rotate_left
    rotate_left
    focus (simp only [List.getElem?_toArray, List.getElem?_cons_succ, List.getElem?_cons_zero]; rfl)
    focus kernel_rfl
    focus kernel_rfl
    focus kernel_rfl
    focus (exact fun _ _ _ h => h)
    focus rfl
    focus ((intro w hSw; (try dsimp only at hSw); go_simp); first | done | with_reducible rfl)
    focus assumption
    (try simp only [Act.put, List.setIfInBounds_toArray, List.set_cons_zero, List.set_cons_succ])
    refine take_lit (i := 3) (oi := ?_) (v := ?_) ?_ ?_ ?_ ?_ ?_ (Or.inl ⟨?_, ?_⟩) ?_ ?_
    rotate_left
    rotate_left
    focus (simp only [List.getElem?_toArray, List.getElem?_cons_succ, List.getElem?_cons_zero]; rfl)
    focus kernel_rfl
    focus kernel_rfl
    focus kernel_rfl
    focus (exact fun _ _ _ h => h)
    focus rfl
    focus ((intro w hSw; (try dsimp only at hSw); go_simp); first | done | with_reducible rfl)
    focus assumption
    (try simp only [Act.put, List.setIfInBounds_toArray, List.set_cons_zero, List.set_cons_succ])
    refine take_lit (i := 4) (oi := ?_) (v := ?_) ?_ ?_ ?_ ?_ ?_ (Or.inl ⟨?_, ?_⟩) ?_ ?_
    rotate_left
    rotate_left
    focus (simp only [List.getElem?_toArray, List.getElem?_cons_succ, List.getElem?_cons_zero]; rfl)
    focus kernel_rfl
    focus kernel_rfl
    focus kernel_rfl
    focus (exact fun _ _ _ h => h)
    focus rfl
    focus ((intro w hSw; (try dsimp only at hSw); go_simp); first | done | with_reducible rfl)
    focus assumption
    (try simp only [Act.put, List.setIfInBounds_toArray, List.set_cons_zero, List.set_cons_succ])
    refine take_lit (i := 5) (oi := ?_) (v := ?_) ?_ ?_ ?_ ?_ ?_ (Or.inl ⟨?_, ?_⟩) ?_ ?_
    rotate_left
    rotate_left
    focus (simp only [List.getElem?_toArray, List.getElem?_cons_succ, List.getElem?_cons_zero]; rfl)
    focus kernel_rfl
    focus kernel_rfl
    focus kernel_rfl
    focus (exact fun _ _ _ h => h)
    focus rfl
    focus ((intro w hSw; (try dsimp only at hSw); go_simp); first | done | with_reducible rfl)
    focus assumption
    (try simp only [Act.put, List.setIfInBounds_toArray, List.set_cons_zero, List.set_cons_succ])
    refine take_lit (i := 6) (oi := ?_) (v := ?_) ?_ ?_ ?_ ?_ ?_ (Or.inl ⟨?_, ?_⟩) ?_ ?_
    rotate_left
    rotate_left
    focus (simp only [List.getElem?_toArray, List.getElem?_cons_succ, List.getElem?_cons_zero]; rfl)
    focus kernel_rfl
    focus kernel_rfl
    focus kernel_rfl
    focus (exact fun _ _ _ h => h)
    focus rfl
    focus ((intro w hSw; (try dsimp only at hSw); go_simp); first | done | with_reducible rfl)
    focus assumption
    (try simp only [Act.put, List.setIfInBounds_toArray, List.set_cons_zero, List.set_cons_succ])
    refine take_lit (i := 7) (oi := ?_) (v := ?_) ?_ ?_ ?_ ?_ ?_ (Or.inl ⟨?_, ?_⟩) ?_ ?_
    rotate_left
    rotate_left
    focus (simp only [List.getElem?_toArray, List.getElem?_cons_succ, List.getElem?_cons_zero]; rfl)
    focus kernel_rfl
    focus kernel_rfl
    focus kernel_rfl
    focus (exact fun _ _ _ h => h)
    focus rfl
    focus ((intro w hSw; (try dsimp only at hSw); go_simp); first | done | with_reducible rfl)
    focus assumption
    (try simp only [Act.put, List.setIfInBounds_toArray, List.set_cons_zero, List.set_cons_succ])
    refine take_lit (i := 8) (oi := ?_) (v := ?_) ?_ ?_ ?_ ?_ ?_ (Or.inl ⟨?_, ?_⟩) ?_ ?_
    rotate_left
    rotate_left
    focus (simp only [List.getElem?_toArray, List.getElem?_cons_succ, List.getElem?_cons_zero]; rfl)
    focus kernel_rfl
    focus kernel_rfl
    focus kernel_rfl
    focus (exact fun _ _ _ h => h)
    focus rfl
    focus ((intro w hSw; (try dsimp only at hSw); go_simp); first | done | with_reducible rfl)
    focus assumption
    (try simp only [Act.put, List.setIfInBounds_toArray, List.set_cons_zero, List.set_cons_succ])
    refine take_lit (i := 9) (oi := ?_) (v := ?_) ?_ ?_ ?_ ?_ ?_ (Or.inl ⟨?_, ?_⟩) ?_ ?_
    rotate_left
    rotate_left
    focus (simp only [List.getElem?_toArray, List.getElem?_cons_succ, List.getElem?_cons_zero]; rfl)
    focus kernel_rfl
    focus kernel_rfl
    focus kernel_rfl
    focus (exact fun _ _ _ h => h)
    focus rfl
    focus ((intro w hSw; (try dsimp only at hSw); go_simp); first | done | with_reducible rfl)
    focus assumption
    (try simp only [Act.put, List.setIfInBounds_toArray, List.set_cons_zero, List.set_cons_succ])
    refine take_lit (i := 10) (oi := ?_) (v := ?_) ?_ ?_ ?_ ?_ ?_ (Or.inl ⟨?_, ?_⟩) ?_ ?_
    rotate_left
    rotate_left
    focus (simp only [List.getElem?_toArray, List.getElem?_cons_succ, List.getElem?_cons_zero]; rfl)
    focus kernel_rfl
    focus kernel_rfl
    focus kernel_rfl
    focus (exact fun _ _ _ h => h)
    focus rfl
    focus ((intro w hSw; (try dsimp only at hSw); go_simp); first | done | with_reducible rfl)
    focus assumption
    (try simp only [Act.put, List.setIfInBounds_toArray, List.set_cons_zero, List.set_cons_succ])
    refine take_lit (i := 11) (oi := ?_) (v := ?_) ?_ ?_ ?_ ?_ ?_ (Or.inl ⟨?_, ?_⟩) ?_ ?_
    rotate_left
    rotate_left
    focus (simp only [List.getElem?_toArray, List.getElem?_cons_succ, List.getElem?_cons_zero]; rfl)
    focus kernel_rfl
    focus kernel_rfl
    focus kernel_rfl
    focus (exact fun _ _ _ h => h)
    focus rfl
    focus ((intro w hSw; (try dsimp only at hSw); go_simp); first | done | with_reducible rfl)
    focus assumption
    (try simp only [Act.put, List.setIfInBounds_toArray, List.set_cons_zero, List.set_cons_succ])
    refine take_lit (i := 12) (oi := ?_) (v := ?_) ?_ ?_ ?_ ?_ ?_ (Or.inl ⟨?_, ?_⟩) ?_ ?_
    rotate_left
    rotate_left
    focus (simp only [List.getElem?_toArray, List.getElem?_cons_succ, List.getElem?_cons_zero]; rfl)
    focus kernel_rfl
    focus kernel_rfl
    focus kernel_rfl
    focus (exact fun _ _ _ h => h)
    focus rfl
    focus ((intro w hSw; (try dsimp only at hSw); go_simp); first | done | with_reducible rfl)
    focus assumption
    (try simp only [Act.put, List.setIfInBounds_toArray, List.set_cons_zero, List.set_cons_succ])
    refine take_lit (i := 13) (oi := ?_) (v := ?_) ?_ ?_ ?_ ?_ ?_ (Or.inl ⟨?_, ?_⟩) ?_ ?_
    rotate_left
    rotate_left
    focus (simp only [List.getElem?_toArray, List.getElem?_cons_succ, List.getElem?_cons_zero]; rfl)
    focus kernel_rfl
    focus kernel_rfl
    focus kernel_rfl
    focus (exact fun _ _ _ h => h)
    focus rfl
    focus ((intro w hSw; (try dsimp only at hSw); go_simp); first | done | with_reducible rfl)
    focus assumption
    (try simp only [Act.put, List.setIfInBounds_toArray, List.set_cons_zero, List.set_cons_succ])
    refine take_lit (i := 14) (oi := ?_) (v := ?_) ?_ ?_ ?_ ?_ ?_ (Or.inl ⟨?_, ?_⟩) ?_ ?_
    rotate_left
    rotate_left
    focus (simp only [List.getElem?_toArray, List.getElem?_cons_succ, List.getElem?_cons_zero]; rfl)
    focus kernel_rfl
    focus kernel_rfl
    focus kernel_rfl
    focus (exact fun _ _ _ h => h)
    focus rfl
    focus ((intro w hSw; (try dsimp only at hSw); go_simp); first | done | with_reducible rfl)
    focus assumption
    (try simp only [Act.put, List.setIfInBounds_toArray, List.set_cons_zero, List.set_cons_succ])
    refine take_lit (i := 15) (oi := ?_) (v := ?_) ?_ ?_ ?_ ?_ ?_ (Or.inl ⟨?_, ?_⟩) ?_ ?_
    rotate_left
    rotate_left
    focus (simp only [List.getElem?_toArray, List.getElem?_cons_succ, List.getElem?_cons_zero]; rfl)
    focus kernel_rfl
    focus kernel_rfl
    focus kernel_rfl
    focus (exact fun _ _ _ h => h)
    focus rfl
    focus ((intro w hSw; (try dsimp only at hSw); go_simp); first | done | with_reducible rfl)
    focus assumption
    (try simp only [Act.put, List.setIfInBounds_toArray, List.set_cons_zero, List.set_cons_succ])
    refine take_lit (i := 16) (oi := ?_) (v := ?_) ?_ ?_ ?_ ?_ ?_ (Or.inl ⟨?_, ?_⟩) ?_ ?_
    rotate_left
    rotate_left
    focus (simp only [List.getElem?_toArray, List.getElem?_cons_succ, List.getElem?_cons_zero]; rfl)
    focus kernel_rfl
    focus kernel_rfl
    focus kernel_rfl
    focus (exact fun _ _ _ h => h)
    focus rfl
    focus ((intro w hSw; (try dsimp only at hSw); go_simp); first | done | with_reducible rfl)
    focus assumption
    (try simp only [Act.put, List.setIfInBounds_toArray, List.set_cons_zero, List.set_cons_succ])
    refine take_lit (i := 17) (oi := ?_) (v := ?_) ?_ ?_ ?_ ?_ ?_ (Or.inl ⟨?_, ?_⟩) ?_ ?_
    rotate_left
    rotate_left
    focus (simp only [List.getElem?_toArray, List.getElem?_cons_succ, List.getElem?_cons_zero]; rfl)
    focus kernel_rfl
    focus kernel_rfl
    focus kernel_rfl
    focus (exact fun _ _ _ h => h)
    focus rfl
    focus ((intro w hSw; (try dsimp only at hSw); go_simp); first | done | with_reducible rfl)
    focus assumption
    (try simp only [Act.put, List.setIfInBounds_toArray, List.set_cons_zero, List.set_cons_succ])
    refine take_lit (i := 18) (oi := ?_) (v := ?_) ?_ ?_ ?_ ?_ ?_ (Or.inl ⟨?_, ?_⟩) ?_ ?_
    rotate_left
    rotate_left
    focus (simp only [List.getElem?_toArray, List.getElem?_cons_succ, List.getElem?_cons_zero]; rfl)
    focus kernel_rfl
    focus kernel_rfl
    focus kernel_rfl
    focus (exact fun _ _ _ h => h)
    focus rfl
    focus ((intro w hSw; (try dsimp only at hSw); go_simp); first | done | with_reducible rfl)
    focus assumption
    (try simp only [Act.put, List.setIfInBounds_toArray, List.set_cons_zero, List.set_cons_succ])
    refine take_lit (i := 19) (oi := ?_) (v := ?_) ?_ ?_ ?_ ?_ ?_ (Or.inl ⟨?_, ?_⟩) ?_ ?_
    rotate_left
    rotate_left
    focus (simp only [List.getElem?_toArray, List.getElem?_cons_succ, List.getElem?_cons_zero]; rfl)
    focus kernel_rfl
    focus kernel_rfl
    focus kernel_rfl
    focus (exact fun _ _ _ h => h)
    focus rfl
    focus ((intro w hSw; (try dsimp only at hSw); go_simp); first | done | with_reducible rfl)
    focus assumption
    (try simp only [Act.put, List.setIfInBounds_toArray, List.set_cons_zero, List.set_cons_succ])
    refine take_lit (i := 20) (oi := ?_) (v := ?_) ?_ ?_ ?_ ?_ ?_ (Or.inl ⟨?_, ?_⟩) ?_ ?_
    rotate_left
    rotate_left
    focus (simp only [List.getElem?_toArray, List.getElem?_cons_succ, List.getElem?_cons_zero]; rfl)
    focus kernel_rfl
    focus kernel_rfl
    focus kernel_rfl
    focus (exact fun _ _ _ h => h)
    focus rfl
    focus ((intro w hSw; (try dsimp only at hSw); go_simp); first | done | with_reducible rfl)
    focus assumption
    (try simp only [Act.put, List.setIfInBounds_toArray, List.set_cons_zero, List.set_cons_succ])
    refine take_lit (i := 21) (oi := ?_) (v := ?_) ?_ ?_ ?_ ?_ ?_ (Or.inl ⟨?_, ?_⟩) ?_ ?_
    rotate_left
    rotate_left
    focus (simp only [List.getElem?_toArray, List.getElem?_cons_succ, List.getElem?_cons_zero]; rfl)
    focus kernel_rfl
    focus kernel_rfl
    focus kernel_rfl
    focus (exact fun _ _ _ h => h)
    focus rfl
    focus ((intro w hSw; (try dsimp only at hSw); go_simp); first | done | with_reducible rfl)
    focus assumption
    (try simp only [Act.put, List.setIfInBounds_toArray, List.set_cons_zero, List.set_cons_succ])
    refine take_lit (i := 22) (oi := ?_) (v := ?_) ?_ ?_ ?_ ?_ ?_ (Or.inl ⟨?_, ?_⟩) ?_ ?_
    rotate_left
    rotate_left
    focus (simp only [List.getElem?_toArray, List.getElem?_cons_succ, List.getElem?_cons_zero]; rfl)
    focus kernel_rfl
    focus kernel_rfl
    focus kernel_rfl
    focus (exact fun _ _ _ h => h)
    focus rfl
    focus ((intro w hSw; (try dsimp only at hSw); go_simp); first | done | with_reducible rfl)
    focus assumption
    (try simp only [Act.put, List.setIfInBounds_toArray, List.set_cons_zero, List.set_cons_succ])
    refine take_lit (i := 23) (oi := ?_) (v := ?_) ?_ ?_ ?_ ?_ ?_ (Or.inl ⟨?_, ?_⟩) ?_ ?_
    rotate_left
    rotate_left
    focus (simp only [List.getElem?_toArray, List.getElem?_cons_succ, List.getElem?_cons_zero]; rfl)
    focus kernel_rfl
    focus kernel_rfl
    focus kernel_rfl
    focus (exact fun _ _ _ h => h)
    focus rfl
    focus ((intro w hSw; (try dsimp only at hSw); go_simp); first | done | with_reducible rfl)
    focus assumption
    (try simp only [Act.put, List.setIfInBounds_toArray, List.set_cons_zero, List.set_cons_succ])
    refine take_lit (i := 24) (oi := ?_) (v := ?_) ?_ ?_ ?_ ?_ ?_ (Or.inl ⟨?_, ?_⟩) ?_ ?_
    rotate_left
    rotate_left
    focus (simp only [List.getElem?_toArray, List.getElem?_cons_succ, List.getElem?_cons_zero]; rfl)
    focus kernel_rfl
    focus kernel_rfl
    focus kernel_rfl
    focus (exact fun _ _ _ h => h)
    focus rfl
    focus ((intro w hSw; (try dsimp only at hSw); go_simp); first | done | with_reducible rfl)
    focus assumption
    (try simp only [Act.put, List.setIfInBounds_toArray, List.set_cons_zero, List.set_cons_succ])
    refine take_lit (i := 25) (oi := ?_) (v := ?_) ?_ ?_ ?_ ?_ ?_ (Or.inl ⟨?_, ?_⟩) ?_ ?_
    rotate_left
    rotate_left
    focus (simp only [List.getElem?_toArray, List.getElem?_cons_succ, List.getElem?_cons_zero]; rfl)
    focus kernel_rfl
    focus kernel_rfl
    focus kernel_rfl
    focus (exact fun _ _ _ h => h)
    focus rfl
    focus ((intro w hSw; (try dsimp only at hSw); go_simp); first | done | with_reducible rfl)
    focus assumption
    (try simp only [Act.put, List.setIfInBounds_toArray, List.set_cons_zero, List.set_cons_succ])
    refine take_lit (i := 26) (oi := ?_) (v := ?_) ?_ ?_ ?_ ?_ ?_ (Or.inl ⟨?_, ?_⟩) ?_ ?_
    rotate_left
    rotate_left
    focus (simp only [List.getElem?_toArray, List.getElem?_cons_succ, List.getElem?_cons_zero]; rfl)
    focus kernel_rfl
    focus kernel_rfl
    focus kernel_rfl
    focus (exact fun _ _ _ h => h)
    focus rfl
    focus ((intro w hSw; (try dsimp only at hSw); go_simp); first | done | with_reducible rfl)
    focus assumption
    (try simp only [Act.put, List.setIfInBounds_toArray, List.set_cons_zero, List.set_cons_succ])
    refine take_lit (i := 27) (oi := ?_) (v := ?_) ?_ ?_ ?_ ?_ ?_ (Or.inl ⟨?_, ?_⟩) ?_ ?_
    rotate_left
    rotate_left
    focus (simp only [List.getElem?_toArray, List.getElem?_cons_succ, List.getElem?_cons_zero]; rfl)
    focus kernel_rfl
    focus kernel_rfl
    focus kernel_rfl
    focus (exact fun _ _ _ h => h)
    focus rfl
    focus ((intro w hSw; (try dsimp only at hSw); go_simp); first | done | with_reducible rfl)
    focus assumption
    (try simp only [Act.put, List.setIfInBounds_toArray, List.set_cons_zero, List.set_cons_succ])
    refine take_lit (i := 28) (oi := ?_) (v := ?_) ?_ ?_ ?_ ?_ ?_ (Or.inl ⟨?_, ?_⟩) ?_ ?_
    rotate_left
    rotate_left
    focus (simp only [List.getElem?_toArray, List.getElem?_cons_succ, List.getElem?_cons_zero]; rfl)
    focus kernel_rfl
    focus kernel_rfl
    focus kernel_rfl
    focus (exact fun _ _ _ h => h)
    focus rfl
    focus ((intro w hSw; (try dsimp only at hSw); go_simp); first | done | with_reducible rfl)
    focus assumption
    (try simp only [Act.put, List.setIfInBounds_toArray, List.set_cons_zero, List.set_cons_succ])
    refine take_lit (i := 29) (oi := ?_) (v := ?_) ?_ ?_ ?_ ?_ ?_ (Or.inl ⟨?_, ?_⟩) ?_ ?_
    rotate_left
    rotate_left
    focus (simp only [List.getElem?_toArray, List.getElem?_cons_succ, List.getElem?_cons_zero]; rfl)
    focus kernel_rfl
    focus kernel_rfl
    focus kernel_rfl
    focus (exact fun _ _ _ h => h)
    focus rfl
    focus ((intro w hSw; (try dsimp only at hSw); go_simp); first | done | with_reducible rfl)
    focus assumption
    (try simp only [Act.put, List.setIfInBounds_toArray, List.set_cons_zero, List.set_cons_succ])
    refine take_lit (i := 30) (oi := ?_) (v := ?_) ?_ ?_ ?_ ?_ ?_ (Or.inl ⟨?_, ?_⟩) ?_ ?_
    rotate_left
    rotate_left
    focus (simp only [List.getElem?_toArray, List.getElem?_cons_succ, List.getElem?_cons_zero]; rfl)
    focus kernel_rfl
    focus kernel_rfl
    focus kernel_rfl
    focus (exact fun _ _ _ h => h)
    focus rfl
    focus ((intro w hSw; (try dsimp only at hSw); go_simp); first | done | with_reducible rfl)
    focus assumption
    (try simp only [Act.put, List.setIfInBounds_toArray, List.set_cons_zero, List.set_cons_succ])
    refine take_lit (i := 31) (oi := ?_) (v := ?_) ?_ ?_ ?_ ?_ ?_ (Or.inl ⟨?_, ?_⟩) ?_ ?_
    rotate_left
    rotate_left
    focus (simp only [List.getElem?_toArray, List.getElem?_cons_succ, List.getElem?_cons_zero]; rfl)
    focus kernel_rfl
    focus kernel_rfl
    focus kernel_rfl
    focus (exact fun _ _ _ h => h)
    focus rfl
    focus ((intro w hSw; (try dsimp only at hSw); go_simp); first | done | with_reducible rfl)
    focus assumption
    (try simp only [Act.put, List.setIfInBounds_toArray, List.set_cons_zero, List.set_cons_succ])
    refine take_lit (i := 32) (oi := ?_) (v := ?_) ?_ ?_ ?_ ?_ ?_ (Or.inl ⟨?_, ?_⟩) ?_ ?_
    rotate_left
    rotate_left
    focus (simp only [List.getElem?_toArray, List.getElem?_cons_succ, List.getElem?_cons_zero]; rfl)
    focus kernel_rfl
    focus kernel_rfl
    focus kernel_rfl
    focus (exact fun _ _ _ h => h)
    focus rfl
    focus ((intro w hSw; (try dsimp only at hSw); go_simp); first | done | with_reducible rfl)
    focus assumption
    (try simp only [Act.put, List.setIfInBounds_toArray, List.set_cons_zero, List.set_cons_succ])
    refine take_lit (i := 33) (oi := ?_) (v := ?_) ?_ ?_ ?_ ?_ ?_ (Or.inl ⟨?_, ?_⟩) ?_ ?_
    rotate_left
    rotate_left
    focus (simp only [List.getElem?_toArray, List.getElem?_cons_succ, List.getElem?_cons_zero]; rfl)
    focus kernel_rfl
    focus kernel_rfl
    focus kernel_rfl
    focus (exact fun _ _ _ h => h)
    focus rfl
    focus ((intro w hSw; (try dsimp only at hSw); go_simp); first | done | with_reducible rfl)
    focus assumption
    (try simp only [Act.put, List.setIfInBounds_toArray, List.set_cons_zero, List.set_cons_succ])
    refine take_lit (i := 34) (oi := ?_) (v := ?_) ?_ ?_ ?_ ?_ ?_ (Or.inl ⟨?_, ?_⟩) ?_ ?_
    rotate_left
    rotate_left
    focus (simp only [List.getElem?_toArray, List.getElem?_cons_succ, List.getElem?_cons_zero]; rfl)
    focus kernel_rfl
    focus kernel_rfl
    focus kernel_rfl
    focus (exact fun _ _ _ h => h)
    focus rfl
    focus ((intro w hSw; (try dsimp only at hSw); go_simp); first | done | with_reducible rfl)
    focus assumption
    (try simp only [Act.put, List.setIfInBounds_toArray, List.set_cons_zero, List.set_cons_succ])
    refine take_lit (i := 35) (oi := ?_) (v := ?_) ?_ ?_ ?_ ?_ ?_ (Or.inl ⟨?_, ?_⟩) ?_ ?_
    rotate_left
    rotate_left
    focus (simp only [List.getElem?_toArray, List.getElem?_cons_succ, List.getElem?_cons_zero]; rfl)
    focus kernel_rfl
    focus kernel_rfl
    focus kernel_rfl
    focus (exact fun _ _ _ h => h)
    focus rfl
    focus ((intro w hSw; (try dsimp only at hSw); go_simp); first | done | with_reducible rfl)
    focus assumption
    (try simp only [Act.put, List.setIfInBounds_toArray, List.set_cons_zero, List.set_cons_succ])
    refine take_lit (i := 36) (oi := ?_) (v := ?_) ?_ ?_ ?_ ?_ ?_ (Or.inl ⟨?_, ?_⟩) ?_ ?_
    rotate_left
    rotate_left
    focus (simp only [List.getElem?_toArray, List.getElem?_cons_succ, List.getElem?_cons_zero]; rfl)
    focus kernel_rfl
    focus kernel_rfl
    focus kernel_rfl
    focus (exact fun _ _ _ h => h)
    focus rfl
    focus ((intro w hSw; (try dsimp only at hSw); go_simp); first | done | with_reducible rfl)
    focus assumption
    (try simp only [Act.put, List.setIfInBounds_toArray, List.set_cons_zero, List.set_cons_succ])
    refine take_lit (i := 37) (oi := ?_) (v := ?_) ?_ ?_ ?_ ?_ ?_ (Or.inl ⟨?_, ?_⟩) ?_ ?_
    rotate_left
    rotate_left
    focus (simp only [List.getElem?_toArray, List.getElem?_cons_succ, List.getElem?_cons_zero]; rfl)
    focus kernel_rfl
    focus kernel_rfl
    focus kernel_rfl
    focus (exact fun _ _ _ h => h)
    focus rfl
    focus ((intro w hSw; (try dsimp only at hSw); go_simp); first | done | with_reducible rfl)
    focus assumption
    (try simp only [Act.put, List.setIfInBounds_toArray, List.set_cons_zero, List.set_cons_succ])
    refine take_lit (i := 38) (oi := ?_) (v := ?_) ?_ ?_ ?_ ?_ ?_ (Or.inl ⟨?_, ?_⟩) ?_ ?_
    rotate_left
    rotate_left
    focus (simp only [List.getElem?_toArray, List.getElem?_cons_succ, List.getElem?_cons_zero]; rfl)
    focus kernel_rfl
    focus kernel_rfl
    focus kernel_rfl
    focus (exact fun _ _ _ h => h)
    focus rfl
    focus ((intro w hSw; (try dsimp only at hSw); go_simp); first | done | with_reducible rfl)
    focus assumption
    (try simp only [Act.put, List.setIfInBounds_toArray, List.set_cons_zero, List.set_cons_succ])
    refine take_lit (i := 39) (oi := ?_) (v := ?_) ?_ ?_ ?_ ?_ ?_ (Or.inl ⟨?_, ?_⟩) ?_ ?_
    rotate_left
    rotate_left
    focus (simp only [List.getElem?_toArray, List.getElem?_cons_succ, List.getElem?_cons_zero]; rfl)
    focus kernel_rfl
    focus kernel_rfl
    focus kernel_rfl
    focus (exact fun _ _ _ h => h)
    focus rfl
    focus ((intro w hSw; (try dsimp only at hSw); go_simp); first | done | with_reducible rfl)
    focus assumption
    (try simp only [Act.put, List.setIfInBounds_toArray, List.set_cons_zero, List.set_cons_succ])
    refine take_lit (i := 40) (oi := ?_) (v := ?_) ?_ ?_ ?_ ?_ ?_ (Or.inl ⟨?_, ?_⟩) ?_ ?_
    rotate_left
    rotate_left
    focus (simp only [List.getElem?_toArray, List.getElem?_cons_succ, List.getElem?_cons_zero]; rfl)
    focus kernel_rfl
    focus kernel_rfl
    focus kernel_rfl
    focus (exact fun _ _ _ h => h)
    focus rfl
    focus ((intro w hSw; (try dsimp only at hSw); go_simp); first | done | with_reducible rfl)
    focus assumption
    (try simp only [Act.put, List.setIfInBounds_toArray, List.set_cons_zero, List.set_cons_succ])
    refine take_lit (i := 41) (oi := ?_) (v := ?_) ?_ ?_ ?_ ?_ ?_ (Or.inl ⟨?_, ?_⟩) ?_ ?_
    rotate_left
    rotate_left
    focus (simp only [List.getElem?_toArray, List.getElem?_cons_succ, List.getElem?_cons_zero]; rfl)
    focus kernel_rfl
    focus kernel_rfl
    focus kernel_rfl
    focus (exact fun _ _ _ h => h)
    focus rfl
    focus ((intro w hSw; (try dsimp only at hSw); go_simp); first | done | with_reducible rfl)
    focus assumption
    (try simp only [Act.put, List.setIfInBounds_toArray, List.set_cons_zero, List.set_cons_succ])
    refine take_lit (i := 42) (oi := ?_) (v := ?_) ?_ ?_ ?_ ?_ ?_ (Or.inl ⟨?_, ?_⟩) ?_ ?_
    rotate_left
    rotate_left
    focus (simp only [List.getElem?_toArray, List.getElem?_cons_succ, List.getElem?_cons_zero]; rfl)
    focus kernel_rfl
    focus kernel_rfl
    focus kernel_rfl
    focus (exact fun _ _ _ h => h)
    focus rfl
    focus ((intro w hSw; (try dsimp only at hSw); go_simp); first | done | with_reducible rfl)
    focus assumption
    (try simp only [Act.put, List.setIfInBounds_toArray, List.set_cons_zero, List.set_cons_succ])
    refine take_lit (i := 43) (oi := ?_) (v := ?_) ?_ ?_ ?_ ?_ ?_ (Or.inl ⟨?_, ?_⟩) ?_ ?_
    rotate_left
    rotate_left
    focus (simp only [List.getElem?_toArray, List.getElem?_cons_succ, List.getElem?_cons_zero]; rfl)
    focus kernel_rfl
    focus kernel_rfl
    focus kernel_rfl
    focus (exact fun _ _ _ h => h)
    focus rfl
    focus ((intro w hSw; (try dsimp only at hSw); go_simp); first | done | with_reducible rfl)
    focus assumption
    (try simp only [Act.put, List.setIfInBounds_toArray, List.set_cons_zero, List.set_cons_succ])
    refine take_lit (i := 44) (oi := ?_) (v := ?_) ?_ ?_ ?_ ?_ ?_ (Or.inl ⟨?_, ?_⟩) ?_ ?_
    rotate_left
    rotate_left
    focus (simp only [List.getElem?_toArray, List.getElem?_cons_succ, List.getElem?_cons_zero]; rfl)
    focus kernel_rfl
    focus kernel_rfl
    focus kernel_rfl
    focus (exact fun _ _ _ h => h)
    focus rfl
    focus ((intro w hSw; (try dsimp only at hSw); go_simp); first | done | with_reducible rfl)
    focus assumption
    (try simp only [Act.put, List.setIfInBounds_toArray, List.set_cons_zero, List.set_cons_succ])
    refine take_lit (i := 45) (oi := ?_) (v := ?_) ?_ ?_ ?_ ?_ ?_ (Or.inl ⟨?_, ?_⟩) ?_ ?_
    rotate_left
    rotate_left
    focus (simp only [List.getElem?_toArray, List.getElem?_cons_succ, List.getElem?_cons_zero]; rfl)
    focus kernel_rfl
    focus kernel_rfl
    focus kernel_rfl
    focus (exact fun _ _ _ h => h)
    focus rfl
    focus ((intro w hSw; (try dsimp only at hSw); go_simp); first | done | with_reducible rfl)
    focus assumption
    (try simp only [Act.put, List.setIfInBounds_toArray, List.set_cons_zero, List.set_cons_succ])
    refine take_lit (i := 46) (oi := ?_) (v := ?_) ?_ ?_ ?_ ?_ ?_ (Or.inl ⟨?_, ?_⟩) ?_ ?_
    rotate_left
    rotate_left
    focus (simp only [List.getElem?_toArray, List.getElem?_cons_succ, List.getElem?_cons_zero]; rfl)
    focus kernel_rfl
    focus kernel_rfl
    focus kernel_rfl
    focus (exact fun _ _ _ h => h)
    focus rfl
    focus ((intro w hSw; (try dsimp only at hSw); go_simp); first | done | with_reducible rfl)
    focus assumption
    (try simp only [Act.put, List.setIfInBounds_toArray, List.set_cons_zero, List.set_cons_succ])
    refine wpAnyH_ready (rs := [47]) (by kernel_rfl) (by simp) ?_
    refine AllReadyH.cons (o := _) rfl (fun K hK => ?_) AllReadyH.nil
    go_simp
    (go_at_call 17; (with_reducible refine (K9.out _).mono ?_); rintro _ w20 ⟨rfl, hb20⟩; have hb20s := hb20.size; (try simp only [World.size_alloc, World.size_setCell, World.size_drew, World.heap_drewN] at hb20s); obtain ⟨hb20c, hb20f⟩ := bcell hb20; (try have : w.heap.size < w20.heap.size := by omega); (try have : w.heap.size + 1 < w20.heap.size := by omega); (try have : w.heap.size + 1 + 1 < w20.heap.size := by omega); (try have : w.heap.size + 1 + 1 + 1 < w20.heap.size := by omega); (try have : w.heap.size < w20.heap.size := by omega); (try have : w.heap.size + 1 < w20.heap.size := by omega); (try have : gl < w20.heap.size := by omega); (try have : gh < w20.heap.size := by omega); (try have : gm < w20.heap.size := by omega); (try have : gg < w20.heap.size := by omega))
    refine hK.out _ _ ?_ (fun hHeld => ?_)
    focus (first | (go_keep; done) | (simp [go_sem]; done) | ((try dsimp only); (repeat' apply And.intro) <;> (first | (with_reducible assumption) | ((rw [World.cell?_alloc_lt _ _ _ (by show _ < _; omega)]); go_split_ands; (first | with_reducible assumption | (refine (World.cell?_alloc_lt _ _ _ (by show _ < _; omega)).symm.trans ?_; with_reducible assumption))) | ((rw [World.cell?_setCell_other _ _ _ _ (by intro e; injection e; omega)]); with_reducible assumption) | (go_keep; done) | (simp [go_sem]; done) | (simp (disch := go_size) [*, World.cell?_alloc_some, World.cell?_setCell_far]; done))))
    clear hK K
    (try simp only [Act.put, List.setIfInBounds_toArray, List.set_cons_zero, List.set_cons_succ])
    refine take_lit (i := 48) (oi := ?_) (v := ?_) ?_ ?_ ?_ ?_ ?_ (Or.inl ⟨?_, ?_⟩) ?_ ?_
    rotate_left
    rotate_left
    focus (simp only [List.getElem?_toArray, List.getElem?_cons_succ, List.getElem?_cons_zero]; rfl)
    focus kernel_rfl
    focus kernel_rfl
    focus kernel_rfl
    focus (exact fun _ _ _ h => h)
    focus rfl
    focus ((intro w hSw; (try dsimp only at hSw); go_simp); first | done | with_reducible rfl)
    focus assumption
    (try simp only [Act.put, List.setIfInBounds_toArray, List.set_cons_zero, List.set_cons_succ])
    refine take_lit (i := 49) (oi := ?_) (v := ?_) ?_ ?_ ?_ ?_ ?_ (Or.inl ⟨?_, ?_⟩) ?_ ?_
    rotate_left
    rotate_left
    focus (simp only [List.getElem?_toArray, List.getElem?_cons_succ, List.getElem?_cons_zero]; rfl)
    focus kernel_rfl
    focus kernel_rfl
    focus kernel_rfl
    focus (exact fun _ _ _ h => h)
    focus rfl
    focus ((intro w hSw; (try dsimp only at hSw); go_simp); first | done | with_reducible rfl)
    focus assumption
    (try simp only [Act.put, List.setIfInBounds_toArray, List.set_cons_zero, List.set_cons_succ])
    refine take_lit (i := 50) (oi := ?_) (v := undef) ?_ ?_ ?_ ?_ ?_ (Or.inr ⟨?_, rfl⟩) ?_ ?_
    rotate_left
    focus (simp only [List.getElem?_toArray, List.getElem?_cons_succ, List.getElem?_cons_zero]; rfl)
    focus kernel_rfl
    focus kernel_rfl
    focus kernel_rfl
    focus (exact fun _ _ _ h => h)
    focus rfl
    focus assumption
    (try simp only [Act.put, List.setIfInBounds_toArray, List.set_cons_zero, List.set_cons_succ])
    refine take_lit (i := 51) (oi := ?_) (v := undef) ?_ ?_ ?_ ?_ ?_ (Or.inr ⟨?_, rfl⟩) ?_ ?_
    rotate_left
    focus (simp only [List.getElem?_toArray, List.getElem?_cons_succ, List.getElem?_cons_zero]; rfl)
    focus kernel_rfl
    focus kernel_rfl
    focus kernel_rfl
    focus (exact fun _ _ _ h => h)
    focus rfl
    focus assumption
    (try simp only [Act.put, List.setIfInBounds_toArray, List.set_cons_zero, List.set_cons_succ])
    refine take_lit (i := 52) (oi := ?_) (v := undef) ?_ ?_ ?_ ?_ ?_ (Or.inr ⟨?_, rfl⟩) ?_ ?_
    rotate_left
    focus (simp only [List.getElem?_toArray, List.getElem?_cons_succ, List.getElem?_cons_zero]; rfl)
    focus kernel_rfl
    focus kernel_rfl
    focus kernel_rfl
    focus (exact fun _ _ _ h => h)
    focus rfl
    focus assumption
    (try simp only [Act.put, List.setIfInBounds_toArray, List.set_cons_zero, List.set_cons_succ])
    refine take_lit (i := 53) (oi := ?_) (v := ?_) ?_ ?_ ?_ ?_ ?_ (Or.inl ⟨?_, ?_⟩) ?_ ?_
    rotate_left
    rotate_left
    focus (simp only [List.getElem?_toArray, List.getElem?_cons_succ, List.getElem?_cons_zero]; rfl)
    focus kernel_rfl
    focus kernel_rfl
    focus kernel_rfl
    focus (exact fun _ _ _ h => h)
    focus rfl
    focus ((intro w hSw; (try dsimp only at hSw); go_simp); first | done | with_reducible rfl)
    focus assumption
    (try simp only [Act.put, List.setIfInBounds_toArray, List.set_cons_zero, List.set_cons_succ])
    refine take_lit (i := 54) (oi := ?_) (v := ?_) ?_ ?_ ?_ ?_ ?_ (Or.inl ⟨?_, ?_⟩) ?_ ?_
    rotate_left
    rotate_left
    focus (simp only [List.getElem?_toArray, List.getElem?_cons_succ, List.getElem?_cons_zero]; rfl)
    focus kernel_rfl
    focus kernel_rfl
    focus kernel_rfl
    focus (exact fun _ _ _ h => h)
    focus rfl
    focus ((intro w hSw; (try dsimp only at hSw); go_simp); first | done | with_reducible rfl)
    focus assumption
    (try simp only [Act.put, List.setIfInBounds_toArray, List.set_cons_zero, List.set_cons_succ])
    refine wpAnyH_done (by kernel_rfl) ?_ _
    obtain ⟨ka, kc, km, kg, kl, kh⟩ := HA.out
    refine wp_named (fun W => Bk W w.heap.size 26 [.bool b, .int .u64 x1, .int .u64 x0, .int .i64 s] ∧ Bk W (w.heap.size + 1) 26 [.bool b', .int .u64 y1, .int .u64 y0, .int .i64 s'] ∧ Below w.heap.size w W) ⟨?_, ?_, ?_⟩ ?_
    focus ((repeat (first | (with_reducible assumption) | ((with_reducible refine Bk.new_ ?_); (first | rfl | (simp only [World.size_alloc, World.size_setCell, World.size_drew, World.heap_drewN]; done))) | (with_reducible refine Bk.alloc ?_ _) | (with_reducible refine Bk.drew ?_) | (with_reducible refine Bk.drewN ?_ _) | ((with_reducible refine Bk.far ?_ ?_ _); rotate_left; focus (simp only []; omega)) | ((with_reducible refine Bk.below ?_ (by with_reducible assumption) ?_); rotate_left; focus (go_size; done)))); done)
    focus ((repeat (first | (with_reducible assumption) | ((with_reducible refine Bk.new_ ?_); (first | rfl | (simp only [World.size_alloc, World.size_setCell, World.size_drew, World.heap_drewN]; done))) | (with_reducible refine Bk.alloc ?_ _) | (with_reducible refine Bk.drew ?_) | (with_reducible refine Bk.drewN ?_ _) | ((with_reducible refine Bk.far ?_ ?_ _); rotate_left; focus (simp only []; omega)) | ((with_reducible refine Bk.below ?_ (by with_reducible assumption) ?_); rotate_left; focus (go_size; done)))); done)
    focus ((repeat' (first | (with_reducible exact Below.refl _ _) | (with_reducible assumption) | (with_reducible refine Below.drew ?_) | (with_reducible refine below_drewN ?_ _) | ((with_reducible refine Below.alloc ?_ ?_ _); rotate_left; focus (go_size; done)) | ((with_reducible refine Below.setCell ?_ ?_ _); rotate_left; focus (go_size; done)) | ((with_reducible refine Below.trans ?_ (Below.mono (by with_reducible assumption) ?_)); rotate_left; focus (go_size; done)))); done)
    clear hHeld HA km kg kl kh ka kc kw ca0 ca1 ca2 ca3 cm0 cm1 cm2 cm3 cg0 cg1 cg2 cg3 cl3 ch3 c0 c1
    try clear hb20 hb20c hb20f hb20s
    try clear hb21 hb21c hb21f hb21s
    rintro V ⟨ka, kc, kw⟩
    have kal := ka.lt
    have kcl := kc.lt
    have ka_0 := ka.cell 0 rfl
    have ka_1 := ka.cell 1 rfl
    have ka_2 := ka.cell 2 rfl
    have ka_3 := ka.cell 3 rfl
    have ka_4 := ka.frozen 0
    have ka_5 := ka.frozen 1
    have ka_6 := ka.frozen 2
    have ka_7 := ka.frozen 3
    have kal := ka.lt
    have kc_0 := kc.cell 0 rfl
    have kc_1 := kc.cell 1 rfl
    have kc_2 := kc.cell 2 rfl
    have kc_3 := kc.cell 3 rfl
    have kc_4 := kc.frozen 0
    have kc_5 := kc.frozen 1
    have kc_6 := kc.frozen 2
    have kc_7 := kc.frozen 3
    have kcl := kc.lt
    have c2 := C2.out
    have c3 := C3.out
    clear C2 C3
    cases z
    · skip
      obtain ⟨rfl, hrz⟩ := HN.out rfl
      have HRZ := Lib.hid hrz
      have L12 := Lib.hid (K12.out rfl)
      have L13 := Lib.hid (K13.out rfl)
      have L14 := Lib.hid (K14.out rfl)
      clear hrz HZ HN K12 K13 K14
      go_wp2_with fail
      refine (K11.out _).mono ?_
      rintro _ w10 ⟨rfl, hb10⟩; have hb10s := hb10.size; (try simp only [World.size_alloc, World.size_setCell, World.size_drew, World.heap_drewN] at hb10s); obtain ⟨hb10c, hb10f⟩ := bcell hb10; (try have : w.heap.size < w10.heap.size := by omega); (try have : w.heap.size + 1 < w10.heap.size := by omega); (try have : w.heap.size + 1 + 1 < w10.heap.size := by omega); (try have : w.heap.size + 1 + 1 + 1 < w10.heap.size := by omega)
      have aq10 : Bk w10 (w.heap.size) 26 [.bool b, .int .u64 x1, .int .u64 x0, .int .i64 s] := by (repeat (first | (with_reducible assumption) | ((with_reducible refine Bk.new_ ?_); (first | rfl | (simp only [World.size_alloc, World.size_setCell, World.size_drew, World.heap_drewN]; done))) | (with_reducible refine Bk.alloc ?_ _) | (with_reducible refine Bk.drew ?_) | (with_reducible refine Bk.drewN ?_ _) | ((with_reducible refine Bk.far ?_ ?_ _); rotate_left; focus (simp only []; omega)) | ((with_reducible refine Bk.below ?_ (by with_reducible assumption) ?_); rotate_left; focus (go_size; done))))
      have aq10_0 := aq10.cell 0 rfl
      have aq10_1 := aq10.cell 1 rfl
      have aq10_2 := aq10.cell 2 rfl
      have aq10_3 := aq10.cell 3 rfl
      have aq10_4 := aq10.frozen 0
      have aq10_5 := aq10.frozen 1
      have aq10_6 := aq10.frozen 2
      have aq10_7 := aq10.frozen 3
      have aq10l := aq10.lt
      have cq10 : Bk w10 (w.heap.size + 1) 26 [.bool b', .int .u64 y1, .int .u64 y0, .int .i64 s'] := by (repeat (first | (with_reducible assumption) | ((with_reducible refine Bk.new_ ?_); (first | rfl | (simp only [World.size_alloc, World.size_setCell, World.size_drew, World.heap_drewN]; done))) | (with_reducible refine Bk.alloc ?_ _) | (with_reducible refine Bk.drew ?_) | (with_reducible refine Bk.drewN ?_ _) | ((with_reducible refine Bk.far ?_ ?_ _); rotate_left; focus (simp only []; omega)) | ((with_reducible refine Bk.below ?_ (by with_reducible assumption) ?_); rotate_left; focus (go_size; done))))
      have cq10_0 := cq10.cell 0 rfl
      have cq10_1 := cq10.cell 1 rfl
      have cq10_2 := cq10.cell 2 rfl
      have cq10_3 := cq10.cell 3 rfl
      have cq10_4 := cq10.frozen 0
      have cq10_5 := cq10.frozen 1
      have cq10_6 := cq10.frozen 2
      have cq10_7 := cq10.frozen 3
      have cq10l := cq10.lt
      clear hb10c hb10f
      go_wp2_with fail
      obtain ⟨gr, hgr⟩ : ∃ gr, gr = w10.heap.size := ⟨_, rfl⟩
      refine calls_named (fun W => Bk W (w.heap.size) 26 [.bool b, .int .u64 x1, .int .u64 x0, .int .i64 s] ∧ Bk W (w.heap.size + 1) 26 [.bool b', .int .u64 y1, .int .u64 y0, .int .i64 s'] ∧ Bk W w10.heap.size 26 [.bool r0, .int .u64 r1, .int .u64 r2, .int .i64 r3] ∧ Below w.heap.size w W) ⟨?h0, ?h1, ?h2, ?h3⟩ ?_
      case h0 => ((repeat (first | (with_reducible assumption) | ((with_reducible refine Bk.new_ ?_); (first | rfl | (simp only [World.size_alloc, World.size_setCell, World.size_drew, World.heap_drewN]; done))) | (with_reducible refine Bk.alloc ?_ _) | (with_reducible refine Bk.drew ?_) | (with_reducible refine Bk.drewN ?_ _) | ((with_reducible refine Bk.far ?_ ?_ _); rotate_left; focus (simp only []; omega)) | ((with_reducible refine Bk.below ?_ (by with_reducible assumption) ?_); rotate_left; focus (go_size; done)))); done)
      case h1 => ((repeat (first | (with_reducible assumption) | ((with_reducible refine Bk.new_ ?_); (first | rfl | (simp only [World.size_alloc, World.size_setCell, World.size_drew, World.heap_drewN]; done))) | (with_reducible refine Bk.alloc ?_ _) | (with_reducible refine Bk.drew ?_) | (with_reducible refine Bk.drewN ?_ _) | ((with_reducible refine Bk.far ?_ ?_ _); rotate_left; focus (simp only []; omega)) | ((with_reducible refine Bk.below ?_ (by with_reducible assumption) ?_); rotate_left; focus (go_size; done)))); done)
      case h2 => ((repeat (first | (with_reducible assumption) | ((with_reducible refine Bk.new_ ?_); (first | rfl | (simp only [World.size_alloc, World.size_setCell, World.size_drew, World.heap_drewN]; done))) | (with_reducible refine Bk.alloc ?_ _) | (with_reducible refine Bk.drew ?_) | (with_reducible refine Bk.drewN ?_ _) | ((with_reducible refine Bk.far ?_ ?_ _); rotate_left; focus (simp only []; omega)) | ((with_reducible refine Bk.below ?_ (by with_reducible assumption) ?_); rotate_left; focus (go_size; done)))); done)
      case h3 => ((repeat' (first | (with_reducible exact Below.refl _ _) | (with_reducible assumption) | (with_reducible refine Below.drew ?_) | (with_reducible refine below_drewN ?_ _) | ((with_reducible refine Below.alloc ?_ ?_ _); rotate_left; focus (go_size; done)) | ((with_reducible refine Below.setCell ?_ ?_ _); rotate_left; focus (go_size; done)) | ((with_reducible refine Below.trans ?_ (Below.mono (by with_reducible assumption) ?_)); rotate_left; focus (go_size; done)))); done)
      clear aq10_0 aq10_1 aq10_2 aq10_3 aq10_4 aq10_5 aq10_6 aq10_7
      clear cq10_0 cq10_1 cq10_2 cq10_3 cq10_4 cq10_5 cq10_6 cq10_7
      rw [← hgr]
      have gr_a : w.heap.size < gr := by omega
      have gr_c : w.heap.size + 1 < gr := by omega
      clear hgr
      try clear hb10 hb10s
      try clear aq10 aq10l
      try clear cq10 cq10l
      try clear kal
      try clear kcl
      try clear ka
      try clear kc
      try clear kw
      rintro W10 ⟨ka, kc, kr, kw⟩
      have kal := ka.lt
      have kcl := kc.lt
      have krl := kr.lt
      refine (L12.out _).mono ?_
      rintro _ w11 ⟨rfl, hb11⟩; have hb11s := hb11.size; (try simp only [World.size_alloc, World.size_setCell, World.size_drew, World.heap_drewN] at hb11s); obtain ⟨hb11c, hb11f⟩ := bcell hb11; (try have : w.heap.size < w11.heap.size := by omega); (try have : w.heap.size + 1 < w11.heap.size := by omega); (try have : w.heap.size + 1 + 1 < w11.heap.size := by omega); (try have : w.heap.size + 1 + 1 + 1 < w11.heap.size := by omega)
      have aq11 : Bk w11 (w.heap.size) 26 [.bool b, .int .u64 x1, .int .u64 x0, .int .i64 s] := by (repeat (first | (with_reducible assumption) | ((with_reducible refine Bk.new_ ?_); (first | rfl | (simp only [World.size_alloc, World.size_setCell, World.size_drew, World.heap_drewN]; done))) | (with_reducible refine Bk.alloc ?_ _) | (with_reducible refine Bk.drew ?_) | (with_reducible refine Bk.drewN ?_ _) | ((with_reducible refine Bk.far ?_ ?_ _); rotate_left; focus (simp only []; omega)) | ((with_reducible refine Bk.below ?_ (by with_reducible assumption) ?_); rotate_left; focus (go_size; done))))
      have aq11_0 := aq11.cell 0 rfl
      have aq11_1 := aq11.cell 1 rfl
      have aq11_2 := aq11.cell 2 rfl
      have aq11_3 := aq11.cell 3 rfl
      have aq11_4 := aq11.frozen 0
      have aq11_5 := aq11.frozen 1
      have aq11_6 := aq11.frozen 2
      have aq11_7 := aq11.frozen 3
      have aq11l := aq11.lt
      have cq11 : Bk w11 (w.heap.size + 1) 26 [.bool b', .int .u64 y1, .int .u64 y0, .int .i64 s'] := by (repeat (first | (with_reducible assumption) | ((with_reducible refine Bk.new_ ?_); (first | rfl | (simp only [World.size_alloc, World.size_setCell, World.size_drew, World.heap_drewN]; done))) | (with_reducible refine Bk.alloc ?_ _) | (with_reducible refine Bk.drew ?_) | (with_reducible refine Bk.drewN ?_ _) | ((with_reducible refine Bk.far ?_ ?_ _); rotate_left; focus (simp only []; omega)) | ((with_reducible refine Bk.below ?_ (by with_reducible assumption) ?_); rotate_left; focus (go_size; done))))
      have cq11_0 := cq11.cell 0 rfl
      have cq11_1 := cq11.cell 1 rfl
      have cq11_2 := cq11.cell 2 rfl
      have cq11_3 := cq11.cell 3 rfl
      have cq11_4 := cq11.frozen 0
      have cq11_5 := cq11.frozen 1
      have cq11_6 := cq11.frozen 2
      have cq11_7 := cq11.frozen 3
      have cq11l := cq11.lt
      have rq11 : Bk w11 (gr) 26 [.bool r0, .int .u64 r1, .int .u64 r2, .int .i64 r3] := by (repeat (first | (with_reducible assumption) | ((with_reducible refine Bk.new_ ?_); (first | rfl | (simp only [World.size_alloc, World.size_setCell, World.size_drew, World.heap_drewN]; done))) | (with_reducible refine Bk.alloc ?_ _) | (with_reducible refine Bk.drew ?_) | (with_reducible refine Bk.drewN ?_ _) | ((with_reducible refine Bk.far ?_ ?_ _); rotate_left; focus (simp only []; omega)) | ((with_reducible refine Bk.below ?_ (by with_reducible assumption) ?_); rotate_left; focus (go_size; done))))
      have rq11_0 := rq11.cell 0 rfl
      have rq11_1 := rq11.cell 1 rfl
      have rq11_2 := rq11.cell 2 rfl
      have rq11_3 := rq11.cell 3 rfl
      have rq11_4 := rq11.frozen 0
      have rq11_5 := rq11.frozen 1
      have rq11_6 := rq11.frozen 2
      have rq11_7 := rq11.frozen 3
      have rq11l := rq11.lt
      clear hb11c hb11f
      go_wp2_with fail
      obtain ⟨gt, hgt⟩ : ∃ gt, gt = w11.heap.size := ⟨_, rfl⟩
      refine calls_named (fun W => Bk W (w.heap.size) 26 [.bool b, .int .u64 x1, .int .u64 x0, .int .i64 s] ∧ Bk W (w.heap.size + 1) 26 [.bool b', .int .u64 y1, .int .u64 y0, .int .i64 s'] ∧ Bk W (gr) 26 [.bool r0, .int .u64 r1, .int .u64 r2, .int .i64 r3] ∧ Bk W w11.heap.size 26 [.bool t0, .int .u64 t1, .int .u64 t2, .int .i64 t3] ∧ Below w.heap.size w W) ⟨?h0, ?h1, ?h2, ?h3, ?h4⟩ ?_
      case h0 => ((repeat (first | (with_reducible assumption) | ((with_reducible refine Bk.new_ ?_); (first | rfl | (simp only [World.size_alloc, World.size_setCell, World.size_drew, World.heap_drewN]; done))) | (with_reducible refine Bk.alloc ?_ _) | (with_reducible refine Bk.drew ?_) | (with_reducible refine Bk.drewN ?_ _) | ((with_reducible refine Bk.far ?_ ?_ _); rotate_left; focus (simp only []; omega)) | ((with_reducible refine Bk.below ?_ (by with_reducible assumption) ?_); rotate_left; focus (go_size; done)))); done)
      case h1 => ((repeat (first | (with_reducible assumption) | ((with_reducible refine Bk.new_ ?_); (first | rfl | (simp only [World.size_alloc, World.size_setCell, World.size_drew, World.heap_drewN]; done))) | (with_reducible refine Bk.alloc ?_ _) | (with_reducible refine Bk.drew ?_) | (with_reducible refine Bk.drewN ?_ _) | ((with_reducible refine Bk.far ?_ ?_ _); rotate_left; focus (simp only []; omega)) | ((with_reducible refine Bk.below ?_ (by with_reducible assumption) ?_); rotate_left; focus (go_size; done)))); done)
      case h2 => ((repeat (first | (with_reducible assumption) | ((with_reducible refine Bk.new_ ?_); (first | rfl | (simp only [World.size_alloc, World.size_setCell, World.size_drew, World.heap_drewN]; done))) | (with_reducible refine Bk.alloc ?_ _) | (with_reducible refine Bk.drew ?_) | (with_reducible refine Bk.drewN ?_ _) | ((with_reducible refine Bk.far ?_ ?_ _); rotate_left; focus (simp only []; omega)) | ((with_reducible refine Bk.below ?_ (by with_reducible assumption) ?_); rotate_left; focus (go_size; done)))); done)
      case h3 => ((repeat (first | (with_reducible assumption) | ((with_reducible refine Bk.new_ ?_); (first | rfl | (simp only [World.size_alloc, World.size_setCell, World.size_drew, World.heap_drewN]; done))) | (with_reducible refine Bk.alloc ?_ _) | (with_reducible refine Bk.drew ?_) | (with_reducible refine Bk.drewN ?_ _) | ((with_reducible refine Bk.far ?_ ?_ _); rotate_left; focus (simp only []; omega)) | ((with_reducible refine Bk.below ?_ (by with_reducible assumption) ?_); rotate_left; focus (go_size; done)))); done)
      case h4 => ((repeat' (first | (with_reducible exact Below.refl _ _) | (with_reducible assumption) | (with_reducible refine Below.drew ?_) | (with_reducible refine below_drewN ?_ _) | ((with_reducible refine Below.alloc ?_ ?_ _); rotate_left; focus (go_size; done)) | ((with_reducible refine Below.setCell ?_ ?_ _); rotate_left; focus (go_size; done)) | ((with_reducible refine Below.trans ?_ (Below.mono (by with_reducible assumption) ?_)); rotate_left; focus (go_size; done)))); done)
      clear aq11_0 aq11_1 aq11_2 aq11_3 aq11_4 aq11_5 aq11_6 aq11_7
      clear cq11_0 cq11_1 cq11_2 cq11_3 cq11_4 cq11_5 cq11_6 cq11_7
      clear rq11_0 rq11_1 rq11_2 rq11_3 rq11_4 rq11_5 rq11_6 rq11_7
      rw [← hgt]
      have gt_a : w.heap.size < gt := by omega
      have gt_c : w.heap.size + 1 < gt := by omega
      have gt_r : gr < gt := by omega
      clear hgt
      try clear hb11 hb11s
      try clear aq11 aq11l
      try clear cq11 cq11l
      try clear rq11 rq11l
      try clear kal
      try clear kcl
      try clear krl
      try clear ka
      try clear kc
      try clear kr
      try clear kw
      rintro W11 ⟨ka, kc, kr, kt, kw⟩
      have kal := ka.lt
      have kcl := kc.lt
      have krl := kr.lt
      have ktl := kt.lt
      refine (L13.out _).mono ?_
      rintro _ w12 ⟨rfl, hb12⟩; have hb12s := hb12.size; (try simp only [World.size_alloc, World.size_setCell, World.size_drew, World.heap_drewN] at hb12s); obtain ⟨hb12c, hb12f⟩ := bcell hb12; (try have : w.heap.size < w12.heap.size := by omega); (try have : w.heap.size + 1 < w12.heap.size := by omega); (try have : w.heap.size + 1 + 1 < w12.heap.size := by omega); (try have : w.heap.size + 1 + 1 + 1 < w12.heap.size := by omega)
      have aq12 : Bk w12 (w.heap.size) 26 [.bool b, .int .u64 x1, .int .u64 x0, .int .i64 s] := by (repeat (first | (with_reducible assumption) | ((with_reducible refine Bk.new_ ?_); (first | rfl | (simp only [World.size_alloc, World.size_setCell, World.size_drew, World.heap_drewN]; done))) | (with_reducible refine Bk.alloc ?_ _) | (with_reducible refine Bk.drew ?_) | (with_reducible refine Bk.drewN ?_ _) | ((with_reducible refine Bk.far ?_ ?_ _); rotate_left; focus (simp only []; omega)) | ((with_reducible refine Bk.below ?_ (by with_reducible assumption) ?_); rotate_left; focus (go_size; done))))
      have aq12_0 := aq12.cell 0 rfl
      have aq12_1 := aq12.cell 1 rfl
      have aq12_2 := aq12.cell 2 rfl
      have aq12_3 := aq12.cell 3 rfl
      have aq12_4 := aq12.frozen 0
      have aq12_5 := aq12.frozen 1
      have aq12_6 := aq12.frozen 2
      have aq12_7 := aq12.frozen 3
      have aq12l := aq12.lt
      have cq12 : Bk w12 (w.heap.size + 1) 26 [.bool b', .int .u64 y1, .int .u64 y0, .int .i64 s'] := by (repeat (first | (with_reducible assumption) | ((with_reducible refine Bk.new_ ?_); (first | rfl | (simp only [World.size_alloc, World.size_setCell, World.size_drew, World.heap_drewN]; done))) | (with_reducible refine Bk.alloc ?_ _) | (with_reducible refine Bk.drew ?_) | (with_reducible refine Bk.drewN ?_ _) | ((with_reducible refine Bk.far ?_ ?_ _); rotate_left; focus (simp only []; omega)) | ((with_reducible refine Bk.below ?_ (by with_reducible assumption) ?_); rotate_left; focus (go_size; done))))
      have cq12_0 := cq12.cell 0 rfl
      have cq12_1 := cq12.cell 1 rfl
      have cq12_2 := cq12.cell 2 rfl
      have cq12_3 := cq12.cell 3 rfl
      have cq12_4 := cq12.frozen 0
      have cq12_5 := cq12.frozen 1
      have cq12_6 := cq12.frozen 2
      have cq12_7 := cq12.frozen 3
      have cq12l := cq12.lt
      have rq12 : Bk w12 (gr) 26 [.bool r0, .int .u64 r1, .int .u64 r2, .int .i64 r3] := by (repeat (first | (with_reducible assumption) | ((with_reducible refine Bk.new_ ?_); (first | rfl | (simp only [World.size_alloc, World.size_setCell, World.size_drew, World.heap_drewN]; done))) | (with_reducible refine Bk.alloc ?_ _) | (with_reducible refine Bk.drew ?_) | (with_reducible refine Bk.drewN ?_ _) | ((with_reducible refine Bk.far ?_ ?_ _); rotate_left; focus (simp only []; omega)) | ((with_reducible refine Bk.below ?_ (by with_reducible assumption) ?_); rotate_left; focus (go_size; done))))
      have rq12_0 := rq12.cell 0 rfl
      have rq12_1 := rq12.cell 1 rfl
      have rq12_2 := rq12.cell 2 rfl
      have rq12_3 := rq12.cell 3 rfl
      have rq12_4 := rq12.frozen 0
      have rq12_5 := rq12.frozen 1
      have rq12_6 := rq12.frozen 2
      have rq12_7 := rq12.frozen 3
      have rq12l := rq12.lt
      have tq12 : Bk w12 (gt) 26 [.bool t0, .int .u64 t1, .int .u64 t2, .int .i64 t3] := by (repeat (first | (with_reducible assumption) | ((with_reducible refine Bk.new_ ?_); (first | rfl | (simp only [World.size_alloc, World.size_setCell, World.size_drew, World.heap_drewN]; done))) | (with_reducible refine Bk.alloc ?_ _) | (with_reducible refine Bk.drew ?_) | (with_reducible refine Bk.drewN ?_ _) | ((with_reducible refine Bk.far ?_ ?_ _); rotate_left; focus (simp only []; omega)) | ((with_reducible refine Bk.below ?_ (by with_reducible assumption) ?_); rotate_left; focus (go_size; done))))
      have tq12_0 := tq12.cell 0 rfl
      have tq12_1 := tq12.cell 1 rfl
      have tq12_2 := tq12.cell 2 rfl
      have tq12_3 := tq12.cell 3 rfl
      have tq12_4 := tq12.frozen 0
      have tq12_5 := tq12.frozen 1
      have tq12_6 := tq12.frozen 2
      have tq12_7 := tq12.frozen 3
      have tq12l := tq12.lt
      clear hb12c hb12f
      go_wp2_with fail
      obtain ⟨gu, hgu⟩ : ∃ gu, gu = w12.heap.size := ⟨_, rfl⟩
      refine calls_named (fun W => Bk W (w.heap.size) 26 [.bool b, .int .u64 x1, .int .u64 x0, .int .i64 s] ∧ Bk W (w.heap.size + 1) 26 [.bool b', .int .u64 y1, .int .u64 y0, .int .i64 s'] ∧ Bk W (gr) 26 [.bool r0, .int .u64 r1, .int .u64 r2, .int .i64 r3] ∧ Bk W (gt) 26 [.bool t0, .int .u64 t1, .int .u64 t2, .int .i64 t3] ∧ Bk W w12.heap.size 26 [.bool u0, .int .u64 u1, .int .u64 u2, .int .i64 u3] ∧ Below w.heap.size w W) ⟨?h0, ?h1, ?h2, ?h3, ?h4, ?h5⟩ ?_
      case h0 => ((repeat (first | (with_reducible assumption) | ((with_reducible refine Bk.new_ ?_); (first | rfl | (simp only [World.size_alloc, World.size_setCell, World.size_drew, World.heap_drewN]; done))) | (with_reducible refine Bk.alloc ?_ _) | (with_reducible refine Bk.drew ?_) | (with_reducible refine Bk.drewN ?_ _) | ((with_reducible refine Bk.far ?_ ?_ _); rotate_left; focus (simp only []; omega)) | ((with_reducible refine Bk.below ?_ (by with_reducible assumption) ?_); rotate_left; focus (go_size; done)))); done)
      case h1 => ((repeat (first | (with_reducible assumption) | ((with_reducible refine Bk.new_ ?_); (first | rfl | (simp only [World.size_alloc, World.size_setCell, World.size_drew, World.heap_drewN]; done))) | (with_reducible refine Bk.alloc ?_ _) | (with_reducible refine Bk.drew ?_) | (with_reducible refine Bk.drewN ?_ _) | ((with_reducible refine Bk.far ?_ ?_ _); rotate_left; focus (simp only []; omega)) | ((with_reducible refine Bk.below ?_ (by with_reducible assumption) ?_); rotate_left; focus (go_size; done)))); done)
      case h2 => ((repeat (first | (with_reducible assumption) | ((with_reducible refine Bk.new_ ?_); (first | rfl | (simp only [World.size_alloc, World.size_setCell, World.size_drew, World.heap_drewN]; done))) | (with_reducible refine Bk.alloc ?_ _) | (with_reducible refine Bk.drew ?_) | (with_reducible refine Bk.drewN ?_ _) | ((with_reducible refine Bk.far ?_ ?_ _); rotate_left; focus (simp only []; omega)) | ((with_reducible refine Bk.below ?_ (by with_reducible assumption) ?_); rotate_left; focus (go_size; done)))); done)
      case h3 => ((repeat (first | (with_reducible assumption) | ((with_reducible refine Bk.new_ ?_); (first | rfl | (simp only [World.size_alloc, World.size_setCell, World.size_drew, World.heap_drewN]; done))) | (with_reducible refine Bk.alloc ?_ _) | (with_reducible refine Bk.drew ?_) | (with_reducible refine Bk.drewN ?_ _) | ((with_reducible refine Bk.far ?_ ?_ _); rotate_left; focus (simp only []; omega)) | ((with_reducible refine Bk.below ?_ (by with_reducible assumption) ?_); rotate_left; focus (go_size; done)))); done)
      case h4 => ((repeat (first | (with_reducible assumption) | ((with_reducible refine Bk.new_ ?_); (first | rfl | (simp only [World.size_alloc, World.size_setCell, World.size_drew, World.heap_drewN]; done))) | (with_reducible refine Bk.alloc ?_ _) | (with_reducible refine Bk.drew ?_) | (with_reducible refine Bk.drewN ?_ _) | ((with_reducible refine Bk.far ?_ ?_ _); rotate_left; focus (simp only []; omega)) | ((with_reducible refine Bk.below ?_ (by with_reducible assumption) ?_); rotate_left; focus (go_size; done)))); done)
      case h5 => ((repeat' (first | (with_reducible exact Below.refl _ _) | (with_reducible assumption) | (with_reducible refine Below.drew ?_) | (with_reducible refine below_drewN ?_ _) | ((with_reducible refine Below.alloc ?_ ?_ _); rotate_left; focus (go_size; done)) | ((with_reducible refine Below.setCell ?_ ?_ _); rotate_left; focus (go_size; done)) | ((with_reducible refine Below.trans ?_ (Below.mono (by with_reducible assumption) ?_)); rotate_left; focus (go_size; done)))); done)
      clear aq12_0 aq12_1 aq12_2 aq12_3 aq12_4 aq12_5 aq12_6 aq12_7
      clear cq12_0 cq12_1 cq12_2 cq12_3 cq12_4 cq12_5 cq12_6 cq12_7
      clear rq12_0 rq12_1 rq12_2 rq12_3 rq12_4 rq12_5 rq12_6 rq12_7
      clear tq12_0 tq12_1 tq12_2 tq12_3 tq12_4 tq12_5 tq12_6 tq12_7
      rw [← hgu]
      have gu_a : w.heap.size < gu := by omega
      have gu_c : w.heap.size + 1 < gu := by omega
      have gu_r : gr < gu := by omega
      have gu_t : gt < gu := by omega
      clear hgu
      try clear hb12 hb12s
      try clear aq12 aq12l
      try clear cq12 cq12l
      try clear rq12 rq12l
      try clear tq12 tq12l
      try clear kal
      try clear kcl
      try clear krl
      try clear ktl
      try clear ka
      try clear kc
      try clear kr
      try clear kt
      try clear kw
      rintro W12 ⟨ka, kc, kr, kt, ku, kw⟩
      have kal := ka.lt
      have kcl := kc.lt
      have krl := kr.lt
      have ktl := kt.lt
      have kul := ku.lt
      rcases HRZ.out with rfl | hb
      · skip
        refine (L14.out _).mono ?_
        rintro _ w13 ⟨rfl, hb13⟩; have hb13s := hb13.size; (try simp only [World.size_alloc, World.size_setCell, World.size_drew, World.heap_drewN] at hb13s); obtain ⟨hb13c, hb13f⟩ := bcell hb13; (try have : w.heap.size < w13.heap.size := by omega); (try have : w.heap.size + 1 < w13.heap.size := by omega); (try have : w.heap.size + 1 + 1 < w13.heap.size := by omega); (try have : w.heap.size + 1 + 1 + 1 < w13.heap.size := by omega)
        have aq13 : Bk w13 (w.heap.size) 26 [.bool b, .int .u64 x1, .int .u64 x0, .int .i64 s] := by (repeat (first | (with_reducible assumption) | ((with_reducible refine Bk.new_ ?_); (first | rfl | (simp only [World.size_alloc, World.size_setCell, World.size_drew, World.heap_drewN]; done))) | (with_reducible refine Bk.alloc ?_ _) | (with_reducible refine Bk.drew ?_) | (with_reducible refine Bk.drewN ?_ _) | ((with_reducible refine Bk.far ?_ ?_ _); rotate_left; focus (simp only []; omega)) | ((with_reducible refine Bk.below ?_ (by with_reducible assumption) ?_); rotate_left; focus (go_size; done))))
        have aq13_0 := aq13.cell 0 rfl
        have aq13_1 := aq13.cell 1 rfl
        have aq13_2 := aq13.cell 2 rfl
        have aq13_3 := aq13.cell 3 rfl
        have aq13_4 := aq13.frozen 0
        have aq13_5 := aq13.frozen 1
        have aq13_6 := aq13.frozen 2
        have aq13_7 := aq13.frozen 3
        have aq13l := aq13.lt
        have cq13 : Bk w13 (w.heap.size + 1) 26 [.bool b', .int .u64 y1, .int .u64 y0, .int .i64 s'] := by (repeat (first | (with_reducible assumption) | ((with_reducible refine Bk.new_ ?_); (first | rfl | (simp only [World.size_alloc, World.size_setCell, World.size_drew, World.heap_drewN]; done))) | (with_reducible refine Bk.alloc ?_ _) | (with_reducible refine Bk.drew ?_) | (with_reducible refine Bk.drewN ?_ _) | ((with_reducible refine Bk.far ?_ ?_ _); rotate_left; focus (simp only []; omega)) | ((with_reducible refine Bk.below ?_ (by with_reducible assumption) ?_); rotate_left; focus (go_size; done))))
        have cq13_0 := cq13.cell 0 rfl
        have cq13_1 := cq13.cell 1 rfl
        have cq13_2 := cq13.cell 2 rfl
        have cq13_3 := cq13.cell 3 rfl
        have cq13_4 := cq13.frozen 0
        have cq13_5 := cq13.frozen 1
        have cq13_6 := cq13.frozen 2
        have cq13_7 := cq13.frozen 3
        have cq13l := cq13.lt
        have rq13 : Bk w13 (gr) 26 [.bool r0, .int .u64 r1, .int .u64 r2, .int .i64 r3] := by (repeat (first | (with_reducible assumption) | ((with_reducible refine Bk.new_ ?_); (first | rfl | (simp only [World.size_alloc, World.size_setCell, World.size_drew, World.heap_drewN]; done))) | (with_reducible refine Bk.alloc ?_ _) | (with_reducible refine Bk.drew ?_) | (with_reducible refine Bk.drewN ?_ _) | ((with_reducible refine Bk.far ?_ ?_ _); rotate_left; focus (simp only []; omega)) | ((with_reducible refine Bk.below ?_ (by with_reducible assumption) ?_); rotate_left; focus (go_size; done))))
        have rq13_0 := rq13.cell 0 rfl
        have rq13_1 := rq13.cell 1 rfl
        have rq13_2 := rq13.cell 2 rfl
        have rq13_3 := rq13.cell 3 rfl
        have rq13_4 := rq13.frozen 0
        have rq13_5 := rq13.frozen 1
        have rq13_6 := rq13.frozen 2
        have rq13_7 := rq13.frozen 3
        have rq13l := rq13.lt
        have tq13 : Bk w13 (gt) 26 [.bool t0, .int .u64 t1, .int .u64 t2, .int .i64 t3] := by (repeat (first | (with_reducible assumption) | ((with_reducible refine Bk.new_ ?_); (first | rfl | (simp only [World.size_alloc, World.size_setCell, World.size_drew, World.heap_drewN]; done))) | (with_reducible refine Bk.alloc ?_ _) | (with_reducible refine Bk.drew ?_) | (with_reducible refine Bk.drewN ?_ _) | ((with_reducible refine Bk.far ?_ ?_ _); rotate_left; focus (simp only []; omega)) | ((with_reducible refine Bk.below ?_ (by with_reducible assumption) ?_); rotate_left; focus (go_size; done))))
        have tq13_0 := tq13.cell 0 rfl
        have tq13_1 := tq13.cell 1 rfl
        have tq13_2 := tq13.cell 2 rfl
        have tq13_3 := tq13.cell 3 rfl
        have tq13_4 := tq13.frozen 0
        have tq13_5 := tq13.frozen 1
        have tq13_6 := tq13.frozen 2
        have tq13_7 := tq13.frozen 3
        have tq13l := tq13.lt
        have uq13 : Bk w13 (gu) 26 [.bool u0, .int .u64 u1, .int .u64 u2, .int .i64 u3] := by (repeat (first | (with_reducible assumption) | ((with_reducible refine Bk.new_ ?_); (first | rfl | (simp only [World.size_alloc, World.size_setCell, World.size_drew, World.heap_drewN]; done))) | (with_reducible refine Bk.alloc ?_ _) | (with_reducible refine Bk.drew ?_) | (with_reducible refine Bk.drewN ?_ _) | ((with_reducible refine Bk.far ?_ ?_ _); rotate_left; focus (simp only []; omega)) | ((with_reducible refine Bk.below ?_ (by with_reducible assumption) ?_); rotate_left; focus (go_size; done))))
        have uq13_0 := uq13.cell 0 rfl
        have uq13_1 := uq13.cell 1 rfl
        have uq13_2 := uq13.cell 2 rfl
        have uq13_3 := uq13.cell 3 rfl
        have uq13_4 := uq13.frozen 0
        have uq13_5 := uq13.frozen 1
        have uq13_6 := uq13.frozen 2
        have uq13_7 := uq13.frozen 3
        have uq13l := uq13.lt
        clear hb13c hb13f
        go_wp2_with fail
        go_ret
        exact ⟨by first | rfl | simp_all, by (repeat' (first | (with_reducible exact Below.refl _ _) | (with_reducible assumption) | (with_reducible refine Below.drew ?_) | (with_reducible refine below_drewN ?_ _) | ((with_reducible refine Below.alloc ?_ ?_ _); rotate_left; focus (go_size; done)) | ((with_reducible refine Below.setCell ?_ ?_ _); rotate_left; focus (go_size; done)) | ((with_reducible refine Below.trans ?_ (Below.mono (by with_reducible assumption) ?_)); rotate_left; focus (go_size; done))))⟩
      · skip
        have hb2 := hb.symm
        subst hb2
        have rb : ∀ W, (binOp .eql 4 (.bool b') (.bool b')).run Try.prog W = .ok (.bool true) W := fun _ => by cases b' <;> kernel_rfl
        cases rz
        all_goals
          refine (L14.out _).mono ?_
          rintro _ w13 ⟨rfl, hb13⟩; have hb13s := hb13.size; (try simp only [World.size_alloc, World.size_setCell, World.size_drew, World.heap_drewN] at hb13s); obtain ⟨hb13c, hb13f⟩ := bcell hb13; (try have : w.heap.size < w13.heap.size := by omega); (try have : w.heap.size + 1 < w13.heap.size := by omega); (try have : w.heap.size + 1 + 1 < w13.heap.size := by omega); (try have : w.heap.size + 1 + 1 + 1 < w13.heap.size := by omega)
          have aq13 : Bk w13 (w.heap.size) 26 [.bool b, .int .u64 x1, .int .u64 x0, .int .i64 s] := by (repeat (first | (with_reducible assumption) | ((with_reducible refine Bk.new_ ?_); (first | rfl | (simp only [World.size_alloc, World.size_setCell, World.size_drew, World.heap_drewN]; done))) | (with_reducible refine Bk.alloc ?_ _) | (with_reducible refine Bk.drew ?_) | (with_reducible refine Bk.drewN ?_ _) | ((with_reducible refine Bk.far ?_ ?_ _); rotate_left; focus (simp only []; omega)) | ((with_reducible refine Bk.below ?_ (by with_reducible assumption) ?_); rotate_left; focus (go_size; done))))
          have aq13_0 := aq13.cell 0 rfl
          have aq13_1 := aq13.cell 1 rfl
          have aq13_2 := aq13.cell 2 rfl
          have aq13_3 := aq13.cell 3 rfl
          have aq13_4 := aq13.frozen 0
          have aq13_5 := aq13.frozen 1
          have aq13_6 := aq13.frozen 2
          have aq13_7 := aq13.frozen 3
          have aq13l := aq13.lt
          have cq13 : Bk w13 (w.heap.size + 1) 26 [.bool b', .int .u64 y1, .int .u64 y0, .int .i64 s'] := by (repeat (first | (with_reducible assumption) | ((with_reducible refine Bk.new_ ?_); (first | rfl | (simp only [World.size_alloc, World.size_setCell, World.size_drew, World.heap_drewN]; done))) | (with_reducible refine Bk.alloc ?_ _) | (with_reducible refine Bk.drew ?_) | (with_reducible refine Bk.drewN ?_ _) | ((with_reducible refine Bk.far ?_ ?_ _); rotate_left; focus (simp only []; omega)) | ((with_reducible refine Bk.below ?_ (by with_reducible assumption) ?_); rotate_left; focus (go_size; done))))
          have cq13_0 := cq13.cell 0 rfl
          have cq13_1 := cq13.cell 1 rfl
          have cq13_2 := cq13.cell 2 rfl
          have cq13_3 := cq13.cell 3 rfl
          have cq13_4 := cq13.frozen 0
          have cq13_5 := cq13.frozen 1
          have cq13_6 := cq13.frozen 2
          have cq13_7 := cq13.frozen 3
          have cq13l := cq13.lt
          have rq13 : Bk w13 (gr) 26 [.bool b', .int .u64 r1, .int .u64 r2, .int .i64 r3] := by (repeat (first | (with_reducible assumption) | ((with_reducible refine Bk.new_ ?_); (first | rfl | (simp only [World.size_alloc, World.size_setCell, World.size_drew, World.heap_drewN]; done))) | (with_reducible refine Bk.alloc ?_ _) | (with_reducible refine Bk.drew ?_) | (with_reducible refine Bk.drewN ?_ _) | ((with_reducible refine Bk.far ?_ ?_ _); rotate_left; focus (simp only []; omega)) | ((with_reducible refine Bk.below ?_ (by with_reducible assumption) ?_); rotate_left; focus (go_size; done))))
          have rq13_0 := rq13.cell 0 rfl
          have rq13_1 := rq13.cell 1 rfl
          have rq13_2 := rq13.cell 2 rfl
          have rq13_3 := rq13.cell 3 rfl
          have rq13_4 := rq13.frozen 0
          have rq13_5 := rq13.frozen 1
          have rq13_6 := rq13.frozen 2
          have rq13_7 := rq13.frozen 3
          have rq13l := rq13.lt
          have tq13 : Bk w13 (gt) 26 [.bool t0, .int .u64 t1, .int .u64 t2, .int .i64 t3] := by (repeat (first | (with_reducible assumption) | ((with_reducible refine Bk.new_ ?_); (first | rfl | (simp only [World.size_alloc, World.size_setCell, World.size_drew, World.heap_drewN]; done))) | (with_reducible refine Bk.alloc ?_ _) | (with_reducible refine Bk.drew ?_) | (with_reducible refine Bk.drewN ?_ _) | ((with_reducible refine Bk.far ?_ ?_ _); rotate_left; focus (simp only []; omega)) | ((with_reducible refine Bk.below ?_ (by with_reducible assumption) ?_); rotate_left; focus (go_size; done))))
          have tq13_0 := tq13.cell 0 rfl
          have tq13_1 := tq13.cell 1 rfl
          have tq13_2 := tq13.cell 2 rfl
          have tq13_3 := tq13.cell 3 rfl
          have tq13_4 := tq13.frozen 0
          have tq13_5 := tq13.frozen 1
          have tq13_6 := tq13.frozen 2
          have tq13_7 := tq13.frozen 3
          have tq13l := tq13.lt
          have uq13 : Bk w13 (gu) 26 [.bool u0, .int .u64 u1, .int .u64 u2, .int .i64 u3] := by (repeat (first | (with_reducible assumption) | ((with_reducible refine Bk.new_ ?_); (first | rfl | (simp only [World.size_alloc, World.size_setCell, World.size_drew, World.heap_drewN]; done))) | (with_reducible refine Bk.alloc ?_ _) | (with_reducible refine Bk.drew ?_) | (with_reducible refine Bk.drewN ?_ _) | ((with_reducible refine Bk.far ?_ ?_ _); rotate_left; focus (simp only []; omega)) | ((with_reducible refine Bk.below ?_ (by with_reducible assumption) ?_); rotate_left; focus (go_size; done))))
          have uq13_0 := uq13.cell 0 rfl
          have uq13_1 := uq13.cell 1 rfl
          have uq13_2 := uq13.cell 2 rfl
          have uq13_3 := uq13.cell 3 rfl
          have uq13_4 := uq13.frozen 0
          have uq13_5 := uq13.frozen 1
          have uq13_6 := uq13.frozen 2
          have uq13_7 := uq13.frozen 3
          have uq13l := uq13.lt
          clear hb13c hb13f
          go_wp2_with fail
          all_goals
            go_ret
            exact ⟨by first | rfl | simp_all, by (repeat' (first | (with_reducible exact Below.refl _ _) | (with_reducible assumption) | (with_reducible refine Below.drew ?_) | (with_reducible refine below_drewN ?_ _) | ((with_reducible refine Below.alloc ?_ ?_ _); rotate_left; focus (go_size; done)) | ((with_reducible refine Below.setCell ?_ ?_ _); rotate_left; focus (go_size; done)) | ((with_reducible refine Below.trans ?_ (Below.mono (by with_reducible assumption) ?_)); rotate_left; focus (go_size; done))))⟩
    · skip
      obtain ⟨rfl, rfl⟩ := HZ.out rfl
      clear HZ HN K12 K13 K14
      go_wp2_with fail
      refine (K11.out _).mono ?_
      rintro _ w10 ⟨rfl, hb10⟩; have hb10s := hb10.size; (try simp only [World.size_alloc, World.size_setCell, World.size_drew, World.heap_drewN] at hb10s); obtain ⟨hb10c, hb10f⟩ := bcell hb10; (try have : w.heap.size < w10.heap.size := by omega); (try have : w.heap.size + 1 < w10.heap.size := by omega); (try have : w.heap.size + 1 + 1 < w10.heap.size := by omega); (try have : w.heap.size + 1 + 1 + 1 < w10.heap.size := by omega)
      have aq10 : Bk w10 (w.heap.size) 26 [.bool b, .int .u64 x1, .int .u64 x0, .int .i64 s] := by (repeat (first | (with_reducible assumption) | ((with_reducible refine Bk.new_ ?_); (first | rfl | (simp only [World.size_alloc, World.size_setCell, World.size_drew, World.heap_drewN]; done))) | (with_reducible refine Bk.alloc ?_ _) | (with_reducible refine Bk.drew ?_) | (with_reducible refine Bk.drewN ?_ _) | ((with_reducible refine Bk.far ?_ ?_ _); rotate_left; focus (simp only []; omega)) | ((with_reducible refine Bk.below ?_ (by with_reducible assumption) ?_); rotate_left; focus (go_size; done))))
      have aq10_0 := aq10.cell 0 rfl
      have aq10_1 := aq10.cell 1 rfl
      have aq10_2 := aq10.cell 2 rfl
      have aq10_3 := aq10.cell 3 rfl
      have aq10_4 := aq10.frozen 0
      have aq10_5 := aq10.frozen 1
      have aq10_6 := aq10.frozen 2
      have aq10_7 := aq10.frozen 3
      have aq10l := aq10.lt
      have cq10 : Bk w10 (w.heap.size + 1) 26 [.bool b', .int .u64 y1, .int .u64 y0, .int .i64 s'] := by (repeat (first | (with_reducible assumption) | ((with_reducible refine Bk.new_ ?_); (first | rfl | (simp only [World.size_alloc, World.size_setCell, World.size_drew, World.heap_drewN]; done))) | (with_reducible refine Bk.alloc ?_ _) | (with_reducible refine Bk.drew ?_) | (with_reducible refine Bk.drewN ?_ _) | ((with_reducible refine Bk.far ?_ ?_ _); rotate_left; focus (simp only []; omega)) | ((with_reducible refine Bk.below ?_ (by with_reducible assumption) ?_); rotate_left; focus (go_size; done))))
      have cq10_0 := cq10.cell 0 rfl
      have cq10_1 := cq10.cell 1 rfl
      have cq10_2 := cq10.cell 2 rfl
      have cq10_3 := cq10.cell 3 rfl
      have cq10_4 := cq10.frozen 0
      have cq10_5 := cq10.frozen 1
      have cq10_6 := cq10.frozen 2
      have cq10_7 := cq10.frozen 3
      have cq10l := cq10.lt
      clear hb10c hb10f
      go_wp2_with fail
      go_ret
      exact ⟨by first | rfl | simp_all, by (repeat' (first | (with_reducible exact Below.refl _ _) | (with_reducible assumption) | (with_reducible refine Below.drew ?_) | (with_reducible refine below_drewN ?_ _) | ((with_reducible refine Below.alloc ?_ ?_ _); rotate_left; focus (go_size; done)) | ((with_reducible refine Below.setCell ?_ ?_ _); rotate_left; focus (go_size; done)) | ((with_reducible refine Below.trans ?_ (Below.mono (by with_reducible assumption) ?_)); rotate_left; focus (go_size; done))))⟩
  · skip
    refine wp_region_held_drew (S := (fun w' => (w'.cell? ⟨w.heap.size, 0, none⟩ = some (.bool b) ∧ w'.cell? ⟨w.heap.size, 1, none⟩ = some (.int .u64 x1) ∧ w'.cell? ⟨w.heap.size, 2, none⟩ = some (.int .u64 x0) ∧ w'.cell? ⟨w.heap.size, 3, none⟩ = some (.int .i64 s)) ∧ w'.cell? ⟨gl, 3, none⟩ = some (.int .i64 0) ∧ w'.cell? ⟨gh, 3, none⟩ = some (.int .i64 0) ∧ (w'.cell? ⟨gm, 0, none⟩ = some (.bool b) ∧ w'.cell? ⟨gm, 1, none⟩ = some (.int .u64 x1) ∧ w'.cell? ⟨gm, 2, none⟩ = some (.int .u64 x0) ∧ w'.cell? ⟨gm, 3, none⟩ = some (.int .i64 s)) ∧ (w'.cell? ⟨gg, 0, none⟩ = some (.bool g0) ∧ w'.cell? ⟨gg, 1, none⟩ = some (.int .u64 g1) ∧ w'.cell? ⟨gg, 2, none⟩ = some (.int .u64 g2) ∧ w'.cell? ⟨gg, 3, none⟩ = some (.int .i64 g3)))) (by kernel_rfl) ?_ (fun hHeld => ?_)
    focus (first | (go_keep; done) | (simp [go_sem]; done) | ((try dsimp only); (repeat' apply And.intro) <;> (first | (with_reducible assumption) | ((rw [World.cell?_alloc_lt _ _ _ (by show _ < _; omega)]); go_split_ands; (first | with_reducible assumption | (refine (World.cell?_alloc_lt _ _ _ (by show _ < _; omega)).symm.trans ?_; with_reducible assumption))) | ((rw [World.cell?_setCell_other _ _ _ _ (by intro e; injection e; omega)]); with_reducible assumption) | (go_keep; done) | (simp [go_sem]; done) | (simp (disch := go_size) [*, World.cell?_alloc_some, World.cell?_setCell_far]; done))))
    refine take_lit (i := 0) (oi := ?_) (v := ?_) ?_ ?_ ?_ ?_ ?_ (Or.inl ⟨?_, ?_⟩) ?_ ?_
    rotate_left
    rotate_left
    focus (simp only [List.getElem?_toArray, List.getElem?_cons_succ, List.getElem?_cons_zero]; rfl)
    focus kernel_rfl
    focus kernel_rfl
    focus kernel_rfl
    focus (exact fun _ _ _ h => h)
    focus rfl
    focus ((intro w hSw; (try dsimp only at hSw); go_simp); first | done | with_reducible rfl)
    focus assumption
    (try simp only [Act.put, List.setIfInBounds_toArray, List.set_cons_zero, List.set_cons_succ])
    refine take_lit (i := 1) (oi := ?_) (v := ?_) ?_ ?_ ?_ ?_ ?_ (Or.inl ⟨?_, ?_⟩) ?_ ?_
    rotate_left
    rotate_left
    focus (simp only [List.getElem?_toArray, List.getElem?_cons_succ, List.getElem?_cons_zero]; rfl)
    focus kernel_rfl
    focus kernel_rfl
    focus kernel_rfl
    focus (exact fun _ _ _ h => h)
    focus rfl
    focus ((intro w hSw; (try dsimp only at hSw); go_simp); first | done | with_reducible rfl)
    focus assumption
    (try simp only [Act.put, List.setIfInBounds_toArray, List.set_cons_zero, List.set_cons_succ])
    refine take_lit (i := 2) (oi := ?_) (v := ?_) ?_ ?_ ?_ ?_ ?_ (Or.inl ⟨?_, ?_⟩) ?_ ?_
    rotate_left
    rotate_left
    focus (simp only [List.getElem?_toArray, List.getElem?_cons_succ, List.getElem?_cons_zero]; rfl)
    focus kernel_rfl
    focus kernel_rfl
    focus kernel_rfl
    focus (exact fun _ _ _ h => h)
    focus rfl
    focus ((intro w hSw; (try dsimp only at hSw); go_simp); first | done | with_reducible rfl)
    focus assumption
    (try simp only [Act.put, List.setIfInBounds_toArray, List.set_cons_zero, List.set_cons_succ])
    refine take_lit (i := 3) (oi := ?_) (v := ?_) ?_ ?_ ?_ ?_ ?_ (Or.inl ⟨?_, ?_⟩) ?_ ?_
    rotate_left
    rotate_left
    focus (simp only [List.getElem?_toArray, List.getElem?_cons_succ, List.getElem?_cons_zero]; rfl)
    focus kernel_rfl
    focus kernel_rfl
    focus kernel_rfl
    focus (exact fun _ _ _ h => h)
    focus rfl
    focus ((intro w hSw; (try dsimp only at hSw); go_simp); first | done | with_reducible rfl)
    focus assumption
    (try simp only [Act.put, List.setIfInBounds_toArray, List.set_cons_zero, List.set_cons_succ])
    refine take_lit (i := 4) (oi := ?_) (v := ?_) ?_ ?_ ?_ ?_ ?_ (Or.inl ⟨?_, ?_⟩) ?_ ?_
    rotate_left
    rotate_left
    focus (simp only [List.getElem?_toArray, List.getElem?_cons_succ, List.getElem?_cons_zero]; rfl)
    focus kernel_rfl
    focus kernel_rfl
    focus kernel_rfl
    focus (exact fun _ _ _ h => h)
    focus rfl
    focus ((intro w hSw; (try dsimp only at hSw); go_simp); first | done | with_reducible rfl)
    focus assumption
    (try simp only [Act.put, List.setIfInBounds_toArray, List.set_cons_zero, List.set_cons_succ])
    refine take_lit (i := 5) (oi := ?_) (v := ?_) ?_ ?_ ?_ ?_ ?_ (Or.inl ⟨?_, ?_⟩) ?_ ?_
    rotate_left
    rotate_left
    focus (simp only [List.getElem?_toArray, List.getElem?_cons_succ, List.getElem?_cons_zero]; rfl)
    focus kernel_rfl
    focus kernel_rfl
    focus kernel_rfl
    focus (exact fun _ _ _ h => h)
    focus rfl
    focus ((intro w hSw; (try dsimp only at hSw); go_simp); first | done | with_reducible rfl)
    focus assumption
    (try simp only [Act.put, List.setIfInBounds_toArray, List.set_cons_zero, List.set_cons_succ])
    refine take_lit (i := 6) (oi := ?_) (v := ?_) ?_ ?_ ?_ ?_ ?_ (Or.inl ⟨?_, ?_⟩) ?_ ?_
    rotate_left
    rotate_left
    focus (simp only [List.getElem?_toArray, List.getElem?_cons_succ, List.getElem?_cons_zero]; rfl)
    focus kernel_rfl
    focus kernel_rfl
    focus kernel_rfl
    focus (exact fun _ _ _ h => h)
    focus rfl
    focus ((intro w hSw; (try dsimp only at hSw); go_simp); first | done | with_reducible rfl)
    focus assumption
    (try simp only [Act.put, List.setIfInBounds_toArray, List.set_cons_zero, List.set_cons_succ])
    refine take_lit (i := 7) (oi := ?_) (v := ?_) ?_ ?_ ?_ ?_ ?_ (Or.inl ⟨?_, ?_⟩) ?_ ?_
    rotate_left
    rotate_left
    focus (simp only [List.getElem?_toArray, List.getElem?_cons_succ, List.getElem?_cons_zero]; rfl)
    focus kernel_rfl
    focus kernel_rfl
    focus kernel_rfl
    focus (exact fun _ _ _ h => h)
    focus rfl
    focus ((intro w hSw; (try dsimp only at hSw); go_simp); first | done | with_reducible rfl)
    focus assumption
    (try simp only [Act.put, List.setIfInBounds_toArray, List.set_cons_zero, List.set_cons_succ])
    refine take_lit (i := 8) (oi := ?_) (v := ?_) ?_ ?_ ?_ ?_ ?_ (Or.inl ⟨?_, ?_⟩) ?_ ?_
    rotate_left
    rotate_left
    focus (simp only [List.getElem?_toArray, List.getElem?_cons_succ, List.getElem?_cons_zero]; rfl)
    focus kernel_rfl
    focus kernel_rfl
    focus kernel_rfl
    focus (exact fun _ _ _ h => h)
    focus rfl
    focus ((intro w hSw; (try dsimp only at hSw); go_simp); first | done | with_reducible rfl)
    focus assumption
    (try simp only [Act.put, List.setIfInBounds_toArray, List.set_cons_zero, List.set_cons_succ])
    refine take_lit (i := 9) (oi := ?_) (v := ?_) ?_ ?_ ?_ ?_ ?_ (Or.inl ⟨?_, ?_⟩) ?_ ?_
    rotate_left
    rotate_left
    focus (simp only [List.getElem?_toArray, List.getElem?_cons_succ, List.getElem?_cons_zero]; rfl)
    focus kernel_rfl
    focus kernel_rfl
    focus kernel_rfl
    focus (exact fun _ _ _ h => h)
    focus rfl
    focus ((intro w hSw; (try dsimp only at hSw); go_simp); first | done | with_reducible rfl)
    focus assumption
    (try simp only [Act.put, List.setIfInBounds_toArray, List.set_cons_zero, List.set_cons_succ])
    refine take_lit (i := 10) (oi := ?_) (v := ?_) ?_ ?_ ?_ ?_ ?_ (Or.inl ⟨?_, ?_⟩) ?_ ?_
    rotate_left
    rotate_left
    focus (simp only [List.getElem?_toArray, List.getElem?_cons_succ, List.getElem?_cons_zero]; rfl)
    focus kernel_rfl
    focus kernel_rfl
    focus kernel_rfl
    focus (exact fun _ _ _ h => h)
    focus rfl
    focus ((intro w hSw; (try dsimp only at hSw); go_simp); first | done | with_reducible rfl)
    focus assumption
    (try simp only [Act.put, List.setIfInBounds_toArray, List.set_cons_zero, List.set_cons_succ])
    refine take_lit (i := 11) (oi := ?_) (v := ?_) ?_ ?_ ?_ ?_ ?_ (Or.inl ⟨?_, ?_⟩) ?_ ?_
    rotate_left
    rotate_left
    focus (simp only [List.getElem?_toArray, List.getElem?_cons_succ, List.getElem?_cons_zero]; rfl)
    focus kernel_rfl
    focus kernel_rfl
    focus kernel_rfl
    focus (exact fun _ _ _ h => h)
    focus rfl
    focus ((intro w hSw; (try dsimp only at hSw); go_simp); first | done | with_reducible rfl)
    focus assumption
    (try simp only [Act.put, List.setIfInBounds_toArray, List.set_cons_zero, List.set_cons_succ])
    refine take_lit (i := 12) (oi := ?_) (v := ?_) ?_ ?_ ?_ ?_ ?_ (Or.inl ⟨?_, ?_⟩) ?_ ?_
    rotate_left
    rotate_left
    focus (simp only [List.getElem?_toArray, List.getElem?_cons_succ, List.getElem?_cons_zero]; rfl)
    focus kernel_rfl
    focus kernel_rfl
    focus kernel_rfl
    focus (exact fun _ _ _ h => h)
    focus rfl
    focus ((intro w hSw; (try dsimp only at hSw); go_simp); first | done | with_reducible rfl)
    focus assumption
    (try simp only [Act.put, List.setIfInBounds_toArray, List.set_cons_zero, List.set_cons_succ])
    refine take_lit (i := 13) (oi := ?_) (v := ?_) ?_ ?_ ?_ ?_ ?_ (Or.inl ⟨?_, ?_⟩) ?_ ?_
    rotate_left
    rotate_left
    focus (simp only [List.getElem?_toArray, List.getElem?_cons_succ, List.getElem?_cons_zero]; rfl)
    focus kernel_rfl
    focus kernel_rfl
    focus kernel_rfl
    focus (exact fun _ _ _ h => h)
    focus rfl
    focus ((intro w hSw; (try dsimp only at hSw); go_simp); first | done | with_reducible rfl)
    focus assumption
    (try simp only [Act.put, List.setIfInBounds_toArray, List.set_cons_zero, List.set_cons_succ])
    refine take_lit (i := 14) (oi := ?_) (v := ?_) ?_ ?_ ?_ ?_ ?_ (Or.inl ⟨?_, ?_⟩) ?_ ?_
    rotate_left
    rotate_left
    focus (simp only [List.getElem?_toArray, List.getElem?_cons_succ, List.getElem?_cons_zero]; rfl)
    focus kernel_rfl
    focus kernel_rfl
    focus kernel_rfl
    focus (exact fun _ _ _ h => h)
    focus rfl
    focus ((intro w hSw; (try dsimp only at hSw); go_simp); first | done | with_reducible rfl)
    focus assumption
    (try simp only [Act.put, List.setIfInBounds_toArray, List.set_cons_zero, List.set_cons_succ])
    refine take_lit (i := 15) (oi := ?_) (v := ?_) ?_ ?_ ?_ ?_ ?_ (Or.inl ⟨?_, ?_⟩) ?_ ?_
    rotate_left
    rotate_left
    focus (simp only [List.getElem?_toArray, List.getElem?_cons_succ, List.getElem?_cons_zero]; rfl)
    focus kernel_rfl
    focus kernel_rfl
    focus kernel_rfl
    focus (exact fun _ _ _ h => h)
    focus rfl
    focus ((intro w hSw; (try dsimp only at hSw); go_simp); first | done | with_reducible rfl)
    focus assumption
    (try simp only [Act.put, List.setIfInBounds_toArray, List.set_cons_zero, List.set_cons_succ])
    refine take_lit (i := 16) (oi := ?_) (v := ?_) ?_ ?_ ?_ ?_ ?_ (Or.inl ⟨?_, ?_⟩) ?_ ?_
    rotate_left
    rotate_left
    focus (simp only [List.getElem?_toArray, List.getElem?_cons_succ, List.getElem?_cons_zero]; rfl)
    focus kernel_rfl
    focus kernel_rfl
    focus kernel_rfl
    focus (exact fun _ _ _ h => h)
    focus rfl
    focus ((intro w hSw; (try dsimp only at hSw); go_simp); first | done | with_reducible rfl)
    focus assumption
    (try simp only [Act.put, List.setIfInBounds_toArray, List.set_cons_zero, List.set_cons_succ])
    refine take_lit (i := 17) (oi := ?_) (v := ?_) ?_ ?_ ?_ ?_ ?_ (Or.inl ⟨?_, ?_⟩) ?_ ?_
    rotate_left
    rotate_left
    focus (simp only [List.getElem?_toArray, List.getElem?_cons_succ, List.getElem?_cons_zero]; rfl)
    focus kernel_rfl
    focus kernel_rfl
    focus kernel_rfl
    focus (exact fun _ _ _ h => h)
    focus rfl
    focus ((intro w hSw; (try dsimp only at hSw); go_simp); first | done | with_reducible rfl)
    focus assumption
    (try simp only [Act.put, List.setIfInBounds_toArray, List.set_cons_zero, List.set_cons_succ])
    refine take_lit (i := 18) (oi := ?_) (v := ?_) ?_ ?_ ?_ ?_ ?_ (Or.inl ⟨?_, ?_⟩) ?_ ?_
    rotate_left
    rotate_left
    focus (simp only [List.getElem?_toArray, List.getElem?_cons_succ, List.getElem?_cons_zero]; rfl)
    focus kernel_rfl
    focus kernel_rfl
    focus kernel_rfl
    focus (exact fun _ _ _ h => h)
    focus rfl
    focus ((intro w hSw; (try dsimp only at hSw); go_simp); first | done | with_reducible rfl)
    focus assumption
    (try simp only [Act.put, List.setIfInBounds_toArray, List.set_cons_zero, List.set_cons_succ])
    refine take_lit (i := 19) (oi := ?_) (v := ?_) ?_ ?_ ?_ ?_ ?_ (Or.inl ⟨?_, ?_⟩) ?_ ?_
    rotate_left
    rotate_left
    focus (simp only [List.getElem?_toArray, List.getElem?_cons_succ, List.getElem?_cons_zero]; rfl)
    focus kernel_rfl
    focus kernel_rfl
    focus kernel_rfl
    focus (exact fun _ _ _ h => h)
    focus rfl
    focus ((intro w hSw; (try dsimp only at hSw); go_simp); first | done | with_reducible rfl)
    focus assumption
    (try simp only [Act.put, List.setIfInBounds_toArray, List.set_cons_zero, List.set_cons_succ])
    refine take_lit (i := 20) (oi := ?_) (v := ?_) ?_ ?_ ?_ ?_ ?_ (Or.inl ⟨?_, ?_⟩) ?_ ?_
    rotate_left
    rotate_left
    focus (simp only [List.getElem?_toArray, List.getElem?_cons_succ, List.getElem?_cons_zero]; rfl)
    focus kernel_rfl
    focus kernel_rfl
    focus kernel_rfl
    focus (exact fun _ _ _ h => h)
    focus rfl
    focus ((intro w hSw; (try dsimp only at hSw); go_simp); first | done | with_reducible rfl)
    focus assumption
    (try simp only [Act.put, List.setIfInBounds_toArray, List.set_cons_zero, List.set_cons_succ])
    refine take_lit (i := 21) (oi := ?_) (v := ?_) ?_ ?_ ?_ ?_ ?_ (Or.inl ⟨?_, ?_⟩) ?_ ?_
    rotate_left
    rotate_left
    focus (simp only [List.getElem?_toArray, List.getElem?_cons_succ, List.getElem?_cons_zero]; rfl)
    focus kernel_rfl
    focus kernel_rfl
    focus kernel_rfl
    focus (exact fun _ _ _ h => h)
    focus rfl
    focus ((intro w hSw; (try dsimp only at hSw); go_simp); first | done | with_reducible rfl)
    focus assumption
    (try simp only [Act.put, List.setIfInBounds_toArray, List.set_cons_zero, List.set_cons_succ])
    refine take_lit (i := 22) (oi := ?_) (v := ?_) ?_ ?_ ?_ ?_ ?_ (Or.inl ⟨?_, ?_⟩) ?_ ?_
    rotate_left
    rotate_left
    focus (simp only [List.getElem?_toArray, List.getElem?_cons_succ, List.getElem?_cons_zero]; rfl)
    focus kernel_rfl
    focus kernel_rfl
    focus kernel_rfl
    focus (exact fun _ _ _ h => h)
    focus rfl
    focus ((intro w hSw; (try dsimp only at hSw); go_simp); first | done | with_reducible rfl)
    focus assumption
    (try simp only [Act.put, List.setIfInBounds_toArray, List.set_cons_zero, List.set_cons_succ])
    refine take_lit (i := 23) (oi := ?_) (v := ?_) ?_ ?_ ?_ ?_ ?_ (Or.inl ⟨?_, ?_⟩) ?_ ?_
    rotate_left
    rotate_left
    focus (simp only [List.getElem?_toArray, List.getElem?_cons_succ, List.getElem?_cons_zero]; rfl)
    focus kernel_rfl
    focus kernel_rfl
    focus kernel_rfl
    focus (exact fun _ _ _ h => h)
    focus rfl
    focus ((intro w hSw; (try dsimp only at hSw); go_simp); first | done | with_reducible rfl)
    focus assumption
    (try simp only [Act.put, List.setIfInBounds_toArray, List.set_cons_zero, List.set_cons_succ])
    refine take_lit (i := 24) (oi := ?_) (v := ?_) ?_ ?_ ?_ ?_ ?_ (Or.inl ⟨?_, ?_⟩) ?_ ?_
    rotate_left
    rotate_left
    focus (simp only [List.getElem?_toArray, List.getElem?_cons_succ, List.getElem?_cons_zero]; rfl)
    focus kernel_rfl
    focus kernel_rfl
    focus kernel_rfl
    focus (exact fun _ _ _ h => h)
    focus rfl
    focus ((intro w hSw; (try dsimp only at hSw); go_simp); first | done | with_reducible rfl)
    focus assumption
    (try simp only [Act.put, List.setIfInBounds_toArray, List.set_cons_zero, List.set_cons_succ])
    refine take_lit (i := 25) (oi := ?_) (v := ?_) ?_ ?_ ?_ ?_ ?_ (Or.inl ⟨?_, ?_⟩) ?_ ?_
    rotate_left
    rotate_left
    focus (simp only [List.getElem?_toArray, List.getElem?_cons_succ, List.getElem?_cons_zero]; rfl)
    focus kernel_rfl
    focus kernel_rfl
    focus kernel_rfl
    focus (exact fun _ _ _ h => h)
    focus rfl
    focus ((intro w hSw; (try dsimp only at hSw); go_simp); first | done | with_reducible rfl)
    focus assumption
    (try simp only [Act.put, List.setIfInBounds_toArray, List.set_cons_zero, List.set_cons_succ])
    refine take_lit (i := 26) (oi := ?_) (v := ?_) ?_ ?_ ?_ ?_ ?_ (Or.inl ⟨?_, ?_⟩) ?_ ?_
    rotate_left
    rotate_left
    focus (simp only [List.getElem?_toArray, List.getElem?_cons_succ, List.getElem?_cons_zero]; rfl)
    focus kernel_rfl
    focus kernel_rfl
    focus kernel_rfl
    focus (exact fun _ _ _ h => h)
    focus rfl
    focus ((intro w hSw; (try dsimp only at hSw); go_simp); first | done | with_reducible rfl)
    focus assumption
    (try simp only [Act.put, List.setIfInBounds_toArray, List.set_cons_zero, List.set_cons_succ])
    refine take_lit (i := 27) (oi := ?_) (v := ?_) ?_ ?_ ?_ ?_ ?_ (Or.inl ⟨?_, ?_⟩) ?_ ?_
    rotate_left
    rotate_left
    focus (simp only [List.getElem?_toArray, List.getElem?_cons_succ, List.getElem?_cons_zero]; rfl)
    focus kernel_rfl
    focus kernel_rfl
    focus kernel_rfl
    focus (exact fun _ _ _ h => h)
    focus rfl
    focus ((intro w hSw; (try dsimp only at hSw); go_simp); first | done | with_reducible rfl)
    focus assumption
    (try simp only [Act.put, List.setIfInBounds_toArray, List.set_cons_zero, List.set_cons_succ])
    refine take_lit (i := 28) (oi := ?_) (v := ?_) ?_ ?_ ?_ ?_ ?_ (Or.inl ⟨?_, ?_⟩) ?_ ?_
    rotate_left
    rotate_left
    focus (simp only [List.getElem?_toArray, List.getElem?_cons_succ, List.getElem?_cons_zero]; rfl)
    focus kernel_rfl
    focus kernel_rfl
    focus kernel_rfl
    focus (exact fun _ _ _ h => h)
    focus rfl
    focus ((intro w hSw; (try dsimp only at hSw); go_simp); first | done | with_reducible rfl)
    focus assumption
    (try simp only [Act.put, List.setIfInBounds_toArray, List.set_cons_zero, List.set_cons_succ])
    refine take_lit (i := 29) (oi := ?_) (v := ?_) ?_ ?_ ?_ ?_ ?_ (Or.inl ⟨?_, ?_⟩) ?_ ?_
    rotate_left
    rotate_left
    focus (simp only [List.getElem?_toArray, List.getElem?_cons_succ, List.getElem?_cons_zero]; rfl)
    focus kernel_rfl
    focus kernel_rfl
    focus kernel_rfl
    focus (exact fun _ _ _ h => h)
    focus rfl
    focus ((intro w hSw; (try dsimp only at hSw); go_simp); first | done | with_reducible rfl)
    focus assumption
    (try simp only [Act.put, List.setIfInBounds_toArray, List.set_cons_zero, List.set_cons_succ])
    refine take_lit (i := 30) (oi := ?_) (v := ?_) ?_ ?_ ?_ ?_ ?_ (Or.inl ⟨?_, ?_⟩) ?_ ?_
    rotate_left
    rotate_left
    focus (simp only [List.getElem?_toArray, List.getElem?_cons_succ, List.getElem?_cons_zero]; rfl)
    focus kernel_rfl
    focus kernel_rfl
    focus kernel_rfl
    focus (exact fun _ _ _ h => h)
    focus rfl
    focus ((intro w hSw; (try dsimp only at hSw); go_simp); first | done | with_reducible rfl)
    focus assumption
    (try simp only [Act.put, List.setIfInBounds_toArray, List.set_cons_zero, List.set_cons_succ])
    refine take_lit (i := 31) (oi := ?_) (v := ?_) ?_ ?_ ?_ ?_ ?_ (Or.inl ⟨?_, ?_⟩) ?_ ?_
    rotate_left
    rotate_left
    focus (simp only [List.getElem?_toArray, List.getElem?_cons_succ, List.getElem?_cons_zero]; rfl)
    focus kernel_rfl
    focus kernel_rfl
    focus kernel_rfl
    focus (exact fun _ _ _ h => h)
    focus rfl
    focus ((intro w hSw; (try dsimp only at hSw); go_simp); first | done | with_reducible rfl)
    focus assumption
    (try simp only [Act.put, List.setIfInBounds_toArray, List.set_cons_zero, List.set_cons_succ])
    refine take_lit (i := 32) (oi := ?_) (v := ?_) ?_ ?_ ?_ ?_ ?_ (Or.inl ⟨?_, ?_⟩) ?_ ?_
    rotate_left
    rotate_left
    focus (simp only [List.getElem?_toArray, List.getElem?_cons_succ, List.getElem?_cons_zero]; rfl)
    focus kernel_rfl
    focus kernel_rfl
    focus kernel_rfl
    focus (exact fun _ _ _ h => h)
    focus rfl
    focus ((intro w hSw; (try dsimp only at hSw); go_simp); first | done | with_reducible rfl)
    focus assumption
    (try simp only [Act.put, List.setIfInBounds_toArray, List.set_cons_zero, List.set_cons_succ])
    refine take_lit (i := 33) (oi := ?_) (v := ?_) ?_ ?_ ?_ ?_ ?_ (Or.inl ⟨?_, ?_⟩) ?_ ?_
    rotate_left
    rotate_left
    focus (simp only [List.getElem?_toArray, List.getElem?_cons_succ, List.getElem?_cons_zero]; rfl)
    focus kernel_rfl
    focus kernel_rfl
    focus kernel_rfl
    focus (exact fun _ _ _ h => h)
    focus rfl
    focus ((intro w hSw; (try dsimp only at hSw); go_simp); first | done | with_reducible rfl)
    focus assumption
    (try simp only [Act.put, List.setIfInBounds_toArray, List.set_cons_zero, List.set_cons_succ])
    refine take_lit (i := 34) (oi := ?_) (v := ?_) ?_ ?_ ?_ ?_ ?_ (Or.inl ⟨?_, ?_⟩) ?_ ?_
    rotate_left
    rotate_left
    focus (simp only [List.getElem?_toArray, List.getElem?_cons_succ, List.getElem?_cons_zero]; rfl)
    focus kernel_rfl
    focus kernel_rfl
    focus kernel_rfl
    focus (exact fun _ _ _ h => h)
    focus rfl
    focus ((intro w hSw; (try dsimp only at hSw); go_simp); first | done | with_reducible rfl)
    focus assumption
    (try simp only [Act.put, List.setIfInBounds_toArray, List.set_cons_zero, List.set_cons_succ])
    refine take_lit (i := 35) (oi := ?_) (v := ?_) ?_ ?_ ?_ ?_ ?_ (Or.inl ⟨?_, ?_⟩) ?_ ?_
    rotate_left
    rotate_left
    focus (simp only [List.getElem?_toArray, List.getElem?_cons_succ, List.getElem?_cons_zero]; rfl)
    focus kernel_rfl
    focus kernel_rfl
    focus kernel_rfl
    focus (exact fun _ _ _ h => h)
    focus rfl
    focus ((intro w hSw; (try dsimp only at hSw); go_simp); first | done | with_reducible rfl)
    focus assumption
    (try simp only [Act.put, List.setIfInBounds_toArray, List.set_cons_zero, List.set_cons_succ])
    refine take_lit (i := 36) (oi := ?_) (v := ?_) ?_ ?_ ?_ ?_ ?_ (Or.inl ⟨?_, ?_⟩) ?_ ?_
    rotate_left
    rotate_left
    focus (simp only [List.getElem?_toArray, List.getElem?_cons_succ, List.getElem?_cons_zero]; rfl)
    focus kernel_rfl
    focus kernel_rfl
    focus kernel_rfl
    focus (exact fun _ _ _ h => h)
    focus rfl
    focus ((intro w hSw; (try dsimp only at hSw); go_simp); first | done | with_reducible rfl)
    focus assumption
    (try simp only [Act.put, List.setIfInBounds_toArray, List.set_cons_zero, List.set_cons_succ])
    refine take_lit (i := 37) (oi := ?_) (v := ?_) ?_ ?_ ?_ ?_ ?_ (Or.inl ⟨?_, ?_⟩) ?_ ?_
    rotate_left
    rotate_left
    focus (simp only [List.getElem?_toArray, List.getElem?_cons_succ, List.getElem?_cons_zero]; rfl)
    focus kernel_rfl
    focus kernel_rfl
    focus kernel_rfl
    focus (exact fun _ _ _ h => h)
    focus rfl
    focus ((intro w hSw; (try dsimp only at hSw); go_simp); first | done | with_reducible rfl)
    focus assumption
    (try simp only [Act.put, List.setIfInBounds_toArray, List.set_cons_zero, List.set_cons_succ])
    refine take_lit (i := 38) (oi := ?_) (v := ?_) ?_ ?_ ?_ ?_ ?_ (Or.inl ⟨?_, ?_⟩) ?_ ?_
    rotate_left
    rotate_left
    focus (simp only [List.getElem?_toArray, List.getElem?_cons_succ, List.getElem?_cons_zero]; rfl)
    focus kernel_rfl
    focus kernel_rfl
    focus kernel_rfl
    focus (exact fun _ _ _ h => h)
    focus rfl
    focus ((intro w hSw; (try dsimp only at hSw); go_simp); first | done | with_reducible rfl)
    focus assumption
    (try simp only [Act.put, List.setIfInBounds_toArray, List.set_cons_zero, List.set_cons_succ])
    refine take_lit (i := 39) (oi := ?_) (v := ?_) ?_ ?_ ?_ ?_ ?_ (Or.inl ⟨?_, ?_⟩) ?_ ?_
    rotate_left
    rotate_left
    focus (simp only [List.getElem?_toArray, List.getElem?_cons_succ, List.getElem?_cons_zero]; rfl)
    focus kernel_rfl
    focus kernel_rfl
    focus kernel_rfl
    focus (exact fun _ _ _ h => h)
    focus rfl
    focus ((intro w hSw; (try dsimp only at hSw); go_simp); first | done | with_reducible rfl)
    focus assumption
    (try simp only [Act.put, List.setIfInBounds_toArray, List.set_cons_zero, List.set_cons_succ])
    refine take_lit (i := 40) (oi := ?_) (v := ?_) ?_ ?_ ?_ ?_ ?_ (Or.inl ⟨?_, ?_⟩) ?_ ?_
    rotate_left
    rotate_left
    focus (simp only [List.getElem?_toArray, List.getElem?_cons_succ, List.getElem?_cons_zero]; rfl)
    focus kernel_rfl
    focus kernel_rfl
    focus kernel_rfl
    focus (exact fun _ _ _ h => h)
    focus rfl
    focus ((intro w hSw; (try dsimp only at hSw); go_simp); first | done | with_reducible rfl)
    focus assumption
    (try simp only [Act.put, List.setIfInBounds_toArray, List.set_cons_zero, List.set_cons_succ])
    refine take_lit (i := 41) (oi := ?_) (v := ?_) ?_ ?_ ?_ ?_ ?_ (Or.inl ⟨?_, ?_⟩) ?_ ?_
    rotate_left
    rotate_left
    focus (simp only [List.getElem?_toArray, List.getElem?_cons_succ, List.getElem?_cons_zero]; rfl)
    focus kernel_rfl
    focus kernel_rfl
    focus kernel_rfl
    focus (exact fun _ _ _ h => h)
    focus rfl
    focus ((intro w hSw; (try dsimp only at hSw); go_simp); first | done | with_reducible rfl)
    focus assumption
    (try simp only [Act.put, List.setIfInBounds_toArray, List.set_cons_zero, List.set_cons_succ])
    refine take_lit (i := 42) (oi := ?_) (v := ?_) ?_ ?_ ?_ ?_ ?_ (Or.inl ⟨?_, ?_⟩) ?_ ?_
    rotate_left
    rotate_left
    focus (simp only [List.getElem?_toArray, List.getElem?_cons_succ, List.getElem?_cons_zero]; rfl)
    focus kernel_rfl
    focus kernel_rfl
    focus kernel_rfl
    focus (exact fun _ _ _ h => h)
    focus rfl
    focus ((intro w hSw; (try dsimp only at hSw); go_simp); first | done | with_reducible rfl)
    focus assumption
    (try simp only [Act.put, List.setIfInBounds_toArray, List.set_cons_zero, List.set_cons_succ])
    refine take_lit (i := 43) (oi := ?_) (v := ?_) ?_ ?_ ?_ ?_ ?_ (Or.inl ⟨?_, ?_⟩) ?_ ?_
    rotate_left
    rotate_left
    focus (simp only [List.getElem?_toArray, List.getElem?_cons_succ, List.getElem?_cons_zero]; rfl)
    focus kernel_rfl
    focus kernel_rfl
    focus kernel_rfl
    focus (exact fun _ _ _ h => h)
    focus rfl
    focus ((intro w hSw; (try dsimp only at hSw); go_simp); first | done | with_reducible rfl)
    focus assumption
    (try simp only [Act.put, List.setIfInBounds_toArray, List.set_cons_zero, List.set_cons_succ])
    refine take_lit (i := 44) (oi := ?_) (v := ?_) ?_ ?_ ?_ ?_ ?_ (Or.inl ⟨?_, ?_⟩) ?_ ?_
    rotate_left
    rotate_left
    focus (simp only [List.getElem?_toArray, List.getElem?_cons_succ, List.getElem?_cons_zero]; rfl)
    focus kernel_rfl
    focus kernel_rfl
    focus kernel_rfl
    focus (exact fun _ _ _ h => h)
    focus rfl
    focus ((intro w hSw; (try dsimp only at hSw); go_simp); first | done | with_reducible rfl)
    focus assumption
    (try simp only [Act.put, List.setIfInBounds_toArray, List.set_cons_zero, List.set_cons_succ])
    refine take_lit (i := 45) (oi := ?_) (v := ?_) ?_ ?_ ?_ ?_ ?_ (Or.inl ⟨?_, ?_⟩) ?_ ?_
    rotate_left
    rotate_left
    focus (simp only [List.getElem?_toArray, List.getElem?_cons_succ, List.getElem?_cons_zero]; rfl)
    focus kernel_rfl
    focus kernel_rfl
    focus kernel_rfl
    focus (exact fun _ _ _ h => h)
    focus rfl
    focus ((intro w hSw; (try dsimp only at hSw); go_simp); first | done | with_reducible rfl)
    focus assumption
    (try simp only [Act.put, List.setIfInBounds_toArray, List.set_cons_zero, List.set_cons_succ])
    refine take_lit (i := 46) (oi := ?_) (v := ?_) ?_ ?_ ?_ ?_ ?_ (Or.inl ⟨?_, ?_⟩) ?_ ?_
    rotate_left
    rotate_left
    focus (simp only [List.getElem?_toArray, List.getElem?_cons_succ, List.getElem?_cons_zero]; rfl)
    focus kernel_rfl
    focus kernel_rfl
    focus kernel_rfl
    focus (exact fun _ _ _ h => h)
    focus rfl
    focus ((intro w hSw; (try dsimp only at hSw); go_simp); first | done | with_reducible rfl)
    focus assumption
    (try simp only [Act.put, List.setIfInBounds_toArray, List.set_cons_zero, List.set_cons_succ])
    refine wpAnyH_ready (rs := [47]) (by kernel_rfl) (by simp) ?_
    refine AllReadyH.cons (o := _) rfl (fun K hK => ?_) AllReadyH.nil
    go_simp
    (go_at_call 17; (with_reducible refine (K9.out _).mono ?_); rintro _ w20 ⟨rfl, hb20⟩; have hb20s := hb20.size; (try simp only [World.size_alloc, World.size_setCell, World.size_drew, World.heap_drewN] at hb20s); obtain ⟨hb20c, hb20f⟩ := bcell hb20; (try have : w.heap.size < w20.heap.size := by omega); (try have : w.heap.size + 1 < w20.heap.size := by omega); (try have : w.heap.size + 1 + 1 < w20.heap.size := by omega); (try have : w.heap.size + 1 + 1 + 1 < w20.heap.size := by omega); (try have : w.heap.size < w20.heap.size := by omega); (try have : w.heap.size + 1 < w20.heap.size := by omega); (try have : gl < w20.heap.size := by omega); (try have : gh < w20.heap.size := by omega); (try have : gm < w20.heap.size := by omega); (try have : gg < w20.heap.size := by omega))
    refine hK.out _ _ ?_ (fun hHeld => ?_)
    focus (first | (go_keep; done) | (simp [go_sem]; done) | ((try dsimp only); (repeat' apply And.intro) <;> (first | (with_reducible assumption) | ((rw [World.cell?_alloc_lt _ _ _ (by show _ < _; omega)]); go_split_ands; (first | with_reducible assumption | (refine (World.cell?_alloc_lt _ _ _ (by show _ < _; omega)).symm.trans ?_; with_reducible assumption))) | ((rw [World.cell?_setCell_other _ _ _ _ (by intro e; injection e; omega)]); with_reducible assumption) | (go_keep; done) | (simp [go_sem]; done) | (simp (disch := go_size) [*, World.cell?_alloc_some, World.cell?_setCell_far]; done))))
    clear hK K
    (try simp only [Act.put, List.setIfInBounds_toArray, List.set_cons_zero, List.set_cons_succ])
    refine take_lit (i := 48) (oi := ?_) (v := ?_) ?_ ?_ ?_ ?_ ?_ (Or.inl ⟨?_, ?_⟩) ?_ ?_
    rotate_left
    rotate_left
    focus (simp only [List.getElem?_toArray, List.getElem?_cons_succ, List.getElem?_cons_zero]; rfl)
    focus kernel_rfl
    focus kernel_rfl
    focus kernel_rfl
    focus (exact fun _ _ _ h => h)
    focus rfl
    focus ((intro w hSw; (try dsimp only at hSw); go_simp); first | done | with_reducible rfl)
    focus assumption
    (try simp only [Act.put, List.setIfInBounds_toArray, List.set_cons_zero, List.set_cons_succ])
    refine take_lit (i := 49) (oi := ?_) (v := ?_) ?_ ?_ ?_ ?_ ?_ (Or.inl ⟨?_, ?_⟩) ?_ ?_
    rotate_left
    rotate_left
    focus (simp only [List.getElem?_toArray, List.getElem?_cons_succ, List.getElem?_cons_zero]; rfl)
    focus kernel_rfl
    focus kernel_rfl
    focus kernel_rfl
    focus (exact fun _ _ _ h => h)
    focus rfl
    focus ((intro w hSw; (try dsimp only at hSw); go_simp); first | done | with_reducible rfl)
    focus assumption
    (try simp only [Act.put, List.setIfInBounds_toArray, List.set_cons_zero, List.set_cons_succ])
    refine take_lit (i := 50) (oi := ?_) (v := ?_) ?_ ?_ ?_ ?_ ?_ (Or.inl ⟨?_, ?_⟩) ?_ ?_
    rotate_left
    rotate_left
    focus (simp only [List.getElem?_toArray, List.getElem?_cons_succ, List.getElem?_cons_zero]; rfl)
    focus kernel_rfl
    focus kernel_rfl
    focus kernel_rfl
    focus (exact fun _ _ _ h => h)
    focus rfl
    focus ((intro w hSw; (try dsimp only at hSw); go_simp); first | done | with_reducible rfl)
    focus assumption
    (try simp only [Act.put, List.setIfInBounds_toArray, List.set_cons_zero, List.set_cons_succ])
    refine wpAnyH_ready (rs := [51]) (by kernel_rfl) (by simp) ?_
    refine AllReadyH.cons (o := _) rfl (fun K hK => ?_) AllReadyH.nil
    go_simp
    (go_at_call 17; (with_reducible refine (K10.out _).mono ?_); rintro _ w21 ⟨rfl, hb21⟩; have hb21s := hb21.size; (try simp only [World.size_alloc, World.size_setCell, World.size_drew, World.heap_drewN] at hb21s); obtain ⟨hb21c, hb21f⟩ := bcell hb21; (try have : w.heap.size < w21.heap.size := by omega); (try have : w.heap.size + 1 < w21.heap.size := by omega); (try have : w.heap.size + 1 + 1 < w21.heap.size := by omega); (try have : w.heap.size + 1 + 1 + 1 < w21.heap.size := by omega); (try have : w.heap.size < w21.heap.size := by omega); (try have : w.heap.size + 1 < w21.heap.size := by omega); (try have : gl < w21.heap.size := by omega); (try have : gh < w21.heap.size := by omega); (try have : gm < w21.heap.size := by omega); (try have : gg < w21.heap.size := by omega))
    refine hK.out _ _ ?_ (fun hHeld => ?_)
    focus (first | (go_keep; done) | (simp [go_sem]; done) | ((try dsimp only); (repeat' apply And.intro) <;> (first | (with_reducible assumption) | ((rw [World.cell?_alloc_lt _ _ _ (by show _ < _; omega)]); go_split_ands; (first | with_reducible assumption | (refine (World.cell?_alloc_lt _ _ _ (by show _ < _; omega)).symm.trans ?_; with_reducible assumption))) | ((rw [World.cell?_setCell_other _ _ _ _ (by intro e; injection e; omega)]); with_reducible assumption) | (go_keep; done) | (simp [go_sem]; done) | (simp (disch := go_size) [*, World.cell?_alloc_some, World.cell?_setCell_far]; done))))
    clear hK K
    (try simp only [Act.put, List.setIfInBounds_toArray, List.set_cons_zero, List.set_cons_succ])
    refine take_lit (i := 52) (oi := ?_) (v := ?_) ?_ ?_ ?_ ?_ ?_ (Or.inl ⟨?_, ?_⟩) ?_ ?_
    rotate_left
    rotate_left
    focus (simp only [List.getElem?_toArray, List.getElem?_cons_succ, List.getElem?_cons_zero]; rfl)
    focus kernel_rfl
    focus kernel_rfl
    focus kernel_rfl
    focus (exact fun _ _ _ h => h)
    focus rfl
    focus ((intro w hSw; (try dsimp only at hSw); go_simp); first | done | with_reducible rfl)
    focus assumption
    (try simp only [Act.put, List.setIfInBounds_toArray, List.set_cons_zero, List.set_cons_succ])
    refine take_lit (i := 53) (oi := ?_) (v := ?_) ?_ ?_ ?_ ?_ ?_ (Or.inl ⟨?_, ?_⟩) ?_ ?_
    rotate_left
    rotate_left
    focus (simp only [List.getElem?_toArray, List.getElem?_cons_succ, List.getElem?_cons_zero]; rfl)
    focus kernel_rfl
    focus kernel_rfl
    focus kernel_rfl
    focus (exact fun _ _ _ h => h)
    focus rfl
    focus ((intro w hSw; (try dsimp only at hSw); go_simp); first | done | with_reducible rfl)
    focus assumption
    (try simp only [Act.put, List.setIfInBounds_toArray, List.set_cons_zero, List.set_cons_succ])
    refine take_lit (i := 54) (oi := ?_) (v := ?_) ?_ ?_ ?_ ?_ ?_ (Or.inl ⟨?_, ?_⟩) ?_ ?_
    rotate_left
    rotate_left
    focus (simp only [List.getElem?_toArray, List.getElem?_cons_succ, List.getElem?_cons_zero]; rfl)
    focus kernel_rfl
    focus kernel_rfl
    focus kernel_rfl
    focus (exact fun _ _ _ h => h)
    focus rfl
    focus ((intro w hSw; (try dsimp only at hSw); go_simp); first | done | with_reducible rfl)
    focus assumption
    (try simp only [Act.put, List.setIfInBounds_toArray, List.set_cons_zero, List.set_cons_succ])
    refine wpAnyH_done (by kernel_rfl) ?_ _
    obtain ⟨ka, kc, km, kg, kl, kh⟩ := HA.out
    refine wp_named (fun W => Bk W w.heap.size 26 [.bool b, .int .u64 x1, .int .u64 x0, .int .i64 s] ∧ Bk W (w.heap.size + 1) 26 [.bool b', .int .u64 y1, .int .u64 y0, .int .i64 s'] ∧ Below w.heap.size w W) ⟨?_, ?_, ?_⟩ ?_
    focus ((repeat (first | (with_reducible assumption) | ((with_reducible refine Bk.new_ ?_); (first | rfl | (simp only [World.size_alloc, World.size_setCell, World.size_drew, World.heap_drewN]; done))) | (with_reducible refine Bk.alloc ?_ _) | (with_reducible refine Bk.drew ?_) | (with_reducible refine Bk.drewN ?_ _) | ((with_reducible refine Bk.far ?_ ?_ _); rotate_left; focus (simp only []; omega)) | ((with_reducible refine Bk.below ?_ (by with_reducible assumption) ?_); rotate_left; focus (go_size; done)))); done)
    focus ((repeat (first | (with_reducible assumption) | ((with_reducible refine Bk.new_ ?_); (first | rfl | (simp only [World.size_alloc, World.size_setCell, World.size_drew, World.heap_drewN]; done))) | (with_reducible refine Bk.alloc ?_ _) | (with_reducible refine Bk.drew ?_) | (with_reducible refine Bk.drewN ?_ _) | ((with_reducible refine Bk.far ?_ ?_ _); rotate_left; focus (simp only []; omega)) | ((with_reducible refine Bk.below ?_ (by with_reducible assumption) ?_); rotate_left; focus (go_size; done)))); done)
    focus ((repeat' (first | (with_reducible exact Below.refl _ _) | (with_reducible assumption) | (with_reducible refine Below.drew ?_) | (with_reducible refine below_drewN ?_ _) | ((with_reducible refine Below.alloc ?_ ?_ _); rotate_left; focus (go_size; done)) | ((with_reducible refine Below.setCell ?_ ?_ _); rotate_left; focus (go_size; done)) | ((with_reducible refine Below.trans ?_ (Below.mono (by with_reducible assumption) ?_)); rotate_left; focus (go_size; done)))); done)
    clear hHeld HA km kg kl kh ka kc kw ca0 ca1 ca2 ca3 cm0 cm1 cm2 cm3 cg0 cg1 cg2 cg3 cl3 ch3 c0 c1
    try clear hb20 hb20c hb20f hb20s
    try clear hb21 hb21c hb21f hb21s
    rintro V ⟨ka, kc, kw⟩
    have kal := ka.lt
    have kcl := kc.lt
    have ka_0 := ka.cell 0 rfl
    have ka_1 := ka.cell 1 rfl
    have ka_2 := ka.cell 2 rfl
    have ka_3 := ka.cell 3 rfl
    have ka_4 := ka.frozen 0
    have ka_5 := ka.frozen 1
    have ka_6 := ka.frozen 2
    have ka_7 := ka.frozen 3
    have kal := ka.lt
    have kc_0 := kc.cell 0 rfl
    have kc_1 := kc.cell 1 rfl
    have kc_2 := kc.cell 2 rfl
    have kc_3 := kc.cell 3 rfl
    have kc_4 := kc.frozen 0
    have kc_5 := kc.frozen 1
    have kc_6 := kc.frozen 2
    have kc_7 := kc.frozen 3
    have kcl := kc.lt
    have c2 := C2.out
    have c3 := C3.out
    clear C2 C3
    cases z
    · skip
      obtain ⟨rfl, hrz⟩ := HN.out rfl
      have HRZ := Lib.hid hrz
      have L12 := Lib.hid (K12.out rfl)
      have L13 := Lib.hid (K13.out rfl)
      have L14 := Lib.hid (K14.out rfl)
      clear hrz HZ HN K12 K13 K14
      go_wp2_with fail
      refine (K11.out _).mono ?_
      rintro _ w11 ⟨rfl, hb11⟩; have hb11s := hb11.size; (try simp only [World.size_alloc, World.size_setCell, World.size_drew, World.heap_drewN] at hb11s); obtain ⟨hb11c, hb11f⟩ := bcell hb11; (try have : w.heap.size < w11.heap.size := by omega); (try have : w.heap.size + 1 < w11.heap.size := by omega); (try have : w.heap.size + 1 + 1 < w11.heap.size := by omega); (try have : w.heap.size + 1 + 1 + 1 < w11.heap.size := by omega)
      have aq11 : Bk w11 (w.heap.size) 26 [.bool b, .int .u64 x1, .int .u64 x0, .int .i64 s] := by (repeat (first | (with_reducible assumption) | ((with_reducible refine Bk.new_ ?_); (first | rfl | (simp only [World.size_alloc, World.size_setCell, World.size_drew, World.heap_drewN]; done))) | (with_reducible refine Bk.alloc ?_ _) | (with_reducible refine Bk.drew ?_) | (with_reducible refine Bk.drewN ?_ _) | ((with_reducible refine Bk.far ?_ ?_ _); rotate_left; focus (simp only []; omega)) | ((with_reducible refine Bk.below ?_ (by with_reducible assumption) ?_); rotate_left; focus (go_size; done))))
      have aq11_0 := aq11.cell 0 rfl
      have aq11_1 := aq11.cell 1 rfl
      have aq11_2 := aq11.cell 2 rfl
      have aq11_3 := aq11.cell 3 rfl
      have aq11_4 := aq11.frozen 0
      have aq11_5 := aq11.frozen 1
      have aq11_6 := aq11.frozen 2
      have aq11_7 := aq11.frozen 3
      have aq11l := aq11.lt
      have cq11 : Bk w11 (w.heap.size + 1) 26 [.bool b', .int .u64 y1, .int .u64 y0, .int .i64 s'] := by (repeat (first | (with_reducible assumption) | ((with_reducible refine Bk.new_ ?_); (first | rfl | (simp only [World.size_alloc, World.size_setCell, World.size_drew, World.heap_drewN]; done))) | (with_reducible refine Bk.alloc ?_ _) | (with_reducible refine Bk.drew ?_) | (with_reducible refine Bk.drewN ?_ _) | ((with_reducible refine Bk.far ?_ ?_ _); rotate_left; focus (simp only []; omega)) | ((with_reducible refine Bk.below ?_ (by with_reducible assumption) ?_); rotate_left; focus (go_size; done))))
      have cq11_0 := cq11.cell 0 rfl
      have cq11_1 := cq11.cell 1 rfl
      have cq11_2 := cq11.cell 2 rfl
      have cq11_3 := cq11.cell 3 rfl
      have cq11_4 := cq11.frozen 0
      have cq11_5 := cq11.frozen 1
      have cq11_6 := cq11.frozen 2
      have cq11_7 := cq11.frozen 3
      have cq11l := cq11.lt
      clear hb11c hb11f
      go_wp2_with fail
      obtain ⟨gr, hgr⟩ : ∃ gr, gr = w11.heap.size := ⟨_, rfl⟩
      refine calls_named (fun W => Bk W (w.heap.size) 26 [.bool b, .int .u64 x1, .int .u64 x0, .int .i64 s] ∧ Bk W (w.heap.size + 1) 26 [.bool b', .int .u64 y1, .int .u64 y0, .int .i64 s'] ∧ Bk W w11.heap.size 26 [.bool r0, .int .u64 r1, .int .u64 r2, .int .i64 r3] ∧ Below w.heap.size w W) ⟨?h0, ?h1, ?h2, ?h3⟩ ?_
      case h0 => ((repeat (first | (with_reducible assumption) | ((with_reducible refine Bk.new_ ?_); (first | rfl | (simp only [World.size_alloc, World.size_setCell, World.size_drew, World.heap_drewN]; done))) | (with_reducible refine Bk.alloc ?_ _) | (with_reducible refine Bk.drew ?_) | (with_reducible refine Bk.drewN ?_ _) | ((with_reducible refine Bk.far ?_ ?_ _); rotate_left; focus (simp only []; omega)) | ((with_reducible refine Bk.below ?_ (by with_reducible assumption) ?_); rotate_left; focus (go_size; done)))); done)
      case h1 => ((repeat (first | (with_reducible assumption) | ((with_reducible refine Bk.new_ ?_); (first | rfl | (simp only [World.size_alloc, World.size_setCell, World.size_drew, World.heap_drewN]; done))) | (with_reducible refine Bk.alloc ?_ _) | (with_reducible refine Bk.drew ?_) | (with_reducible refine Bk.drewN ?_ _) | ((with_reducible refine Bk.far ?_ ?_ _); rotate_left; focus (simp only []; omega)) | ((with_reducible refine Bk.below ?_ (by with_reducible assumption) ?_); rotate_left; focus (go_size; done)))); done)
      case h2 => ((repeat (first | (with_reducible assumption) | ((with_reducible refine Bk.new_ ?_); (first | rfl | (simp only [World.size_alloc, World.size_setCell, World.size_drew, World.heap_drewN]; done))) | (with_reducible refine Bk.alloc ?_ _) | (with_reducible refine Bk.drew ?_) | (with_reducible refine Bk.drewN ?_ _) | ((with_reducible refine Bk.far ?_ ?_ _); rotate_left; focus (simp only []; omega)) | ((with_reducible refine Bk.below ?_ (by with_reducible assumption) ?_); rotate_left; focus (go_size; done)))); done)
      case h3 => ((repeat' (first | (with_reducible exact Below.refl _ _) | (with_reducible assumption) | (with_reducible refine Below.drew ?_) | (with_reducible refine below_drewN ?_ _) | ((with_reducible refine Below.alloc ?_ ?_ _); rotate_left; focus (go_size; done)) | ((with_reducible refine Below.setCell ?_ ?_ _); rotate_left; focus (go_size; done)) | ((with_reducible refine Below.trans ?_ (Below.mono (by with_reducible assumption) ?_)); rotate_left; focus (go_size; done)))); done)
      clear aq11_0 aq11_1 aq11_2 aq11_3 aq11_4 aq11_5 aq11_6 aq11_7
      clear cq11_0 cq11_1 cq11_2 cq11_3 cq11_4 cq11_5 cq11_6 cq11_7
      rw [← hgr]
      have gr_a : w.heap.size < gr := by omega
      have gr_c : w.heap.size + 1 < gr := by omega
      clear hgr
      try clear hb11 hb11s
      try clear aq11 aq11l
      try clear cq11 cq11l
      try clear kal
      try clear kcl
      try clear ka
      try clear kc
      try clear kw
      rintro W11 ⟨ka, kc, kr, kw⟩
      have kal := ka.lt
      have kcl := kc.lt
      have krl := kr.lt
      refine (L12.out _).mono ?_
      rintro _ w12 ⟨rfl, hb12⟩; have hb12s := hb12.size; (try simp only [World.size_alloc, World.size_setCell, World.size_drew, World.heap_drewN] at hb12s); obtain ⟨hb12c, hb12f⟩ := bcell hb12; (try have : w.heap.size < w12.heap.size := by omega); (try have : w.heap.size + 1 < w12.heap.size := by omega); (try have : w.heap.size + 1 + 1 < w12.heap.size := by omega); (try have : w.heap.size + 1 + 1 + 1 < w12.heap.size := by omega)
      have aq12 : Bk w12 (w.heap.size) 26 [.bool b, .int .u64 x1, .int .u64 x0, .int .i64 s] := by (repeat (first | (with_reducible assumption) | ((with_reducible refine Bk.new_ ?_); (first | rfl | (simp only [World.size_alloc, World.size_setCell, World.size_drew, World.heap_drewN]; done))) | (with_reducible refine Bk.alloc ?_ _) | (with_reducible refine Bk.drew ?_) | (with_reducible refine Bk.drewN ?_ _) | ((with_reducible refine Bk.far ?_ ?_ _); rotate_left; focus (simp only []; omega)) | ((with_reducible refine Bk.below ?_ (by with_reducible assumption) ?_); rotate_left; focus (go_size; done))))
      have aq12_0 := aq12.cell 0 rfl
      have aq12_1 := aq12.cell 1 rfl
      have aq12_2 := aq12.cell 2 rfl
      have aq12_3 := aq12.cell 3 rfl
      have aq12_4 := aq12.frozen 0
      have aq12_5 := aq12.frozen 1
      have aq12_6 := aq12.frozen 2
      have aq12_7 := aq12.frozen 3
      have aq12l := aq12.lt
      have cq12 : Bk w12 (w.heap.size + 1) 26 [.bool b', .int .u64 y1, .int .u64 y0, .int .i64 s'] := by (repeat (first | (with_reducible assumption) | ((with_reducible refine Bk.new_ ?_); (first | rfl | (simp only [World.size_alloc, World.size_setCell, World.size_drew, World.heap_drewN]; done))) | (with_reducible refine Bk.alloc ?_ _) | (with_reducible refine Bk.drew ?_) | (with_reducible refine Bk.drewN ?_ _) | ((with_reducible refine Bk.far ?_ ?_ _); rotate_left; focus (simp only []; omega)) | ((with_reducible refine Bk.below ?_ (by with_reducible assumption) ?_); rotate_left; focus (go_size; done))))
      have cq12_0 := cq12.cell 0 rfl
      have cq12_1 := cq12.cell 1 rfl
      have cq12_2 := cq12.cell 2 rfl
      have cq12_3 := cq12.cell 3 rfl
      have cq12_4 := cq12.frozen 0
      have cq12_5 := cq12.frozen 1
      have cq12_6 := cq12.frozen 2
      have cq12_7 := cq12.frozen 3
      have cq12l := cq12.lt
      have rq12 : Bk w12 (gr) 26 [.bool r0, .int .u64 r1, .int .u64 r2, .int .i64 r3] := by (repeat (first | (with_reducible assumption) | ((with_reducible refine Bk.new_ ?_); (first | rfl | (simp only [World.size_alloc, World.size_setCell, World.size_drew, World.heap_drewN]; done))) | (with_reducible refine Bk.alloc ?_ _) | (with_reducible refine Bk.drew ?_) | (with_reducible refine Bk.drewN ?_ _) | ((with_reducible refine Bk.far ?_ ?_ _); rotate_left; focus (simp only []; omega)) | ((with_reducible refine Bk.below ?_ (by with_reducible assumption) ?_); rotate_left; focus (go_size; done))))
      have rq12_0 := rq12.cell 0 rfl
      have rq12_1 := rq12.cell 1 rfl
      have rq12_2 := rq12.cell 2 rfl
      have rq12_3 := rq12.cell 3 rfl
      have rq12_4 := rq12.frozen 0
      have rq12_5 := rq12.frozen 1
      have rq12_6 := rq12.frozen 2
      have rq12_7 := rq12.frozen 3
      have rq12l := rq12.lt
      clear hb12c hb12f
      go_wp2_with fail
      obtain ⟨gt, hgt⟩ : ∃ gt, gt = w12.heap.size := ⟨_, rfl⟩
      refine calls_named (fun W => Bk W (w.heap.size) 26 [.bool b, .int .u64 x1, .int .u64 x0, .int .i64 s] ∧ Bk W (w.heap.size + 1) 26 [.bool b', .int .u64 y1, .int .u64 y0, .int .i64 s'] ∧ Bk W (gr) 26 [.bool r0, .int .u64 r1, .int .u64 r2, .int .i64 r3] ∧ Bk W w12.heap.size 26 [.bool t0, .int .u64 t1, .int .u64 t2, .int .i64 t3] ∧ Below w.heap.size w W) ⟨?h0, ?h1, ?h2, ?h3, ?h4⟩ ?_
      case h0 => ((repeat (first | (with_reducible assumption) | ((with_reducible refine Bk.new_ ?_); (first | rfl | (simp only [World.size_alloc, World.size_setCell, World.size_drew, World.heap_drewN]; done))) | (with_reducible refine Bk.alloc ?_ _) | (with_reducible refine Bk.drew ?_) | (with_reducible refine Bk.drewN ?_ _) | ((with_reducible refine Bk.far ?_ ?_ _); rotate_left; focus (simp only []; omega)) | ((with_reducible refine Bk.below ?_ (by with_reducible assumption) ?_); rotate_left; focus (go_size; done)))); done)
      case h1 => ((repeat (first | (with_reducible assumption) | ((with_reducible refine Bk.new_ ?_); (first | rfl | (simp only [World.size_alloc, World.size_setCell, World.size_drew, World.heap_drewN]; done))) | (with_reducible refine Bk.alloc ?_ _) | (with_reducible refine Bk.drew ?_) | (with_reducible refine Bk.drewN ?_ _) | ((with_reducible refine Bk.far ?_ ?_ _); rotate_left; focus (simp only []; omega)) | ((with_reducible refine Bk.below ?_ (by with_reducible assumption) ?_); rotate_left; focus (go_size; done)))); done)
      case h2 => ((repeat (first | (with_reducible assumption) | ((with_reducible refine Bk.new_ ?_); (first | rfl | (simp only [World.size_alloc, World.size_setCell, World.size_drew, World.heap_drewN]; done))) | (with_reducible refine Bk.alloc ?_ _) | (with_reducible refine Bk.drew ?_) | (with_reducible refine Bk.drewN ?_ _) | ((with_reducible refine Bk.far ?_ ?_ _); rotate_left; focus (simp only []; omega)) | ((with_reducible refine Bk.below ?_ (by with_reducible assumption) ?_); rotate_left; focus (go_size; done)))); done)
      case h3 => ((repeat (first | (with_reducible assumption) | ((with_reducible refine Bk.new_ ?_); (first | rfl | (simp only [World.size_alloc, World.size_setCell, World.size_drew, World.heap_drewN]; done))) | (with_reducible refine Bk.alloc ?_ _) | (with_reducible refine Bk.drew ?_) | (with_reducible refine Bk.drewN ?_ _) | ((with_reducible refine Bk.far ?_ ?_ _); rotate_left; focus (simp only []; omega)) | ((with_reducible refine Bk.below ?_ (by with_reducible assumption) ?_); rotate_left; focus (go_size; done)))); done)
      case h4 => ((repeat' (first | (with_reducible exact Below.refl _ _) | (with_reducible assumption) | (with_reducible refine Below.drew ?_) | (with_reducible refine below_drewN ?_ _) | ((with_reducible refine Below.alloc ?_ ?_ _); rotate_left; focus (go_size; done)) | ((with_reducible refine Below.setCell ?_ ?_ _); rotate_left; focus (go_size; done)) | ((with_reducible refine Below.trans ?_ (Below.mono (by with_reducible assumption) ?_)); rotate_left; focus (go_size; done)))); done)
      clear aq12_0 aq12_1 aq12_2 aq12_3 aq12_4 aq12_5 aq12_6 aq12_7
      clear cq12_0 cq12_1 cq12_2 cq12_3 cq12_4 cq12_5 cq12_6 cq12_7
      clear rq12_0 rq12_1 rq12_2 rq12_3 rq12_4 rq12_5 rq12_6 rq12_7
      rw [← hgt]
      have gt_a : w.heap.size < gt := by omega
      have gt_c : w.heap.size + 1 < gt := by omega
      have gt_r : gr < gt := by omega
      clear hgt
      try clear hb12 hb12s
      try clear aq12 aq12l
      try clear cq12 cq12l
      try clear rq12 rq12l
      try clear kal
      try clear kcl
      try clear krl
      try clear ka
      try clear kc
      try clear kr
      try clear kw
      rintro W12 ⟨ka, kc, kr, kt, kw⟩
      have kal := ka.lt
      have kcl := kc.lt
      have krl := kr.lt
      have ktl := kt.lt
      refine (L13.out _).mono ?_
      rintro _ w13 ⟨rfl, hb13⟩; have hb13s := hb13.size; (try simp only [World.size_alloc, World.size_setCell, World.size_drew, World.heap_drewN] at hb13s); obtain ⟨hb13c, hb13f⟩ := bcell hb13; (try have : w.heap.size < w13.heap.size := by omega); (try have : w.heap.size + 1 < w13.heap.size := by omega); (try have : w.heap.size + 1 + 1 < w13.heap.size := by omega); (try have : w.heap.size + 1 + 1 + 1 < w13.heap.size := by omega)
      have aq13 : Bk w13 (w.heap.size) 26 [.bool b, .int .u64 x1, .int .u64 x0, .int .i64 s] := by (repeat (first | (with_reducible assumption) | ((with_reducible refine Bk.new_ ?_); (first | rfl | (simp only [World.size_alloc, World.size_setCell, World.size_drew, World.heap_drewN]; done))) | (with_reducible refine Bk.alloc ?_ _) | (with_reducible refine Bk.drew ?_) | (with_reducible refine Bk.drewN ?_ _) | ((with_reducible refine Bk.far ?_ ?_ _); rotate_left; focus (simp only []; omega)) | ((with_reducible refine Bk.below ?_ (by with_reducible assumption) ?_); rotate_left; focus (go_size; done))))
      have aq13_0 := aq13.cell 0 rfl
      have aq13_1 := aq13.cell 1 rfl
      have aq13_2 := aq13.cell 2 rfl
      have aq13_3 := aq13.cell 3 rfl
      have aq13_4 := aq13.frozen 0
      have aq13_5 := aq13.frozen 1
      have aq13_6 := aq13.frozen 2
      have aq13_7 := aq13.frozen 3
      have aq13l := aq13.lt
      have cq13 : Bk w13 (w.heap.size + 1) 26 [.bool b', .int .u64 y1, .int .u64 y0, .int .i64 s'] := by (repeat (first | (with_reducible assumption) | ((with_reducible refine Bk.new_ ?_); (first | rfl | (simp only [World.size_alloc, World.size_setCell, World.size_drew, World.heap_drewN]; done))) | (with_reducible refine Bk.alloc ?_ _) | (with_reducible refine Bk.drew ?_) | (with_reducible refine Bk.drewN ?_ _) | ((with_reducible refine Bk.far ?_ ?_ _); rotate_left; focus (simp only []; omega)) | ((with_reducible refine Bk.below ?_ (by with_reducible assumption) ?_); rotate_left; focus (go_size; done))))
      have cq13_0 := cq13.cell 0 rfl
      have cq13_1 := cq13.cell 1 rfl
      have cq13_2 := cq13.cell 2 rfl
      have cq13_3 := cq13.cell 3 rfl
      have cq13_4 := cq13.frozen 0
      have cq13_5 := cq13.frozen 1
      have cq13_6 := cq13.frozen 2
      have cq13_7 := cq13.frozen 3
      have cq13l := cq13.lt
      have rq13 : Bk w13 (gr) 26 [.bool r0, .int .u64 r1, .int .u64 r2, .int .i64 r3] := by (repeat (first | (with_reducible assumption) | ((with_reducible refine Bk.new_ ?_); (first | rfl | (simp only [World.size_alloc, World.size_setCell, World.size_drew, World.heap_drewN]; done))) | (with_reducible refine Bk.alloc ?_ _) | (with_reducible refine Bk.drew ?_) | (with_reducible refine Bk.drewN ?_ _) | ((with_reducible refine Bk.far ?_ ?_ _); rotate_left; focus (simp only []; omega)) | ((with_reducible refine Bk.below ?_ (by with_reducible assumption) ?_); rotate_left; focus (go_size; done))))
      have rq13_0 := rq13.cell 0 rfl
      have rq13_1 := rq13.cell 1 rfl
      have rq13_2 := rq13.cell 2 rfl
      have rq13_3 := rq13.cell 3 rfl
      have rq13_4 := rq13.frozen 0
      have rq13_5 := rq13.frozen 1
      have rq13_6 := rq13.frozen 2
      have rq13_7 := rq13.frozen 3
      have rq13l := rq13.lt
      have tq13 : Bk w13 (gt) 26 [.bool t0, .int .u64 t1, .int .u64 t2, .int .i64 t3] := by (repeat (first | (with_reducible assumption) | ((with_reducible refine Bk.new_ ?_); (first | rfl | (simp only [World.size_alloc, World.size_setCell, World.size_drew, World.heap_drewN]; done))) | (with_reducible refine Bk.alloc ?_ _) | (with_reducible refine Bk.drew ?_) | (with_reducible refine Bk.drewN ?_ _) | ((with_reducible refine Bk.far ?_ ?_ _); rotate_left; focus (simp only []; omega)) | ((with_reducible refine Bk.below ?_ (by with_reducible assumption) ?_); rotate_left; focus (go_size; done))))
      have tq13_0 := tq13.cell 0 rfl
      have tq13_1 := tq13.cell 1 rfl
      have tq13_2 := tq13.cell 2 rfl
      have tq13_3 := tq13.cell 3 rfl
      have tq13_4 := tq13.frozen 0
      have tq13_5 := tq13.frozen 1
      have tq13_6 := tq13.frozen 2
      have tq13_7 := tq13.frozen 3
      have tq13l := tq13.lt
      clear hb13c hb13f
      go_wp2_with fail
      obtain ⟨gu, hgu⟩ : ∃ gu, gu = w13.heap.size := ⟨_, rfl⟩
      refine calls_named (fun W => Bk W (w.heap.size) 26 [.bool b, .int .u64 x1, .int .u64 x0, .int .i64 s] ∧ Bk W (w.heap.size + 1) 26 [.bool b', .int .u64 y1, .int .u64 y0, .int .i64 s'] ∧ Bk W (gr) 26 [.bool r0, .int .u64 r1, .int .u64 r2, .int .i64 r3] ∧ Bk W (gt) 26 [.bool t0, .int .u64 t1, .int .u64 t2, .int .i64 t3] ∧ Bk W w13.heap.size 26 [.bool u0, .int .u64 u1, .int .u64 u2, .int .i64 u3] ∧ Below w.heap.size w W) ⟨?h0, ?h1, ?h2, ?h3, ?h4, ?h5⟩ ?_
      case h0 => ((repeat (first | (with_reducible assumption) | ((with_reducible refine Bk.new_ ?_); (first | rfl | (simp only [World.size_alloc, World.size_setCell, World.size_drew, World.heap_drewN]; done))) | (with_reducible refine Bk.alloc ?_ _) | (with_reducible refine Bk.drew ?_) | (with_reducible refine Bk.drewN ?_ _) | ((with_reducible refine Bk.far ?_ ?_ _); rotate_left; focus (simp only []; omega)) | ((with_reducible refine Bk.below ?_ (by with_reducible assumption) ?_); rotate_left; focus (go_size; done)))); done)
      case h1 => ((repeat (first | (with_reducible assumption) | ((with_reducible refine Bk.new_ ?_); (first | rfl | (simp only [World.size_alloc, World.size_setCell, World.size_drew, World.heap_drewN]; done))) | (with_reducible refine Bk.alloc ?_ _) | (with_reducible refine Bk.drew ?_) | (with_reducible refine Bk.drewN ?_ _) | ((with_reducible refine Bk.far ?_ ?_ _); rotate_left; focus (simp only []; omega)) | ((with_reducible refine Bk.below ?_ (by with_reducible assumption) ?_); rotate_left; focus (go_size; done)))); done)
      case h2 => ((repeat (first | (with_reducible assumption) | ((with_reducible refine Bk.new_ ?_); (first | rfl | (simp only [World.size_alloc, World.size_setCell, World.size_drew, World.heap_drewN]; done))) | (with_reducible refine Bk.alloc ?_ _) | (with_reducible refine Bk.drew ?_) | (with_reducible refine Bk.drewN ?_ _) | ((with_reducible refine Bk.far ?_ ?_ _); rotate_left; focus (simp only []; omega)) | ((with_reducible refine Bk.below ?_ (by with_reducible assumption) ?_); rotate_left; focus (go_size; done)))); done)
      case h3 => ((repeat (first | (with_reducible assumption) | ((with_reducible refine Bk.new_ ?_); (first | rfl | (simp only [World.size_alloc, World.size_setCell, World.size_drew, World.heap_drewN]; done))) | (with_reducible refine Bk.alloc ?_ _) | (with_reducible refine Bk.drew ?_) | (with_reducible refine Bk.drewN ?_ _) | ((with_reducible refine Bk.far ?_ ?_ _); rotate_left; focus (simp only []; omega)) | ((with_reducible refine Bk.below ?_ (by with_reducible assumption) ?_); rotate_left; focus (go_size; done)))); done)
      case h4 => ((repeat (first | (with_reducible assumption) | ((with_reducible refine Bk.new_ ?_); (first | rfl | (simp only [World.size_alloc, World.size_setCell, World.size_drew, World.heap_drewN]; done))) | (with_reducible refine Bk.alloc ?_ _) | (with_reducible refine Bk.drew ?_) | (with_reducible refine Bk.drewN ?_ _) | ((with_reducible refine Bk.far ?_ ?_ _); rotate_left; focus (simp only []; omega)) | ((with_reducible refine Bk.below ?_ (by with_reducible assumption) ?_); rotate_left; focus (go_size; done)))); done)
      case h5 => ((repeat' (first | (with_reducible exact Below.refl _ _) | (with_reducible assumption) | (with_reducible refine Below.drew ?_) | (with_reducible refine below_drewN ?_ _) | ((with_reducible refine Below.alloc ?_ ?_ _); rotate_left; focus (go_size; done)) | ((with_reducible refine Below.setCell ?_ ?_ _); rotate_left; focus (go_size; done)) | ((with_reducible refine Below.trans ?_ (Below.mono (by with_reducible assumption) ?_)); rotate_left; focus (go_size; done)))); done)
      clear aq13_0 aq13_1 aq13_2 aq13_3 aq13_4 aq13_5 aq13_6 aq13_7
      clear cq13_0 cq13_1 cq13_2 cq13_3 cq13_4 cq13_5 cq13_6 cq13_7
      clear rq13_0 rq13_1 rq13_2 rq13_3 rq13_4 rq13_5 rq13_6 rq13_7
      clear tq13_0 tq13_1 tq13_2 tq13_3 tq13_4 tq13_5 tq13_6 tq13_7
      rw [← hgu]
      have gu_a : w.heap.size < gu := by omega
      have gu_c : w.heap.size + 1 < gu := by omega
      have gu_r : gr < gu := by omega
      have gu_t : gt < gu := by omega
      clear hgu
      try clear hb13 hb13s
      try clear aq13 aq13l
      try clear cq13 cq13l
      try clear rq13 rq13l
      try clear tq13 tq13l
      try clear kal
      try clear kcl
      try clear krl
      try clear ktl
      try clear ka
      try clear kc
      try clear kr
      try clear kt
      try clear kw
      rintro W13 ⟨ka, kc, kr, kt, ku, kw⟩
      have kal := ka.lt
      have kcl := kc.lt
      have krl := kr.lt
      have ktl := kt.lt
      have kul := ku.lt
      rcases HRZ.out with rfl | hb
      · skip
        refine (L14.out _).mono ?_
        rintro _ w14 ⟨rfl, hb14⟩; have hb14s := hb14.size; (try simp only [World.size_alloc, World.size_setCell, World.size_drew, World.heap_drewN] at hb14s); obtain ⟨hb14c, hb14f⟩ := bcell hb14; (try have : w.heap.size < w14.heap.size := by omega); (try have : w.heap.size + 1 < w14.heap.size := by omega); (try have : w.heap.size + 1 + 1 < w14.heap.size := by omega); (try have : w.heap.size + 1 + 1 + 1 < w14.heap.size := by omega)
        have aq14 : Bk w14 (w.heap.size) 26 [.bool b, .int .u64 x1, .int .u64 x0, .int .i64 s] := by (repeat (first | (with_reducible assumption) | ((with_reducible refine Bk.new_ ?_); (first | rfl | (simp only [World.size_alloc, World.size_setCell, World.size_drew, World.heap_drewN]; done))) | (with_reducible refine Bk.alloc ?_ _) | (with_reducible refine Bk.drew ?_) | (with_reducible refine Bk.drewN ?_ _) | ((with_reducible refine Bk.far ?_ ?_ _); rotate_left; focus (simp only []; omega)) | ((with_reducible refine Bk.below ?_ (by with_reducible assumption) ?_); rotate_left; focus (go_size; done))))
        have aq14_0 := aq14.cell 0 rfl
        have aq14_1 := aq14.cell 1 rfl
        have aq14_2 := aq14.cell 2 rfl
        have aq14_3 := aq14.cell 3 rfl
        have aq14_4 := aq14.frozen 0
        have aq14_5 := aq14.frozen 1
        have aq14_6 := aq14.frozen 2
        have aq14_7 := aq14.frozen 3
        have aq14l := aq14.lt
        have cq14 : Bk w14 (w.heap.size + 1) 26 [.bool b', .int .u64 y1, .int .u64 y0, .int .i64 s'] := by (repeat (first | (with_reducible assumption) | ((with_reducible refine Bk.new_ ?_); (first | rfl | (simp only [World.size_alloc, World.size_setCell, World.size_drew, World.heap_drewN]; done))) | (with_reducible refine Bk.alloc ?_ _) | (with_reducible refine Bk.drew ?_) | (with_reducible refine Bk.drewN ?_ _) | ((with_reducible refine Bk.far ?_ ?_ _); rotate_left; focus (simp only []; omega)) | ((with_reducible refine Bk.below ?_ (by with_reducible assumption) ?_); rotate_left; focus (go_size; done))))
        have cq14_0 := cq14.cell 0 rfl
        have cq14_1 := cq14.cell 1 rfl
        have cq14_2 := cq14.cell 2 rfl
        have cq14_3 := cq14.cell 3 rfl
        have cq14_4 := cq14.frozen 0
        have cq14_5 := cq14.frozen 1
        have cq14_6 := cq14.frozen 2
        have cq14_7 := cq14.frozen 3
        have cq14l := cq14.lt
        have rq14 : Bk w14 (gr) 26 [.bool r0, .int .u64 r1, .int .u64 r2, .int .i64 r3] := by (repeat (first | (with_reducible assumption) | ((with_reducible refine Bk.new_ ?_); (first | rfl | (simp only [World.size_alloc, World.size_setCell, World.size_drew, World.heap_drewN]; done))) | (with_reducible refine Bk.alloc ?_ _) | (with_reducible refine Bk.drew ?_) | (with_reducible refine Bk.drewN ?_ _) | ((with_reducible refine Bk.far ?_ ?_ _); rotate_left; focus (simp only []; omega)) | ((with_reducible refine Bk.below ?_ (by with_reducible assumption) ?_); rotate_left; focus (go_size; done))))
        have rq14_0 := rq14.cell 0 rfl
        have rq14_1 := rq14.cell 1 rfl
        have rq14_2 := rq14.cell 2 rfl
        have rq14_3 := rq14.cell 3 rfl
        have rq14_4 := rq14.frozen 0
        have rq14_5 := rq14.frozen 1
        have rq14_6 := rq14.frozen 2
        have rq14_7 := rq14.frozen 3
        have rq14l := rq14.lt
        have tq14 : Bk w14 (gt) 26 [.bool t0, .int .u64 t1, .int .u64 t2, .int .i64 t3] := by (repeat (first | (with_reducible assumption) | ((with_reducible refine Bk.new_ ?_); (first | rfl | (simp only [World.size_alloc, World.size_setCell, World.size_drew, World.heap_drewN]; done))) | (with_reducible refine Bk.alloc ?_ _) | (with_reducible refine Bk.drew ?_) | (with_reducible refine Bk.drewN ?_ _) | ((with_reducible refine Bk.far ?_ ?_ _); rotate_left; focus (simp only []; omega)) | ((with_reducible refine Bk.below ?_ (by with_reducible assumption) ?_); rotate_left; focus (go_size; done))))
        have tq14_0 := tq14.cell 0 rfl
        have tq14_1 := tq14.cell 1 rfl
        have tq14_2 := tq14.cell 2 rfl
        have tq14_3 := tq14.cell 3 rfl
        have tq14_4 := tq14.frozen 0
        have tq14_5 := tq14.frozen 1
        have tq14_6 := tq14.frozen 2
        have tq14_7 := tq14.frozen 3
        have tq14l := tq14.lt
        have uq14 : Bk w14 (gu) 26 [.bool u0, .int .u64 u1, .int .u64 u2, .int .i64 u3] := by (repeat (first | (with_reducible assumption) | ((with_reducible refine Bk.new_ ?_); (first | rfl | (simp only [World.size_alloc, World.size_setCell, World.size_drew, World.heap_drewN]; done))) | (with_reducible refine Bk.alloc ?_ _) | (with_reducible refine Bk.drew ?_) | (with_reducible refine Bk.drewN ?_ _) | ((with_reducible refine Bk.far ?_ ?_ _); rotate_left; focus (simp only []; omega)) | ((with_reducible refine Bk.below ?_ (by with_reducible assumption) ?_); rotate_left; focus (go_size; done))))
        have uq14_0 := uq14.cell 0 rfl
        have uq14_1 := uq14.cell 1 rfl
        have uq14_2 := uq14.cell 2 rfl
        have uq14_3 := uq14.cell 3 rfl
        have uq14_4 := uq14.frozen 0
        have uq14_5 := uq14.frozen 1
        have uq14_6 := uq14.frozen 2
        have uq14_7 := uq14.frozen 3
        have uq14l := uq14.lt
        clear hb14c hb14f
        go_wp2_with fail
        go_ret
        exact ⟨by first | rfl | simp_all, by (repeat' (first | (with_reducible exact Below.refl _ _) | (with_reducible assumption) | (with_reducible refine Below.drew ?_) | (with_reducible refine below_drewN ?_ _) | ((with_reducible refine Below.alloc ?_ ?_ _); rotate_left; focus (go_size; done)) | ((with_reducible refine Below.setCell ?_ ?_ _); rotate_left; focus (go_size; done)) | ((with_reducible refine Below.trans ?_ (Below.mono (by with_reducible assumption) ?_)); rotate_left; focus (go_size; done))))⟩
      · skip
        have hb2 := hb.symm
        subst hb2
        have rb : ∀ W, (binOp .eql 4 (.bool b') (.bool b')).run Try.prog W = .ok (.bool true) W := fun _ => by cases b' <;> kernel_rfl
        cases rz
        all_goals
          refine (L14.out _).mono ?_
          rintro _ w14 ⟨rfl, hb14⟩; have hb14s := hb14.size; (try simp only [World.size_alloc, World.size_setCell, World.size_drew, World.heap_drewN] at hb14s); obtain ⟨hb14c, hb14f⟩ := bcell hb14; (try have : w.heap.size < w14.heap.size := by omega); (try have : w.heap.size + 1 < w14.heap.size := by omega); (try have : w.heap.size + 1 + 1 < w14.heap.size := by omega); (try have : w.heap.size + 1 + 1 + 1 < w14.heap.size := by omega)
          have aq14 : Bk w14 (w.heap.size) 26 [.bool b, .int .u64 x1, .int .u64 x0, .int .i64 s] := by (repeat (first | (with_reducible assumption) | ((with_reducible refine Bk.new_ ?_); (first | rfl | (simp only [World.size_alloc, World.size_setCell, World.size_drew, World.heap_drewN]; done))) | (with_reducible refine Bk.alloc ?_ _) | (with_reducible refine Bk.drew ?_) | (with_reducible refine Bk.drewN ?_ _) | ((with_reducible refine Bk.far ?_ ?_ _); rotate_left; focus (simp only []; omega)) | ((with_reducible refine Bk.below ?_ (by with_reducible assumption) ?_); rotate_left; focus (go_size; done))))
          have aq14_0 := aq14.cell 0 rfl
          have aq14_1 := aq14.cell 1 rfl
          have aq14_2 := aq14.cell 2 rfl
          have aq14_3 := aq14.cell 3 rfl
          have aq14_4 := aq14.frozen 0
          have aq14_5 := aq14.frozen 1
          have aq14_6 := aq14.frozen 2
          have aq14_7 := aq14.frozen 3
          have aq14l := aq14.lt
          have cq14 : Bk w14 (w.heap.size + 1) 26 [.bool b', .int .u64 y1, .int .u64 y0, .int .i64 s'] := by (repeat (first | (with_reducible assumption) | ((with_reducible refine Bk.new_ ?_); (first | rfl | (simp only [World.size_alloc, World.size_setCell, World.size_drew, World.heap_drewN]; done))) | (with_reducible refine Bk.alloc ?_ _) | (with_reducible refine Bk.drew ?_) | (with_reducible refine Bk.drewN ?_ _) | ((with_reducible refine Bk.far ?_ ?_ _); rotate_left; focus (simp only []; omega)) | ((with_reducible refine Bk.below ?_ (by with_reducible assumption) ?_); rotate_left; focus (go_size; done))))
          have cq14_0 := cq14.cell 0 rfl
          have cq14_1 := cq14.cell 1 rfl
          have cq14_2 := cq14.cell 2 rfl
          have cq14_3 := cq14.cell 3 rfl
          have cq14_4 := cq14.frozen 0
          have cq14_5 := cq14.frozen 1
          have cq14_6 := cq14.frozen 2
          have cq14_7 := cq14.frozen 3
          have cq14l := cq14.lt
          have rq14 : Bk w14 (gr) 26 [.bool b', .int .u64 r1, .int .u64 r2, .int .i64 r3] := by (repeat (first | (with_reducible assumption) | ((with_reducible refine Bk.new_ ?_); (first | rfl | (simp only [World.size_alloc, World.size_setCell, World.size_drew, World.heap_drewN]; done))) | (with_reducible refine Bk.alloc ?_ _) | (with_reducible refine Bk.drew ?_) | (with_reducible refine Bk.drewN ?_ _) | ((with_reducible refine Bk.far ?_ ?_ _); rotate_left; focus (simp only []; omega)) | ((with_reducible refine Bk.below ?_ (by with_reducible assumption) ?_); rotate_left; focus (go_size; done))))
          have rq14_0 := rq14.cell 0 rfl
          have rq14_1 := rq14.cell 1 rfl
          have rq14_2 := rq14.cell 2 rfl
          have rq14_3 := rq14.cell 3 rfl
          have rq14_4 := rq14.frozen 0
          have rq14_5 := rq14.frozen 1
          have rq14_6 := rq14.frozen 2
          have rq14_7 := rq14.frozen 3
          have rq14l := rq14.lt
          have tq14 : Bk w14 (gt) 26 [.bool t0, .int .u64 t1, .int .u64 t2, .int .i64 t3] := by (repeat (first | (with_reducible assumption) | ((with_reducible refine Bk.new_ ?_); (first | rfl | (simp only [World.size_alloc, World.size_setCell, World.size_drew, World.heap_drewN]; done))) | (with_reducible refine Bk.alloc ?_ _) | (with_reducible refine Bk.drew ?_) | (with_reducible refine Bk.drewN ?_ _) | ((with_reducible refine Bk.far ?_ ?_ _); rotate_left; focus (simp only []; omega)) | ((with_reducible refine Bk.below ?_ (by with_reducible assumption) ?_); rotate_left; focus (go_size; done))))
          have tq14_0 := tq14.cell 0 rfl
          have tq14_1 := tq14.cell 1 rfl
          have tq14_2 := tq14.cell 2 rfl
          have tq14_3 := tq14.cell 3 rfl
          have tq14_4 := tq14.frozen 0
          have tq14_5 := tq14.frozen 1
          have tq14_6 := tq14.frozen 2
          have tq14_7 := tq14.frozen 3
          have tq14l := tq14.lt
          have uq14 : Bk w14 (gu) 26 [.bool u0, .int .u64 u1, .int .u64 u2, .int .i64 u3] := by (repeat (first | (with_reducible assumption) | ((with_reducible refine Bk.new_ ?_); (first | rfl | (simp only [World.size_alloc, World.size_setCell, World.size_drew, World.heap_drewN]; done))) | (with_reducible refine Bk.alloc ?_ _) | (with_reducible refine Bk.drew ?_) | (with_reducible refine Bk.drewN ?_ _) | ((with_reducible refine Bk.far ?_ ?_ _); rotate_left; focus (simp only []; omega)) | ((with_reducible refine Bk.below ?_ (by with_reducible assumption) ?_); rotate_left; focus (go_size; done))))
          have uq14_0 := uq14.cell 0 rfl
          have uq14_1 := uq14.cell 1 rfl
          have uq14_2 := uq14.cell 2 rfl
          have uq14_3 := uq14.cell 3 rfl
          have uq14_4 := uq14.frozen 0
          have uq14_5 := uq14.frozen 1
          have uq14_6 := uq14.frozen 2
          have uq14_7 := uq14.frozen 3
          have uq14l := uq14.lt
          clear hb14c hb14f
          go_wp2_with fail
          all_goals
            go_ret
            exact ⟨by first | rfl | simp_all, by (repeat' (first | (with_reducible exact Below.refl _ _) | (with_reducible assumption) | (with_reducible refine Below.drew ?_) | (with_reducible refine below_drewN ?_ _) | ((with_reducible refine Below.alloc ?_ ?_ _); rotate_left; focus (go_size; done)) | ((with_reducible refine Below.setCell ?_ ?_ _); rotate_left; focus (go_size; done)) | ((with_reducible refine Below.trans ?_ (Below.mono (by with_reducible assumption) ?_)); rotate_left; focus (go_size; done))))⟩
    · skip
      obtain ⟨rfl, rfl⟩ := HZ.out rfl
      clear HZ HN K12 K13 K14
      go_wp2_with fail
      refine (K11.out _).mono ?_
      rintro _ w11 ⟨rfl, hb11⟩; have hb11s := hb11.size; (try simp only [World.size_alloc, World.size_setCell, World.size_drew, World.heap_drewN] at hb11s); obtain ⟨hb11c, hb11f⟩ := bcell hb11; (try have : w.heap.size < w11.heap.size := by omega); (try have : w.heap.size + 1 < w11.heap.size := by omega); (try have : w.heap.size + 1 + 1 < w11.heap.size := by omega); (try have : w.heap.size + 1 + 1 + 1 < w11.heap.size := by omega)
      have aq11 : Bk w11 (w.heap.size) 26 [.bool b, .int .u64 x1, .int .u64 x0, .int .i64 s] := by (repeat (first | (with_reducible assumption) | ((with_reducible refine Bk.new_ ?_); (first | rfl | (simp only [World.size_alloc, World.size_setCell, World.size_drew, World.heap_drewN]; done))) | (with_reducible refine Bk.alloc ?_ _) | (with_reducible refine Bk.drew ?_) | (with_reducible refine Bk.drewN ?_ _) | ((with_reducible refine Bk.far ?_ ?_ _); rotate_left; focus (simp only []; omega)) | ((with_reducible refine Bk.below ?_ (by with_reducible assumption) ?_); rotate_left; focus (go_size; done))))
      have aq11_0 := aq11.cell 0 rfl
      have aq11_1 := aq11.cell 1 rfl
      have aq11_2 := aq11.cell 2 rfl
      have aq11_3 := aq11.cell 3 rfl
      have aq11_4 := aq11.frozen 0
      have aq11_5 := aq11.frozen 1
      have aq11_6 := aq11.frozen 2
      have aq11_7 := aq11.frozen 3
      have aq11l := aq11.lt
      have cq11 : Bk w11 (w.heap.size + 1) 26 [.bool b', .int .u64 y1, .int .u64 y0, .int .i64 s'] := by (repeat (first | (with_reducible assumption) | ((with_reducible refine Bk.new_ ?_); (first | rfl | (simp only [World.size_alloc, World.size_setCell, World.size_drew, World.heap_drewN]; done))) | (with_reducible refine Bk.alloc ?_ _) | (with_reducible refine Bk.drew ?_) | (with_reducible refine Bk.drewN ?_ _) | ((with_reducible refine Bk.far ?_ ?_ _); rotate_left; focus (simp only []; omega)) | ((with_reducible refine Bk.below ?_ (by with_reducible assumption) ?_); rotate_left; focus (go_size; done))))
      have cq11_0 := cq11.cell 0 rfl
      have cq11_1 := cq11.cell 1 rfl
      have cq11_2 := cq11.cell 2 rfl
      have cq11_3 := cq11.cell 3 rfl
      have cq11_4 := cq11.frozen 0
      have cq11_5 := cq11.frozen 1
      have cq11_6 := cq11.frozen 2
      have cq11_7 := cq11.frozen 3
      have cq11l := cq11.lt
      clear hb11c hb11f
      go_wp2_with fail
      go_ret
      exact ⟨by first | rfl | simp_all, by (repeat' (first | (with_reducible exact Below.refl _ _) | (with_reducible assumption) | (with_reducible refine Below.drew ?_) | (with_reducible refine below_drewN ?_ _) | ((with_reducible refine Below.alloc ?_ ?_ _); rotate_left; focus (go_size; done)) | ((with_reducible refine Below.setCell ?_ ?_ _); rotate_left; focus (go_size; done)) | ((with_reducible refine Below.trans ?_ (Below.mono (by with_reducible assumption) ?_)); rotate_left; focus (go_size; done))))⟩
end Go.Proofs.Ythkgjodidkpaeaa

set_option linter.unusedSimpArgs false
set_option linter.unusedVariables false
namespace Go.Proofs.Ythkgjodidkpaeaa
open Go.RowKit

/-- a step farther from nought, or nearer to it, trying the scales below k: the size, and whether there is one -/
def upK (x : Nat) (down : Bool) : Nat → Nat × Bool
  | 0 => (0, false)
  | s + 1 => if down = true then (if x ≤ B34 * 10 ^ (18 - s) then (x - 10 ^ (18 - s), true) else upK x down s)
    else if x < B34 * 10 ^ (18 - s) ∧ (s = 0 → x + 10 ^ (18 - s) < B34 * 10 ^ 18) then (x + 10 ^ (18 - s), true) else upK x down s
theorem upK_down {x s : Nat} (h : x ≤ B34 * 10 ^ (18 - s)) : upK x true (s + 1) = (x - 10 ^ (18 - s), true) := by rw [upK, if_pos rfl, if_pos h]
theorem upK_down' {x s : Nat} (h : ¬ x ≤ B34 * 10 ^ (18 - s)) : upK x true (s + 1) = upK x true s := by rw [upK, if_pos rfl, if_neg h]
theorem upK_up {x s : Nat} (h : x < B34 * 10 ^ (18 - s)) (h0 : s = 0 → x + 10 ^ (18 - s) < B34 * 10 ^ 18) : upK x false (s + 1) = (x + 10 ^ (18 - s), true) := by
  rw [upK, if_neg (by decide), if_pos ⟨h, h0⟩]
theorem upK_up' {x s : Nat} (h : ¬ (x < B34 * 10 ^ (18 - s) ∧ (s = 0 → x + 10 ^ (18 - s) < B34 * 10 ^ 18))) : upK x false (s + 1) = upK x false s := by
  rw [upK, if_neg (by decide), if_neg h]
/-- the decimal that comes of it -/
def NbC (r : Nat × Bool) : Nat := if r.2 = true then FitC r.1 (10 ^ 18) else 0
def NbS (r : Nat × Bool) : Nat := if r.2 = true then FitS r.1 (10 ^ 18) else 0
def NbE (r : Nat × Bool) : Int := if r.2 = true then FitE r.1 (10 ^ 18) else 3
theorem nb_yes (n : Nat) : NbC (n, true) = FitC n (10 ^ 18) ∧ NbS (n, true) = FitS n (10 ^ 18) ∧ NbE (n, true) = FitE n (10 ^ 18) := ⟨if_pos rfl, if_pos rfl, if_pos rfl⟩
theorem nb_no (n : Nat) : NbC (n, false) = 0 ∧ NbS (n, false) = 0 ∧ NbE (n, false) = 3 := ⟨if_neg Bool.false_ne_true, if_neg Bool.false_ne_true, if_neg Bool.false_ne_true⟩
def nb (c s : Nat) (down : Bool) : Nat × Bool := upK (unit c s) down (K19 c)
/-- before a step nearer to nought there is room for it -/
theorem down_room {x s : Nat} (hx : 0 < x) (hs : s ≤ 18) (h : s = 18 ∨ B34 * 10 ^ (18 - (s + 1)) < x) : 10 ^ (18 - s) ≤ x := by
  rcases h with h | h
  · subst h; exact hx
  · by_cases h18 : s = 18
    · subst h18; exact hx
    · have e : 10 ^ (18 - s) = 10 * 10 ^ (18 - (s + 1)) := by rw [← Nat.pow_succ']; congr 1; omega
      have h2 : 10 * 10 ^ (18 - (s + 1)) ≤ B34 * 10 ^ (18 - (s + 1)) := Nat.mul_le_mul_right _ (by unfold B34; decide)
      omega
theorem bound_units (s : Nat) : B34 * 10 ^ (18 - s) ≤ 10 ^ 52 := by
  have h1 : B34 * 10 ^ (18 - s) ≤ B34 * 10 ^ 18 := Nat.mul_le_mul_left _ (Nat.pow_le_pow_right (by decide) (by omega))
  have h3 : B34 * 10 ^ 18 = 10 ^ 52 := by unfold B34; decide
  rw [h3] at h1
  exact h1
theorem step_le (s : Nat) : 10 ^ (18 - s) ≤ 10 ^ 18 := Nat.pow_le_pow_right (by decide) (by omega)
end Go.Proofs.Ythkgjodidkpaeaa

set_option linter.unusedSimpArgs false
set_option linter.unusedVariables false
namespace Go.Proofs.Ythkgjodidkpaeaa
open Go.RowKit

theorem near_bounds (N d : Nat) (hd : 0 < d) : 2 * N ≤ (2 * near N d + 1) * d ∧ 2 * near N d * d ≤ 2 * N + d := by
  have h1 := Nat.div_add_mod N d
  have h2 := Nat.mod_lt N hd
  have e1 : ∀ x, (2 * x + 1) * d = 2 * (d * x) + d := fun x => by rw [Nat.add_mul, Nat.one_mul, Nat.mul_assoc, Nat.mul_comm x d]
  have e2 : ∀ x, 2 * x * d = 2 * (d * x) := fun x => by rw [Nat.mul_assoc, Nat.mul_comm x d]
  rw [e1, e2]
  unfold near
  split
  · rw [Nat.mul_add, Nat.mul_one]
    generalize d * (N / d) = X at *
    omega
  · rw [Nat.add_zero]
    generalize d * (N / d) = X at *
    omega
theorem near_mono {N M d : Nat} (hd : 0 < d) (h : N ≤ M) : near N d ≤ near M d := by
  rcases Nat.lt_or_ge (near M d) (near N d) with hl | hl
  · exfalso
    have h1 := (near_bounds N d hd).2
    have h2 := (near_bounds M d hd).1
    have h3 : (2 * near M d + 2) * d ≤ 2 * near N d * d := Nat.mul_le_mul_right _ (by omega)
    have e : (2 * near M d + 2) * d = (2 * near M d + 1) * d + d := by rw [Nat.add_mul, Nat.add_mul]; omega
    have : N = M := by omega
    rw [this] at hl; omega
  · exact hl
/-- what does not fit at a scale is great at every lesser one -/
theorem near_great {n d k : Nat} (hd : 0 < d) (hk : 0 < k) (hk34 : k ≤ 34) (h : B34 ≤ near (n * 10 ^ k) d) : B34 ≤ near n d * 10 ^ k := by
  have hPQ : 10 ^ (34 - k) * 10 ^ k = B34 := by unfold B34; rw [← Nat.pow_add]; congr 1; omega
  have hP : 10 ≤ 10 ^ k := by
    calc (10 : Nat) = 10 ^ 1 := rfl
      _ ≤ 10 ^ k := Nat.pow_le_pow_right (by decide) hk
  rcases Nat.lt_or_ge (near n d) (10 ^ (34 - k)) with hz | hz
  · exfalso
    have h1 := (near_bounds (n * 10 ^ k) d hd).2
    have h2 := (near_bounds n d hd).1
    have h3 : 2 * B34 * d ≤ 2 * near (n * 10 ^ k) d * d := Nat.mul_le_mul_right _ (by omega)
    have h4 : 2 * n * 10 ^ k ≤ (2 * near n d + 1) * d * 10 ^ k := Nat.mul_le_mul_right _ h2
    have h5 : (2 * near n d + 1) * d * 10 ^ k + d * 10 ^ k ≤ 2 * 10 ^ (34 - k) * d * 10 ^ k := by
      rw [← Nat.add_mul, show (2 * near n d + 1) * d + d = (2 * near n d + 2) * d by rw [Nat.add_mul, Nat.add_mul]; omega]
      exact Nat.mul_le_mul_right _ (Nat.mul_le_mul_right _ (by omega))
    have h6 : 2 * 10 ^ (34 - k) * d * 10 ^ k = 2 * B34 * d := by rw [← hPQ, Nat.mul_right_comm, Nat.mul_assoc 2]
    have h7 : 2 * (n * 10 ^ k) = 2 * n * 10 ^ k := by rw [Nat.mul_assoc]
    have h8 : d * 10 ≤ d * 10 ^ k := Nat.mul_le_mul_left _ hP
    omega
  · rw [← hPQ]; exact Nat.mul_le_mul_right _ hz
/-- the size in units of 10^-18 of what is fitted -/
def rval (r : Nat × Nat × Int) : Nat := r.1 * 10 ^ (18 - r.2.1)
theorem fit_great {n d s : Nat} (hd : 0 < d) (hs : s ≤ 18) (h : B34 ≤ near (n * 10 ^ s) d) (k : Nat) (hk : k ≤ s) (he : (fitK n d k).2.2 = 0) : B34 * 10 ^ (18 - s) ≤ rval (fitK n d k) := by
  induction k with
  | zero => exact absurd he (show ¬ (3 : Int) = 0 by decide)
  | succ t ih =>
    by_cases ht : near (n * 10 ^ t) d < B34
    · rw [fitK_yes ht]
      unfold rval
      have e1 : n * 10 ^ s = n * 10 ^ t * 10 ^ (s - t) := by rw [Nat.mul_assoc, ← Nat.pow_add]; congr 2; omega
      rw [e1] at h
      have g := near_great hd (by omega) (by omega) h
      have e2 : 10 ^ (18 - t) = 10 ^ (s - t) * 10 ^ (18 - s) := by rw [← Nat.pow_add]; congr 1; omega
      show B34 * 10 ^ (18 - s) ≤ near (n * 10 ^ t) d * 10 ^ (18 - t)
      rw [e2, ← Nat.mul_assoc]
      exact Nat.mul_le_mul_right _ g
    · rw [fitK_no ht] at he ⊢
      exact ih (by omega) he
theorem fit_mono {n m d : Nat} (hd : 0 < d) (h : n ≤ m) (k : Nat) (hk : k ≤ 19) (he : (fitK m d k).2.2 = 0) : (fitK n d k).2.2 = 0 ∧ rval (fitK n d k) ≤ rval (fitK m d k) := by
  induction k with
  | zero => exact absurd he (show ¬ (3 : Int) = 0 by decide)
  | succ s ih =>
    have hm : near (n * 10 ^ s) d ≤ near (m * 10 ^ s) d := near_mono hd (Nat.mul_le_mul_right _ h)
    by_cases h1 : near (m * 10 ^ s) d < B34
    · rw [fitK_yes h1, fitK_yes (Nat.lt_of_le_of_lt hm h1)]
      exact ⟨rfl, Nat.mul_le_mul_right _ hm⟩
    · by_cases h2 : near (n * 10 ^ s) d < B34
      · rw [fitK_yes h2]
        rw [fitK_no h1] at he ⊢
        refine ⟨rfl, ?_⟩
        have g := fit_great hd (by omega) (by omega : B34 ≤ near (m * 10 ^ s) d) s (Nat.le_refl _) he
        exact Nat.le_trans (Nat.mul_le_mul_right _ (Nat.le_of_lt h2)) g
      · rw [fitK_no h1] at he ⊢
        rw [fitK_no h2]
        exact ih (by omega) he
/-- without noughts behind the point it is the same size -/
theorem unit_strip (c s : Nat) (h : s ≤ 18) : unit (stripC c s) (stripS c s) = c * 10 ^ (18 - s) := by
  obtain ⟨e, hl⟩ := strip_val c s
  unfold unit
  have e2 : 10 ^ (18 - stripS c s) = 10 ^ (s - stripS c s) * 10 ^ (18 - s) := by rw [← Nat.pow_add]; congr 1; omega
  rw [e2, ← Nat.mul_assoc, e]
theorem unit_fit (n d : Nat) : unit (FitC n d) (FitS n d) = rval (fitK n d (K19 n)) := by
  obtain ⟨_, h2, _⟩ := fitK_lt n d (K19 n)
  have h19 := K19_eq n
  exact unit_strip _ _ (by omega)
theorem fit_order {n m d : Nat} (hd : 0 < d) (h : n ≤ m) (he : FitE m d = 0) : FitE n d = 0 ∧ unit (FitC n d) (FitS n d) ≤ unit (FitC m d) (FitS m d) := by
  rw [unit_fit, unit_fit]
  have e : K19 m = K19 n := by rw [K19_eq, K19_eq]
  unfold FitE at he ⊢
  rw [e] at he
  rw [e]
  exact fit_mono hd h (K19 n) (by rw [K19_eq]; exact Nat.le_refl _) he
end Go.Proofs.Ythkgjodidkpaeaa

set_option linter.unusedSimpArgs false
set_option linter.unusedVariables false
namespace Go.Proofs.Ythkgjodidkpaeaa
open Go.RowKit

/-- the number in units, with its sign -/
def sval (b : Bool) (u : Nat) : Int := if b = true then -(u : Int) else (u : Int)
def ordS (x y : Int) : Int := if x = y then 0 else if x < y then -1 else 1
theorem ordD_sval {an bn : Bool} {x y : Nat} (ha : x = 0 → an = false) (hb : y = 0 → bn = false) : ordD an x bn y = ordS (sval an x) (sval bn y) := by
  cases an <;> cases bn <;> simp [ordD, ordS, sval, cmpN] at * <;> (repeat' split) <;> omega
theorem sval_sum (an bn : Bool) (x y : Nat) : sval (sgn an x bn y) (sab an x bn y) = sval an x + sval bn y := by
  cases an <;> cases bn <;> simp only [sgn, sab, sval, if_true, if_false, Bool.false_eq_true, reduceCtorEq] <;> (repeat' split) <;> simp_all <;> omega
theorem unit_nil {c s : Nat} : unit c s = 0 ↔ c = 0 := by
  unfold unit
  rw [Nat.mul_eq_zero]
  have : 10 ^ (18 - s) ≠ 0 := Nat.ne_of_gt (Nat.pow_pos (by decide))
  constructor
  · rintro (h | h)
    · exact h
    · exact absurd h this
  · exact .inl
theorem sval_sg (b : Bool) (c s : Nat) : sval (sg b c) (unit c s) = sval b (unit c s) := by
  by_cases h : c = 0
  · rw [h, sg_zero]
    have e : unit 0 s = 0 := unit_nil.2 rfl
    rw [e]; unfold sval; cases b <;> rfl
  · rw [sg_pos h]
theorem sval_neg {b : Bool} {c s : Nat} : sval (sg (!b) c) (unit c s) = -sval b (unit c s) := by
  rw [sval_sg]; unfold sval; cases b <;> simp
theorem ordS_swap (x y : Int) : ordS y x = -ordS x y := by
  unfold ordS; (repeat' split) <;> omega
theorem ordS_neg (x y : Int) : ordS (-y) (-x) = ordS x y := by
  unfold ordS; (repeat' split) <;> omega
theorem ordS_zero (x y : Int) : ordS x y = 0 ↔ x = y := by
  unfold ordS; (repeat' split) <;> omega
/-- one number, one decimal in form -/
theorem unit_inj {c s c' s' : Nat} (hs : s ≤ 18) (hs' : s' ≤ 18) (h : unit c s = unit c' s') (f1 : c = 0 → s = 0) (f2 : s = 0 ∨ c % 10 ≠ 0) (f3 : c' = 0 → s' = 0) (f4 : s' = 0 ∨ c' % 10 ≠ 0) : c = c' ∧ s = s' := by
  have key : ∀ {c s c' s' : Nat}, s < s' → s' ≤ 18 → unit c s = unit c' s' → (s' = 0 ∨ c' % 10 ≠ 0) → False := by
    intro c s c' s' hlt h18 h f4
    unfold unit at h
    rw [show 18 - s = s' - s - 1 + 1 + (18 - s') by omega, Nat.pow_add, ← Nat.mul_assoc] at h
    have e := Nat.eq_of_mul_eq_mul_right (Nat.pow_pos (by decide)) h
    rw [Nat.pow_succ, ← Nat.mul_assoc] at e
    have : c' % 10 = 0 := by rw [← e]; exact Nat.mul_mod_left _ _
    omega
  rcases Nat.lt_trichotomy s s' with hl | he | hg
  · exact (key hl hs' h f4).elim
  · subst he
    exact ⟨Nat.eq_of_mul_eq_mul_right (Nat.pow_pos (by decide)) h, rfl⟩
  · exact (key hg hs h.symm f2).elim
theorem sval_inj {b b' : Bool} {u v : Nat} (h : sval b u = sval b' v) (h1 : u = 0 → b = false) (h2 : v = 0 → b' = false) : b = b' ∧ u = v := by
  cases b <;> cases b' <;> simp [sval] at * <;> omega
/-- what is fitted, in units -/
def fitU (n : Nat) : Nat := unit (FitC n (10 ^ 18)) (FitS n (10 ^ 18))
theorem fitU_nil : fitU 0 = 0 := by
  have h := fitK_lt 0 (10 ^ 18) (K19 0)
  have g := fit_mono (n := 0) (m := 0) (d := 10 ^ 18) (Nat.pow_pos (by decide)) (Nat.le_refl _)
  unfold fitU
  rw [unit_fit]
  have e : ∀ k, rval (fitK 0 (10 ^ 18) k) = 0 := by
    intro k
    induction k with
    | zero => unfold rval fitK; exact Nat.zero_mul _
    | succ s ih =>
      have hn : near (0 * 10 ^ s) (10 ^ 18) = 0 := by
        have := near_exact 0 (10 ^ 18) (Nat.pow_pos (by decide))
        rwa [Nat.zero_mul] at this ⊢
      rw [fitK_yes (by rw [hn]; exact B34_pos), hn]
      unfold rval; exact Nat.zero_mul _
  exact e _
theorem fitU_mono {N M : Bool} {u v : Nat} (hu : FitE u (10 ^ 18) = 0) (hv : FitE v (10 ^ 18) = 0) (h : sval N u ≤ sval M v) : sval N (fitU u) ≤ sval M (fitU v) := by
  have hd : 0 < 10 ^ 18 := Nat.pow_pos (by decide)
  cases N <;> cases M <;> simp only [sval, if_true, if_false, Bool.false_eq_true] at *
  · have := (fit_order hd (show u ≤ v by omega) hv).2
    unfold fitU; omega
  · have e1 : u = 0 := by omega
    have e2 : v = 0 := by omega
    rw [e1, e2, fitU_nil]; decide
  · omega
  · have := (fit_order hd (show v ≤ u by omega) hu).2
    unfold fitU; omega
/-- the order of two sums is the order of what differs, or they are rounded alike -/
theorem sums_order {x y z : Int} {N M : Bool} {u v : Nat} (hN : sval N u = x + z) (hM : sval M v = y + z) (hu : FitE u (10 ^ 18) = 0) (hv : FitE v (10 ^ 18) = 0) :
    ordS (sval N (fitU u)) (sval M (fitU v)) = 0 ∨ ordS (sval N (fitU u)) (sval M (fitU v)) = ordS x y := by
  rcases Int.lt_trichotomy x y with h | h | h
  · have := fitU_mono (N := N) (M := M) hu hv (by omega)
    unfold ordS; (repeat' split) <;> omega
  · have h1 := fitU_mono (N := N) (M := M) hu hv (by omega)
    have h2 := fitU_mono (N := M) (M := N) hv hu (by omega)
    left; unfold ordS; (repeat' split) <;> omega
  · have := fitU_mono (N := M) (M := N) hv hu (by omega)
    unfold ordS; (repeat' split) <;> omega
end Go.Proofs.Ythkgjodidkpaeaa

set_option linter.unusedSimpArgs false
set_option linter.unusedVariables false
namespace Go.Proofs.Ythkgjodidkpaeaa
open Go.RowKit

/-- a size that a decimal has -/
def Rep (X : Nat) : Prop := ∃ k s, s ≤ 18 ∧ k < B34 ∧ X = k * 10 ^ (18 - s)
theorem rep_unit {c s : Nat} (hc : c < B34) (hs : s ≤ 18) : Rep (unit c s) := ⟨c, s, hs, hc, rfl⟩
theorem fitK_exact {k s0 : Nat} (hs : s0 ≤ 18) (hk : k < B34) (j : Nat) (hj : s0 < j) (hj19 : j ≤ 19) :
    (fitK (k * 10 ^ (18 - s0)) (10 ^ 18) j).2.2 = 0 ∧ rval (fitK (k * 10 ^ (18 - s0)) (10 ^ 18) j) = k * 10 ^ (18 - s0) := by
  induction j with
  | zero => omega
  | succ t ih =>
    have e : k * 10 ^ (18 - s0) * 10 ^ t = k * 10 ^ (t - s0) * 10 ^ 18 := by
      rw [Nat.mul_assoc, Nat.mul_assoc, ← Nat.pow_add, ← Nat.pow_add]; congr 2; omega
    have hn : near (k * 10 ^ (18 - s0) * 10 ^ t) (10 ^ 18) = k * 10 ^ (t - s0) := by
      rw [e]; exact near_exact _ _ (Nat.pow_pos (by decide))
    by_cases h : k * 10 ^ (t - s0) < B34
    · rw [fitK_yes (by rw [hn]; exact h), hn]
      refine ⟨rfl, ?_⟩
      show k * 10 ^ (t - s0) * 10 ^ (18 - t) = _
      rw [Nat.mul_assoc, ← Nat.pow_add]; congr 2; omega
    · have ht : s0 < t := by
        rcases Nat.lt_or_ge s0 t with h1 | h1
        · exact h1
        · exfalso; apply h; rw [show t - s0 = 0 by omega, Nat.pow_zero, Nat.mul_one]; exact hk
      rw [fitK_no (by rw [hn]; exact h)]
      exact ih ht (by omega)
theorem fit_rep {X : Nat} (h : Rep X) : FitE X (10 ^ 18) = 0 ∧ fitU X = X := by
  obtain ⟨k, s, hs, hk, rfl⟩ := h
  obtain ⟨h1, h2⟩ := fitK_exact hs hk (K19 (k * 10 ^ (18 - s))) (by rw [K19_eq]; omega) (by rw [K19_eq]; exact Nat.le_refl _)
  refine ⟨h1, ?_⟩
  unfold fitU
  rw [unit_fit]
  exact h2
theorem pow_split {s : Nat} (h : s < 18) : 10 ^ (18 - s) = 10 * 10 ^ (18 - (s + 1)) := by rw [← Nat.pow_succ']; congr 1; omega
theorem B34_ten : B34 = 10 ^ 33 * 10 := by unfold B34; rw [← Nat.pow_succ]
theorem bound_split {s : Nat} (h : s < 18) : B34 * 10 ^ (18 - (s + 1)) = 10 ^ 33 * 10 ^ (18 - s) := by
  rw [pow_split h, B34_ten, Nat.mul_assoc]
theorem rep_dvd {X s : Nat} (h : Rep X) (hr : s = 18 ∨ B34 * 10 ^ (18 - (s + 1)) ≤ X) : 10 ^ (18 - s) ∣ X := by
  obtain ⟨k, t, ht, hk, rfl⟩ := h
  rcases hr with rfl | hr
  · exact ⟨_, by rw [show 18 - 18 = 0 by omega, Nat.pow_zero, Nat.one_mul]⟩
  · rcases Nat.lt_or_ge s t with hl | hl
    · exfalso
      have h1 : 10 ^ (18 - t) ≤ 10 ^ (18 - (s + 1)) := Nat.pow_le_pow_right (by decide) (by omega)
      have h2 := Nat.mul_lt_mul_of_lt_of_le hk h1 (Nat.pow_pos (by decide))
      omega
    · exact Nat.dvd_trans (Nat.pow_dvd_pow 10 (by omega)) (Nat.dvd_mul_left _ _)
theorem step_pos (s : Nat) : 0 < 10 ^ (18 - s) := Nat.pow_pos (by decide)
theorem mul_step_le {X Y d : Nat} (hx : d ∣ X) (hy : d ∣ Y) (h : X < Y) : X + d ≤ Y := by
  obtain ⟨a, rfl⟩ := hx
  obtain ⟨b, rfl⟩ := hy
  have hab : a + 1 ≤ b := Nat.lt_of_mul_lt_mul_left h
  have := Nat.mul_le_mul_left d hab
  rwa [Nat.mul_add, Nat.mul_one] at this
theorem rep_next {X s : Nat} (hs : s ≤ 18) (hd : 10 ^ (18 - s) ∣ X) (hl : X < B34 * 10 ^ (18 - s)) (h0 : s = 0 → X + 10 ^ (18 - s) < B34 * 10 ^ 18) : Rep (X + 10 ^ (18 - s)) := by
  obtain ⟨q, rfl⟩ := hd
  have hq : q < B34 := by
    rw [Nat.mul_comm] at hl
    exact Nat.lt_of_mul_lt_mul_right hl
  have e : 10 ^ (18 - s) * q + 10 ^ (18 - s) = (q + 1) * 10 ^ (18 - s) := by rw [Nat.add_mul, Nat.one_mul, Nat.mul_comm]
  rw [e] at h0 ⊢
  rcases Nat.lt_or_ge (q + 1) B34 with h | h
  · exact ⟨q + 1, s, hs, h, rfl⟩
  · have hB : q + 1 = B34 := by omega
    rw [hB] at h0 ⊢
    have hs0 : s ≠ 0 := by rintro rfl; exact absurd (h0 rfl) (Nat.lt_irrefl _)
    refine ⟨10 ^ 33, s - 1, by omega, ?_, ?_⟩
    · unfold B34; exact Nat.pow_lt_pow_right (by decide) (by decide)
    · have := bound_split (s := s - 1) (by omega)
      rw [show s - 1 + 1 = s by omega] at this
      exact this
theorem rep_prev {X s : Nat} (hs : s ≤ 18) (hd : 10 ^ (18 - s) ∣ X) (hl : X ≤ B34 * 10 ^ (18 - s)) (h0 : 0 < X) : Rep (X - 10 ^ (18 - s)) ∧ 10 ^ (18 - s) ≤ X := by
  obtain ⟨q, rfl⟩ := hd
  have hq : q ≤ B34 := by
    rw [Nat.mul_comm] at hl
    exact Nat.le_of_mul_le_mul_right hl (step_pos s)
  have hq0 : q ≠ 0 := by rintro rfl; exact absurd h0 (by rw [Nat.mul_zero]; exact Nat.lt_irrefl _)
  obtain ⟨t, rfl⟩ : ∃ t, q = t + 1 := ⟨q - 1, by omega⟩
  have e : 10 ^ (18 - s) * (t + 1) = t * 10 ^ (18 - s) + 10 ^ (18 - s) := by rw [Nat.mul_add, Nat.mul_one, Nat.mul_comm]
  rw [e]
  exact ⟨⟨t, s, hs, by omega, Nat.add_sub_cancel _ _⟩, Nat.le_add_left _ _⟩
theorem bound_mono {s t : Nat} (h : s ≤ t) : B34 * 10 ^ (18 - t) ≤ B34 * 10 ^ (18 - s) := Nat.mul_le_mul_left _ (Nat.pow_le_pow_right (by decide) (by omega))
theorem upK_up_spec {X : Nat} (j : Nat) (hj : j ≤ 19) (hr : j = 19 ∨ B34 * 10 ^ (18 - j) ≤ X) :
    (∃ s, s ≤ 18 ∧ upK X false j = (X + 10 ^ (18 - s), true) ∧ X < B34 * 10 ^ (18 - s) ∧ (s = 18 ∨ B34 * 10 ^ (18 - (s + 1)) ≤ X) ∧ (s = 0 → X + 10 ^ (18 - s) < B34 * 10 ^ 18)) ∨
    (upK X false j = (0, false) ∧ B34 * 10 ^ 18 ≤ X + 10 ^ 18) := by
  induction j with
  | zero =>
    right
    rcases hr with h | h
    · omega
    · exact ⟨rfl, Nat.le_trans h (Nat.le_add_right _ _)⟩
  | succ s ih =>
    by_cases h : X < B34 * 10 ^ (18 - s) ∧ (s = 0 → X + 10 ^ (18 - s) < B34 * 10 ^ 18)
    · left
      refine ⟨s, by omega, upK_up h.1 h.2, h.1, ?_, h.2⟩
      rcases hr with hr | hr
      · left; omega
      · right; exact hr
    · rw [upK_up' h]
      by_cases h1 : X < B34 * 10 ^ (18 - s)
      · right
        have h2 : ¬ (s = 0 → X + 10 ^ (18 - s) < B34 * 10 ^ 18) := fun h2 => h ⟨h1, h2⟩
        by_cases hs : s = 0
        · subst hs
          have h3 : ¬ X + 10 ^ (18 - 0) < B34 * 10 ^ 18 := fun h3 => h2 fun _ => h3
          exact ⟨rfl, Nat.le_of_not_lt h3⟩
        · exact absurd (fun h => absurd h hs) h2
      · exact ih (by omega) (.inr (Nat.le_of_not_lt h1))
theorem upK_down_spec {X : Nat} (hX : X ≤ B34 * 10 ^ 18) (j : Nat) (hj : j ≤ 19) (hr : j = 19 ∨ B34 * 10 ^ (18 - j) < X) :
    ∃ s, s ≤ 18 ∧ upK X true j = (X - 10 ^ (18 - s), true) ∧ X ≤ B34 * 10 ^ (18 - s) ∧ (s = 18 ∨ B34 * 10 ^ (18 - (s + 1)) < X) := by
  induction j with
  | zero =>
    rcases hr with h | h
    · omega
    · exact absurd hX (Nat.not_le_of_lt h)
  | succ s ih =>
    by_cases h : X ≤ B34 * 10 ^ (18 - s)
    · refine ⟨s, by omega, upK_down h, h, ?_⟩
      rcases hr with hr | hr
      · left; omega
      · right; exact hr
    · rw [upK_down' h]
      exact ih (by omega) (.inr (Nat.lt_of_not_le h))
theorem upK_down_at {X s : Nat} (hs : s ≤ 18) (h1 : X ≤ B34 * 10 ^ (18 - s)) (h2 : s = 18 ∨ B34 * 10 ^ (18 - (s + 1)) < X) (j : Nat) (hj : j ≤ 19) (hsj : s < j) : upK X true j = (X - 10 ^ (18 - s), true) := by
  induction j with
  | zero => omega
  | succ t ih =>
    by_cases ht : t = s
    · subst ht; exact upK_down h1
    · have hlt : s < t := by omega
      rw [upK_down' (by
        rcases h2 with h2 | h2
        · omega
        · have := bound_mono (show s + 1 ≤ t by omega)
          omega)]
      exact ih (by omega) hlt
theorem upK_up_at {X s : Nat} (hs : s ≤ 18) (h1 : X < B34 * 10 ^ (18 - s)) (h2 : s = 18 ∨ B34 * 10 ^ (18 - (s + 1)) ≤ X) (h3 : s = 0 → X + 10 ^ (18 - s) < B34 * 10 ^ 18) (j : Nat) (hj : j ≤ 19) (hsj : s < j) : upK X false j = (X + 10 ^ (18 - s), true) := by
  induction j with
  | zero => omega
  | succ t ih =>
    by_cases ht : t = s
    · subst ht; exact upK_up h1 h3
    · have hlt : s < t := by omega
      rw [upK_up' (by
        rintro ⟨h4, _⟩
        rcases h2 with h2 | h2
        · omega
        · have := bound_mono (show s + 1 ≤ t by omega)
          omega)]
      exact ih (by omega) hlt
theorem rep_lt {X : Nat} (h : Rep X) : X < B34 * 10 ^ 18 := by
  obtain ⟨k, t, ht, hk, rfl⟩ := h
  exact Nat.mul_lt_mul_of_lt_of_le hk (Nat.pow_le_pow_right (by decide) (by omega)) (Nat.pow_pos (by decide))
/-- the least size above -/
theorem above {X : Nat} (h : Rep X) : (∃ Y, upK X false 19 = (Y, true) ∧ X < Y ∧ Rep Y ∧ upK Y true 19 = (X, true) ∧ ∀ Z, Rep Z → X < Z → Y ≤ Z) ∨ (upK X false 19 = (0, false) ∧ 0 < X) := by
  rcases upK_up_spec (X := X) 19 (Nat.le_refl _) (.inl rfl) with ⟨s, hs, e, h1, h2, h3⟩ | ⟨e, h1⟩
  · left
    have hd := rep_dvd h h2
    have hp := step_pos s
    refine ⟨_, e, by omega, rep_next hs hd h1 h3, ?_, ?_⟩
    · have hb := mul_step_le hd (Nat.dvd_mul_left _ _) h1
      have := upK_down_at (X := X + 10 ^ (18 - s)) hs hb (by
        rcases h2 with h2 | h2
        · exact .inl h2
        · right; omega) 19 (Nat.le_refl _) (by omega)
      rw [this, Nat.add_sub_cancel]
    · intro Z hZ hlt
      exact mul_step_le hd (rep_dvd hZ (by
        rcases h2 with h2 | h2
        · exact .inl h2
        · right; omega)) hlt
  · right
    refine ⟨e, ?_⟩
    have h5 : 1 < B34 := by unfold B34; exact Nat.one_lt_pow (by decide) (by decide)
    omega
/-- the greatest size below -/
theorem below_ {X : Nat} (h : Rep X) (h0 : 0 < X) : ∃ Y, upK X true 19 = (Y, true) ∧ Y < X ∧ Rep Y ∧ upK Y false 19 = (X, true) ∧ ∀ Z, Rep Z → Z < X → Z ≤ Y := by
  obtain ⟨s, hs, e, h1, h2⟩ := upK_down_spec (X := X) (Nat.le_of_lt (rep_lt h)) 19 (Nat.le_refl _) (.inl rfl)
  have h2' : s = 18 ∨ B34 * 10 ^ (18 - (s + 1)) ≤ X := by
    rcases h2 with h2 | h2
    · exact .inl h2
    · right; omega
  have hd := rep_dvd h h2'
  have hp := step_pos s
  obtain ⟨hr, hle⟩ := rep_prev hs hd h1 h0
  have h4 : s = 18 ∨ B34 * 10 ^ (18 - (s + 1)) ≤ X - 10 ^ (18 - s) := by
    by_cases h18 : s = 18
    · exact .inl h18
    · rcases h2 with h2 | h2
      · exact .inl h2
      · right
        have := mul_step_le (by rw [bound_split (by omega)]; exact Nat.dvd_mul_left _ _) hd h2
        omega
  refine ⟨_, e, by omega, hr, ?_, ?_⟩
  · have := upK_up_at (X := X - 10 ^ (18 - s)) hs (by omega) h4 (fun hs0 => by
      have := rep_lt h
      omega) 19 (Nat.le_refl _) (by omega)
    rw [this, Nat.sub_add_cancel hle]
  · intro Z hZ hlt
    by_cases hz : s = 18 ∨ B34 * 10 ^ (18 - (s + 1)) ≤ Z
    · have := mul_step_le (rep_dvd hZ hz) hd hlt
      omega
    · rcases h4 with h4 | h4
      · exact absurd (.inl h4) hz
      · have : ¬ B34 * 10 ^ (18 - (s + 1)) ≤ Z := fun h => hz (.inr h)
        omega
theorem ord_dec {b b' : Bool} {c s c' s' : Nat} (h1 : c = 0 → b = false) (h2 : c' = 0 → b' = false) : ordD b (unit c s) b' (unit c' s') = ordS (sval b (unit c s)) (sval b' (unit c' s')) :=
  ordD_sval (fun h => h1 (unit_nil.1 h)) (fun h => h2 (unit_nil.1 h))
end Go.Proofs.Ythkgjodidkpaeaa

set_option linter.unusedSimpArgs false
set_option linter.unusedVariables false
namespace Go.Proofs.Ythkgjodidkpaeaa
open Go.RowKit

theorem or_two (x b : Int) (hx0 : 0 ≤ x) (hx : x < 18446744073709551616) (hb0 : 0 ≤ b) (hb : b ≤ 1) : bits .or .u64 (IntKind.u64.wrap (x * 2)) b = (2 * x + b) % 18446744073709551616 := by
  obtain ⟨x, rfl⟩ := Int.eq_ofNat_of_zero_le hx0
  obtain ⟨b, rfl⟩ := Int.eq_ofNat_of_zero_le hb0
  have e : IntKind.u64.wrap ((x : Int) * 2) = ((x % 9223372036854775808 * 2 : Nat) : Int) := by rw [IntKind.wrap_u64]; omega
  have h := or_gen 1 (x % 9223372036854775808) b (by omega)
  rw [Nat.pow_one] at h
  rw [e, or_sum _ _ (by omega) (by omega) h]
  omega
theorem dv_hi (R b : Nat) (hR : R < 2 ^ 128) (hb : b < 2) : bits .or .u64 (IntKind.u64.wrap (wd R 1 * 2)) (wd R 0 / 9223372036854775808) = wd ((2 * R + b) % 2 ^ 128) 1 := by
  have h := wd_two hR
  have a0 := wd_nn R 0
  have a1 := wd_lt R 0
  have b0 := wd_nn R 1
  have b1 := wd_lt R 1
  rw [or_two _ _ b0 b1 (by omega) (by omega), wd1 ((2 * R + b) % 2 ^ 128)]
  generalize wd R 0 = x0 at *
  generalize wd R 1 = x1 at *
  omega
theorem dv_lo (R b : Nat) (hR : R < 2 ^ 128) (hb : b < 2) : bits .or .u64 (IntKind.u64.wrap (wd R 0 * 2)) (b : Int) = wd ((2 * R + b) % 2 ^ 128) 0 := by
  have h := wd_two hR
  have a0 := wd_nn R 0
  have a1 := wd_lt R 0
  have b0 := wd_nn R 1
  have b1 := wd_lt R 1
  rw [or_two _ _ a0 a1 (by omega) (by omega), wd0 ((2 * R + b) % 2 ^ 128)]
  generalize wd R 0 = x0 at *
  generalize wd R 1 = x1 at *
  omega
theorem dv_over (R b : Nat) (hR : R < 2 ^ 128) (hb : b < 2) : (wd R 1 / 9223372036854775808 == 1) = decide (2 ^ 128 ≤ 2 * R + b) := by
  have h := wd_two hR
  have a0 := wd_nn R 0
  have a1 := wd_lt R 0
  have b0 := wd_nn R 1
  have b1 := wd_lt R 1
  rw [Bool.eq_iff_iff]
  simp only [beq_iff_eq, decide_eq_true_eq]
  generalize wd R 0 = x0 at *
  generalize wd R 1 = x1 at *
  omega
theorem dv_bit (n j : Nat) : bits .and .u64 (wd n (j / 64) / 2 ^ (j % 64)) 1 = ((n / 2 ^ j % 2 : Nat) : Int) := by
  unfold wd
  have hx : n / 2 ^ (64 * (j / 64)) % 2 ^ 64 < 18446744073709551616 := Nat.mod_lt _ (by decide)
  have hm : j % 64 < 64 := Nat.mod_lt _ (by decide)
  have e2 : n / 2 ^ (64 * (j / 64)) % 2 ^ 64 / 2 ^ (j % 64) % 2 = n / 2 ^ j % 2 := by
    have e1 : 2 ^ 64 = 2 ^ (j % 64) * 2 ^ (64 - j % 64) := by rw [← Nat.pow_add]; congr 1; omega
    have e3 : 2 ^ j = 2 ^ (64 * (j / 64)) * 2 ^ (j % 64) := by rw [← Nat.pow_add]; congr 1; omega
    rw [e1, Nat.mod_mul_right_div_self, Nat.div_div_eq_div_mul, ← e3]
    have hd : 2 ^ 1 ∣ 2 ^ (64 - j % 64) := Nat.pow_dvd_pow 2 (by omega)
    exact Nat.mod_mod_of_dvd _ hd
  rw [← e2]
  generalize n / 2 ^ (64 * (j / 64)) % 2 ^ 64 = x at *
  have e : ((x : Nat) : Int) / 2 ^ (j % 64) = ((x / 2 ^ (j % 64) : Nat) : Int) := by
    rw [Int.natCast_ediv, Int.natCast_pow]; rfl
  have hy : x / 2 ^ (j % 64) ≤ x := Nat.div_le_self _ _
  rw [e]
  generalize x / 2 ^ (j % 64) = y at *
  have h := bits_and_u64_nat y 1 (by omega) (by decide)
  rw [Nat.and_one_is_mod] at h
  have e1 : ((1 : Nat) : Int) = 1 := rfl
  rw [e1] at h
  rw [h]
theorem dv_next (N j : Nat) : N / 2 ^ j = 2 * (N / 2 ^ (j + 1)) + N / 2 ^ j % 2 := by
  rw [Nat.pow_succ, ← Nat.div_div_eq_div_mul]; omega
theorem dv_in (P D b : Nat) (hD : 0 < D) (h : D ≤ 2 * (P % D) + b) (hb : b < 2) : (2 * P + b) / D = 2 * (P / D) + 1 ∧ (2 * P + b) % D = 2 * (P % D) + b - D := by
  have hl := Nat.mod_lt P hD
  have e : 2 * P + b = (2 * (P % D) + b - D) + D * (2 * (P / D) + 1) := by
    have h1 := Nat.div_add_mod P D
    rw [Nat.mul_add, Nat.mul_left_comm]
    omega
  have hr : 2 * (P % D) + b - D < D := by omega
  rw [e, Nat.add_mul_div_left _ _ hD, Nat.div_eq_of_lt hr, Nat.zero_add, Nat.add_mul_mod_self_left, Nat.mod_eq_of_lt hr]
  exact ⟨rfl, rfl⟩
theorem dv_out (P D b : Nat) (hD : 0 < D) (h : 2 * (P % D) + b < D) : (2 * P + b) / D = 2 * (P / D) ∧ (2 * P + b) % D = 2 * (P % D) + b := by
  have e : 2 * P + b = (2 * (P % D) + b) + D * (2 * (P / D)) := by
    have h1 := Nat.div_add_mod P D
    rw [Nat.mul_left_comm]
    omega
  rw [e, Nat.add_mul_div_left _ _ hD, Nat.div_eq_of_lt h, Nat.zero_add, Nat.add_mul_mod_self_left, Nat.mod_eq_of_lt h]
  exact ⟨rfl, rfl⟩
/-- a bit that is not there is set: the word -/
theorem dv_set (Y j : Nat) : bits .or .u64 (wd (Y * 2 ^ (j + 1)) (j / 64)) (IntKind.u64.wrap (2 ^ (j % 64))) = wd (Y * 2 ^ (j + 1)) (j / 64) + 2 ^ (j % 64) ∧ wd (Y * 2 ^ (j + 1)) (j / 64) + 2 ^ (j % 64) < 18446744073709551616 := by
  have hm : j % 64 < 64 := Nat.mod_lt _ (by decide)
  have e0 : 2 ^ (j + 1) = 2 ^ (64 * (j / 64)) * 2 ^ (j % 64 + 1) := by rw [← Nat.pow_add]; congr 1; omega
  have e1 : Y * 2 ^ (j + 1) / 2 ^ (64 * (j / 64)) = Y * 2 ^ (j % 64 + 1) := by
    rw [e0, Nat.mul_left_comm, Nat.mul_div_cancel_left _ (Nat.two_pow_pos _)]
  have e2 : Y * 2 ^ (j % 64 + 1) % 2 ^ 64 = Y % 2 ^ (63 - j % 64) * 2 ^ (j % 64 + 1) := by
    have e3 : (2 : Nat) ^ 64 = 2 ^ (63 - j % 64) * 2 ^ (j % 64 + 1) := by rw [← Nat.pow_add]; congr 1; omega
    rw [e3, Nat.mul_mod_mul_right]
  unfold wd
  rw [e1, e2]
  have hlt : Y % 2 ^ (63 - j % 64) < 2 ^ (63 - j % 64) := Nat.mod_lt _ (Nat.two_pow_pos _)
  have e4 : (2 : Nat) ^ 64 = 2 ^ (63 - j % 64) * 2 ^ (j % 64 + 1) := by rw [← Nat.pow_add]; congr 1; omega
  generalize Y % 2 ^ (63 - j % 64) = a at *
  have h1 : (a + 1) * 2 ^ (j % 64 + 1) ≤ 2 ^ 64 := by rw [e4]; exact Nat.mul_le_mul_right _ hlt
  rw [Nat.add_mul, Nat.one_mul] at h1
  have h2 : (2 : Nat) ^ (j % 64 + 1) = 2 * 2 ^ (j % 64) := by rw [Nat.pow_succ]; omega
  have h3 : (0 : Nat) < 2 ^ (j % 64) := Nat.two_pow_pos _
  have e5 : (2 : Int) ^ (j % 64) = ((2 ^ (j % 64) : Nat) : Int) := by rw [Int.natCast_pow]; rfl
  have hor := or_gen (j % 64 + 1) a (2 ^ (j % 64)) (by omega)
  rw [e5]
  generalize a * 2 ^ (j % 64 + 1) = A at *
  generalize 2 ^ (j % 64) = B at *
  have e6 : IntKind.u64.wrap (B : Int) = (B : Int) := by rw [IntKind.wrap_u64]; omega
  rw [e6, or_sum A B (by omega) (by omega) hor]
  exact ⟨rfl, by omega⟩
theorem dv_cells (Y j : Nat) (hj : j < 256) (h : Y * 2 ^ (j + 1) < 2 ^ 256) :
    (lcells (Y * 2 ^ (j + 1))).set (j / 64) (.int .u64 (bits .or .u64 (wd (Y * 2 ^ (j + 1)) (j / 64)) (IntKind.u64.wrap (2 ^ (j % 64))))) = lcells ((2 * Y + 1) * 2 ^ j) := by
  obtain ⟨e, hlt⟩ := dv_set Y j
  rw [e]
  have h0 := wd_nn (Y * 2 ^ (j + 1)) (j / 64)
  have hp : (0 : Int) < 2 ^ (j % 64) := Int.pow_pos (by decide)
  obtain ⟨V', v1, v2, v3, v4, v5⟩ := lcells_set (Y * 2 ^ (j + 1)) (j / 64) (by omega) h (wd (Y * 2 ^ (j + 1)) (j / 64) + 2 ^ (j % 64)) (by omega) hlt
  rw [v3]
  congr 1
  have e1 : wd (Y * 2 ^ (j + 1)) (j / 64) + 2 ^ (j % 64) - wd (Y * 2 ^ (j + 1)) (j / 64) = ((2 ^ (j % 64) : Nat) : Int) := by
    rw [Int.natCast_pow]; show _ = (2 : Int) ^ (j % 64); omega
  rw [e1, ← Int.natCast_mul, ← Int.natCast_add, ← Nat.pow_add] at v2
  rw [show j % 64 + 64 * (j / 64) = j by omega] at v2
  have e2 : V' = Y * 2 ^ (j + 1) + 2 ^ j := by exact_mod_cast v2
  rw [e2, Nat.pow_succ, Nat.add_mul, Nat.one_mul, Nat.mul_comm (2 ^ j) 2, ← Nat.mul_assoc, Nat.mul_comm Y 2]
theorem dv_zero (Y j : Nat) : Y * 2 ^ (j + 1) = (2 * Y) * 2 ^ j := by
  rw [Nat.pow_succ, Nat.mul_comm (2 ^ j) 2, ← Nat.mul_assoc, Nat.mul_comm Y 2]
theorem dv_q256 {N : Nat} (hN : N < 2 ^ 256) (D j : Nat) : N / 2 ^ (j + 1) / D * 2 ^ (j + 1) < 2 ^ 256 := by
  have h1 : N / 2 ^ (j + 1) / D ≤ N / 2 ^ (j + 1) := Nat.div_le_self _ _
  have h2 : N / 2 ^ (j + 1) / D * 2 ^ (j + 1) ≤ N / 2 ^ (j + 1) * 2 ^ (j + 1) := Nat.mul_le_mul_right _ h1
  exact Nat.lt_of_le_of_lt (Nat.le_trans h2 (Nat.div_mul_le_self _ _)) hN
theorem dv_yes {N D j R b T : Nat} (hD : 0 < D) (eR : R = N / 2 ^ (j + 1) % D) (eb : b = N / 2 ^ j % 2) (eT : T = 2 * R + b) (hb : b < 2) (h : D ≤ T) :
    N / 2 ^ j / D = 2 * (N / 2 ^ (j + 1) / D) + 1 ∧ N / 2 ^ j % D = T - D := by
  have e := dv_next N j
  rw [← eb] at e
  have h2 := dv_in (N / 2 ^ (j + 1)) D b hD (by rw [← eR, ← eT]; exact h) hb
  rw [← eR, ← eT, ← e] at h2
  exact h2
theorem dv_no {N D j R b T : Nat} (hD : 0 < D) (eR : R = N / 2 ^ (j + 1) % D) (eb : b = N / 2 ^ j % 2) (eT : T = 2 * R + b) (h : T < D) :
    N / 2 ^ j / D = 2 * (N / 2 ^ (j + 1) / D) ∧ N / 2 ^ j % D = T := by
  have e := dv_next N j
  rw [← eb] at e
  have h2 := dv_out (N / 2 ^ (j + 1)) D b hD (by rw [← eR, ← eT]; exact h)
  rw [← eR, ← eT, ← e] at h2
  exact h2
end Go.Proofs.Ythkgjodidkpaeaa

set_option linter.unusedSimpArgs false
set_option linter.unusedVariables false
namespace Go.Proofs.Ythkgjodidkpaeaa
open Go.RowKit

theorem dv_less {D T T' R b : Nat} (hD : D < 2 ^ 128) (e1 : T' = T % 2 ^ 128) (hR : R < D) (e2 : T = 2 * R + b) (hb : b < 2) (h : D ≤ T) : lessW T' D = T - D := by
  unfold lessW
  split <;> omega
set_option maxHeartbeats 1000000 in
theorem div_zero (N : Nat) (w : World) : Calls Try.prog 78 #[.agg #[.int .u64 (wd N 0), .int .u64 (wd N 1), .int .u64 (wd N 2), .int .u64 (wd N 3)], .agg #[.int .u64 0, .int .u64 0]] w fun e w' => e = .returned (.tuple #[.agg #[.int .u64 0, .int .u64 0, .int .u64 0, .int .u64 0], .agg #[.int .u64 0, .int .u64 0], .int .i64 4]) ∧ Below w.heap.size w w' := by
  generalize wd N 0 = x0 at *
  generalize wd N 1 = x1 at *
  generalize wd N 2 = x2 at *
  generalize wd N 3 = x3 at *
  go_enter Try.func78, Try.ntmps78
  go_wp2_with fail
  refine bodyPost_ret (by simp [results, Try.results78, go_sem, *]; try rfl) rfl ?_
  exact ⟨rfl, by (repeat' (first | (with_reducible exact Below.refl _ _) | (with_reducible assumption) | (with_reducible refine Below.drew ?_) | (with_reducible refine below_drewN ?_ _) | ((with_reducible refine Below.alloc ?_ ?_ _); rotate_left; focus (go_size; done)) | ((with_reducible refine Below.setCell ?_ ?_ _); rotate_left; focus (go_size; done)) | ((with_reducible refine Below.trans ?_ (Below.mono (by with_reducible assumption) ?_)); rotate_left; focus (go_size; done))))⟩
set_option maxHeartbeats 4000000 in
theorem div_any (N D : Nat) (hN : N < 2 ^ 256) (hD : D < 2 ^ 128) (h0 : D ≠ 0) (w : World) :
    Calls Try.prog 78 #[.agg #[.int .u64 (wd N 0), .int .u64 (wd N 1), .int .u64 (wd N 2), .int .u64 (wd N 3)], .agg #[.int .u64 (wd D 1), .int .u64 (wd D 0)]] w fun e w' => e = .returned (.tuple #[.agg #[.int .u64 (wd (N / D) 0), .int .u64 (wd (N / D) 1), .int .u64 (wd (N / D) 2), .int .u64 (wd (N / D) 3)], .agg #[.int .u64 (wd (N % D) 1), .int .u64 (wd (N % D) 0)], .int .i64 0]) ∧ Below w.heap.size w w' := by
  have g0 : ((wd D 1 == 0) && (wd D 0 == 0)) = false := by
    have e := wd_eq_iff hD (show 0 < 2 ^ 128 by decide)
    rw [wd_zero, wd_zero] at e
    rw [e]; simpa using h0
  have HN := Far.mk hN
  have HD := Far.mk hD
  have H0 : Hid (0 < D) := Lib.hid (by omega)
  clear hN hD h0
  obtain ⟨d1, hd1⟩ : ∃ x, x = wd D 1 := ⟨_, rfl⟩
  obtain ⟨d0, hd0⟩ : ∃ x, x = wd D 0 := ⟨_, rfl⟩
  rw [← hd1, ← hd0] at g0 ⊢
  have q0 := fun W => eq_wide d1 d0 0 0 W
  rw [g0] at q0
  clear g0
  have E1 := Lib.hid hd1
  have E0 := Lib.hid hd0
  clear hd1 hd0
  go_enter Try.func78, Try.ntmps78
  go_wp2_with fail
  go_loopg [9] 256 (fun k i wr => k ≤ 256 ∧ i = .int .i64 ((k : Int) - 1) ∧ Bk wr (w.heap.size + 1 + 1 + 1 + 1) 45 (lcells (N / 2 ^ k / D * 2 ^ k)) ∧
    Bk wr (w.heap.size + 1 + 1 + 1 + 1 + 1) 24 [.int .u64 (wd (N / 2 ^ k % D) 1), .int .u64 (wd (N / 2 ^ k % D) 0)] ∧ Bk wr w.heap.size 45 (lcells N) ∧ Bk wr (w.heap.size + 1) 24 [.int .u64 d1, .int .u64 d0] ∧
    Bk wr (w.heap.size + 1 + 1) 45 [.int .u64 0, .int .u64 0, .int .u64 0, .int .u64 0] ∧ Bk wr (w.heap.size + 1 + 1 + 1) 24 [.int .u64 0, .int .u64 0] ∧ w.heap.size + 6 ≤ wr.heap.size ∧ Below w.heap.size w wr)
  case atStart =>
    refine ⟨Nat.le_refl _, rfl, ?_, ?_, by rw [lcells_eq]; (repeat (first | (with_reducible assumption) | ((with_reducible refine Bk.new_ ?_); (first | rfl | (simp only [World.size_alloc, World.size_setCell, World.size_drew, World.heap_drewN]; done))) | (with_reducible refine Bk.alloc ?_ _) | (with_reducible refine Bk.drew ?_) | (with_reducible refine Bk.drewN ?_ _) | ((with_reducible refine Bk.far ?_ ?_ _); rotate_left; focus (simp only []; omega)) | ((with_reducible refine Bk.below ?_ (by with_reducible assumption) ?_); rotate_left; focus (go_size; done)))), by (repeat (first | (with_reducible assumption) | ((with_reducible refine Bk.new_ ?_); (first | rfl | (simp only [World.size_alloc, World.size_setCell, World.size_drew, World.heap_drewN]; done))) | (with_reducible refine Bk.alloc ?_ _) | (with_reducible refine Bk.drew ?_) | (with_reducible refine Bk.drewN ?_ _) | ((with_reducible refine Bk.far ?_ ?_ _); rotate_left; focus (simp only []; omega)) | ((with_reducible refine Bk.below ?_ (by with_reducible assumption) ?_); rotate_left; focus (go_size; done)))), by (repeat (first | (with_reducible assumption) | ((with_reducible refine Bk.new_ ?_); (first | rfl | (simp only [World.size_alloc, World.size_setCell, World.size_drew, World.heap_drewN]; done))) | (with_reducible refine Bk.alloc ?_ _) | (with_reducible refine Bk.drew ?_) | (with_reducible refine Bk.drewN ?_ _) | ((with_reducible refine Bk.far ?_ ?_ _); rotate_left; focus (simp only []; omega)) | ((with_reducible refine Bk.below ?_ (by with_reducible assumption) ?_); rotate_left; focus (go_size; done)))), by (repeat (first | (with_reducible assumption) | ((with_reducible refine Bk.new_ ?_); (first | rfl | (simp only [World.size_alloc, World.size_setCell, World.size_drew, World.heap_drewN]; done))) | (with_reducible refine Bk.alloc ?_ _) | (with_reducible refine Bk.drew ?_) | (with_reducible refine Bk.drewN ?_ _) | ((with_reducible refine Bk.far ?_ ?_ _); rotate_left; focus (simp only []; omega)) | ((with_reducible refine Bk.below ?_ (by with_reducible assumption) ?_); rotate_left; focus (go_size; done)))), by go_size, by (repeat' (first | (with_reducible exact Below.refl _ _) | (with_reducible assumption) | (with_reducible refine Below.drew ?_) | (with_reducible refine below_drewN ?_ _) | ((with_reducible refine Below.alloc ?_ ?_ _); rotate_left; focus (go_size; done)) | ((with_reducible refine Below.setCell ?_ ?_ _); rotate_left; focus (go_size; done)) | ((with_reducible refine Below.trans ?_ (Below.mono (by with_reducible assumption) ?_)); rotate_left; focus (go_size; done))))⟩
    · rw [Nat.div_eq_of_lt HN.out, Nat.zero_div, Nat.zero_mul]
      show Bk _ _ _ [.int .u64 0, .int .u64 0, .int .u64 0, .int .u64 0]
      (repeat (first | (with_reducible assumption) | ((with_reducible refine Bk.new_ ?_); (first | rfl | (simp only [World.size_alloc, World.size_setCell, World.size_drew, World.heap_drewN]; done))) | (with_reducible refine Bk.alloc ?_ _) | (with_reducible refine Bk.drew ?_) | (with_reducible refine Bk.drewN ?_ _) | ((with_reducible refine Bk.far ?_ ?_ _); rotate_left; focus (simp only []; omega)) | ((with_reducible refine Bk.below ?_ (by with_reducible assumption) ?_); rotate_left; focus (go_size; done))))
    · rw [Nat.div_eq_of_lt HN.out, Nat.zero_mod]
      show Bk _ _ _ [.int .u64 0, .int .u64 0]
      (repeat (first | (with_reducible assumption) | ((with_reducible refine Bk.new_ ?_); (first | rfl | (simp only [World.size_alloc, World.size_setCell, World.size_drew, World.heap_drewN]; done))) | (with_reducible refine Bk.alloc ?_ _) | (with_reducible refine Bk.drew ?_) | (with_reducible refine Bk.drewN ?_ _) | ((with_reducible refine Bk.far ?_ ?_ _); rotate_left; focus (simp only []; omega)) | ((with_reducible refine Bk.below ?_ (by with_reducible assumption) ?_); rotate_left; focus (go_size; done))))
  case round =>
    obtain ⟨hk, rfl, b4, b5, b0, b1, b2, b3, hsz, hbel⟩ := hrel
    have B4 := Lib.hid b4
    have B5 := Lib.hid b5
    have B0 := Lib.hid b0
    have B1 := Lib.hid b1
    have B2 := Lib.hid b2
    have B3 := Lib.hid b3
    clear b4 b5 b0 b1 b2 b3
    (try have : w.heap.size < wr.heap.size := by omega); (try have : w.heap.size + 1 < wr.heap.size := by omega); (try have : w.heap.size + 1 + 1 < wr.heap.size := by omega); (try have : w.heap.size + 1 + 1 + 1 < wr.heap.size := by omega)
    have s4 : w.heap.size + 1 + 1 + 1 + 1 < wr.heap.size := by omega
    have s5 : w.heap.size + 1 + 1 + 1 + 1 + 1 < wr.heap.size := by omega
    by_cases hk0 : gk = 0
    · subst hk0
      have hm : ¬ (0 : Int) ≤ ((0 : Nat) : Int) - 1 := by omega
      rw [Nat.pow_zero, Nat.div_one, Nat.mul_one] at B4
      rw [Nat.pow_zero, Nat.div_one] at B5
      have b4 := B4.out
      rw [lcells_eq] at b4
      have q0 := b4.cell 0 rfl
      have q1 := b4.cell 1 rfl
      have q2 := b4.cell 2 rfl
      have q3 := b4.cell 3 rfl
      have r0 := B5.out.cell 0 rfl
      have r1 := B5.out.cell 1 rfl
      have p0 := B2.out.frozen 0
      have p1 := B2.out.frozen 1
      have p2 := B2.out.frozen 2
      have p3 := B2.out.frozen 3
      have o0 := B3.out.frozen 0
      have o1 := B3.out.frozen 1
      have u0 := B2.out.cell 0 rfl
      have u1 := B2.out.cell 1 rfl
      have u2 := B2.out.cell 2 rfl
      have u3 := B2.out.cell 3 rfl
      have v0 := B3.out.cell 0 rfl
      have v1 := B3.out.cell 1 rfl
      clear b4
      go_wp2_with fail
      go_region
      go_wp2_with fail
      refine bodyPost_ret (by simp [results, Try.results78, go_sem, *]; try rfl) rfl ?_
      exact ⟨rfl, by (repeat' (first | (with_reducible exact Below.refl _ _) | (with_reducible assumption) | (with_reducible refine Below.drew ?_) | (with_reducible refine below_drewN ?_ _) | ((with_reducible refine Below.alloc ?_ ?_ _); rotate_left; focus (go_size; done)) | ((with_reducible refine Below.setCell ?_ ?_ _); rotate_left; focus (go_size; done)) | ((with_reducible refine Below.trans ?_ (Below.mono (by with_reducible assumption) ?_)); rotate_left; focus (go_size; done))))⟩
    · obtain ⟨j, rfl⟩ : ∃ j, gk = j + 1 := ⟨gk - 1, by omega⟩
      have hp : (0 : Int) < ((j + 1 : Nat) : Int) := by omega
      have hx : ((j + 1 : Nat) : Int) - 1 = (j : Int) := by omega
      have j0 : (0 : Int) ≤ (j : Int) := by omega
      have hj : j < 256 := by omega
      obtain ⟨R, hR⟩ : ∃ R, R = N / 2 ^ (j + 1) % D := ⟨_, rfl⟩
      have hRD : R < D := by rw [hR]; exact Nat.mod_lt _ H0.out
      have hRw : R < 2 ^ 128 := Nat.lt_trans hRD HD.out
      obtain ⟨b, hb⟩ : ∃ b, b = N / 2 ^ j % 2 := ⟨_, rfl⟩
      have hb2' : b < 2 := by omega
      have L1 := Lib.hid (dv_hi R b hRw hb2')
      have L0 := Lib.hid (dv_lo R b hRw hb2')
      have LV := Lib.hid (dv_over R b hRw hb2')
      have LB := Lib.hid (dv_bit N j)
      rw [← hb] at LB
      rw [← hR] at B5
      obtain ⟨T, hT⟩ : ∃ T, T = 2 * R + b := ⟨_, rfl⟩
      obtain ⟨T', hT'⟩ : ∃ T', T' = T % 2 ^ 128 := ⟨_, rfl⟩
      rw [← hT, ← hT'] at L1 L0
      rw [← hT] at LV
      have ER := Far.mk hR
      have EB := Far.mk hb
      have ET := Far.mk hT
      have ET' := Far.mk hT'
      have ERD := Far.mk hRD
      have c5 := B5.out.cell 0 rfl
      have c5' := B5.out.cell 1 rfl
      have f5 := B5.out.frozen 0
      have f5' := B5.out.frozen 1
      have c0 : wr.cell? ⟨w.heap.size, j / 64, none⟩ = some (.int .u64 (wd N (j / 64))) := B0.out.cell _ (lcells_at N _ (by omega))
      clear hk0 hR hRD hRw hb hT hT' 
      obtain ⟨x1, hx1⟩ : ∃ x, x = wd R 1 := ⟨_, rfl⟩
      obtain ⟨x0, hx0⟩ : ∃ x, x = wd R 0 := ⟨_, rfl⟩
      rw [← hx1] at c5 L1 LV
      rw [← hx0] at c5' L1 L0
      clear hx1 hx0
      go_wp2_with fail
      go_region
      rw [LB.out, L1.out, L0.out]
      obtain ⟨y1, hy1⟩ : ∃ x, x = wd T' 1 := ⟨_, rfl⟩
      obtain ⟨y0, hy0⟩ : ∃ x, x = wd T' 0 := ⟨_, rfl⟩
      rw [← hy1, ← hy0]
      have m5 : Bk (((wr.setCell ⟨w.heap.size + 1 + 1 + 1 + 1 + 1, 0, none⟩ (.int .u64 y1)).setCell ⟨w.heap.size + 1 + 1 + 1 + 1 + 1, 1, none⟩ (.int .u64 y0)).drew) (w.heap.size + 1 + 1 + 1 + 1 + 1) 24 [.int .u64 y1, .int .u64 y0] := ((B5.out.set_ 0 _).set_ 1 _).drew
      have m4 : Bk (((wr.setCell ⟨w.heap.size + 1 + 1 + 1 + 1 + 1, 0, none⟩ (.int .u64 y1)).setCell ⟨w.heap.size + 1 + 1 + 1 + 1 + 1, 1, none⟩ (.int .u64 y0)).drew) (w.heap.size + 1 + 1 + 1 + 1) 45 (lcells (N / 2 ^ (j + 1) / D * 2 ^ (j + 1))) := ((B4.out.far (by simp only []; omega) _).far (by simp only []; omega) _).drew
      have m0 : Bk (((wr.setCell ⟨w.heap.size + 1 + 1 + 1 + 1 + 1, 0, none⟩ (.int .u64 y1)).setCell ⟨w.heap.size + 1 + 1 + 1 + 1 + 1, 1, none⟩ (.int .u64 y0)).drew) w.heap.size 45 (lcells N) := ((B0.out.far (by simp only []; omega) _).far (by simp only []; omega) _).drew
      have m1 : Bk (((wr.setCell ⟨w.heap.size + 1 + 1 + 1 + 1 + 1, 0, none⟩ (.int .u64 y1)).setCell ⟨w.heap.size + 1 + 1 + 1 + 1 + 1, 1, none⟩ (.int .u64 y0)).drew) (w.heap.size + 1) 24 [.int .u64 d1, .int .u64 d0] := ((B1.out.far (by simp only []; omega) _).far (by simp only []; omega) _).drew
      have m2 : Bk (((wr.setCell ⟨w.heap.size + 1 + 1 + 1 + 1 + 1, 0, none⟩ (.int .u64 y1)).setCell ⟨w.heap.size + 1 + 1 + 1 + 1 + 1, 1, none⟩ (.int .u64 y0)).drew) (w.heap.size + 1 + 1) 45 [.int .u64 0, .int .u64 0, .int .u64 0, .int .u64 0] := ((B2.out.far (by simp only []; omega) _).far (by simp only []; omega) _).drew
      have m3 : Bk (((wr.setCell ⟨w.heap.size + 1 + 1 + 1 + 1 + 1, 0, none⟩ (.int .u64 y1)).setCell ⟨w.heap.size + 1 + 1 + 1 + 1 + 1, 1, none⟩ (.int .u64 y0)).drew) (w.heap.size + 1 + 1 + 1) 24 [.int .u64 0, .int .u64 0] := ((B3.out.far (by simp only []; omega) _).far (by simp only []; omega) _).drew
      have ms : w.heap.size + 6 ≤ (((wr.setCell ⟨w.heap.size + 1 + 1 + 1 + 1 + 1, 0, none⟩ (.int .u64 y1)).setCell ⟨w.heap.size + 1 + 1 + 1 + 1 + 1, 1, none⟩ (.int .u64 y0)).drew).heap.size := by go_size
      have mb : Below w.heap.size w (((wr.setCell ⟨w.heap.size + 1 + 1 + 1 + 1 + 1, 0, none⟩ (.int .u64 y1)).setCell ⟨w.heap.size + 1 + 1 + 1 + 1 + 1, 1, none⟩ (.int .u64 y0)).drew) := by (repeat' (first | (with_reducible exact Below.refl _ _) | (with_reducible assumption) | (with_reducible refine Below.drew ?_) | (with_reducible refine below_drewN ?_ _) | ((with_reducible refine Below.alloc ?_ ?_ _); rotate_left; focus (go_size; done)) | ((with_reducible refine Below.setCell ?_ ?_ _); rotate_left; focus (go_size; done)) | ((with_reducible refine Below.trans ?_ (Below.mono (by with_reducible assumption) ?_)); rotate_left; focus (go_size; done))))
      generalize hw9 : (((wr.setCell ⟨w.heap.size + 1 + 1 + 1 + 1 + 1, 0, none⟩ (.int .u64 y1)).setCell ⟨w.heap.size + 1 + 1 + 1 + 1 + 1, 1, none⟩ (.int .u64 y0)).drew) = w9 at *
      clear hw9
      have M5 := Lib.hid m5
      have M4 := Lib.hid m4
      have M0 := Lib.hid m0
      have M2 := Lib.hid m2
      have M3 := Lib.hid m3
      have M1 := Lib.hid m1
      have cr0 := m5.cell 0 rfl
      have cr1 := m5.cell 1 rfl
      have fr0 := m5.frozen 0
      have fr1 := m5.frozen 1
      have cd0 := m1.cell 0 rfl
      have cd1 := m1.cell 1 rfl
      clear m5 m4 m0 m2 m3 m1 c5 c5' f5 f5' c0
      have hT1 : T' < 2 ^ 128 := by rw [ET'.out]; exact Nat.mod_lt _ (by decide)
      have GT1 := Far.mk hT1
      have EY1 := Lib.hid hy1
      have EY0 := Lib.hid hy0
      clear hT1 hy1 hy0
      obtain ⟨ov, hov⟩ : ∃ ov, ov = x1 / 9223372036854775808 := ⟨_, rfl⟩
      rw [← hov] at LV ⊢
      clear hov
      have HL := Lib.hid (fun W => less_any T' D GT1.out HD.out W)
      rw [← EY1.out, ← EY0.out, ← E1.out, ← E0.out] at HL
      have HC := Lib.hid (fun W => cmp_any T' D GT1.out HD.out W)
      rw [← EY1.out, ← EY0.out, ← E1.out, ← E0.out] at HC
      by_cases hv : (ov == 1) = true
      · go_wp2_with fail
        have hTD : D ≤ T := by
          have h1 := LV.out
          rw [hv] at h1
          have h2 : 2 ^ 128 ≤ T := of_decide_eq_true h1.symm
          exact Nat.le_trans (Nat.le_of_lt HD.out) h2
        have HTD := Far.mk hTD
        clear hTD
        refine (HL.out _).mono ?_
        rintro _ w2 ⟨rfl, hb2⟩
        have hb2s := hb2.size
        have n5 := M5.out.below hb2 (by omega)
        have n4 := M4.out.below hb2 (by omega)
        have n3 := M3.out.below hb2 (by omega)
        have n2 := M2.out.below hb2 (by omega)
        have n1 := M1.out.below hb2 (by omega)
        have n0 := M0.out.below hb2 (by omega)
        have N5 := Lib.hid n5
        have N4 := Lib.hid n4
        have N3 := Lib.hid n3
        have N2 := Lib.hid n2
        have N1 := Lib.hid n1
        have N0 := Lib.hid n0
        have nb : Below w.heap.size w w2 := by (repeat' (first | (with_reducible exact Below.refl _ _) | (with_reducible assumption) | (with_reducible refine Below.drew ?_) | (with_reducible refine below_drewN ?_ _) | ((with_reducible refine Below.alloc ?_ ?_ _); rotate_left; focus (go_size; done)) | ((with_reducible refine Below.setCell ?_ ?_ _); rotate_left; focus (go_size; done)) | ((with_reducible refine Below.trans ?_ (Below.mono (by with_reducible assumption) ?_)); rotate_left; focus (go_size; done))))
        have cr0 := n5.cell 0 rfl
        have cr1 := n5.cell 1 rfl
        have fr0 := n5.frozen 0
        have fr1 := n5.frozen 1
        have cd0 := n1.cell 0 rfl
        have cd1 := n1.cell 1 rfl
        have cq := n4.cell (j / 64) (lcells_at _ _ (by omega))
        have fq := n4.frozen (j / 64)
        have hq4 : j / 64 < 4 := by omega
        clear n5 n4 n3 n2 n1 n0
        go_wp2_with fail
        go_region
        go_wp2_with fail
        go_roundg j
        case measure => omega
        case rel =>
          obtain ⟨q1, q2⟩ := dv_yes H0.out ER.out EB.out ET.out hb2' HTD.out
          have n0 := N0.out
          have n1 := N1.out
          have n2 := N2.out
          have n3 := N3.out
          refine ⟨by omega, rfl, ?_, ?_, by (repeat (first | (with_reducible assumption) | ((with_reducible refine Bk.new_ ?_); (first | rfl | (simp only [World.size_alloc, World.size_setCell, World.size_drew, World.heap_drewN]; done))) | (with_reducible refine Bk.alloc ?_ _) | (with_reducible refine Bk.drew ?_) | (with_reducible refine Bk.drewN ?_ _) | ((with_reducible refine Bk.far ?_ ?_ _); rotate_left; focus (simp only []; omega)) | ((with_reducible refine Bk.below ?_ (by with_reducible assumption) ?_); rotate_left; focus (go_size; done)))), by (repeat (first | (with_reducible assumption) | ((with_reducible refine Bk.new_ ?_); (first | rfl | (simp only [World.size_alloc, World.size_setCell, World.size_drew, World.heap_drewN]; done))) | (with_reducible refine Bk.alloc ?_ _) | (with_reducible refine Bk.drew ?_) | (with_reducible refine Bk.drewN ?_ _) | ((with_reducible refine Bk.far ?_ ?_ _); rotate_left; focus (simp only []; omega)) | ((with_reducible refine Bk.below ?_ (by with_reducible assumption) ?_); rotate_left; focus (go_size; done)))), by (repeat (first | (with_reducible assumption) | ((with_reducible refine Bk.new_ ?_); (first | rfl | (simp only [World.size_alloc, World.size_setCell, World.size_drew, World.heap_drewN]; done))) | (with_reducible refine Bk.alloc ?_ _) | (with_reducible refine Bk.drew ?_) | (with_reducible refine Bk.drewN ?_ _) | ((with_reducible refine Bk.far ?_ ?_ _); rotate_left; focus (simp only []; omega)) | ((with_reducible refine Bk.below ?_ (by with_reducible assumption) ?_); rotate_left; focus (go_size; done)))), by (repeat (first | (with_reducible assumption) | ((with_reducible refine Bk.new_ ?_); (first | rfl | (simp only [World.size_alloc, World.size_setCell, World.size_drew, World.heap_drewN]; done))) | (with_reducible refine Bk.alloc ?_ _) | (with_reducible refine Bk.drew ?_) | (with_reducible refine Bk.drewN ?_ _) | ((with_reducible refine Bk.far ?_ ?_ _); rotate_left; focus (simp only []; omega)) | ((with_reducible refine Bk.below ?_ (by with_reducible assumption) ?_); rotate_left; focus (go_size; done)))), by go_size, by (repeat' (first | (with_reducible exact Below.refl _ _) | (with_reducible assumption) | (with_reducible refine Below.drew ?_) | (with_reducible refine below_drewN ?_ _) | ((with_reducible refine Below.alloc ?_ ?_ _); rotate_left; focus (go_size; done)) | ((with_reducible refine Below.setCell ?_ ?_ _); rotate_left; focus (go_size; done)) | ((with_reducible refine Below.trans ?_ (Below.mono (by with_reducible assumption) ?_)); rotate_left; focus (go_size; done))))⟩
          · rw [q1, ← dv_cells _ _ hj (dv_q256 HN.out D j)]
            exact (((N4.out.far (by simp only []; omega) _).far (by simp only []; omega) _).set_ _ _).drew
          · have e : lessW T' D = T - D := dv_less HD.out ET'.out ERD.out ET.out hb2' HTD.out
            rw [q2, ← e]
            exact (((N5.out.set_ 0 _).set_ 1 _).far (by simp only []; omega) _).drew
      · have hv' : (ov == 1) = false := by simpa using hv
        have hTs : T < 2 ^ 128 := by
          have h1 := LV.out
          rw [hv'] at h1
          have h2 := of_decide_eq_false h1.symm
          omega
        have HTS := Far.mk hTs
        clear hv hTs
        go_wp2_with fail
        refine (HC.out _).mono ?_
        rintro _ w3 ⟨rfl, hb3⟩
        have hb3s := hb3.size
        have M5 := Lib.hid (M5.out.below hb3 (by omega))
        have M4 := Lib.hid (M4.out.below hb3 (by omega))
        have M3 := Lib.hid (M3.out.below hb3 (by omega))
        have M2 := Lib.hid (M2.out.below hb3 (by omega))
        have M1 := Lib.hid (M1.out.below hb3 (by omega))
        have M0 := Lib.hid (M0.out.below hb3 (by omega))
        have mb : Below w.heap.size w w3 := by (repeat' (first | (with_reducible exact Below.refl _ _) | (with_reducible assumption) | (with_reducible refine Below.drew ?_) | (with_reducible refine below_drewN ?_ _) | ((with_reducible refine Below.alloc ?_ ?_ _); rotate_left; focus (go_size; done)) | ((with_reducible refine Below.setCell ?_ ?_ _); rotate_left; focus (go_size; done)) | ((with_reducible refine Below.trans ?_ (Below.mono (by with_reducible assumption) ?_)); rotate_left; focus (go_size; done))))
        have ms : w.heap.size + 6 ≤ w3.heap.size := by omega
        have cr0 := M5.out.cell 0 rfl
        have cr1 := M5.out.cell 1 rfl
        have fr0 := M5.out.frozen 0
        have fr1 := M5.out.frozen 1
        have cd0 := M1.out.cell 0 rfl
        have cd1 := M1.out.cell 1 rfl
        by_cases hge : D ≤ T'
        · have hcc : (0 : Int) ≤ cmpN T' D := by unfold cmpN; split; omega; split; omega; omega
          generalize cmpN T' D = cc at *
          have HTD : Far (D ≤ T) := Far.mk (by rw [ET'.out, Nat.mod_eq_of_lt HTS.out] at hge; exact hge)
          clear hge
          go_wp2_with fail
          refine (HL.out _).mono ?_
          rintro _ w2 ⟨rfl, hb2⟩
          have hb2s := hb2.size
          have n5 := M5.out.below hb2 (by omega)
          have n4 := M4.out.below hb2 (by omega)
          have n3 := M3.out.below hb2 (by omega)
          have n2 := M2.out.below hb2 (by omega)
          have n1 := M1.out.below hb2 (by omega)
          have n0 := M0.out.below hb2 (by omega)
          have N5 := Lib.hid n5
          have N4 := Lib.hid n4
          have N3 := Lib.hid n3
          have N2 := Lib.hid n2
          have N1 := Lib.hid n1
          have N0 := Lib.hid n0
          have nb : Below w.heap.size w w2 := by (repeat' (first | (with_reducible exact Below.refl _ _) | (with_reducible assumption) | (with_reducible refine Below.drew ?_) | (with_reducible refine below_drewN ?_ _) | ((with_reducible refine Below.alloc ?_ ?_ _); rotate_left; focus (go_size; done)) | ((with_reducible refine Below.setCell ?_ ?_ _); rotate_left; focus (go_size; done)) | ((with_reducible refine Below.trans ?_ (Below.mono (by with_reducible assumption) ?_)); rotate_left; focus (go_size; done))))
          have cr0 := n5.cell 0 rfl
          have cr1 := n5.cell 1 rfl
          have fr0 := n5.frozen 0
          have fr1 := n5.frozen 1
          have cd0 := n1.cell 0 rfl
          have cd1 := n1.cell 1 rfl
          have cq := n4.cell (j / 64) (lcells_at _ _ (by omega))
          have fq := n4.frozen (j / 64)
          have hq4 : j / 64 < 4 := by omega
          clear n5 n4 n3 n2 n1 n0
          go_wp2_with fail
          go_region
          go_wp2_with fail
          go_roundg j
          case measure => omega
          case rel =>
            obtain ⟨q1, q2⟩ := dv_yes H0.out ER.out EB.out ET.out hb2' HTD.out
            have n0 := N0.out
            have n1 := N1.out
            have n2 := N2.out
            have n3 := N3.out
            refine ⟨by omega, rfl, ?_, ?_, by (repeat (first | (with_reducible assumption) | ((with_reducible refine Bk.new_ ?_); (first | rfl | (simp only [World.size_alloc, World.size_setCell, World.size_drew, World.heap_drewN]; done))) | (with_reducible refine Bk.alloc ?_ _) | (with_reducible refine Bk.drew ?_) | (with_reducible refine Bk.drewN ?_ _) | ((with_reducible refine Bk.far ?_ ?_ _); rotate_left; focus (simp only []; omega)) | ((with_reducible refine Bk.below ?_ (by with_reducible assumption) ?_); rotate_left; focus (go_size; done)))), by (repeat (first | (with_reducible assumption) | ((with_reducible refine Bk.new_ ?_); (first | rfl | (simp only [World.size_alloc, World.size_setCell, World.size_drew, World.heap_drewN]; done))) | (with_reducible refine Bk.alloc ?_ _) | (with_reducible refine Bk.drew ?_) | (with_reducible refine Bk.drewN ?_ _) | ((with_reducible refine Bk.far ?_ ?_ _); rotate_left; focus (simp only []; omega)) | ((with_reducible refine Bk.below ?_ (by with_reducible assumption) ?_); rotate_left; focus (go_size; done)))), by (repeat (first | (with_reducible assumption) | ((with_reducible refine Bk.new_ ?_); (first | rfl | (simp only [World.size_alloc, World.size_setCell, World.size_drew, World.heap_drewN]; done))) | (with_reducible refine Bk.alloc ?_ _) | (with_reducible refine Bk.drew ?_) | (with_reducible refine Bk.drewN ?_ _) | ((with_reducible refine Bk.far ?_ ?_ _); rotate_left; focus (simp only []; omega)) | ((with_reducible refine Bk.below ?_ (by with_reducible assumption) ?_); rotate_left; focus (go_size; done)))), by (repeat (first | (with_reducible assumption) | ((with_reducible refine Bk.new_ ?_); (first | rfl | (simp only [World.size_alloc, World.size_setCell, World.size_drew, World.heap_drewN]; done))) | (with_reducible refine Bk.alloc ?_ _) | (with_reducible refine Bk.drew ?_) | (with_reducible refine Bk.drewN ?_ _) | ((with_reducible refine Bk.far ?_ ?_ _); rotate_left; focus (simp only []; omega)) | ((with_reducible refine Bk.below ?_ (by with_reducible assumption) ?_); rotate_left; focus (go_size; done)))), by go_size, by (repeat' (first | (with_reducible exact Below.refl _ _) | (with_reducible assumption) | (with_reducible refine Below.drew ?_) | (with_reducible refine below_drewN ?_ _) | ((with_reducible refine Below.alloc ?_ ?_ _); rotate_left; focus (go_size; done)) | ((with_reducible refine Below.setCell ?_ ?_ _); rotate_left; focus (go_size; done)) | ((with_reducible refine Below.trans ?_ (Below.mono (by with_reducible assumption) ?_)); rotate_left; focus (go_size; done))))⟩
            · rw [q1, ← dv_cells _ _ hj (dv_q256 HN.out D j)]
              exact (((N4.out.far (by simp only []; omega) _).far (by simp only []; omega) _).set_ _ _).drew
            · have e : lessW T' D = T - D := dv_less HD.out ET'.out ERD.out ET.out hb2' HTD.out
              rw [q2, ← e]
              exact (((N5.out.set_ 0 _).set_ 1 _).far (by simp only []; omega) _).drew
        · have hcc : ¬ (0 : Int) ≤ cmpN T' D := by unfold cmpN; split; omega; split; omega; omega
          generalize cmpN T' D = cc at *
          have HTD : Far (T < D) := Far.mk (by rw [ET'.out, Nat.mod_eq_of_lt HTS.out] at hge; omega)
          clear hge
          go_wp2_with fail
          go_roundg j
          case measure => omega
          case rel =>
            obtain ⟨q1, q2⟩ := dv_no H0.out ER.out EB.out ET.out HTD.out
            have m0 := M0.out
            have m1 := M1.out
            have m2 := M2.out
            have m3 := M3.out
            refine ⟨by omega, rfl, ?_, ?_, m0, m1, m2, m3, ms, mb⟩
            · rw [q1, ← dv_zero]; exact M4.out
            · have e : T' = T := by rw [ET'.out, Nat.mod_eq_of_lt HTS.out]
              rw [q2, ← e, ← EY1.out, ← EY0.out]; exact M5.out
end Go.Proofs.Ythkgjodidkpaeaa
