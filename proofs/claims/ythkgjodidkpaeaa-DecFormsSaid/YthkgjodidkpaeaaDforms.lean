/- DecForms: for all decimals d, signs and plain numbers n the program's Form, Make, Of and Int and the document's answer the same: the law returns true, and what was handed in reads as it did. No condition. -/
import Derived.Test.YthkgjodidkpaeaaHd
import Derived.Test.YthkgjodidkpaeaaGf
import Derived.Deep.DeepCutAuto
import Derived.ProofKit
import Derived.OpenShut
import Derived.ShutString
import Derived.ChangeOld
import Derived.Below
import Derived.Lib.SmallJoins
set_option linter.unusedSimpArgs false
set_option linter.unusedVariables false
namespace Go.Proofs.Ythkgjodidkpaeaa
open Go.RowKit
open Go.ChangeShapes Go.WideShapes Go.ChangeAt
open Go.ChangeMaps (open_string shut_string)
set_option linter.unusedVariables false
theorem own : ownKnob Try.prog.godebug = none := by kernel_rfl
theorem laidOut : laidOutB Try.prog = true := by kernel_rfl

set_option maxRecDepth 100000 in
set_option maxHeartbeats 8000000 in
theorem forms_walk (b : Bool) (x1 x0 s : Int) (neg : Bool) (n : Int) (f : Bool) (o0 : Bool) (o1 o2 o3 : Int) (n0 : Bool) (n1 n2 n3 e1 : Int) (m0 : Bool) (m1 m2 m3 e2 : Int) (i e3 : Int)
    (H1 : ∀ W, Calls Try.prog 16 #[.agg #[.bool b, .int .u64 x1, .int .u64 x0, .int .i64 s]] W fun e w' => e = .returned (.bool f) ∧ Below W.heap.size W w')
    (H2 : ∀ W, Calls Try.prog 13 #[.agg #[.bool b, .int .u64 x1, .int .u64 x0, .int .i64 s]] W fun e w' => e = .returned (.bool f) ∧ Below W.heap.size W w')
    (H3 : ∀ W, Calls Try.prog 17 #[.int .i64 n] W fun e w' => e = .returned (.agg #[.bool o0, .int .u64 o1, .int .u64 o2, .int .i64 o3]) ∧ Below W.heap.size W w')
    (H4 : ∀ W, Calls Try.prog 18 #[.int .i64 n] W fun e w' => e = .returned (.agg #[.bool o0, .int .u64 o1, .int .u64 o2, .int .i64 o3]) ∧ Below W.heap.size W w')
    (H5 : ∀ W, Calls Try.prog 19 #[.bool neg, .agg #[.int .u64 x1, .int .u64 x0], .int .i64 n] W fun e w' => e = .returned (.tuple #[.agg #[.bool n0, .int .u64 n1, .int .u64 n2, .int .i64 n3], .int .i64 e1]) ∧ Below W.heap.size W w')
    (H6 : ∀ W, Calls Try.prog 20 #[.bool neg, .agg #[.int .u64 x1, .int .u64 x0], .int .i64 n] W fun e w' => e = .returned (.tuple #[.agg #[.bool n0, .int .u64 n1, .int .u64 n2, .int .i64 n3], .int .i64 e1]) ∧ Below W.heap.size W w')
    (H7 : ∀ W, Calls Try.prog 19 #[.bool neg, .agg #[.int .u64 x1, .int .u64 x0], .int .i64 s] W fun e w' => e = .returned (.tuple #[.agg #[.bool m0, .int .u64 m1, .int .u64 m2, .int .i64 m3], .int .i64 e2]) ∧ Below W.heap.size W w')
    (H8 : ∀ W, Calls Try.prog 20 #[.bool neg, .agg #[.int .u64 x1, .int .u64 x0], .int .i64 s] W fun e w' => e = .returned (.tuple #[.agg #[.bool m0, .int .u64 m1, .int .u64 m2, .int .i64 m3], .int .i64 e2]) ∧ Below W.heap.size W w')
    (H9 : ∀ W, Calls Try.prog 21 #[.agg #[.bool b, .int .u64 x1, .int .u64 x0, .int .i64 s]] W fun e w' => e = .returned (.tuple #[.int .i64 i, .int .i64 e3]) ∧ Below W.heap.size W w')
    (H10 : ∀ W, Calls Try.prog 22 #[.agg #[.bool b, .int .u64 x1, .int .u64 x0, .int .i64 s]] W fun e w' => e = .returned (.tuple #[.int .i64 i, .int .i64 e3]) ∧ Below W.heap.size W w')
    (w : World) : Calls Try.prog 4 #[.agg #[.bool b, .int .u64 x1, .int .u64 x0, .int .i64 s], .bool neg, .int .i64 n] w fun e w' => e = .returned (.bool true) ∧ Below w.heap.size w w' := by
  have K1 := Lib.hid H1
  have K2 := Lib.hid H2
  have K3 := Lib.hid H3
  have K4 := Lib.hid H4
  have K5 := Lib.hid H5
  have K6 := Lib.hid H6
  have K7 := Lib.hid H7
  have K8 := Lib.hid H8
  have K9 := Lib.hid H9
  have K10 := Lib.hid H10
  clear H1 H2 H3 H4 H5 H6 H7 H8 H9 H10
  have r1 : ∀ W, (binOp .neq 26 (.agg #[.bool o0, .int .u64 o1, .int .u64 o2, .int .i64 o3]) (.agg #[.bool o0, .int .u64 o1, .int .u64 o2, .int .i64 o3])).run Try.prog W = .ok (.bool false) W := fun W => by rw [neq_dec]; simp
  have r2 : ∀ W, (binOp .eql 26 (.agg #[.bool n0, .int .u64 n1, .int .u64 n2, .int .i64 n3]) (.agg #[.bool n0, .int .u64 n1, .int .u64 n2, .int .i64 n3])).run Try.prog W = .ok (.bool true) W := fun W => by rw [eq_dec]; simp
  have r3 : ∀ W, (binOp .eql 26 (.agg #[.bool m0, .int .u64 m1, .int .u64 m2, .int .i64 m3]) (.agg #[.bool m0, .int .u64 m1, .int .u64 m2, .int .i64 m3])).run Try.prog W = .ok (.bool true) W := fun W => by rw [eq_dec]; simp
  go_enter Try.func4, Try.ntmps4
  go_upto_region 1 with fail
  go_cut [34] (fun s34 wx => s34 = .bool false ∧ Bk wx w.heap.size 26 [.bool b, .int .u64 x1, .int .u64 x0, .int .i64 s] ∧ Below w.heap.size w wx)
  case first =>
    first | (go_region_held3 (fun w' => (w'.cell? ⟨w.heap.size, 0, none⟩ = some (.bool b) ∧ w'.cell? ⟨w.heap.size, 1, none⟩ = some (.int .u64 x1) ∧ w'.cell? ⟨w.heap.size, 2, none⟩ = some (.int .u64 x0) ∧ w'.cell? ⟨w.heap.size, 3, none⟩ = some (.int .i64 s))) (first | (first | (go_keep; done) | (simp [go_sem]; done) | ((try dsimp only); (repeat' apply And.intro) <;> (first | (with_reducible assumption) | ((rw [World.cell?_alloc_lt _ _ _ (by show _ < _; omega)]); go_split_ands; (first | with_reducible assumption | (refine (World.cell?_alloc_lt _ _ _ (by show _ < _; omega)).symm.trans ?_; with_reducible assumption))) | ((rw [World.cell?_setCell_other _ _ _ _ (by intro e; injection e; omega)]); with_reducible assumption) | (go_keep; done) | (simp [go_sem]; done) | (simp (disch := go_size) [*, World.cell?_alloc_some, World.cell?_setCell_far]; done)))) | ((refine ⟨Bk.cell (t := 26) (cs := [.bool b, .int .u64 x1, .int .u64 x0, .int .i64 s]) ?_ 0 rfl, Bk.cell (t := 26) (cs := [.bool b, .int .u64 x1, .int .u64 x0, .int .i64 s]) ?_ 1 rfl, Bk.cell (t := 26) (cs := [.bool b, .int .u64 x1, .int .u64 x0, .int .i64 s]) ?_ 2 rfl, Bk.cell (t := 26) (cs := [.bool b, .int .u64 x1, .int .u64 x0, .int .i64 s]) ?_ 3 rfl⟩) <;> ((repeat (first | (with_reducible assumption) | ((with_reducible refine Bk.new_ ?_); (first | rfl | (simp only [World.size_alloc, World.size_setCell, World.size_drew, World.heap_drewN]; done))) | (with_reducible refine Bk.alloc ?_ _) | (with_reducible refine Bk.drew ?_) | (with_reducible refine Bk.drewN ?_ _) | ((with_reducible refine Bk.far ?_ ?_ _); rotate_left; focus (simp only []; omega)) | ((with_reducible refine Bk.below ?_ (by with_reducible assumption) ?_); rotate_left; focus (go_size; done)))); done))) (first | (go_at_call 11; (with_reducible refine (known_any _).mono ?_); rintro _ w1 ⟨rfl, hb1⟩; have hb1s := hb1.size; (try simp only [World.size_alloc, World.size_setCell, World.size_drew, World.heap_drewN] at hb1s); obtain ⟨hb1c, hb1f⟩ := bcell hb1; (try have : w.heap.size < w1.heap.size := by omega); (try have : w.heap.size + 1 < w1.heap.size := by omega); (try have : w.heap.size + 1 + 1 < w1.heap.size := by omega); (try have : w.heap.size + 1 + 1 + 1 < w1.heap.size := by omega)) | (go_at_call 16; (with_reducible refine (K1.out _).mono ?_); rintro _ w2 ⟨rfl, hb2⟩; have hb2s := hb2.size; (try simp only [World.size_alloc, World.size_setCell, World.size_drew, World.heap_drewN] at hb2s); obtain ⟨hb2c, hb2f⟩ := bcell hb2; (try have : w.heap.size < w2.heap.size := by omega); (try have : w.heap.size + 1 < w2.heap.size := by omega); (try have : w.heap.size + 1 + 1 < w2.heap.size := by omega); (try have : w.heap.size + 1 + 1 + 1 < w2.heap.size := by omega); (try have : w1.heap.size < w2.heap.size := by omega); (try have : w1.heap.size + 1 < w2.heap.size := by omega); (try have : w1.heap.size + 1 + 1 < w2.heap.size := by omega); (try have : w1.heap.size + 1 + 1 + 1 < w2.heap.size := by omega)) | (go_at_call 13; (with_reducible refine (K2.out _).mono ?_); rintro _ w3 ⟨rfl, hb3⟩; have hb3s := hb3.size; (try simp only [World.size_alloc, World.size_setCell, World.size_drew, World.heap_drewN] at hb3s); obtain ⟨hb3c, hb3f⟩ := bcell hb3; (try have : w.heap.size < w3.heap.size := by omega); (try have : w.heap.size + 1 < w3.heap.size := by omega); (try have : w.heap.size + 1 + 1 < w3.heap.size := by omega); (try have : w.heap.size + 1 + 1 + 1 < w3.heap.size := by omega); (try have : w1.heap.size < w3.heap.size := by omega); (try have : w1.heap.size + 1 < w3.heap.size := by omega); (try have : w1.heap.size + 1 + 1 < w3.heap.size := by omega); (try have : w1.heap.size + 1 + 1 + 1 < w3.heap.size := by omega); (try have : w2.heap.size < w3.heap.size := by omega); (try have : w2.heap.size + 1 < w3.heap.size := by omega); (try have : w2.heap.size + 1 + 1 < w3.heap.size := by omega); (try have : w2.heap.size + 1 + 1 + 1 < w3.heap.size := by omega)) | (go_at_call 17; (with_reducible refine (K3.out _).mono ?_); rintro _ w4 ⟨rfl, hb4⟩; have hb4s := hb4.size; (try simp only [World.size_alloc, World.size_setCell, World.size_drew, World.heap_drewN] at hb4s); obtain ⟨hb4c, hb4f⟩ := bcell hb4; (try have : w.heap.size < w4.heap.size := by omega); (try have : w.heap.size + 1 < w4.heap.size := by omega); (try have : w.heap.size + 1 + 1 < w4.heap.size := by omega); (try have : w.heap.size + 1 + 1 + 1 < w4.heap.size := by omega); (try have : w3.heap.size < w4.heap.size := by omega); (try have : w3.heap.size + 1 < w4.heap.size := by omega); (try have : w3.heap.size + 1 + 1 < w4.heap.size := by omega); (try have : w3.heap.size + 1 + 1 + 1 < w4.heap.size := by omega)) | (go_at_call 18; (with_reducible refine (K4.out _).mono ?_); rintro _ w5 ⟨rfl, hb5⟩; have hb5s := hb5.size; (try simp only [World.size_alloc, World.size_setCell, World.size_drew, World.heap_drewN] at hb5s); obtain ⟨hb5c, hb5f⟩ := bcell hb5; (try have : w.heap.size < w5.heap.size := by omega); (try have : w.heap.size + 1 < w5.heap.size := by omega); (try have : w.heap.size + 1 + 1 < w5.heap.size := by omega); (try have : w.heap.size + 1 + 1 + 1 < w5.heap.size := by omega); (try have : w4.heap.size < w5.heap.size := by omega); (try have : w4.heap.size + 1 < w5.heap.size := by omega); (try have : w4.heap.size + 1 + 1 < w5.heap.size := by omega); (try have : w4.heap.size + 1 + 1 + 1 < w5.heap.size := by omega)))) | fail
    all_goals
      go_wp2_with fail
      go_meet
      exact ⟨by first | rfl | simp, by (repeat (first | (with_reducible assumption) | ((with_reducible refine Bk.new_ ?_); (first | rfl | (simp only [World.size_alloc, World.size_setCell, World.size_drew, World.heap_drewN]; done))) | (with_reducible refine Bk.alloc ?_ _) | (with_reducible refine Bk.drew ?_) | (with_reducible refine Bk.drewN ?_ _) | ((with_reducible refine Bk.far ?_ ?_ _); rotate_left; focus (simp only []; omega)) | ((with_reducible refine Bk.below ?_ (by with_reducible assumption) ?_); rotate_left; focus (go_size; done)))), by (repeat' (first | (with_reducible exact Below.refl _ _) | (with_reducible assumption) | (with_reducible refine Below.drew ?_) | (with_reducible refine below_drewN ?_ _) | ((with_reducible refine Below.alloc ?_ ?_ _); rotate_left; focus (go_size; done)) | ((with_reducible refine Below.setCell ?_ ?_ _); rotate_left; focus (go_size; done)) | ((with_reducible refine Below.trans ?_ (Below.mono (by with_reducible assumption) ?_)); rotate_left; focus (go_size; done))))⟩
  case rest =>
    obtain ⟨rfl, ka, kw⟩ := hcut
    have kal := ka.lt
    have ka_0 := ka.cell 0 rfl
    have ka_1 := ka.cell 1 rfl
    have ka_2 := ka.cell 2 rfl
    have ka_3 := ka.cell 3 rfl
    have ka_4 := ka.frozen 0
    have ka_5 := ka.frozen 1
    have ka_6 := ka.frozen 2
    have ka_7 := ka.frozen 3
    go_wp2_with fail
    refine (K5.out _).mono ?_
    rintro _ w2 ⟨rfl, hb2⟩; have hb2s := hb2.size; (try simp only [World.size_alloc, World.size_setCell, World.size_drew, World.heap_drewN] at hb2s); obtain ⟨hb2c, hb2f⟩ := bcell hb2; (try have : w.heap.size < w2.heap.size := by omega); (try have : w.heap.size + 1 < w2.heap.size := by omega); (try have : w.heap.size + 1 + 1 < w2.heap.size := by omega); (try have : w.heap.size + 1 + 1 + 1 < w2.heap.size := by omega)
    have a2 : Bk w2 w.heap.size 26 [.bool b, .int .u64 x1, .int .u64 x0, .int .i64 s] := by (repeat (first | (with_reducible assumption) | ((with_reducible refine Bk.new_ ?_); (first | rfl | (simp only [World.size_alloc, World.size_setCell, World.size_drew, World.heap_drewN]; done))) | (with_reducible refine Bk.alloc ?_ _) | (with_reducible refine Bk.drew ?_) | (with_reducible refine Bk.drewN ?_ _) | ((with_reducible refine Bk.far ?_ ?_ _); rotate_left; focus (simp only []; omega)) | ((with_reducible refine Bk.below ?_ (by with_reducible assumption) ?_); rotate_left; focus (go_size; done))))
    clear ka_0 ka_1 ka_2 ka_3 ka_4 ka_5 ka_6 ka_7
    have a2_0 := a2.cell 0 rfl
    have a2_1 := a2.cell 1 rfl
    have a2_2 := a2.cell 2 rfl
    have a2_3 := a2.cell 3 rfl
    have a2_4 := a2.frozen 0
    have a2_5 := a2.frozen 1
    have a2_6 := a2.frozen 2
    have a2_7 := a2.frozen 3
    have a2l := a2.lt
    clear hb2c hb2f
    go_wp2_with fail
    refine (K6.out _).mono ?_
    rintro _ w3 ⟨rfl, hb3⟩; have hb3s := hb3.size; (try simp only [World.size_alloc, World.size_setCell, World.size_drew, World.heap_drewN] at hb3s); obtain ⟨hb3c, hb3f⟩ := bcell hb3; (try have : w.heap.size < w3.heap.size := by omega); (try have : w.heap.size + 1 < w3.heap.size := by omega); (try have : w.heap.size + 1 + 1 < w3.heap.size := by omega); (try have : w.heap.size + 1 + 1 + 1 < w3.heap.size := by omega)
    have a3 : Bk w3 w.heap.size 26 [.bool b, .int .u64 x1, .int .u64 x0, .int .i64 s] := by (repeat (first | (with_reducible assumption) | ((with_reducible refine Bk.new_ ?_); (first | rfl | (simp only [World.size_alloc, World.size_setCell, World.size_drew, World.heap_drewN]; done))) | (with_reducible refine Bk.alloc ?_ _) | (with_reducible refine Bk.drew ?_) | (with_reducible refine Bk.drewN ?_ _) | ((with_reducible refine Bk.far ?_ ?_ _); rotate_left; focus (simp only []; omega)) | ((with_reducible refine Bk.below ?_ (by with_reducible assumption) ?_); rotate_left; focus (go_size; done))))
    have x3 : Bk w3 w2.heap.size 26 [.bool n0, .int .u64 n1, .int .u64 n2, .int .i64 n3] := by (repeat (first | (with_reducible assumption) | ((with_reducible refine Bk.new_ ?_); (first | rfl | (simp only [World.size_alloc, World.size_setCell, World.size_drew, World.heap_drewN]; done))) | (with_reducible refine Bk.alloc ?_ _) | (with_reducible refine Bk.drew ?_) | (with_reducible refine Bk.drewN ?_ _) | ((with_reducible refine Bk.far ?_ ?_ _); rotate_left; focus (simp only []; omega)) | ((with_reducible refine Bk.below ?_ (by with_reducible assumption) ?_); rotate_left; focus (go_size; done))))
    have x3l := x3.lt
    clear a2_0 a2_1 a2_2 a2_3 a2_4 a2_5 a2_6 a2_7
    have a3_0 := a3.cell 0 rfl
    have a3_1 := a3.cell 1 rfl
    have a3_2 := a3.cell 2 rfl
    have a3_3 := a3.cell 3 rfl
    have a3_4 := a3.frozen 0
    have a3_5 := a3.frozen 1
    have a3_6 := a3.frozen 2
    have a3_7 := a3.frozen 3
    have a3l := a3.lt
    clear hb3c hb3f
    go_wp2_with fail
    refine (K7.out _).mono ?_
    rintro _ w4 ⟨rfl, hb4⟩; have hb4s := hb4.size; (try simp only [World.size_alloc, World.size_setCell, World.size_drew, World.heap_drewN] at hb4s); obtain ⟨hb4c, hb4f⟩ := bcell hb4; (try have : w.heap.size < w4.heap.size := by omega); (try have : w.heap.size + 1 < w4.heap.size := by omega); (try have : w.heap.size + 1 + 1 < w4.heap.size := by omega); (try have : w.heap.size + 1 + 1 + 1 < w4.heap.size := by omega)
    have a4 : Bk w4 w.heap.size 26 [.bool b, .int .u64 x1, .int .u64 x0, .int .i64 s] := by (repeat (first | (with_reducible assumption) | ((with_reducible refine Bk.new_ ?_); (first | rfl | (simp only [World.size_alloc, World.size_setCell, World.size_drew, World.heap_drewN]; done))) | (with_reducible refine Bk.alloc ?_ _) | (with_reducible refine Bk.drew ?_) | (with_reducible refine Bk.drewN ?_ _) | ((with_reducible refine Bk.far ?_ ?_ _); rotate_left; focus (simp only []; omega)) | ((with_reducible refine Bk.below ?_ (by with_reducible assumption) ?_); rotate_left; focus (go_size; done))))
    have x4 : Bk w4 w2.heap.size 26 [.bool n0, .int .u64 n1, .int .u64 n2, .int .i64 n3] := by (repeat (first | (with_reducible assumption) | ((with_reducible refine Bk.new_ ?_); (first | rfl | (simp only [World.size_alloc, World.size_setCell, World.size_drew, World.heap_drewN]; done))) | (with_reducible refine Bk.alloc ?_ _) | (with_reducible refine Bk.drew ?_) | (with_reducible refine Bk.drewN ?_ _) | ((with_reducible refine Bk.far ?_ ?_ _); rotate_left; focus (simp only []; omega)) | ((with_reducible refine Bk.below ?_ (by with_reducible assumption) ?_); rotate_left; focus (go_size; done))))
    have y4 : Bk w4 w3.heap.size 26 [.bool n0, .int .u64 n1, .int .u64 n2, .int .i64 n3] := by (repeat (first | (with_reducible assumption) | ((with_reducible refine Bk.new_ ?_); (first | rfl | (simp only [World.size_alloc, World.size_setCell, World.size_drew, World.heap_drewN]; done))) | (with_reducible refine Bk.alloc ?_ _) | (with_reducible refine Bk.drew ?_) | (with_reducible refine Bk.drewN ?_ _) | ((with_reducible refine Bk.far ?_ ?_ _); rotate_left; focus (simp only []; omega)) | ((with_reducible refine Bk.below ?_ (by with_reducible assumption) ?_); rotate_left; focus (go_size; done))))
    have x4l := x4.lt
    have y4l := y4.lt
    clear a3_0 a3_1 a3_2 a3_3 a3_4 a3_5 a3_6 a3_7
    have a4_0 := a4.cell 0 rfl
    have a4_1 := a4.cell 1 rfl
    have a4_2 := a4.cell 2 rfl
    have a4_3 := a4.cell 3 rfl
    have a4_4 := a4.frozen 0
    have a4_5 := a4.frozen 1
    have a4_6 := a4.frozen 2
    have a4_7 := a4.frozen 3
    have a4l := a4.lt
    clear hb4c hb4f
    go_wp2_with fail
    refine (K8.out _).mono ?_
    rintro _ w5 ⟨rfl, hb5⟩; have hb5s := hb5.size; (try simp only [World.size_alloc, World.size_setCell, World.size_drew, World.heap_drewN] at hb5s); obtain ⟨hb5c, hb5f⟩ := bcell hb5; (try have : w.heap.size < w5.heap.size := by omega); (try have : w.heap.size + 1 < w5.heap.size := by omega); (try have : w.heap.size + 1 + 1 < w5.heap.size := by omega); (try have : w.heap.size + 1 + 1 + 1 < w5.heap.size := by omega)
    have a5 : Bk w5 w.heap.size 26 [.bool b, .int .u64 x1, .int .u64 x0, .int .i64 s] := by (repeat (first | (with_reducible assumption) | ((with_reducible refine Bk.new_ ?_); (first | rfl | (simp only [World.size_alloc, World.size_setCell, World.size_drew, World.heap_drewN]; done))) | (with_reducible refine Bk.alloc ?_ _) | (with_reducible refine Bk.drew ?_) | (with_reducible refine Bk.drewN ?_ _) | ((with_reducible refine Bk.far ?_ ?_ _); rotate_left; focus (simp only []; omega)) | ((with_reducible refine Bk.below ?_ (by with_reducible assumption) ?_); rotate_left; focus (go_size; done))))
    have x5 : Bk w5 w2.heap.size 26 [.bool n0, .int .u64 n1, .int .u64 n2, .int .i64 n3] := by (repeat (first | (with_reducible assumption) | ((with_reducible refine Bk.new_ ?_); (first | rfl | (simp only [World.size_alloc, World.size_setCell, World.size_drew, World.heap_drewN]; done))) | (with_reducible refine Bk.alloc ?_ _) | (with_reducible refine Bk.drew ?_) | (with_reducible refine Bk.drewN ?_ _) | ((with_reducible refine Bk.far ?_ ?_ _); rotate_left; focus (simp only []; omega)) | ((with_reducible refine Bk.below ?_ (by with_reducible assumption) ?_); rotate_left; focus (go_size; done))))
    have y5 : Bk w5 w3.heap.size 26 [.bool n0, .int .u64 n1, .int .u64 n2, .int .i64 n3] := by (repeat (first | (with_reducible assumption) | ((with_reducible refine Bk.new_ ?_); (first | rfl | (simp only [World.size_alloc, World.size_setCell, World.size_drew, World.heap_drewN]; done))) | (with_reducible refine Bk.alloc ?_ _) | (with_reducible refine Bk.drew ?_) | (with_reducible refine Bk.drewN ?_ _) | ((with_reducible refine Bk.far ?_ ?_ _); rotate_left; focus (simp only []; omega)) | ((with_reducible refine Bk.below ?_ (by with_reducible assumption) ?_); rotate_left; focus (go_size; done))))
    have z5 : Bk w5 w4.heap.size 26 [.bool m0, .int .u64 m1, .int .u64 m2, .int .i64 m3] := by (repeat (first | (with_reducible assumption) | ((with_reducible refine Bk.new_ ?_); (first | rfl | (simp only [World.size_alloc, World.size_setCell, World.size_drew, World.heap_drewN]; done))) | (with_reducible refine Bk.alloc ?_ _) | (with_reducible refine Bk.drew ?_) | (with_reducible refine Bk.drewN ?_ _) | ((with_reducible refine Bk.far ?_ ?_ _); rotate_left; focus (simp only []; omega)) | ((with_reducible refine Bk.below ?_ (by with_reducible assumption) ?_); rotate_left; focus (go_size; done))))
    have x5l := x5.lt
    have y5l := y5.lt
    have z5l := z5.lt
    clear a4_0 a4_1 a4_2 a4_3 a4_4 a4_5 a4_6 a4_7
    have a5_0 := a5.cell 0 rfl
    have a5_1 := a5.cell 1 rfl
    have a5_2 := a5.cell 2 rfl
    have a5_3 := a5.cell 3 rfl
    have a5_4 := a5.frozen 0
    have a5_5 := a5.frozen 1
    have a5_6 := a5.frozen 2
    have a5_7 := a5.frozen 3
    have a5l := a5.lt
    clear hb5c hb5f
    go_wp2_with fail
    refine (K9.out _).mono ?_
    rintro _ w6 ⟨rfl, hb6⟩; have hb6s := hb6.size; (try simp only [World.size_alloc, World.size_setCell, World.size_drew, World.heap_drewN] at hb6s); obtain ⟨hb6c, hb6f⟩ := bcell hb6; (try have : w.heap.size < w6.heap.size := by omega); (try have : w.heap.size + 1 < w6.heap.size := by omega); (try have : w.heap.size + 1 + 1 < w6.heap.size := by omega); (try have : w.heap.size + 1 + 1 + 1 < w6.heap.size := by omega)
    have a6 : Bk w6 w.heap.size 26 [.bool b, .int .u64 x1, .int .u64 x0, .int .i64 s] := by (repeat (first | (with_reducible assumption) | ((with_reducible refine Bk.new_ ?_); (first | rfl | (simp only [World.size_alloc, World.size_setCell, World.size_drew, World.heap_drewN]; done))) | (with_reducible refine Bk.alloc ?_ _) | (with_reducible refine Bk.drew ?_) | (with_reducible refine Bk.drewN ?_ _) | ((with_reducible refine Bk.far ?_ ?_ _); rotate_left; focus (simp only []; omega)) | ((with_reducible refine Bk.below ?_ (by with_reducible assumption) ?_); rotate_left; focus (go_size; done))))
    have x6 : Bk w6 w2.heap.size 26 [.bool n0, .int .u64 n1, .int .u64 n2, .int .i64 n3] := by (repeat (first | (with_reducible assumption) | ((with_reducible refine Bk.new_ ?_); (first | rfl | (simp only [World.size_alloc, World.size_setCell, World.size_drew, World.heap_drewN]; done))) | (with_reducible refine Bk.alloc ?_ _) | (with_reducible refine Bk.drew ?_) | (with_reducible refine Bk.drewN ?_ _) | ((with_reducible refine Bk.far ?_ ?_ _); rotate_left; focus (simp only []; omega)) | ((with_reducible refine Bk.below ?_ (by with_reducible assumption) ?_); rotate_left; focus (go_size; done))))
    have y6 : Bk w6 w3.heap.size 26 [.bool n0, .int .u64 n1, .int .u64 n2, .int .i64 n3] := by (repeat (first | (with_reducible assumption) | ((with_reducible refine Bk.new_ ?_); (first | rfl | (simp only [World.size_alloc, World.size_setCell, World.size_drew, World.heap_drewN]; done))) | (with_reducible refine Bk.alloc ?_ _) | (with_reducible refine Bk.drew ?_) | (with_reducible refine Bk.drewN ?_ _) | ((with_reducible refine Bk.far ?_ ?_ _); rotate_left; focus (simp only []; omega)) | ((with_reducible refine Bk.below ?_ (by with_reducible assumption) ?_); rotate_left; focus (go_size; done))))
    have z6 : Bk w6 w4.heap.size 26 [.bool m0, .int .u64 m1, .int .u64 m2, .int .i64 m3] := by (repeat (first | (with_reducible assumption) | ((with_reducible refine Bk.new_ ?_); (first | rfl | (simp only [World.size_alloc, World.size_setCell, World.size_drew, World.heap_drewN]; done))) | (with_reducible refine Bk.alloc ?_ _) | (with_reducible refine Bk.drew ?_) | (with_reducible refine Bk.drewN ?_ _) | ((with_reducible refine Bk.far ?_ ?_ _); rotate_left; focus (simp only []; omega)) | ((with_reducible refine Bk.below ?_ (by with_reducible assumption) ?_); rotate_left; focus (go_size; done))))
    have q6 : Bk w6 w5.heap.size 26 [.bool m0, .int .u64 m1, .int .u64 m2, .int .i64 m3] := by (repeat (first | (with_reducible assumption) | ((with_reducible refine Bk.new_ ?_); (first | rfl | (simp only [World.size_alloc, World.size_setCell, World.size_drew, World.heap_drewN]; done))) | (with_reducible refine Bk.alloc ?_ _) | (with_reducible refine Bk.drew ?_) | (with_reducible refine Bk.drewN ?_ _) | ((with_reducible refine Bk.far ?_ ?_ _); rotate_left; focus (simp only []; omega)) | ((with_reducible refine Bk.below ?_ (by with_reducible assumption) ?_); rotate_left; focus (go_size; done))))
    have x6l := x6.lt
    have y6l := y6.lt
    have z6l := z6.lt
    have q6l := q6.lt
    clear a5_0 a5_1 a5_2 a5_3 a5_4 a5_5 a5_6 a5_7
    have a6_0 := a6.cell 0 rfl
    have a6_1 := a6.cell 1 rfl
    have a6_2 := a6.cell 2 rfl
    have a6_3 := a6.cell 3 rfl
    have a6_4 := a6.frozen 0
    have a6_5 := a6.frozen 1
    have a6_6 := a6.frozen 2
    have a6_7 := a6.frozen 3
    have a6l := a6.lt
    clear hb6c hb6f
    go_wp2_with fail
    refine (K10.out _).mono ?_
    rintro _ w7 ⟨rfl, hb7⟩; have hb7s := hb7.size; (try simp only [World.size_alloc, World.size_setCell, World.size_drew, World.heap_drewN] at hb7s); obtain ⟨hb7c, hb7f⟩ := bcell hb7; (try have : w.heap.size < w7.heap.size := by omega); (try have : w.heap.size + 1 < w7.heap.size := by omega); (try have : w.heap.size + 1 + 1 < w7.heap.size := by omega); (try have : w.heap.size + 1 + 1 + 1 < w7.heap.size := by omega)
    have x7 : Bk w7 w2.heap.size 26 [.bool n0, .int .u64 n1, .int .u64 n2, .int .i64 n3] := by (repeat (first | (with_reducible assumption) | ((with_reducible refine Bk.new_ ?_); (first | rfl | (simp only [World.size_alloc, World.size_setCell, World.size_drew, World.heap_drewN]; done))) | (with_reducible refine Bk.alloc ?_ _) | (with_reducible refine Bk.drew ?_) | (with_reducible refine Bk.drewN ?_ _) | ((with_reducible refine Bk.far ?_ ?_ _); rotate_left; focus (simp only []; omega)) | ((with_reducible refine Bk.below ?_ (by with_reducible assumption) ?_); rotate_left; focus (go_size; done))))
    have y7 : Bk w7 w3.heap.size 26 [.bool n0, .int .u64 n1, .int .u64 n2, .int .i64 n3] := by (repeat (first | (with_reducible assumption) | ((with_reducible refine Bk.new_ ?_); (first | rfl | (simp only [World.size_alloc, World.size_setCell, World.size_drew, World.heap_drewN]; done))) | (with_reducible refine Bk.alloc ?_ _) | (with_reducible refine Bk.drew ?_) | (with_reducible refine Bk.drewN ?_ _) | ((with_reducible refine Bk.far ?_ ?_ _); rotate_left; focus (simp only []; omega)) | ((with_reducible refine Bk.below ?_ (by with_reducible assumption) ?_); rotate_left; focus (go_size; done))))
    have z7 : Bk w7 w4.heap.size 26 [.bool m0, .int .u64 m1, .int .u64 m2, .int .i64 m3] := by (repeat (first | (with_reducible assumption) | ((with_reducible refine Bk.new_ ?_); (first | rfl | (simp only [World.size_alloc, World.size_setCell, World.size_drew, World.heap_drewN]; done))) | (with_reducible refine Bk.alloc ?_ _) | (with_reducible refine Bk.drew ?_) | (with_reducible refine Bk.drewN ?_ _) | ((with_reducible refine Bk.far ?_ ?_ _); rotate_left; focus (simp only []; omega)) | ((with_reducible refine Bk.below ?_ (by with_reducible assumption) ?_); rotate_left; focus (go_size; done))))
    have q7 : Bk w7 w5.heap.size 26 [.bool m0, .int .u64 m1, .int .u64 m2, .int .i64 m3] := by (repeat (first | (with_reducible assumption) | ((with_reducible refine Bk.new_ ?_); (first | rfl | (simp only [World.size_alloc, World.size_setCell, World.size_drew, World.heap_drewN]; done))) | (with_reducible refine Bk.alloc ?_ _) | (with_reducible refine Bk.drew ?_) | (with_reducible refine Bk.drewN ?_ _) | ((with_reducible refine Bk.far ?_ ?_ _); rotate_left; focus (simp only []; omega)) | ((with_reducible refine Bk.below ?_ (by with_reducible assumption) ?_); rotate_left; focus (go_size; done))))
    clear a6_0 a6_1 a6_2 a6_3 a6_4 a6_5 a6_6 a6_7
    have x7_0 := x7.cell 0 rfl
    have x7_1 := x7.cell 1 rfl
    have x7_2 := x7.cell 2 rfl
    have x7_3 := x7.cell 3 rfl
    have x7_4 := x7.frozen 0
    have x7_5 := x7.frozen 1
    have x7_6 := x7.frozen 2
    have x7_7 := x7.frozen 3
    have x7l := x7.lt
    have y7_0 := y7.cell 0 rfl
    have y7_1 := y7.cell 1 rfl
    have y7_2 := y7.cell 2 rfl
    have y7_3 := y7.cell 3 rfl
    have y7_4 := y7.frozen 0
    have y7_5 := y7.frozen 1
    have y7_6 := y7.frozen 2
    have y7_7 := y7.frozen 3
    have y7l := y7.lt
    have z7_0 := z7.cell 0 rfl
    have z7_1 := z7.cell 1 rfl
    have z7_2 := z7.cell 2 rfl
    have z7_3 := z7.cell 3 rfl
    have z7_4 := z7.frozen 0
    have z7_5 := z7.frozen 1
    have z7_6 := z7.frozen 2
    have z7_7 := z7.frozen 3
    have z7l := z7.lt
    have q7_0 := q7.cell 0 rfl
    have q7_1 := q7.cell 1 rfl
    have q7_2 := q7.cell 2 rfl
    have q7_3 := q7.cell 3 rfl
    have q7_4 := q7.frozen 0
    have q7_5 := q7.frozen 1
    have q7_6 := q7.frozen 2
    have q7_7 := q7.frozen 3
    have q7l := q7.lt
    clear hb7c hb7f
    go_wp2_with fail
    go_ret
    exact ⟨by first | rfl | simp, by (repeat' (first | (with_reducible exact Below.refl _ _) | (with_reducible assumption) | (with_reducible refine Below.drew ?_) | (with_reducible refine below_drewN ?_ _) | ((with_reducible refine Below.alloc ?_ ?_ _); rotate_left; focus (go_size; done)) | ((with_reducible refine Below.setCell ?_ ?_ _); rotate_left; focus (go_size; done)) | ((with_reducible refine Below.trans ?_ (Below.mono (by with_reducible assumption) ?_)); rotate_left; focus (go_size; done))))⟩
theorem walk_DecForms (b : Bool) (a0 a1 a2 : Int) (h0 : (Lit.int .u64 a0).wf = true) (h1 : (Lit.int .u64 a1).wf = true) (h2 : (Lit.int .i64 a2).wf = true) (neg : Bool) (n : Int) (hn : (Lit.int .i64 n).wf = true) (w : World) :
    Calls Try.prog 4 #[.agg #[.bool b, .int .u64 a0, .int .u64 a1, .int .i64 a2], .bool neg, .int .i64 n] w fun e w' => e = .returned (.bool true) ∧ Below w.heap.size w w' := by
  obtain ⟨g0, g1⟩ := wf_word h0
  obtain ⟨g2, g3⟩ := wf_word h1
  have hn2 : -9223372036854775808 ≤ n ∧ n ≤ 9223372036854775807 := by have := bounds_i64 hn; omega
  obtain ⟨c, hc, _, rfl, rfl⟩ := wd_make a0 a1 g0 g1 g2 g3
  clear g0 g1 g2 g3 h0 h1 h2 hn
  have key : ∀ k : Int, ∃ (n0 : Bool) (n1 n2 n3 e : Int), (∀ W, Calls Try.prog 19 #[.bool neg, .agg #[.int .u64 (wd c 1), .int .u64 (wd c 0)], .int .i64 k] W fun e' w' => e' = .returned (.tuple #[.agg #[.bool n0, .int .u64 n1, .int .u64 n2, .int .i64 n3], .int .i64 e]) ∧ Below W.heap.size W w') ∧
      (∀ W, Calls Try.prog 20 #[.bool neg, .agg #[.int .u64 (wd c 1), .int .u64 (wd c 0)], .int .i64 k] W fun e' w' => e' = .returned (.tuple #[.agg #[.bool n0, .int .u64 n1, .int .u64 n2, .int .i64 n3], .int .i64 e]) ∧ Below W.heap.size W w') := by
    intro k
    by_cases hk : k < 0 ∨ 60 < k
    · exact ⟨_, _, _, _, _, fun W => docmake_bad neg c k hk W, fun W => make_bad neg c k hk W⟩
    · obtain ⟨t, rfl⟩ : ∃ t : Nat, k = (t : Int) := ⟨k.toNat, by omega⟩
      exact ⟨_, _, _, _, _, fun W => docmake_ok neg c t hc (by omega) W, fun W => make_ok neg c t hc (by omega) W⟩
  obtain ⟨n0, n1, n2, n3, e1, k1, k2⟩ := key n
  obtain ⟨m0, m1, m2, m3, e2, k3, k4⟩ := key a2
  exact forms_walk _ _ _ _ _ _ _ _ _ _ _ _ _ _ _ _ _ _ _ _ _ _ _ (fun W => form_any b c a2 hc W) (fun W => rform_any b c a2 hc W) (fun W => of2_any n hn2 W) (fun W => docof_any n hn2 W) k1 k2 k3 k4 (fun W => docint_any b c a2 hc W) (fun W => int_any b c a2 hc W) w

set_option maxRecDepth 100000 in
theorem lifted_DecForms (os : Os) (started : os.Started) (H : Type) (enc : TypeId × Value → H) :
    ReturnsInHanded {} Try.checked os 4 .any (Rows.decFormsSpec.pre6 enc Try.prog Try.f4 Rows.decFormsRow.domain false) (Rows.decFormsSpec.post enc Try.prog Try.f4 false true false false) := by
  refine returnsInHanded_of_change (C := Try.checked) own started (by kernel_rfl) Try.func4
    (ChangeSpec.witness6 (enc := enc) (C := Try.checked) false ⟨#[], #[.agg #[.bool false, .int .u64 0, .int .u64 0, .int .i64 0], .bool false, .int .i64 0], []⟩ 8 (by kernel_rfl) (by kernel_rfl) (by kernel_rfl) (by kernel_rfl)) ?_
  intro W base args ds gs before hval0 hW hcnd _
  have hval : ∀ (j : Nat) t v, Try.f4.params[j]? = some t → args[j]? = some v → Value.okWide Try.prog W .any base t v := hval0
  have hW' := hW
  obtain ⟨p, q, hA0, hV, rfl, hfz, hnd⟩ := hW
  have hA : DataW.TrodAll enc Try.prog W 0 (fun _ => true) true Try.f4.params.toList args.toList ds p := hA0
  rw [Try.params4] at hA hval
  obtain ⟨v0, vs0, d0, ds0, p0, q0, hargs0, rfl, rfl, h0, r0⟩ := trodAll_cons hA
  obtain ⟨v1, vs1, d1, ds1, p1, q1, hargs1, rfl, rfl, h1, r1⟩ := trodAll_cons r0
  obtain ⟨v2, vs2, d2, ds2, p2, q2, hargs2, rfl, rfl, h2, r2⟩ := trodAll_cons r1
  obtain ⟨rfl, rfl, rfl⟩ := trodAll_nil r2
  obtain rfl : args = #[v0, v1, v2] := by cases args; simp_all
  obtain ⟨rfl, rfl⟩ := trodVars_none hV
  have k0 := h0
  have lt0 : ∀ x ∈ p0, x.block < W.heap.size := by obtain ⟨m, hm⟩ := k0; exact DataW.trod_lt m _ _ _ hm
  have k1 := h1
  have lt1 : ∀ x ∈ p1, x.block < W.heap.size := by obtain ⟨m, hm⟩ := k1; exact DataW.trod_lt m _ _ _ hm
  have k2 := h2
  have lt2 : ∀ x ∈ p2, x.block < W.heap.size := by obtain ⟨m, hm⟩ := k2; exact DataW.trod_lt m _ _ _ hm
  obtain ⟨b0, a00, a01, a02, rfl, w00, w01, w02⟩ := open_dec (hval 0 26 v0 rfl rfl) h0
  obtain ⟨a1, rfl, rfl, rfl⟩ := open_bool Try.underlying4 (hval 1 4 v1 rfl rfl) h1
  obtain ⟨a2, rfl, rfl, rfl, w2⟩ := open_int Try.underlying3 (hval 2 3 v2 rfl rfl) h2
  clear hA0 hval0
  refine (walk_DecForms b0 a00 a01 a02 w00 w01 w02 a1 a2 w2 W).mono fun e W' ⟨he, bel⟩ => ?_
  subst he
  exact ⟨_, rfl, _, _, _, [], _, [], hW', trodAll_mk1 (shut_bool Try.underlying4 _), (trodAll_cons_mk (Below.trod laidOut (by kernel_rfl) (of_decide_eq_true (by kernel_rfl)) k0 bel lt0) (trodAll_cons_mk (Below.trod laidOut (by kernel_rfl) (of_decide_eq_true (by kernel_rfl)) k1 bel lt1) (trodAll_cons_mk (Below.trod laidOut (by kernel_rfl) (of_decide_eq_true (by kernel_rfl)) k2 bel lt2) trodAll_mk0))), rfl, bel.frame _, fun h => by cases h⟩

theorem DecForms_holds : Rows.DecFormsSaid :=
  OpenClaim.holds_of_wide 4 Try.f4 rfl rfl rfl rfl rfl rfl rfl ⟨rfl, rfl, rfl, rfl, rfl⟩ rfl rfl rfl rfl rfl (by kernel_rfl) Try.func4 (by kernel_rfl)
    (of_decide_eq_true (by kernel_rfl)) (by unfold Func.isWrapper; first | (rw [if_pos (by decide +kernel)]; kernel_rfl) | (rw [if_neg (by decide +kernel)]; exact ⟨rfl, rfl⟩))
    (fun os started H enc _ => lifted_DecForms os started H enc)
#print axioms DecForms_holds
end Go.Proofs.Ythkgjodidkpaeaa
