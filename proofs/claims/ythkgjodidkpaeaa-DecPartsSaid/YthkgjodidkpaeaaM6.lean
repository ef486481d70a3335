/- The contracts of the functions that the law reaches, part 6: what each returns and what becomes of memory. -/
import Derived.Test.YthkgjodidkpaeaaM5
set_option linter.unusedSimpArgs false
set_option linter.unusedVariables false
namespace Go.Proofs.Ythkgjodidkpaeaa
open Go.RowKit

set_option maxHeartbeats 2000000 in
theorem make_bad (neg : Bool) (c : Nat) (s : Int) (hs : s < 0 ∨ 60 < s) (w : World) : Calls Try.prog 20 #[.bool neg, .agg #[.int .u64 (wd c 1), .int .u64 (wd c 0)], .int .i64 s] w fun e w' => e = .returned (.tuple #[.agg #[.bool false, .int .u64 0, .int .u64 0, .int .i64 0], .int .i64 1]) ∧ Below w.heap.size w w' := by
  generalize wd c 0 = x0 at *
  generalize wd c 1 = x1 at *
  rcases hs with hs | hs
  · go_enter Try.func20, Try.ntmps20
    go_wp2_with fail
    refine bodyPost_ret (by simp [results, Try.results20, go_sem, *]; try rfl) rfl ?_
    exact ⟨rfl, by (repeat' (first | (with_reducible exact Below.refl _ _) | (with_reducible assumption) | (with_reducible refine Below.drew ?_) | (with_reducible refine below_drewN ?_ _) | ((with_reducible refine Below.alloc ?_ ?_ _); rotate_left; focus (go_size; done)) | ((with_reducible refine Below.setCell ?_ ?_ _); rotate_left; focus (go_size; done)) | ((with_reducible refine Below.trans ?_ (Below.mono (by with_reducible assumption) ?_)); rotate_left; focus (go_size; done))))⟩
  · have h0 : ¬ s < 0 := by omega
    go_enter Try.func20, Try.ntmps20
    go_wp2_with fail
    refine bodyPost_ret (by simp [results, Try.results20, go_sem, *]; try rfl) rfl ?_
    exact ⟨rfl, by (repeat' (first | (with_reducible exact Below.refl _ _) | (with_reducible assumption) | (with_reducible refine Below.drew ?_) | (with_reducible refine below_drewN ?_ _) | ((with_reducible refine Below.alloc ?_ ?_ _); rotate_left; focus (go_size; done)) | ((with_reducible refine Below.setCell ?_ ?_ _); rotate_left; focus (go_size; done)) | ((with_reducible refine Below.trans ?_ (Below.mono (by with_reducible assumption) ?_)); rotate_left; focus (go_size; done))))⟩
set_option maxHeartbeats 2000000 in
theorem docmake_bad (neg : Bool) (c : Nat) (s : Int) (hs : s < 0 ∨ 60 < s) (w : World) : Calls Try.prog 19 #[.bool neg, .agg #[.int .u64 (wd c 1), .int .u64 (wd c 0)], .int .i64 s] w fun e w' => e = .returned (.tuple #[.agg #[.bool false, .int .u64 0, .int .u64 0, .int .i64 0], .int .i64 1]) ∧ Below w.heap.size w w' := by
  generalize wd c 0 = x0 at *
  generalize wd c 1 = x1 at *
  rcases hs with hs | hs
  · go_enter Try.func19, Try.ntmps19
    go_wp2_with fail
    refine bodyPost_ret (by simp [results, Try.results19, go_sem, *]; try rfl) rfl ?_
    exact ⟨rfl, by (repeat' (first | (with_reducible exact Below.refl _ _) | (with_reducible assumption) | (with_reducible refine Below.drew ?_) | (with_reducible refine below_drewN ?_ _) | ((with_reducible refine Below.alloc ?_ ?_ _); rotate_left; focus (go_size; done)) | ((with_reducible refine Below.setCell ?_ ?_ _); rotate_left; focus (go_size; done)) | ((with_reducible refine Below.trans ?_ (Below.mono (by with_reducible assumption) ?_)); rotate_left; focus (go_size; done))))⟩
  · have h0 : ¬ s < 0 := by omega
    go_enter Try.func19, Try.ntmps19
    go_wp2_with fail
    refine bodyPost_ret (by simp [results, Try.results19, go_sem, *]; try rfl) rfl ?_
    exact ⟨rfl, by (repeat' (first | (with_reducible exact Below.refl _ _) | (with_reducible assumption) | (with_reducible refine Below.drew ?_) | (with_reducible refine below_drewN ?_ _) | ((with_reducible refine Below.alloc ?_ ?_ _); rotate_left; focus (go_size; done)) | ((with_reducible refine Below.setCell ?_ ?_ _); rotate_left; focus (go_size; done)) | ((with_reducible refine Below.trans ?_ (Below.mono (by with_reducible assumption) ?_)); rotate_left; focus (go_size; done))))⟩
set_option maxHeartbeats 2000000 in
theorem make_ok (neg : Bool) (c s : Nat) (hc : c < 2 ^ 128) (hs : s ≤ 60) (w : World) : Calls Try.prog 20 #[.bool neg, .agg #[.int .u64 (wd c 1), .int .u64 (wd c 0)], .int .i64 s] w fun e w' => e = .returned (.tuple #[.agg #[.bool (sg neg (FitC (c) (10 ^ s))), .int .u64 (wd (FitC (c) (10 ^ s)) 1), .int .u64 (wd (FitC (c) (10 ^ s)) 0), .int .i64 (FitS (c) (10 ^ s))], .int .i64 (FitE c (10 ^ s))]) ∧ Below w.heap.size w w' := by
  have HL := Lib.hid (fun W => long_any c hc W)
  have HT := Lib.hid (fun W => fit_any neg c s (Nat.lt_trans hc (by decide)) (by omega) W)
  have s0 : (0 : Int) ≤ (s : Int) := by omega
  have s1 : (s : Int) ≤ 60 := by omega
  generalize FitC c (10 ^ s) = C at *
  generalize FitS c (10 ^ s) = S at *
  generalize FitE c (10 ^ s) = E at *
  generalize wd c 0 = x0 at *
  generalize wd c 1 = x1 at *
  generalize wd c 2 = x2 at *
  generalize wd c 3 = x3 at *
  clear hc
  go_enter Try.func20, Try.ntmps20
  go_wp2_with fail
  refine (HL.out _).mono ?_
  rintro _ w1 ⟨rfl, hb1⟩; have hb1s := hb1.size; (try simp only [World.size_alloc, World.size_setCell, World.size_drew, World.heap_drewN] at hb1s); obtain ⟨hb1c, hb1f⟩ := bcell hb1; (try have : w.heap.size < w1.heap.size := by omega); (try have : w.heap.size + 1 < w1.heap.size := by omega); (try have : w.heap.size + 1 + 1 < w1.heap.size := by omega); (try have : w.heap.size + 1 + 1 + 1 < w1.heap.size := by omega)
  have kr : Bk w1 (w.heap.size + 1) 26 [.bool false, .int .u64 0, .int .u64 0, .int .i64 0] := by (repeat (first | (with_reducible assumption) | ((with_reducible refine Bk.new_ ?_); (first | rfl | (simp only [World.size_alloc, World.size_setCell, World.size_drew, World.heap_drewN]; done))) | (with_reducible refine Bk.alloc ?_ _) | (with_reducible refine Bk.drew ?_) | (with_reducible refine Bk.drewN ?_ _) | ((with_reducible refine Bk.far ?_ ?_ _); rotate_left; focus (simp only []; omega)) | ((with_reducible refine Bk.below ?_ (by with_reducible assumption) ?_); rotate_left; focus (go_size; done))))
  clear hb1c hb1f
  have krl := kr.lt
  go_wp2_with fail
  refine (HT.out _).mono ?_
  rintro _ w2 ⟨rfl, hb2⟩; have hb2s := hb2.size; (try simp only [World.size_alloc, World.size_setCell, World.size_drew, World.heap_drewN] at hb2s); obtain ⟨hb2c, hb2f⟩ := bcell hb2; (try have : w.heap.size < w2.heap.size := by omega); (try have : w.heap.size + 1 < w2.heap.size := by omega); (try have : w.heap.size + 1 + 1 < w2.heap.size := by omega); (try have : w.heap.size + 1 + 1 + 1 < w2.heap.size := by omega)
  have jr : Bk w2 (w.heap.size + 1) 26 [.bool false, .int .u64 0, .int .u64 0, .int .i64 0] := by (repeat (first | (with_reducible assumption) | ((with_reducible refine Bk.new_ ?_); (first | rfl | (simp only [World.size_alloc, World.size_setCell, World.size_drew, World.heap_drewN]; done))) | (with_reducible refine Bk.alloc ?_ _) | (with_reducible refine Bk.drew ?_) | (with_reducible refine Bk.drewN ?_ _) | ((with_reducible refine Bk.far ?_ ?_ _); rotate_left; focus (simp only []; omega)) | ((with_reducible refine Bk.below ?_ (by with_reducible assumption) ?_); rotate_left; focus (go_size; done))))
  have jr_0 := jr.cell 0 rfl
  have jr_1 := jr.cell 1 rfl
  have jr_2 := jr.cell 2 rfl
  have jr_3 := jr.cell 3 rfl
  have jr_4 := jr.frozen 0
  have jr_5 := jr.frozen 1
  have jr_6 := jr.frozen 2
  have jr_7 := jr.frozen 3
  clear hb2c hb2f
  go_wp2_with fail
  refine bodyPost_ret (by simp [results, Try.results20, go_sem, *]; try rfl) rfl ?_
  exact ⟨rfl, by (repeat' (first | (with_reducible exact Below.refl _ _) | (with_reducible assumption) | (with_reducible refine Below.drew ?_) | (with_reducible refine below_drewN ?_ _) | ((with_reducible refine Below.alloc ?_ ?_ _); rotate_left; focus (go_size; done)) | ((with_reducible refine Below.setCell ?_ ?_ _); rotate_left; focus (go_size; done)) | ((with_reducible refine Below.trans ?_ (Below.mono (by with_reducible assumption) ?_)); rotate_left; focus (go_size; done))))⟩
set_option maxHeartbeats 2000000 in
theorem docmake_ok (neg : Bool) (c s : Nat) (hc : c < 2 ^ 128) (hs : s ≤ 60) (w : World) : Calls Try.prog 19 #[.bool neg, .agg #[.int .u64 (wd c 1), .int .u64 (wd c 0)], .int .i64 s] w fun e w' => e = .returned (.tuple #[.agg #[.bool (sg neg (FitC (c) (10 ^ s))), .int .u64 (wd (FitC (c) (10 ^ s)) 1), .int .u64 (wd (FitC (c) (10 ^ s)) 0), .int .i64 (FitS (c) (10 ^ s))], .int .i64 (FitE c (10 ^ s))]) ∧ Below w.heap.size w w' := by
  have HO := Lib.hid (fun W => of_any c hc W)
  have H1 := Lib.hid (fun W => one_any s (by omega) W)
  have HT := Lib.hid (fun W u v hu hv => rfit_any neg c (10 ^ s) u v W hu hv (Slim.of_lt (k := 39) (Nat.lt_trans hc (by decide)) (by decide)) (ten_slim (by omega)) (Nat.pow_pos (by decide)))
  have s0 : (0 : Int) ≤ (s : Int) := by omega
  have s1 : (s : Int) ≤ 60 := by omega
  generalize 10 ^ s = D at *
  generalize FitC c D = C at *
  generalize FitS c D = S at *
  generalize FitE c D = E at *
  generalize wd c 0 = x0 at *
  generalize wd c 1 = x1 at *
  clear hc
  go_enter Try.func19, Try.ntmps19
  go_wp2_with fail
  refine (HO.out _).mono ?_
  rintro _ w1 ⟨v1, rfl, d1, hb1⟩; have hb1s := hb1.size; (try simp only [World.size_alloc, World.size_setCell, World.size_drew, World.heap_drewN] at hb1s); obtain ⟨hb1c, hb1f⟩ := bcell hb1; (try have : w.heap.size < w1.heap.size := by omega); (try have : w.heap.size + 1 < w1.heap.size := by omega); (try have : w.heap.size + 1 + 1 < w1.heap.size := by omega); (try have : w.heap.size + 1 + 1 + 1 < w1.heap.size := by omega); have Hd1 := Lib.hid d1; clear d1
  have kr : Bk w1 (w.heap.size + 1) 26 [.bool false, .int .u64 0, .int .u64 0, .int .i64 0] := by (repeat (first | (with_reducible assumption) | ((with_reducible refine Bk.new_ ?_); (first | rfl | (simp only [World.size_alloc, World.size_setCell, World.size_drew, World.heap_drewN]; done))) | (with_reducible refine Bk.alloc ?_ _) | (with_reducible refine Bk.drew ?_) | (with_reducible refine Bk.drewN ?_ _) | ((with_reducible refine Bk.far ?_ ?_ _); rotate_left; focus (simp only []; omega)) | ((with_reducible refine Bk.below ?_ (by with_reducible assumption) ?_); rotate_left; focus (go_size; done))))
  clear hb1c hb1f
  have krl := kr.lt
  go_wp2_with fail
  refine (H1.out _).mono ?_
  rintro _ w2 ⟨v2, rfl, d2, hb2⟩; have hb2s := hb2.size; (try simp only [World.size_alloc, World.size_setCell, World.size_drew, World.heap_drewN] at hb2s); obtain ⟨hb2c, hb2f⟩ := bcell hb2; (try have : w.heap.size < w2.heap.size := by omega); (try have : w.heap.size + 1 < w2.heap.size := by omega); (try have : w.heap.size + 1 + 1 < w2.heap.size := by omega); (try have : w.heap.size + 1 + 1 + 1 < w2.heap.size := by omega); have Hd2 := Lib.hid d2; clear d2
  have jr : Bk w2 (w.heap.size + 1) 26 [.bool false, .int .u64 0, .int .u64 0, .int .i64 0] := by (repeat (first | (with_reducible assumption) | ((with_reducible refine Bk.new_ ?_); (first | rfl | (simp only [World.size_alloc, World.size_setCell, World.size_drew, World.heap_drewN]; done))) | (with_reducible refine Bk.alloc ?_ _) | (with_reducible refine Bk.drew ?_) | (with_reducible refine Bk.drewN ?_ _) | ((with_reducible refine Bk.far ?_ ?_ _); rotate_left; focus (simp only []; omega)) | ((with_reducible refine Bk.below ?_ (by with_reducible assumption) ?_); rotate_left; focus (go_size; done))))
  clear hb2c hb2f
  have jrl := jr.lt
  go_wp2_with fail
  refine (HT.out _ _ _ (Hd1.out.below hb2) Hd2.out).mono ?_
  rintro _ w3 ⟨rfl, hb3⟩; have hb3s := hb3.size; (try simp only [World.size_alloc, World.size_setCell, World.size_drew, World.heap_drewN] at hb3s); obtain ⟨hb3c, hb3f⟩ := bcell hb3; (try have : w.heap.size < w3.heap.size := by omega); (try have : w.heap.size + 1 < w3.heap.size := by omega); (try have : w.heap.size + 1 + 1 < w3.heap.size := by omega); (try have : w.heap.size + 1 + 1 + 1 < w3.heap.size := by omega)
  have lr : Bk w3 (w.heap.size + 1) 26 [.bool false, .int .u64 0, .int .u64 0, .int .i64 0] := by (repeat (first | (with_reducible assumption) | ((with_reducible refine Bk.new_ ?_); (first | rfl | (simp only [World.size_alloc, World.size_setCell, World.size_drew, World.heap_drewN]; done))) | (with_reducible refine Bk.alloc ?_ _) | (with_reducible refine Bk.drew ?_) | (with_reducible refine Bk.drewN ?_ _) | ((with_reducible refine Bk.far ?_ ?_ _); rotate_left; focus (simp only []; omega)) | ((with_reducible refine Bk.below ?_ (by with_reducible assumption) ?_); rotate_left; focus (go_size; done))))
  have lr_0 := lr.cell 0 rfl
  have lr_1 := lr.cell 1 rfl
  have lr_2 := lr.cell 2 rfl
  have lr_3 := lr.cell 3 rfl
  have lr_4 := lr.frozen 0
  have lr_5 := lr.frozen 1
  have lr_6 := lr.frozen 2
  have lr_7 := lr.frozen 3
  clear hb3c hb3f
  go_wp2_with fail
  refine bodyPost_ret (by simp [results, Try.results19, go_sem, *]; try rfl) rfl ?_
  exact ⟨rfl, by (repeat' (first | (with_reducible exact Below.refl _ _) | (with_reducible assumption) | (with_reducible refine Below.drew ?_) | (with_reducible refine below_drewN ?_ _) | ((with_reducible refine Below.alloc ?_ ?_ _); rotate_left; focus (go_size; done)) | ((with_reducible refine Below.setCell ?_ ?_ _); rotate_left; focus (go_size; done)) | ((with_reducible refine Below.trans ?_ (Below.mono (by with_reducible assumption) ?_)); rotate_left; focus (go_size; done))))⟩
/-- the size of a plain number -/
def absN (n : Int) : Nat := n.natAbs
def OfV (n : Int) : Value := .agg #[.bool (decide (n < 0)), .int .u64 (wd (absN n) 1), .int .u64 (wd (absN n) 0), .int .i64 0]
theorem absN_lt {n : Int} (h : -9223372036854775808 ≤ n ∧ n ≤ 9223372036854775807) : absN n ≤ 9223372036854775808 := by unfold absN; omega
theorem absN_wd {n : Int} (h : -9223372036854775808 ≤ n ∧ n ≤ 9223372036854775807) : wd (absN n) 1 = 0 ∧ wd (absN n) 0 = (absN n : Int) := by
  have := absN_lt h
  constructor
  · rw [wd1, Nat.div_eq_of_lt (by omega)]; rfl
  · rw [wd0, Nat.mod_eq_of_lt (by omega)]
set_option maxHeartbeats 2000000 in
theorem of2_any (n : Int) (h : -9223372036854775808 ≤ n ∧ n ≤ 9223372036854775807) (w : World) : Calls Try.prog 17 #[.int .i64 n] w fun e w' => e = .returned (OfV n) ∧ Below w.heap.size w w' := by
  obtain ⟨e1, e0⟩ := absN_wd h
  have ha := absN_lt h
  unfold OfV
  rw [e1, e0]
  by_cases hn : n < 0
  · have e : (absN n : Int) = -n := by unfold absN; omega
    rw [decide_eq_true hn, e]
    have g1 : IntKind.u64.wrap n = n + 18446744073709551616 := by rw [IntKind.wrap_u64]; omega
    have g2 : IntKind.u64.wrap (-(n + 18446744073709551616)) = -n := by rw [IntKind.wrap_u64]; omega
    clear e1 e0 ha e
    go_enter Try.func17, Try.ntmps17
    go_wp2_with fail
    refine bodyPost_ret (by simp [results, Try.results17, go_sem, *]; try rfl) rfl ?_
    exact ⟨rfl, by (repeat' (first | (with_reducible exact Below.refl _ _) | (with_reducible assumption) | (with_reducible refine Below.drew ?_) | (with_reducible refine below_drewN ?_ _) | ((with_reducible refine Below.alloc ?_ ?_ _); rotate_left; focus (go_size; done)) | ((with_reducible refine Below.setCell ?_ ?_ _); rotate_left; focus (go_size; done)) | ((with_reducible refine Below.trans ?_ (Below.mono (by with_reducible assumption) ?_)); rotate_left; focus (go_size; done))))⟩
  · have e : (absN n : Int) = n := by unfold absN; omega
    rw [decide_eq_false hn, e]
    have hn0 : 0 ≤ n := by omega
    have g1 : IntKind.u64.wrap n = n := by rw [IntKind.wrap_u64]; omega
    clear e1 e0 ha e
    go_enter Try.func17, Try.ntmps17
    go_wp2_with fail
    refine bodyPost_ret (by simp [results, Try.results17, go_sem, *]; try rfl) rfl ?_
    exact ⟨rfl, by (repeat' (first | (with_reducible exact Below.refl _ _) | (with_reducible assumption) | (with_reducible refine Below.drew ?_) | (with_reducible refine below_drewN ?_ _) | ((with_reducible refine Below.alloc ?_ ?_ _); rotate_left; focus (go_size; done)) | ((with_reducible refine Below.setCell ?_ ?_ _); rotate_left; focus (go_size; done)) | ((with_reducible refine Below.trans ?_ (Below.mono (by with_reducible assumption) ?_)); rotate_left; focus (go_size; done))))⟩
end Go.Proofs.Ythkgjodidkpaeaa
