/- WideParts: for all numbers n of four words, a of two, and all k the program's Narrow, Ten, Digits and Trim and the document's answer the same: the law returns true, and what was handed in reads as it did. No condition. -/
import Derived.Test.YtnjiibeomailhaaDten
import Derived.Test.YtnjiibeomailhaaDt
import Derived.Test.YtnjiibeomailhaaTd
import Derived.Test.YtnjiibeomailhaaDigs
import Derived.Test.YtnjiibeomailhaaKn
import Derived.Test.YtnjiibeomailhaaLo
import Derived.Test.YtnjiibeomailhaaEq
import Derived.ProofKit
import Derived.OpenShut
import Derived.ShutString
import Derived.ChangeOld
import Derived.Below
import Derived.Lib.SmallJoins
set_option linter.unusedSimpArgs false
set_option linter.unusedVariables false
namespace Go.Proofs.Ytnjiibeomailhaa
open Go.RowKit
open Go.ChangeShapes Go.WideShapes Go.ChangeAt
open Go.ChangeMaps (open_string shut_string)
set_option linter.unusedVariables false
theorem own : ownKnob Try.prog.godebug = none := by kernel_rfl
theorem laidOut : laidOutB Try.prog = true := by kernel_rfl

theorem ten_both (k : Int) : ∃ y1 y0 ee : Int, (∀ w : World, Calls Try.prog 30 #[.int .i64 k] w fun e w' => e = .returned (.tuple #[.agg #[.int .u64 y1, .int .u64 y0], .int .i64 ee]) ∧ Below w.heap.size w w') ∧ (∀ w : World, Calls Try.prog 29 #[.int .i64 k] w fun e w' => e = .returned (.tuple #[.agg #[.int .u64 y1, .int .u64 y0], .int .i64 ee]) ∧ Below w.heap.size w w') := by
  by_cases hk : k < 0 ∨ 38 < k
  · exact ⟨0, 0, 1, fun w => ten_bad k hk w, fun w => docten_bad k hk w⟩
  · obtain ⟨j, rfl⟩ : ∃ j : Nat, k = (j : Int) := ⟨k.toNat, by omega⟩
    exact ⟨_, _, 0, fun w => ten_any j (by omega) w, fun w => docten_any j (by omega) w⟩
theorem trim_both (N : Nat) (hN : N < 2 ^ 128) : ∃ u1 u0 k : Int, (∀ w : World, Calls Try.prog 32 #[.agg #[.int .u64 (wd N 1), .int .u64 (wd N 0)]] w fun e w' => e = .returned (.tuple #[.agg #[.int .u64 u1, .int .u64 u0], .int .i64 k]) ∧ Below w.heap.size w w') ∧ (∀ w : World, Calls Try.prog 31 #[.agg #[.int .u64 (wd N 1), .int .u64 (wd N 0)]] w fun e w' => e = .returned (.tuple #[.agg #[.int .u64 u1, .int .u64 u0], .int .i64 k]) ∧ Below w.heap.size w w') := by
  by_cases h0 : N = 0
  · subst h0
    rw [wd_zero, wd_zero]
    exact ⟨0, 0, 0, fun w => trim_zero w, fun w => doctrim_zero w⟩
  · obtain ⟨T, n, hz⟩ := tz_upto N 39 h0 (Nat.lt_trans hN (by decide))
    exact ⟨_, _, _, fun w => trim_any N T n hN hz w, fun w => doctrim_any N T n hN hz w⟩
set_option maxHeartbeats 4000000 in
theorem walk_WideParts (a b c d : Int) (ha : (Lit.int .u64 a).wf = true) (hb : (Lit.int .u64 b).wf = true) (hc : (Lit.int .u64 c).wf = true) (hd : (Lit.int .u64 d).wf = true) (x y : Int) (hx : (Lit.int .u64 x).wf = true) (hy : (Lit.int .u64 y).wf = true) (k : Int) (_ : (Lit.int .i64 k).wf = true) (w : World) :
    Calls Try.prog 7 #[.agg #[.int .u64 a, .int .u64 b, .int .u64 c, .int .u64 d], .agg #[.int .u64 x, .int .u64 y], .int .i64 k] w fun e w' => e = .returned (.bool true) ∧ Below w.heap.size w w' := by
  obtain ⟨a0, a1⟩ := wf_word ha
  obtain ⟨b0, b1⟩ := wf_word hb
  obtain ⟨c0, c1⟩ := wf_word hc
  obtain ⟨d0, d1⟩ := wf_word hd
  obtain ⟨x0, x1⟩ := wf_word hx
  obtain ⟨y0, y1⟩ := wf_word hy
  obtain ⟨N, hN, rfl, rfl, rfl, rfl⟩ := wd_make4 a b c d a0 a1 b0 b1 c0 c1 d0 d1
  obtain ⟨A, hA, hAe, rfl, rfl⟩ := wd_make x y x0 x1 y0 y1
  clear ha hb hc hd hx hy a0 a1 b0 b1 c0 c1 d0 d1 x0 x1 y0 y1 hAe
  have H1 := Lib.hid (fun W => docnarrow_any N hN W)
  have H2 := Lib.hid (fun W => narrow_any N hN W)
  obtain ⟨t1, t0, te, h3, h4⟩ := ten_both k
  have H3 := Lib.hid h3
  have H4 := Lib.hid h4
  obtain ⟨u1, u0, uk, h5, h6⟩ := trim_both A hA
  have H5 := Lib.hid h5
  have H6 := Lib.hid h6
  obtain ⟨L, hL, hL39⟩ := nd_128 hA
  have H7 := Lib.hid (fun W => digits_any A L hA hL hL39 W)
  have H8 := Lib.hid (fun W => docdigits_any A L hA hL W)
  generalize fitW N = z at *
  generalize over N = e1 at *
  generalize wd z 0 = z0 at *
  generalize wd z 1 = z1 at *
  generalize wd A 0 = n0 at *
  generalize wd A 1 = n1 at *
  generalize wd N 0 = x0 at *
  generalize wd N 1 = x1 at *
  generalize wd N 2 = x2 at *
  generalize wd N 3 = x3 at *
  have qe : ∀ a b : Int, ∀ W, (binOp .eql 27 (.agg #[.int .u64 a, .int .u64 b]) (.agg #[.int .u64 a, .int .u64 b])).run Try.prog W = .ok (.bool true) W := fun a b W => by rw [eq_wide]; simp
  clear hN hA hL hL39 h3 h4 h5 h6
  go_enter Try.func7, Try.ntmps7
  go_wp2_with (first
    | ((go_at_call 10; with_reducible refine (known_any _).mono ?_); rintro _ w1 ⟨rfl, hb1⟩; have hb1s := hb1.size; (try simp only [World.size_alloc, World.size_setCell, World.size_drew, World.heap_drewN] at hb1s); obtain ⟨hb1c, hb1f⟩ := bcell hb1; (try have : w.heap.size < w1.heap.size := by omega); (try have : w.heap.size + 1 < w1.heap.size := by omega); (try have : w.heap.size + 1 + 1 < w1.heap.size := by omega); (try have : w.heap.size + 1 + 1 + 1 < w1.heap.size := by omega))
    | ((go_at_call 27; with_reducible refine (H1.out _).mono ?_); rintro _ w2 ⟨rfl, hb2⟩; have hb2s := hb2.size; (try simp only [World.size_alloc, World.size_setCell, World.size_drew, World.heap_drewN] at hb2s); obtain ⟨hb2c, hb2f⟩ := bcell hb2; (try have : w.heap.size < w2.heap.size := by omega); (try have : w.heap.size + 1 < w2.heap.size := by omega); (try have : w.heap.size + 1 + 1 < w2.heap.size := by omega); (try have : w.heap.size + 1 + 1 + 1 < w2.heap.size := by omega); (try have : w1.heap.size < w2.heap.size := by omega); (try have : w1.heap.size + 1 < w2.heap.size := by omega); (try have : w1.heap.size + 1 + 1 < w2.heap.size := by omega); (try have : w1.heap.size + 1 + 1 + 1 < w2.heap.size := by omega))
    | ((go_at_call 28; with_reducible refine (H2.out _).mono ?_); rintro _ w3 ⟨rfl, hb3⟩; have hb3s := hb3.size; (try simp only [World.size_alloc, World.size_setCell, World.size_drew, World.heap_drewN] at hb3s); obtain ⟨hb3c, hb3f⟩ := bcell hb3; (try have : w.heap.size < w3.heap.size := by omega); (try have : w.heap.size + 1 < w3.heap.size := by omega); (try have : w.heap.size + 1 + 1 < w3.heap.size := by omega); (try have : w.heap.size + 1 + 1 + 1 < w3.heap.size := by omega); (try have : w1.heap.size < w3.heap.size := by omega); (try have : w1.heap.size + 1 < w3.heap.size := by omega); (try have : w1.heap.size + 1 + 1 < w3.heap.size := by omega); (try have : w1.heap.size + 1 + 1 + 1 < w3.heap.size := by omega); (try have : w2.heap.size < w3.heap.size := by omega); (try have : w2.heap.size + 1 < w3.heap.size := by omega); (try have : w2.heap.size + 1 + 1 < w3.heap.size := by omega); (try have : w2.heap.size + 1 + 1 + 1 < w3.heap.size := by omega))
    | ((go_at_call 29; with_reducible refine (H4.out _).mono ?_); rintro _ w4 ⟨rfl, hb4⟩; have hb4s := hb4.size; (try simp only [World.size_alloc, World.size_setCell, World.size_drew, World.heap_drewN] at hb4s); obtain ⟨hb4c, hb4f⟩ := bcell hb4; (try have : w.heap.size < w4.heap.size := by omega); (try have : w.heap.size + 1 < w4.heap.size := by omega); (try have : w.heap.size + 1 + 1 < w4.heap.size := by omega); (try have : w.heap.size + 1 + 1 + 1 < w4.heap.size := by omega); (try have : w1.heap.size < w4.heap.size := by omega); (try have : w1.heap.size + 1 < w4.heap.size := by omega); (try have : w1.heap.size + 1 + 1 < w4.heap.size := by omega); (try have : w1.heap.size + 1 + 1 + 1 < w4.heap.size := by omega); (try have : w2.heap.size < w4.heap.size := by omega); (try have : w2.heap.size + 1 < w4.heap.size := by omega); (try have : w2.heap.size + 1 + 1 < w4.heap.size := by omega); (try have : w2.heap.size + 1 + 1 + 1 < w4.heap.size := by omega); (try have : w3.heap.size < w4.heap.size := by omega); (try have : w3.heap.size + 1 < w4.heap.size := by omega); (try have : w3.heap.size + 1 + 1 < w4.heap.size := by omega); (try have : w3.heap.size + 1 + 1 + 1 < w4.heap.size := by omega))
    | ((go_at_call 30; with_reducible refine (H3.out _).mono ?_); rintro _ w5 ⟨rfl, hb5⟩; have hb5s := hb5.size; (try simp only [World.size_alloc, World.size_setCell, World.size_drew, World.heap_drewN] at hb5s); obtain ⟨hb5c, hb5f⟩ := bcell hb5; (try have : w.heap.size < w5.heap.size := by omega); (try have : w.heap.size + 1 < w5.heap.size := by omega); (try have : w.heap.size + 1 + 1 < w5.heap.size := by omega); (try have : w.heap.size + 1 + 1 + 1 < w5.heap.size := by omega); (try have : w1.heap.size < w5.heap.size := by omega); (try have : w1.heap.size + 1 < w5.heap.size := by omega); (try have : w1.heap.size + 1 + 1 < w5.heap.size := by omega); (try have : w1.heap.size + 1 + 1 + 1 < w5.heap.size := by omega); (try have : w2.heap.size < w5.heap.size := by omega); (try have : w2.heap.size + 1 < w5.heap.size := by omega); (try have : w2.heap.size + 1 + 1 < w5.heap.size := by omega); (try have : w2.heap.size + 1 + 1 + 1 < w5.heap.size := by omega); (try have : w3.heap.size < w5.heap.size := by omega); (try have : w3.heap.size + 1 < w5.heap.size := by omega); (try have : w3.heap.size + 1 + 1 < w5.heap.size := by omega); (try have : w3.heap.size + 1 + 1 + 1 < w5.heap.size := by omega); (try have : w4.heap.size < w5.heap.size := by omega); (try have : w4.heap.size + 1 < w5.heap.size := by omega); (try have : w4.heap.size + 1 + 1 < w5.heap.size := by omega); (try have : w4.heap.size + 1 + 1 + 1 < w5.heap.size := by omega))
    | ((go_at_call 31; with_reducible refine (H6.out _).mono ?_); rintro _ w6 ⟨rfl, hb6⟩; have hb6s := hb6.size; (try simp only [World.size_alloc, World.size_setCell, World.size_drew, World.heap_drewN] at hb6s); obtain ⟨hb6c, hb6f⟩ := bcell hb6; (try have : w.heap.size < w6.heap.size := by omega); (try have : w.heap.size + 1 < w6.heap.size := by omega); (try have : w.heap.size + 1 + 1 < w6.heap.size := by omega); (try have : w.heap.size + 1 + 1 + 1 < w6.heap.size := by omega); (try have : w1.heap.size < w6.heap.size := by omega); (try have : w1.heap.size + 1 < w6.heap.size := by omega); (try have : w1.heap.size + 1 + 1 < w6.heap.size := by omega); (try have : w1.heap.size + 1 + 1 + 1 < w6.heap.size := by omega); (try have : w2.heap.size < w6.heap.size := by omega); (try have : w2.heap.size + 1 < w6.heap.size := by omega); (try have : w2.heap.size + 1 + 1 < w6.heap.size := by omega); (try have : w2.heap.size + 1 + 1 + 1 < w6.heap.size := by omega); (try have : w3.heap.size < w6.heap.size := by omega); (try have : w3.heap.size + 1 < w6.heap.size := by omega); (try have : w3.heap.size + 1 + 1 < w6.heap.size := by omega); (try have : w3.heap.size + 1 + 1 + 1 < w6.heap.size := by omega); (try have : w4.heap.size < w6.heap.size := by omega); (try have : w4.heap.size + 1 < w6.heap.size := by omega); (try have : w4.heap.size + 1 + 1 < w6.heap.size := by omega); (try have : w4.heap.size + 1 + 1 + 1 < w6.heap.size := by omega); (try have : w5.heap.size < w6.heap.size := by omega); (try have : w5.heap.size + 1 < w6.heap.size := by omega); (try have : w5.heap.size + 1 + 1 < w6.heap.size := by omega); (try have : w5.heap.size + 1 + 1 + 1 < w6.heap.size := by omega))
    | ((go_at_call 32; with_reducible refine (H5.out _).mono ?_); rintro _ w7 ⟨rfl, hb7⟩; have hb7s := hb7.size; (try simp only [World.size_alloc, World.size_setCell, World.size_drew, World.heap_drewN] at hb7s); obtain ⟨hb7c, hb7f⟩ := bcell hb7; (try have : w.heap.size < w7.heap.size := by omega); (try have : w.heap.size + 1 < w7.heap.size := by omega); (try have : w.heap.size + 1 + 1 < w7.heap.size := by omega); (try have : w.heap.size + 1 + 1 + 1 < w7.heap.size := by omega); (try have : w1.heap.size < w7.heap.size := by omega); (try have : w1.heap.size + 1 < w7.heap.size := by omega); (try have : w1.heap.size + 1 + 1 < w7.heap.size := by omega); (try have : w1.heap.size + 1 + 1 + 1 < w7.heap.size := by omega); (try have : w2.heap.size < w7.heap.size := by omega); (try have : w2.heap.size + 1 < w7.heap.size := by omega); (try have : w2.heap.size + 1 + 1 < w7.heap.size := by omega); (try have : w2.heap.size + 1 + 1 + 1 < w7.heap.size := by omega); (try have : w3.heap.size < w7.heap.size := by omega); (try have : w3.heap.size + 1 < w7.heap.size := by omega); (try have : w3.heap.size + 1 + 1 < w7.heap.size := by omega); (try have : w3.heap.size + 1 + 1 + 1 < w7.heap.size := by omega); (try have : w4.heap.size < w7.heap.size := by omega); (try have : w4.heap.size + 1 < w7.heap.size := by omega); (try have : w4.heap.size + 1 + 1 < w7.heap.size := by omega); (try have : w4.heap.size + 1 + 1 + 1 < w7.heap.size := by omega); (try have : w5.heap.size < w7.heap.size := by omega); (try have : w5.heap.size + 1 < w7.heap.size := by omega); (try have : w5.heap.size + 1 + 1 < w7.heap.size := by omega); (try have : w5.heap.size + 1 + 1 + 1 < w7.heap.size := by omega); (try have : w6.heap.size < w7.heap.size := by omega); (try have : w6.heap.size + 1 < w7.heap.size := by omega); (try have : w6.heap.size + 1 + 1 < w7.heap.size := by omega); (try have : w6.heap.size + 1 + 1 + 1 < w7.heap.size := by omega)))
  have k4 : Bk (w7.alloc (.cells #[.int .u64 u1, .int .u64 u0] 27)) (w.heap.size + 1) 27 [.int .u64 n1, .int .u64 n0] := by (repeat (first | (with_reducible assumption) | ((with_reducible refine Bk.new_ ?_); (first | rfl | (simp only [World.size_alloc, World.size_setCell, World.size_drew, World.heap_drewN]; done))) | (with_reducible refine Bk.alloc ?_ _) | (with_reducible refine Bk.drew ?_) | (with_reducible refine Bk.drewN ?_ _) | ((with_reducible refine Bk.far ?_ ?_ _); rotate_left; focus (simp only []; omega)) | ((with_reducible refine Bk.below ?_ (by with_reducible assumption) ?_); rotate_left; focus (go_size; done))))
  have k7 : Bk (w7.alloc (.cells #[.int .u64 u1, .int .u64 u0] 27)) w2.heap.size 27 [.int .u64 z1, .int .u64 z0] := by (repeat (first | (with_reducible assumption) | ((with_reducible refine Bk.new_ ?_); (first | rfl | (simp only [World.size_alloc, World.size_setCell, World.size_drew, World.heap_drewN]; done))) | (with_reducible refine Bk.alloc ?_ _) | (with_reducible refine Bk.drew ?_) | (with_reducible refine Bk.drewN ?_ _) | ((with_reducible refine Bk.far ?_ ?_ _); rotate_left; focus (simp only []; omega)) | ((with_reducible refine Bk.below ?_ (by with_reducible assumption) ?_); rotate_left; focus (go_size; done))))
  have k9 : Bk (w7.alloc (.cells #[.int .u64 u1, .int .u64 u0] 27)) w3.heap.size 27 [.int .u64 z1, .int .u64 z0] := by (repeat (first | (with_reducible assumption) | ((with_reducible refine Bk.new_ ?_); (first | rfl | (simp only [World.size_alloc, World.size_setCell, World.size_drew, World.heap_drewN]; done))) | (with_reducible refine Bk.alloc ?_ _) | (with_reducible refine Bk.drew ?_) | (with_reducible refine Bk.drewN ?_ _) | ((with_reducible refine Bk.far ?_ ?_ _); rotate_left; focus (simp only []; omega)) | ((with_reducible refine Bk.below ?_ (by with_reducible assumption) ?_); rotate_left; focus (go_size; done))))
  have k11 : Bk (w7.alloc (.cells #[.int .u64 u1, .int .u64 u0] 27)) w4.heap.size 27 [.int .u64 t1, .int .u64 t0] := by (repeat (first | (with_reducible assumption) | ((with_reducible refine Bk.new_ ?_); (first | rfl | (simp only [World.size_alloc, World.size_setCell, World.size_drew, World.heap_drewN]; done))) | (with_reducible refine Bk.alloc ?_ _) | (with_reducible refine Bk.drew ?_) | (with_reducible refine Bk.drewN ?_ _) | ((with_reducible refine Bk.far ?_ ?_ _); rotate_left; focus (simp only []; omega)) | ((with_reducible refine Bk.below ?_ (by with_reducible assumption) ?_); rotate_left; focus (go_size; done))))
  have k13 : Bk (w7.alloc (.cells #[.int .u64 u1, .int .u64 u0] 27)) w5.heap.size 27 [.int .u64 t1, .int .u64 t0] := by (repeat (first | (with_reducible assumption) | ((with_reducible refine Bk.new_ ?_); (first | rfl | (simp only [World.size_alloc, World.size_setCell, World.size_drew, World.heap_drewN]; done))) | (with_reducible refine Bk.alloc ?_ _) | (with_reducible refine Bk.drew ?_) | (with_reducible refine Bk.drewN ?_ _) | ((with_reducible refine Bk.far ?_ ?_ _); rotate_left; focus (simp only []; omega)) | ((with_reducible refine Bk.below ?_ (by with_reducible assumption) ?_); rotate_left; focus (go_size; done))))
  have k15 : Bk (w7.alloc (.cells #[.int .u64 u1, .int .u64 u0] 27)) w6.heap.size 27 [.int .u64 u1, .int .u64 u0] := by (repeat (first | (with_reducible assumption) | ((with_reducible refine Bk.new_ ?_); (first | rfl | (simp only [World.size_alloc, World.size_setCell, World.size_drew, World.heap_drewN]; done))) | (with_reducible refine Bk.alloc ?_ _) | (with_reducible refine Bk.drew ?_) | (with_reducible refine Bk.drewN ?_ _) | ((with_reducible refine Bk.far ?_ ?_ _); rotate_left; focus (simp only []; omega)) | ((with_reducible refine Bk.below ?_ (by with_reducible assumption) ?_); rotate_left; focus (go_size; done))))
  have k17 : Bk (w7.alloc (.cells #[.int .u64 u1, .int .u64 u0] 27)) w7.heap.size 27 [.int .u64 u1, .int .u64 u0] := Bk.new_ rfl
  have mb : Below w.heap.size w (w7.alloc (.cells #[.int .u64 u1, .int .u64 u0] 27)) := by (repeat' (first | (with_reducible exact Below.refl _ _) | (with_reducible assumption) | (with_reducible refine Below.drew ?_) | (with_reducible refine below_drewN ?_ _) | ((with_reducible refine Below.alloc ?_ ?_ _); rotate_left; focus (go_size; done)) | ((with_reducible refine Below.setCell ?_ ?_ _); rotate_left; focus (go_size; done)) | ((with_reducible refine Below.trans ?_ (Below.mono (by with_reducible assumption) ?_)); rotate_left; focus (go_size; done))))
  generalize w7.alloc (.cells #[.int .u64 u1, .int .u64 u0] 27) = W at *
  have l4 := k4.lt
  have l7 := k7.lt
  have l9 := k9.lt
  have l11 := k11.lt
  have l13 := k13.lt
  have l15 := k15.lt
  have l17 := k17.lt
  clear hb1 hb2 hb3 hb4 hb5 hb6 hb7 hb1c hb2c hb3c hb4c hb5c hb6c hb7c hb1f hb2f hb3f hb4f hb5f hb6f hb7f
  generalize w7.heap.size = B17 at *
  generalize w6.heap.size = B15 at *
  generalize w5.heap.size = B13 at *
  generalize w4.heap.size = B11 at *
  generalize w3.heap.size = B9 at *
  generalize w2.heap.size = B7 at *
  have c40 := k4.cell 0 rfl
  have c41 := k4.cell 1 rfl
  have c70 := k7.cell 0 rfl
  have c71 := k7.cell 1 rfl
  have c90 := k9.cell 0 rfl
  have c91 := k9.cell 1 rfl
  have c110 := k11.cell 0 rfl
  have c111 := k11.cell 1 rfl
  have c130 := k13.cell 0 rfl
  have c131 := k13.cell 1 rfl
  have c150 := k15.cell 0 rfl
  have c151 := k15.cell 1 rfl
  have c170 := k17.cell 0 rfl
  have c171 := k17.cell 1 rfl
  clear k4 k7 k9 k11 k13 k15 k17
  go_region_held3 (fun w' => (w'.cell? ⟨w.heap.size + 1, 0, none⟩ = some (.int .u64 n1) ∧ w'.cell? ⟨w.heap.size + 1, 1, none⟩ = some (.int .u64 n0) ∧ w'.cell? ⟨B7, 0, none⟩ = some (.int .u64 z1) ∧ w'.cell? ⟨B7, 1, none⟩ = some (.int .u64 z0) ∧ w'.cell? ⟨B9, 0, none⟩ = some (.int .u64 z1) ∧ w'.cell? ⟨B9, 1, none⟩ = some (.int .u64 z0) ∧ w'.cell? ⟨B11, 0, none⟩ = some (.int .u64 t1) ∧ w'.cell? ⟨B11, 1, none⟩ = some (.int .u64 t0) ∧ w'.cell? ⟨B13, 0, none⟩ = some (.int .u64 t1) ∧ w'.cell? ⟨B13, 1, none⟩ = some (.int .u64 t0) ∧ w'.cell? ⟨B15, 0, none⟩ = some (.int .u64 u1) ∧ w'.cell? ⟨B15, 1, none⟩ = some (.int .u64 u0) ∧ w'.cell? ⟨B17, 0, none⟩ = some (.int .u64 u1) ∧ w'.cell? ⟨B17, 1, none⟩ = some (.int .u64 u0))) (first | (go_keep; done) | (simp [go_sem]; done) | ((try dsimp only); (repeat' apply And.intro) <;> (first | (with_reducible assumption) | ((rw [World.cell?_alloc_lt _ _ _ (by show _ < _; omega)]); go_split_ands; (first | with_reducible assumption | (refine (World.cell?_alloc_lt _ _ _ (by show _ < _; omega)).symm.trans ?_; with_reducible assumption))) | ((rw [World.cell?_setCell_other _ _ _ _ (by intro e; injection e; omega)]); with_reducible assumption) | (go_keep; done) | (simp [go_sem]; done) | (simp (disch := go_size) [*, World.cell?_alloc_some, World.cell?_setCell_far]; done)))) (first | (go_at_call 33; refine (H7.out _).mono ?_; rintro _ w8 ⟨rfl, hb8⟩; have hb8s := hb8.size; (try simp only [World.size_alloc, World.size_setCell, World.size_drew, World.heap_drewN] at hb8s); obtain ⟨hb8c, hb8f⟩ := bcell hb8; (try have : w.heap.size < w8.heap.size := by omega); (try have : w.heap.size + 1 < w8.heap.size := by omega); (try have : w.heap.size + 1 + 1 < w8.heap.size := by omega); (try have : w.heap.size + 1 + 1 + 1 < w8.heap.size := by omega); (try have : w.heap.size + 1 < w8.heap.size := by omega); (try have : B7 < w8.heap.size := by omega); (try have : B9 < w8.heap.size := by omega); (try have : B11 < w8.heap.size := by omega); (try have : B13 < w8.heap.size := by omega); (try have : B15 < w8.heap.size := by omega); (try have : B17 < w8.heap.size := by omega)) | (go_at_call 34; refine (H8.out _).mono ?_; rintro _ w9 ⟨rfl, hb9⟩; have hb9s := hb9.size; (try simp only [World.size_alloc, World.size_setCell, World.size_drew, World.heap_drewN] at hb9s); obtain ⟨hb9c, hb9f⟩ := bcell hb9; (try have : w.heap.size < w9.heap.size := by omega); (try have : w.heap.size + 1 < w9.heap.size := by omega); (try have : w.heap.size + 1 + 1 < w9.heap.size := by omega); (try have : w.heap.size + 1 + 1 + 1 < w9.heap.size := by omega); (try have : w.heap.size + 1 < w9.heap.size := by omega); (try have : B7 < w9.heap.size := by omega); (try have : B9 < w9.heap.size := by omega); (try have : B11 < w9.heap.size := by omega); (try have : B13 < w9.heap.size := by omega); (try have : B15 < w9.heap.size := by omega); (try have : B17 < w9.heap.size := by omega)))
  all_goals
    go_wp2_with fail
    go_ret
    exact ⟨rfl, by (repeat' (first | (with_reducible exact Below.refl _ _) | (with_reducible assumption) | (with_reducible refine Below.drew ?_) | (with_reducible refine below_drewN ?_ _) | ((with_reducible refine Below.alloc ?_ ?_ _); rotate_left; focus (go_size; done)) | ((with_reducible refine Below.setCell ?_ ?_ _); rotate_left; focus (go_size; done)) | ((with_reducible refine Below.trans ?_ (Below.mono (by with_reducible assumption) ?_)); rotate_left; focus (go_size; done))))⟩

set_option maxRecDepth 100000 in
theorem lifted_WideParts (os : Os) (started : os.Started) (H : Type) (enc : TypeId × Value → H) :
    ReturnsInHanded {} Try.checked os 7 .any (Rows.widePartsSpec.pre6 enc Try.prog Try.f7 Rows.widePartsRow.domain false) (Rows.widePartsSpec.post enc Try.prog Try.f7 false true false false) := by
  refine returnsInHanded_of_change (C := Try.checked) own started (by kernel_rfl) Try.func7
    (ChangeSpec.witness6 (enc := enc) (C := Try.checked) false ⟨#[], #[.agg #[.int .u64 0, .int .u64 0, .int .u64 0, .int .u64 0], .agg #[.int .u64 0, .int .u64 0], .int .i64 0], []⟩ 8 (by kernel_rfl) (by kernel_rfl) (by kernel_rfl) (by kernel_rfl)) ?_
  intro W base args ds gs before hval0 hW hcnd _
  have hval : ∀ (j : Nat) t v, Try.f7.params[j]? = some t → args[j]? = some v → Value.okWide Try.prog W .any base t v := hval0
  have hW' := hW
  obtain ⟨p, q, hA0, hV, rfl, hfz, hnd⟩ := hW
  have hA : DataW.TrodAll enc Try.prog W 0 (fun _ => true) true Try.f7.params.toList args.toList ds p := hA0
  rw [Try.params7] at hA hval
  obtain ⟨v0, vs0, d0, ds0, p0, q0, hargs0, rfl, rfl, h0, r0⟩ := trodAll_cons hA
  obtain ⟨v1, vs1, d1, ds1, p1, q1, hargs1, rfl, rfl, h1, r1⟩ := trodAll_cons r0
  obtain ⟨v2, vs2, d2, ds2, p2, q2, hargs2, rfl, rfl, h2, r2⟩ := trodAll_cons r1
  obtain ⟨rfl, rfl, rfl⟩ := trodAll_nil r2
  obtain rfl : args = #[v0, v1, v2] := by cases args; simp_all
  obtain ⟨rfl, rfl⟩ := trodVars_none hV
  have k0 := h0
  have lt0 : ∀ x ∈ p0, x.block < W.heap.size := by obtain ⟨m, hm⟩ := k0; exact DataW.trod_lt m _ _ _ hm
  have k1 := h1
  have lt1 : ∀ x ∈ p1, x.block < W.heap.size := by obtain ⟨m, hm⟩ := k1; exact DataW.trod_lt m _ _ _ hm
  have k2 := h2
  have lt2 : ∀ x ∈ p2, x.block < W.heap.size := by obtain ⟨m, hm⟩ := k2; exact DataW.trod_lt m _ _ _ hm
  obtain ⟨a00, a01, a02, a03, rfl, w00, w01, w02, w03⟩ := open_long (hval 0 24 v0 rfl rfl) h0
  obtain ⟨c10, c11, y10, y11, m1, rfl, rfl, rfl, hy10, hy11⟩ := Joins.open_agg2 Try.underlying27 (by kernel_rfl) (by kernel_rfl) (hval 1 27 v1 rfl rfl) h1
  obtain ⟨a10, e10, rfl, w10⟩ := DataW.trod_int Try.underlying22 hy10
  simp at e10; subst e10
  obtain ⟨a11, e11, rfl, w11⟩ := DataW.trod_int Try.underlying22 hy11
  simp at e11; subst e11
  obtain ⟨a2, rfl, rfl, rfl, w2⟩ := open_int Try.underlying3 (hval 2 3 v2 rfl rfl) h2
  clear hA0 hval0
  refine (walk_WideParts a00 a01 a02 a03 w00 w01 w02 w03 a10 a11 w10 w11 a2 w2 W).mono fun e W' ⟨he, bel⟩ => ?_
  subst he
  exact ⟨_, rfl, _, _, _, [], _, [], hW', trodAll_mk1 (shut_bool Try.underlying4 _), (trodAll_cons_mk (Below.trod laidOut (by kernel_rfl) (of_decide_eq_true (by kernel_rfl)) k0 bel lt0) (trodAll_cons_mk (Below.trod laidOut (by kernel_rfl) (of_decide_eq_true (by kernel_rfl)) k1 bel lt1) (trodAll_cons_mk (Below.trod laidOut (by kernel_rfl) (of_decide_eq_true (by kernel_rfl)) k2 bel lt2) trodAll_mk0))), rfl, bel.frame _, fun h => by cases h⟩

theorem WideParts_holds : Rows.WidePartsSaid :=
  OpenClaim.holds_of_wide 7 Try.f7 rfl rfl rfl rfl rfl rfl rfl ⟨rfl, rfl, rfl, rfl, rfl⟩ rfl rfl rfl rfl rfl (by kernel_rfl) Try.func7 (by kernel_rfl)
    (of_decide_eq_true (by kernel_rfl)) (by unfold Func.isWrapper; first | (rw [if_pos (by decide +kernel)]; kernel_rfl) | (rw [if_neg (by decide +kernel)]; exact ⟨rfl, rfl⟩))
    (fun os started H enc _ => lifted_WideParts os started H enc)
#print axioms WideParts_holds
end Go.Proofs.Ytnjiibeomailhaa
