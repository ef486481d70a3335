/- The layer of words: compare, add, subtract, narrow, a tenth: what each computes. -/
import Derived.Test.YthkgjodidkpaeaaWb
set_option linter.unusedSimpArgs false
set_option linter.unusedVariables false
namespace Go.Proofs.Ythkgjodidkpaeaa
open Go.RowKit

def cmpI (a b c d : Int) : Int := if a = c ∧ b = d then 0 else if a < c ∨ (a = c ∧ b < d) then -1 else 1
/-- -1, 0, 1: below, equal, above -/
def cmpN (n m : Nat) : Int := if n = m then 0 else if n < m then -1 else 1
theorem cmp_eq (n m : Nat) (hn : n < 2 ^ 128) (hm : m < 2 ^ 128) : cmpI (wd n 1) (wd n 0) (wd m 1) (wd m 0) = cmpN n m := by
  have h1 := wd_two hn
  have h2 := wd_two hm
  have h3 := wd_nn n 0
  have h4 := wd_lt n 0
  have h5 := wd_nn m 0
  have h6 := wd_lt m 0
  unfold cmpI cmpN
  split <;> split <;> (try split) <;> (try split) <;> omega
set_option maxHeartbeats 1000000 in
theorem cmp_int (a b c d : Int) (w : World) : Calls Try.prog 54 #[.agg #[.int .u64 a, .int .u64 b], .agg #[.int .u64 c, .int .u64 d]] w fun e w' => e = .returned (.int .i64 (cmpI a b c d)) ∧ Below w.heap.size w w' := by
  go_enter Try.func54, Try.ntmps54
  go_wp2
  all_goals go_ret
  all_goals refine ⟨?_, by (repeat' (first | (with_reducible exact Below.refl _ _) | (with_reducible assumption) | (with_reducible refine Below.drew ?_) | (with_reducible refine below_drewN ?_ _) | ((with_reducible refine Below.alloc ?_ ?_ _); rotate_left; focus (go_size; done)) | ((with_reducible refine Below.setCell ?_ ?_ _); rotate_left; focus (go_size; done)) | ((with_reducible refine Below.trans ?_ (Below.mono (by with_reducible assumption) ?_)); rotate_left; focus (go_size; done))))⟩
  all_goals simp [cmpI]
  all_goals (first | done | omega | (simp_all; done) | (simp_all; omega))
theorem cmp_any (n m : Nat) (hn : n < 2 ^ 128) (hm : m < 2 ^ 128) (w : World) : Calls Try.prog 54 #[.agg #[.int .u64 (wd n 1), .int .u64 (wd n 0)], .agg #[.int .u64 (wd m 1), .int .u64 (wd m 0)]] w fun e w' => e = .returned (.int .i64 (cmpN n m)) ∧ Below w.heap.size w w' := by
  rw [← cmp_eq n m hn hm]
  exact cmp_int _ _ _ _ w

def over (n : Nat) : Int := if n < 2 ^ 128 then 0 else 3
def fitW (n : Nat) : Nat := if n < 2 ^ 128 then n else 0
set_option maxHeartbeats 1000000 in
theorem add_any (n m : Nat) (hn : n < 2 ^ 128) (hm : m < 2 ^ 128) (w : World) : Calls Try.prog 95 #[.agg #[.int .u64 (wd n 1), .int .u64 (wd n 0)], .agg #[.int .u64 (wd m 1), .int .u64 (wd m 0)]] w fun e w' => e = .returned (.tuple #[.agg #[.int .u64 (wd (fitW (n + m)) 1), .int .u64 (wd (fitW (n + m)) 0)], .int .i64 (over (n + m))]) ∧ Below w.heap.size w w' := by
  have h1 := wd_two hn
  have h2 := wd_two hm
  have a0 := wd_nn n 0
  have a1 := wd_lt n 0
  have b0 := wd_nn n 1
  have b1 := wd_lt n 1
  have c0 := wd_nn m 0
  have c1 := wd_lt m 0
  have d0 := wd_nn m 1
  have d1 := wd_lt m 1
  obtain ⟨s, k, f1, H1⟩ := add64_ex (wd n 0) (wd m 0) 0 a0 a1 c0 c1 (by decide) (by decide)
  have H1' := H1
  unfold Carry at H1'
  obtain ⟨t, j, f2, H2⟩ := add64_ex (wd n 1) (wd m 1) k b0 b1 d0 d1 H1'.2.2.2.1 H1'.2.2.2.2
  have H2' := H2
  unfold Carry at H2'
  by_cases hj : j = 0
  · subst hj
    have e0 : n + m < 2 ^ 128 := by omega
    have e1 : over (n + m) = 0 := by unfold over; rw [if_pos e0]
    have e2 : fitW (n + m) = n + m := by unfold fitW; rw [if_pos e0]
    obtain ⟨e3, e4⟩ := wd_of (n + m) t s (by omega) (by omega) (by omega) (by omega) (by omega)
    rw [e1, e2, ← e3, ← e4]
    clear e0 e1 e2 e3 e4 H1 H2 H1' H2' h1 h2
    generalize wd n 0 = x0 at *
    generalize wd n 1 = x1 at *
    generalize wd m 0 = y0 at *
    generalize wd m 1 = y1 at *
    go_enter Try.func95, Try.ntmps95
    go_wp2
    refine bodyPost_ret (by simp [results, Try.results95, go_sem, *]; try rfl) rfl ?_
    exact ⟨rfl, by (repeat' (first | (with_reducible exact Below.refl _ _) | (with_reducible assumption) | (with_reducible refine Below.drew ?_) | (with_reducible refine below_drewN ?_ _) | ((with_reducible refine Below.alloc ?_ ?_ _); rotate_left; focus (go_size; done)) | ((with_reducible refine Below.setCell ?_ ?_ _); rotate_left; focus (go_size; done)) | ((with_reducible refine Below.trans ?_ (Below.mono (by with_reducible assumption) ?_)); rotate_left; focus (go_size; done))))⟩
  · have hj1 : j = 1 := by omega
    subst hj1
    have e0 : ¬ n + m < 2 ^ 128 := by omega
    have e1 : over (n + m) = 3 := by unfold over; rw [if_neg e0]
    have e2 : fitW (n + m) = 0 := by unfold fitW; rw [if_neg e0]
    rw [e1, e2, wd_zero, wd_zero]
    clear e0 e1 e2 H1 H2 H1' H2' h1 h2 hj
    generalize wd n 0 = x0 at *
    generalize wd n 1 = x1 at *
    generalize wd m 0 = y0 at *
    generalize wd m 1 = y1 at *
    go_enter Try.func95, Try.ntmps95
    go_wp2
    refine bodyPost_ret (by simp [results, Try.results95, go_sem, *]; try rfl) rfl ?_
    exact ⟨rfl, by (repeat' (first | (with_reducible exact Below.refl _ _) | (with_reducible assumption) | (with_reducible refine Below.drew ?_) | (with_reducible refine below_drewN ?_ _) | ((with_reducible refine Below.alloc ?_ ?_ _); rotate_left; focus (go_size; done)) | ((with_reducible refine Below.setCell ?_ ?_ _); rotate_left; focus (go_size; done)) | ((with_reducible refine Below.trans ?_ (Below.mono (by with_reducible assumption) ?_)); rotate_left; focus (go_size; done))))⟩

def under (n m : Nat) : Int := if n < m then 3 else 0
def lessW (n m : Nat) : Nat := if n < m then n + 2 ^ 128 - m else n - m
def borrowW (n m : Nat) : Int := if n < m then 1 else 0
set_option maxHeartbeats 1000000 in
theorem less_any (n m : Nat) (hn : n < 2 ^ 128) (hm : m < 2 ^ 128) (w : World) : Calls Try.prog 97 #[.agg #[.int .u64 (wd n 1), .int .u64 (wd n 0)], .agg #[.int .u64 (wd m 1), .int .u64 (wd m 0)]] w fun e w' => e = .returned (.tuple #[.agg #[.int .u64 (wd (lessW n m) 1), .int .u64 (wd (lessW n m) 0)], .int .u64 (borrowW n m)]) ∧ Below w.heap.size w w' := by
  have h1 := wd_two hn
  have h2 := wd_two hm
  have a0 := wd_nn n 0
  have a1 := wd_lt n 0
  have b0 := wd_nn n 1
  have b1 := wd_lt n 1
  have c0 := wd_nn m 0
  have c1 := wd_lt m 0
  have d0 := wd_nn m 1
  have d1 := wd_lt m 1
  obtain ⟨s, k, f1, H1⟩ := sub64_ex (wd n 0) (wd m 0) 0 a0 a1 c0 c1 (by decide) (by decide)
  have H1' := H1
  unfold Borrow at H1'
  obtain ⟨t, j, f2, H2⟩ := sub64_ex (wd n 1) (wd m 1) k b0 b1 d0 d1 H1'.2.2.2.1 H1'.2.2.2.2
  have H2' := H2
  unfold Borrow at H2'
  have e1 : borrowW n m = j := by unfold borrowW; split <;> omega
  have e2 : (lessW n m : Int) = t * 18446744073709551616 + s := by unfold lessW; split <;> omega
  obtain ⟨e3, e4⟩ := wd_of (lessW n m) t s (by omega) (by omega) (by omega) (by omega) e2
  rw [e1, ← e3, ← e4]
  clear e1 e2 e3 e4 H1 H2 H1' H2' h1 h2
  generalize wd n 0 = x0 at *
  generalize wd n 1 = x1 at *
  generalize wd m 0 = y0 at *
  generalize wd m 1 = y1 at *
  go_enter Try.func97, Try.ntmps97
  go_wp2
  refine bodyPost_ret (by simp [results, Try.results97, go_sem, *]; try rfl) rfl ?_
  exact ⟨rfl, by (repeat' (first | (with_reducible exact Below.refl _ _) | (with_reducible assumption) | (with_reducible refine Below.drew ?_) | (with_reducible refine below_drewN ?_ _) | ((with_reducible refine Below.alloc ?_ ?_ _); rotate_left; focus (go_size; done)) | ((with_reducible refine Below.setCell ?_ ?_ _); rotate_left; focus (go_size; done)) | ((with_reducible refine Below.trans ?_ (Below.mono (by with_reducible assumption) ?_)); rotate_left; focus (go_size; done))))⟩
def subW (n m : Nat) : Nat := if n < m then 0 else n - m
set_option maxHeartbeats 1000000 in
theorem sub_any (n m : Nat) (hn : n < 2 ^ 128) (hm : m < 2 ^ 128) (w : World) : Calls Try.prog 80 #[.agg #[.int .u64 (wd n 1), .int .u64 (wd n 0)], .agg #[.int .u64 (wd m 1), .int .u64 (wd m 0)]] w fun e w' => e = .returned (.tuple #[.agg #[.int .u64 (wd (subW n m) 1), .int .u64 (wd (subW n m) 0)], .int .i64 (under n m)]) ∧ Below w.heap.size w w' := by
  have HL := Lib.hid (fun W => less_any n m hn hm W)
  by_cases h : n < m
  · have e1 : under n m = 3 := by unfold under; rw [if_pos h]
    have e2 : subW n m = 0 := by unfold subW; rw [if_pos h]
    have e3 : borrowW n m = 1 := by unfold borrowW; rw [if_pos h]
    rw [e1, e2, wd_zero, wd_zero]
    rw [e3] at HL
    clear e1 e2 e3 h hn hm
    go_enter Try.func80, Try.ntmps80
    go_wp2_with ((go_at_call 97; with_reducible refine (HL.out _).mono ?_); rintro _ w1 ⟨rfl, hb1⟩; have hb1s := hb1.size; (try simp only [World.size_alloc, World.size_setCell, World.size_drew, World.heap_drewN] at hb1s); obtain ⟨hb1c, hb1f⟩ := bcell hb1; (try have : w.heap.size < w1.heap.size := by omega); (try have : w.heap.size + 1 < w1.heap.size := by omega); (try have : w.heap.size + 1 + 1 < w1.heap.size := by omega); (try have : w.heap.size + 1 + 1 + 1 < w1.heap.size := by omega))
    refine bodyPost_ret (by simp [results, Try.results80, go_sem, *]; try rfl) rfl ?_
    exact ⟨rfl, by (repeat' (first | (with_reducible exact Below.refl _ _) | (with_reducible assumption) | (with_reducible refine Below.drew ?_) | (with_reducible refine below_drewN ?_ _) | ((with_reducible refine Below.alloc ?_ ?_ _); rotate_left; focus (go_size; done)) | ((with_reducible refine Below.setCell ?_ ?_ _); rotate_left; focus (go_size; done)) | ((with_reducible refine Below.trans ?_ (Below.mono (by with_reducible assumption) ?_)); rotate_left; focus (go_size; done))))⟩
  · have e1 : under n m = 0 := by unfold under; rw [if_neg h]
    have e2 : subW n m = lessW n m := by unfold subW lessW; rw [if_neg h, if_neg h]
    have e3 : borrowW n m = 0 := by unfold borrowW; rw [if_neg h]
    rw [e1, e2]
    rw [e3] at HL
    clear e1 e2 e3 h hn hm
    go_enter Try.func80, Try.ntmps80
    go_wp2_with ((go_at_call 97; with_reducible refine (HL.out _).mono ?_); rintro _ w1 ⟨rfl, hb1⟩; have hb1s := hb1.size; (try simp only [World.size_alloc, World.size_setCell, World.size_drew, World.heap_drewN] at hb1s); obtain ⟨hb1c, hb1f⟩ := bcell hb1; (try have : w.heap.size < w1.heap.size := by omega); (try have : w.heap.size + 1 < w1.heap.size := by omega); (try have : w.heap.size + 1 + 1 < w1.heap.size := by omega); (try have : w.heap.size + 1 + 1 + 1 < w1.heap.size := by omega))
    refine bodyPost_ret (by simp [results, Try.results80, go_sem, *]; try rfl) rfl ?_
    exact ⟨rfl, by (repeat' (first | (with_reducible exact Below.refl _ _) | (with_reducible assumption) | (with_reducible refine Below.drew ?_) | (with_reducible refine below_drewN ?_ _) | ((with_reducible refine Below.alloc ?_ ?_ _); rotate_left; focus (go_size; done)) | ((with_reducible refine Below.setCell ?_ ?_ _); rotate_left; focus (go_size; done)) | ((with_reducible refine Below.trans ?_ (Below.mono (by with_reducible assumption) ?_)); rotate_left; focus (go_size; done))))⟩
set_option maxHeartbeats 1000000 in
theorem narrow_any (n : Nat) (hn : n < 2 ^ 256) (w : World) : Calls Try.prog 94 #[.agg #[.int .u64 (wd n 0), .int .u64 (wd n 1), .int .u64 (wd n 2), .int .u64 (wd n 3)]] w fun e w' => e = .returned (.tuple #[.agg #[.int .u64 (wd (fitW n) 1), .int .u64 (wd (fitW n) 0)], .int .i64 (over n)]) ∧ Below w.heap.size w w' := by
  have hi := wd_low4 hn
  by_cases h : n < 2 ^ 128
  · have e1 : over n = 0 := by unfold over; rw [if_pos h]
    have e2 : fitW n = n := by unfold fitW; rw [if_pos h]
    obtain ⟨e3, e4⟩ := hi.2 h
    rw [e1, e2]
    have g3 : (wd n 2 == 0) = true := by simp [e3]
    have g4 : (wd n 3 == 0) = true := by simp [e4]
    have g5 : (wd n 2 != 0) = false := by simp [e3]
    have g6 : (wd n 3 != 0) = false := by simp [e4]
    clear e1 e2 e3 e4 hi h hn
    generalize wd n 0 = x0 at *
    generalize wd n 1 = x1 at *
    generalize wd n 2 = x2 at *
    generalize wd n 3 = x3 at *
    go_enter Try.func94, Try.ntmps94
    go_wp2
    refine bodyPost_ret (by simp [results, Try.results94, go_sem, *]; try rfl) rfl ?_
    exact ⟨rfl, by (repeat' (first | (with_reducible exact Below.refl _ _) | (with_reducible assumption) | (with_reducible refine Below.drew ?_) | (with_reducible refine below_drewN ?_ _) | ((with_reducible refine Below.alloc ?_ ?_ _); rotate_left; focus (go_size; done)) | ((with_reducible refine Below.setCell ?_ ?_ _); rotate_left; focus (go_size; done)) | ((with_reducible refine Below.trans ?_ (Below.mono (by with_reducible assumption) ?_)); rotate_left; focus (go_size; done))))⟩
  · have e1 : over n = 3 := by unfold over; rw [if_neg h]
    have e2 : fitW n = 0 := by unfold fitW; rw [if_neg h]
    rw [e1, e2, wd_zero, wd_zero]
    have hi' : ¬ (wd n 2 = 0 ∧ wd n 3 = 0) := fun x => h (hi.1 x)
    have H := Lib.hid hi'
    clear e1 e2 hi hi' h hn
    generalize wd n 0 = x0 at *
    generalize wd n 1 = x1 at *
    generalize wd n 2 = x2 at *
    generalize wd n 3 = x3 at *
    go_enter Try.func94, Try.ntmps94
    go_wp2
    all_goals first
      | (exfalso; have := H.out; simp_all; done)
      | (refine bodyPost_ret (by simp [results, Try.results94, go_sem, *]; try rfl) rfl ?_
         exact ⟨rfl, by (repeat' (first | (with_reducible exact Below.refl _ _) | (with_reducible assumption) | (with_reducible refine Below.drew ?_) | (with_reducible refine below_drewN ?_ _) | ((with_reducible refine Below.alloc ?_ ?_ _); rotate_left; focus (go_size; done)) | ((with_reducible refine Below.setCell ?_ ?_ _); rotate_left; focus (go_size; done)) | ((with_reducible refine Below.trans ?_ (Below.mono (by with_reducible assumption) ?_)); rotate_left; focus (go_size; done))))⟩)
set_option maxHeartbeats 2000000 in
theorem tenth_any (n : Nat) (hn : n < 2 ^ 256) (w : World) : Calls Try.prog 89 #[.agg #[.int .u64 (wd n 0), .int .u64 (wd n 1), .int .u64 (wd n 2), .int .u64 (wd n 3)]] w fun e w' => e = .returned (.tuple #[.agg #[.int .u64 (wd (n / 10) 0), .int .u64 (wd (n / 10) 1), .int .u64 (wd (n / 10) 2), .int .u64 (wd (n / 10) 3)], .int .u64 ((n % 10 : Nat) : Int)]) ∧ Below w.heap.size w w' := by
  have h := wd_four hn
  have a0 := wd_nn n 0
  have a1 := wd_lt n 0
  have b0 := wd_nn n 1
  have b1 := wd_lt n 1
  have c0 := wd_nn n 2
  have c1 := wd_lt n 2
  have d0 := wd_nn n 3
  have d1 := wd_lt n 3
  obtain ⟨q3, r3, f3, H3⟩ := div10_ex 0 (wd n 3) (by decide) (by decide) d0 d1
  have G3 := H3
  unfold Ten at G3
  obtain ⟨q2, r2, f2, H2⟩ := div10_ex r3 (wd n 2) (by omega) (by omega) c0 c1
  have G2 := H2
  unfold Ten at G2
  obtain ⟨q1, r1, f1, H1⟩ := div10_ex r2 (wd n 1) (by omega) (by omega) b0 b1
  have G1 := H1
  unfold Ten at G1
  obtain ⟨q0, r0, f0, H0⟩ := div10_ex r1 (wd n 0) (by omega) (by omega) a0 a1
  have G0 := H0
  unfold Ten at G0
  have e := wd_of4 (n / 10) q0 q1 q2 q3 (by omega) (by omega) (by omega) (by omega) (by omega) (by omega) (by omega) (by omega) (by omega)
  obtain ⟨e0, e1, e2, e3⟩ := e
  have er : ((n % 10 : Nat) : Int) = r0 := by omega
  rw [er, ← e0, ← e1, ← e2, ← e3]
  have F0 := Lib.hid f0
  have F1 := Lib.hid f1
  have F2 := Lib.hid f2
  have F3 := Lib.hid f3
  clear f0 f1 f2 f3 e0 e1 e2 e3 er H0 H1 H2 H3 G0 G1 G2 G3 h a0 a1 b0 b1 c0 c1 d0 d1 hn
  generalize wd n 0 = x0 at *
  generalize wd n 1 = x1 at *
  generalize wd n 2 = x2 at *
  generalize wd n 3 = x3 at *
  go_enter Try.func89, Try.ntmps89
  go_wp2_with fail
  refine wp_loop_rounds 5 ?_
  rw [rounds_succ]
  go_wp2_with ((go_at_call 100; with_reducible refine (F3.out _).mono ?_); rintro _ _ ⟨rfl, n1, rfl⟩)
  rw [rounds_succ]
  go_wp2_with ((go_at_call 100; with_reducible refine (F2.out _).mono ?_); rintro _ _ ⟨rfl, n2, rfl⟩)
  rw [rounds_succ]
  go_wp2_with ((go_at_call 100; with_reducible refine (F1.out _).mono ?_); rintro _ _ ⟨rfl, n3, rfl⟩)
  rw [rounds_succ]
  go_wp2_with ((go_at_call 100; with_reducible refine (F0.out _).mono ?_); rintro _ _ ⟨rfl, n4, rfl⟩)
  rw [rounds_succ]
  go_wp2_with fail
  refine bodyPost_ret (by simp [results, Try.results89, go_sem, *]; try rfl) rfl ?_
  exact ⟨rfl, by (repeat' (first | (with_reducible exact Below.refl _ _) | (with_reducible assumption) | (with_reducible refine Below.drew ?_) | (with_reducible refine below_drewN ?_ _) | ((with_reducible refine Below.alloc ?_ ?_ _); rotate_left; focus (go_size; done)) | ((with_reducible refine Below.setCell ?_ ?_ _); rotate_left; focus (go_size; done)) | ((with_reducible refine Below.trans ?_ (Below.mono (by with_reducible assumption) ?_)); rotate_left; focus (go_size; done))))⟩
end Go.Proofs.Ythkgjodidkpaeaa
