/- WideTens: for all numbers a of two words and all k: 10^(k mod 39) has one digit more than noughts, times it a is rounded back to a, and what the program's Trim cuts off is put back by it: the law returns true, and what was handed in reads as it did. No condition. -/
import Derived.Test.YtnjiibeomailhaaWm
import Derived.Test.YtnjiibeomailhaaWr
import Derived.Test.YtnjiibeomailhaaTen
import Derived.Test.YtnjiibeomailhaaTm
import Derived.Test.YtnjiibeomailhaaDigs
import Derived.Test.YtnjiibeomailhaaKn
import Derived.Test.YtnjiibeomailhaaLo
import Derived.Test.YtnjiibeomailhaaEq
import Derived.IntWalk
import Derived.ProofKit
import Derived.OpenShut
import Derived.ShutString
import Derived.ChangeOld
import Derived.Below
import Derived.Lib.SmallJoins
set_option linter.unusedSimpArgs false
set_option linter.unusedVariables false
namespace Go.Proofs.Ytnjiibeomailhaa
open Go.RowKit
open Go.ChangeShapes Go.WideShapes Go.ChangeAt
open Go.ChangeMaps (open_string shut_string)
set_option linter.unusedVariables false
theorem own : ownKnob Try.prog.godebug = none := by kernel_rfl
theorem laidOut : laidOutB Try.prog = true := by kernel_rfl

theorem mul_256 {n m : Nat} (hn : n < 2 ^ 128) (hm : m < 2 ^ 128) : n * m < 2 ^ 256 := by
  have h := Nat.mul_lt_mul'' hn hm
  rwa [← Nat.pow_add] at h
theorem nd_pow (j : Nat) : IsNd (10 ^ j) (j + 1) := ⟨by omega, Nat.pow_lt_pow_right (by decide) (by omega), .inr (by rw [Nat.add_sub_cancel]; exact Nat.le_refl _)⟩
theorem near_back (N j : Nat) : near (N * 10 ^ j) (10 ^ j) = N := by
  have hp : 0 < 10 ^ j := Nat.pow_pos (by decide)
  unfold near
  rw [Nat.mul_mod_left, Nat.mul_div_cancel _ hp, if_neg (by omega)]; rfl
theorem nd_tz {N T n L : Nat} (h : IsTz N T n) (hL : IsNd N L) : n + 1 ≤ L ∧ IsNd T (L - n) := by
  obtain ⟨e, ht⟩ := h
  obtain ⟨h1, h2, h3⟩ := hL
  have hT : 1 ≤ T := by
    rcases Nat.eq_zero_or_pos T with h0 | h0
    · subst h0; exact absurd rfl ht
    · exact h0
  have hp : 0 < 10 ^ n := Nat.pow_pos (by decide)
  have h4 : 10 ^ n ≤ N := by rw [e]; exact Nat.le_mul_of_pos_left _ hT
  have h5 : n < L := pow_lt10 (Nat.lt_of_le_of_lt h4 h2)
  have e1 : 10 ^ L = 10 ^ (L - n) * 10 ^ n := by rw [← Nat.pow_add]; congr 1; omega
  refine ⟨by omega, by omega, ?_, ?_⟩
  · rw [e, e1] at h2
    exact Nat.lt_of_mul_lt_mul_right h2
  · by_cases h6 : L - n = 1
    · exact .inl h6
    · right
      rcases h3 with h3 | h3
      · omega
      · have e2 : 10 ^ (L - 1) = 10 ^ (L - n - 1) * 10 ^ n := by rw [← Nat.pow_add]; congr 1; omega
        rw [e, e2] at h3
        exact Nat.le_of_mul_le_mul_right h3 hp
theorem wrap_39 (k : Int) : ∃ j : Nat, j ≤ 38 ∧ IntKind.u64.wrap k % 39 = (j : Int) ∧ 0 ≤ IntKind.u64.wrap k ∧ IntKind.u64.wrap k < 18446744073709551616 := by
  have h := IntKind.wrap_u64 k
  rw [h]
  exact ⟨(k % 18446744073709551616 % 39).toNat, by omega, by omega, by omega, by omega⟩
set_option maxHeartbeats 3000000 in
theorem walk_WideTens (a b : Int) (ha : (Lit.int .u64 a).wf = true) (hb : (Lit.int .u64 b).wf = true) (k : Int) (_ : (Lit.int .i64 k).wf = true) (w : World) :
    Calls Try.prog 8 #[.agg #[.int .u64 a, .int .u64 b], .int .i64 k] w fun e w' => e = .returned (.bool true) ∧ Below w.heap.size w w' := by
  obtain ⟨a0, a1⟩ := wf_word ha
  obtain ⟨b0, b1⟩ := wf_word hb
  obtain ⟨N, hN, hne, rfl, rfl⟩ := wd_make a b a0 a1 b0 b1
  clear ha hb a0 a1 b0 b1 hne
  obtain ⟨j, hj, hk, hk0, hk1⟩ := wrap_39 k
  have HK := Lib.hid hk
  have hp := ten_38 hj
  have H1 := Lib.hid (fun W => ten_any j hj W)
  have H2 := Lib.hid (fun W => digits_any (10 ^ j) (j + 1) hp (nd_pow j) (by omega) W)
  have H3 := Lib.hid (fun W => mul_any N (10 ^ j) hN hp W)
  have H4 := Lib.hid (fun W => round_any (N * 10 ^ j) (mul_256 hN hp) j (by omega) W)
  rw [near_back, fit_id hN, over_id hN] at H4
  generalize N * 10 ^ j = p at *
  generalize 10 ^ j = q at *
  obtain ⟨L, hL, hL39⟩ := nd_128 hN
  have H5 := Lib.hid (fun W => digits_any N L hN hL hL39 W)
  have HN := Lib.hid (fun W => narrow_any N (Nat.lt_trans hN (by decide)) W)
  rw [fit_id hN, over_id hN] at HN
  have qz : ∀ W, (binOp .eql 27 (.agg #[.int .u64 (wd N 1), .int .u64 (wd N 0)]) (.agg #[.int .u64 0, .int .u64 0])).run Try.prog W = .ok (.bool (decide (N = 0))) W := fun W => by
    rw [eq_wide]
    have e := wd_eq_iff hN (show 0 < 2 ^ 128 by decide)
    rw [wd_zero, wd_zero] at e
    rw [e]
  have qe : ∀ W, (binOp .eql 27 (.agg #[.int .u64 (wd N 1), .int .u64 (wd N 0)]) (.agg #[.int .u64 (wd N 1), .int .u64 (wd N 0)])).run Try.prog W = .ok (.bool true) W := fun W => by rw [eq_wide]; simp
  have qn : ∀ W, (binOp .neq 27 (.agg #[.int .u64 (wd N 1), .int .u64 (wd N 0)]) (.agg #[.int .u64 (wd N 1), .int .u64 (wd N 0)])).run Try.prog W = .ok (.bool false) W := fun W => by rw [neq_wide]; simp
  by_cases h0 : N = 0
  · obtain ⟨n, hn⟩ : ∃ n : Nat, n = 0 := ⟨_, rfl⟩
    have H6 : Hid (∀ W, Calls Try.prog 32 #[.agg #[.int .u64 (wd N 1), .int .u64 (wd N 0)]] W fun e w' => e = .returned (.tuple #[.agg #[.int .u64 (wd N 1), .int .u64 (wd N 0)], .int .i64 (n : Int)]) ∧ Below W.heap.size W w') := Lib.hid (fun W => by
      have h := trim_zero W
      rw [show wd N 1 = 0 by rw [h0, wd_zero], show wd N 0 = 0 by rw [h0, wd_zero], hn]
      exact h)
    have H7 : Hid (∀ W, Calls Try.prog 30 #[.int .i64 (n : Int)] W fun e w' => e = .returned (.tuple #[.agg #[.int .u64 (wd 1 1), .int .u64 (wd 1 0)], .int .i64 0]) ∧ Below W.heap.size W w') := Lib.hid (fun W => by
      have h := ten_any 0 (by decide) W
      rw [Nat.pow_zero] at h
      rw [hn]
      exact h)
    have H8 := Lib.hid (fun W => mul_any N 1 hN (by decide) W)
    rw [Nat.mul_one] at H8
    rw [decide_eq_true h0] at qz
    have n38 : (n : Int) ≤ 38 := by omega
    clear h0 hn hL hL39
    clear hN hp hk
    go_enter Try.func8, Try.ntmps8
    go_wp2_with ((go_at_call 10; with_reducible refine (known_any _).mono ?_); rintro _ w1 ⟨rfl, hb1⟩; have hb1s := hb1.size; (try simp only [World.size_alloc, World.size_setCell, World.size_drew, World.heap_drewN] at hb1s); obtain ⟨hb1c, hb1f⟩ := bcell hb1; (try have : w.heap.size < w1.heap.size := by omega); (try have : w.heap.size + 1 < w1.heap.size := by omega); (try have : w.heap.size + 1 + 1 < w1.heap.size := by omega); (try have : w.heap.size + 1 + 1 + 1 < w1.heap.size := by omega))
    rw [HK.out]
    go_wp2_with (first | ((go_at_call 30; with_reducible refine (H1.out _).mono ?_); rintro _ w2 ⟨rfl, hb2⟩; have hb2s := hb2.size; (try simp only [World.size_alloc, World.size_setCell, World.size_drew, World.heap_drewN] at hb2s); obtain ⟨hb2c, hb2f⟩ := bcell hb2; (try have : w.heap.size < w2.heap.size := by omega); (try have : w.heap.size + 1 < w2.heap.size := by omega); (try have : w.heap.size + 1 + 1 < w2.heap.size := by omega); (try have : w.heap.size + 1 + 1 + 1 < w2.heap.size := by omega); (try have : w1.heap.size < w2.heap.size := by omega); (try have : w1.heap.size + 1 < w2.heap.size := by omega); (try have : w1.heap.size + 1 + 1 < w2.heap.size := by omega); (try have : w1.heap.size + 1 + 1 + 1 < w2.heap.size := by omega)) | ((go_at_call 33; with_reducible refine (H2.out _).mono ?_); rintro _ w3 ⟨rfl, hb3⟩; have hb3s := hb3.size; (try simp only [World.size_alloc, World.size_setCell, World.size_drew, World.heap_drewN] at hb3s); obtain ⟨hb3c, hb3f⟩ := bcell hb3; (try have : w.heap.size < w3.heap.size := by omega); (try have : w.heap.size + 1 < w3.heap.size := by omega); (try have : w.heap.size + 1 + 1 < w3.heap.size := by omega); (try have : w.heap.size + 1 + 1 + 1 < w3.heap.size := by omega); (try have : w1.heap.size < w3.heap.size := by omega); (try have : w1.heap.size + 1 < w3.heap.size := by omega); (try have : w1.heap.size + 1 + 1 < w3.heap.size := by omega); (try have : w1.heap.size + 1 + 1 + 1 < w3.heap.size := by omega); (try have : w2.heap.size < w3.heap.size := by omega); (try have : w2.heap.size + 1 < w3.heap.size := by omega); (try have : w2.heap.size + 1 + 1 < w3.heap.size := by omega); (try have : w2.heap.size + 1 + 1 + 1 < w3.heap.size := by omega)) | ((go_at_call 21; with_reducible refine (H3.out _).mono ?_); rintro _ w4 ⟨rfl, hb4⟩; have hb4s := hb4.size; (try simp only [World.size_alloc, World.size_setCell, World.size_drew, World.heap_drewN] at hb4s); obtain ⟨hb4c, hb4f⟩ := bcell hb4; (try have : w.heap.size < w4.heap.size := by omega); (try have : w.heap.size + 1 < w4.heap.size := by omega); (try have : w.heap.size + 1 + 1 < w4.heap.size := by omega); (try have : w.heap.size + 1 + 1 + 1 < w4.heap.size := by omega); (try have : w1.heap.size < w4.heap.size := by omega); (try have : w1.heap.size + 1 < w4.heap.size := by omega); (try have : w1.heap.size + 1 + 1 < w4.heap.size := by omega); (try have : w1.heap.size + 1 + 1 + 1 < w4.heap.size := by omega); (try have : w2.heap.size < w4.heap.size := by omega); (try have : w2.heap.size + 1 < w4.heap.size := by omega); (try have : w2.heap.size + 1 + 1 < w4.heap.size := by omega); (try have : w2.heap.size + 1 + 1 + 1 < w4.heap.size := by omega); (try have : w3.heap.size < w4.heap.size := by omega); (try have : w3.heap.size + 1 < w4.heap.size := by omega); (try have : w3.heap.size + 1 + 1 < w4.heap.size := by omega); (try have : w3.heap.size + 1 + 1 + 1 < w4.heap.size := by omega)) | ((go_at_call 12; with_reducible refine (H4.out _).mono ?_); rintro _ w5 ⟨rfl, hb5⟩; have hb5s := hb5.size; (try simp only [World.size_alloc, World.size_setCell, World.size_drew, World.heap_drewN] at hb5s); obtain ⟨hb5c, hb5f⟩ := bcell hb5; (try have : w.heap.size < w5.heap.size := by omega); (try have : w.heap.size + 1 < w5.heap.size := by omega); (try have : w.heap.size + 1 + 1 < w5.heap.size := by omega); (try have : w.heap.size + 1 + 1 + 1 < w5.heap.size := by omega); (try have : w1.heap.size < w5.heap.size := by omega); (try have : w1.heap.size + 1 < w5.heap.size := by omega); (try have : w1.heap.size + 1 + 1 < w5.heap.size := by omega); (try have : w1.heap.size + 1 + 1 + 1 < w5.heap.size := by omega); (try have : w2.heap.size < w5.heap.size := by omega); (try have : w2.heap.size + 1 < w5.heap.size := by omega); (try have : w2.heap.size + 1 + 1 < w5.heap.size := by omega); (try have : w2.heap.size + 1 + 1 + 1 < w5.heap.size := by omega); (try have : w3.heap.size < w5.heap.size := by omega); (try have : w3.heap.size + 1 < w5.heap.size := by omega); (try have : w3.heap.size + 1 + 1 < w5.heap.size := by omega); (try have : w3.heap.size + 1 + 1 + 1 < w5.heap.size := by omega); (try have : w4.heap.size < w5.heap.size := by omega); (try have : w4.heap.size + 1 < w5.heap.size := by omega); (try have : w4.heap.size + 1 + 1 < w5.heap.size := by omega); (try have : w4.heap.size + 1 + 1 + 1 < w5.heap.size := by omega)) | ((go_at_call 32; with_reducible refine (H6.out _).mono ?_); rintro _ w6 ⟨rfl, hb6⟩; have hb6s := hb6.size; (try simp only [World.size_alloc, World.size_setCell, World.size_drew, World.heap_drewN] at hb6s); obtain ⟨hb6c, hb6f⟩ := bcell hb6; (try have : w.heap.size < w6.heap.size := by omega); (try have : w.heap.size + 1 < w6.heap.size := by omega); (try have : w.heap.size + 1 + 1 < w6.heap.size := by omega); (try have : w.heap.size + 1 + 1 + 1 < w6.heap.size := by omega); (try have : w1.heap.size < w6.heap.size := by omega); (try have : w1.heap.size + 1 < w6.heap.size := by omega); (try have : w1.heap.size + 1 + 1 < w6.heap.size := by omega); (try have : w1.heap.size + 1 + 1 + 1 < w6.heap.size := by omega); (try have : w2.heap.size < w6.heap.size := by omega); (try have : w2.heap.size + 1 < w6.heap.size := by omega); (try have : w2.heap.size + 1 + 1 < w6.heap.size := by omega); (try have : w2.heap.size + 1 + 1 + 1 < w6.heap.size := by omega); (try have : w3.heap.size < w6.heap.size := by omega); (try have : w3.heap.size + 1 < w6.heap.size := by omega); (try have : w3.heap.size + 1 + 1 < w6.heap.size := by omega); (try have : w3.heap.size + 1 + 1 + 1 < w6.heap.size := by omega); (try have : w4.heap.size < w6.heap.size := by omega); (try have : w4.heap.size + 1 < w6.heap.size := by omega); (try have : w4.heap.size + 1 + 1 < w6.heap.size := by omega); (try have : w4.heap.size + 1 + 1 + 1 < w6.heap.size := by omega); (try have : w5.heap.size < w6.heap.size := by omega); (try have : w5.heap.size + 1 < w6.heap.size := by omega); (try have : w5.heap.size + 1 + 1 < w6.heap.size := by omega); (try have : w5.heap.size + 1 + 1 + 1 < w6.heap.size := by omega)) | ((go_at_call 30; with_reducible refine (H7.out _).mono ?_); rintro _ w7 ⟨rfl, hb7⟩; have hb7s := hb7.size; (try simp only [World.size_alloc, World.size_setCell, World.size_drew, World.heap_drewN] at hb7s); obtain ⟨hb7c, hb7f⟩ := bcell hb7; (try have : w.heap.size < w7.heap.size := by omega); (try have : w.heap.size + 1 < w7.heap.size := by omega); (try have : w.heap.size + 1 + 1 < w7.heap.size := by omega); (try have : w.heap.size + 1 + 1 + 1 < w7.heap.size := by omega); (try have : w1.heap.size < w7.heap.size := by omega); (try have : w1.heap.size + 1 < w7.heap.size := by omega); (try have : w1.heap.size + 1 + 1 < w7.heap.size := by omega); (try have : w1.heap.size + 1 + 1 + 1 < w7.heap.size := by omega); (try have : w2.heap.size < w7.heap.size := by omega); (try have : w2.heap.size + 1 < w7.heap.size := by omega); (try have : w2.heap.size + 1 + 1 < w7.heap.size := by omega); (try have : w2.heap.size + 1 + 1 + 1 < w7.heap.size := by omega); (try have : w5.heap.size < w7.heap.size := by omega); (try have : w5.heap.size + 1 < w7.heap.size := by omega); (try have : w5.heap.size + 1 + 1 < w7.heap.size := by omega); (try have : w5.heap.size + 1 + 1 + 1 < w7.heap.size := by omega); (try have : w6.heap.size < w7.heap.size := by omega); (try have : w6.heap.size + 1 < w7.heap.size := by omega); (try have : w6.heap.size + 1 + 1 < w7.heap.size := by omega); (try have : w6.heap.size + 1 + 1 + 1 < w7.heap.size := by omega)) | ((go_at_call 21; with_reducible refine (H8.out _).mono ?_); rintro _ w8 ⟨rfl, hb8⟩; have hb8s := hb8.size; (try simp only [World.size_alloc, World.size_setCell, World.size_drew, World.heap_drewN] at hb8s); obtain ⟨hb8c, hb8f⟩ := bcell hb8; (try have : w.heap.size < w8.heap.size := by omega); (try have : w.heap.size + 1 < w8.heap.size := by omega); (try have : w.heap.size + 1 + 1 < w8.heap.size := by omega); (try have : w.heap.size + 1 + 1 + 1 < w8.heap.size := by omega); (try have : w1.heap.size < w8.heap.size := by omega); (try have : w1.heap.size + 1 < w8.heap.size := by omega); (try have : w1.heap.size + 1 + 1 < w8.heap.size := by omega); (try have : w1.heap.size + 1 + 1 + 1 < w8.heap.size := by omega); (try have : w2.heap.size < w8.heap.size := by omega); (try have : w2.heap.size + 1 < w8.heap.size := by omega); (try have : w2.heap.size + 1 + 1 < w8.heap.size := by omega); (try have : w2.heap.size + 1 + 1 + 1 < w8.heap.size := by omega); (try have : w5.heap.size < w8.heap.size := by omega); (try have : w5.heap.size + 1 < w8.heap.size := by omega); (try have : w5.heap.size + 1 + 1 < w8.heap.size := by omega); (try have : w5.heap.size + 1 + 1 + 1 < w8.heap.size := by omega); (try have : w6.heap.size < w8.heap.size := by omega); (try have : w6.heap.size + 1 < w8.heap.size := by omega); (try have : w6.heap.size + 1 + 1 < w8.heap.size := by omega); (try have : w6.heap.size + 1 + 1 + 1 < w8.heap.size := by omega); (try have : w7.heap.size < w8.heap.size := by omega); (try have : w7.heap.size + 1 < w8.heap.size := by omega); (try have : w7.heap.size + 1 + 1 < w8.heap.size := by omega); (try have : w7.heap.size + 1 + 1 + 1 < w8.heap.size := by omega)) | ((go_at_call 28; with_reducible refine (HN.out _).mono ?_); rintro _ w9 ⟨rfl, hb9⟩; have hb9s := hb9.size; (try simp only [World.size_alloc, World.size_setCell, World.size_drew, World.heap_drewN] at hb9s); obtain ⟨hb9c, hb9f⟩ := bcell hb9; (try have : w.heap.size < w9.heap.size := by omega); (try have : w.heap.size + 1 < w9.heap.size := by omega); (try have : w.heap.size + 1 + 1 < w9.heap.size := by omega); (try have : w.heap.size + 1 + 1 + 1 < w9.heap.size := by omega); (try have : w1.heap.size < w9.heap.size := by omega); (try have : w1.heap.size + 1 < w9.heap.size := by omega); (try have : w1.heap.size + 1 + 1 < w9.heap.size := by omega); (try have : w1.heap.size + 1 + 1 + 1 < w9.heap.size := by omega); (try have : w2.heap.size < w9.heap.size := by omega); (try have : w2.heap.size + 1 < w9.heap.size := by omega); (try have : w2.heap.size + 1 + 1 < w9.heap.size := by omega); (try have : w2.heap.size + 1 + 1 + 1 < w9.heap.size := by omega); (try have : w5.heap.size < w9.heap.size := by omega); (try have : w5.heap.size + 1 < w9.heap.size := by omega); (try have : w5.heap.size + 1 + 1 < w9.heap.size := by omega); (try have : w5.heap.size + 1 + 1 + 1 < w9.heap.size := by omega); (try have : w6.heap.size < w9.heap.size := by omega); (try have : w6.heap.size + 1 < w9.heap.size := by omega); (try have : w6.heap.size + 1 + 1 < w9.heap.size := by omega); (try have : w6.heap.size + 1 + 1 + 1 < w9.heap.size := by omega); (try have : w7.heap.size < w9.heap.size := by omega); (try have : w7.heap.size + 1 < w9.heap.size := by omega); (try have : w7.heap.size + 1 + 1 < w9.heap.size := by omega); (try have : w7.heap.size + 1 + 1 + 1 < w9.heap.size := by omega); (try have : w8.heap.size < w9.heap.size := by omega); (try have : w8.heap.size + 1 < w9.heap.size := by omega); (try have : w8.heap.size + 1 + 1 < w9.heap.size := by omega); (try have : w8.heap.size + 1 + 1 + 1 < w9.heap.size := by omega)))
    have k2 : Bk (w9.alloc (.cells #[.int .u64 (wd N 1), .int .u64 (wd N 0)] 27)) w.heap.size 27 [.int .u64 (wd N 1), .int .u64 (wd N 0)] := by (repeat (first | (with_reducible assumption) | ((with_reducible refine Bk.new_ ?_); (first | rfl | (simp only [World.size_alloc, World.size_setCell, World.size_drew, World.heap_drewN]; done))) | (with_reducible refine Bk.alloc ?_ _) | (with_reducible refine Bk.drew ?_) | (with_reducible refine Bk.drewN ?_ _) | ((with_reducible refine Bk.far ?_ ?_ _); rotate_left; focus (simp only []; omega)) | ((with_reducible refine Bk.below ?_ (by with_reducible assumption) ?_); rotate_left; focus (go_size; done))))
    have k8 : Bk (w9.alloc (.cells #[.int .u64 (wd N 1), .int .u64 (wd N 0)] 27)) w6.heap.size 27 [.int .u64 (wd N 1), .int .u64 (wd N 0)] := by (repeat (first | (with_reducible assumption) | ((with_reducible refine Bk.new_ ?_); (first | rfl | (simp only [World.size_alloc, World.size_setCell, World.size_drew, World.heap_drewN]; done))) | (with_reducible refine Bk.alloc ?_ _) | (with_reducible refine Bk.drew ?_) | (with_reducible refine Bk.drewN ?_ _) | ((with_reducible refine Bk.far ?_ ?_ _); rotate_left; focus (simp only []; omega)) | ((with_reducible refine Bk.below ?_ (by with_reducible assumption) ?_); rotate_left; focus (go_size; done))))
    have k11 : Bk (w9.alloc (.cells #[.int .u64 (wd N 1), .int .u64 (wd N 0)] 27)) w9.heap.size 27 [.int .u64 (wd N 1), .int .u64 (wd N 0)] := Bk.new_ rfl
    have mb : Below w.heap.size w (w9.alloc (.cells #[.int .u64 (wd N 1), .int .u64 (wd N 0)] 27)) := by (repeat' (first | (with_reducible exact Below.refl _ _) | (with_reducible assumption) | (with_reducible refine Below.drew ?_) | (with_reducible refine below_drewN ?_ _) | ((with_reducible refine Below.alloc ?_ ?_ _); rotate_left; focus (go_size; done)) | ((with_reducible refine Below.setCell ?_ ?_ _); rotate_left; focus (go_size; done)) | ((with_reducible refine Below.trans ?_ (Below.mono (by with_reducible assumption) ?_)); rotate_left; focus (go_size; done))))
    generalize w9.alloc (.cells #[.int .u64 (wd N 1), .int .u64 (wd N 0)] 27) = W at *
    clear hb1 hb2 hb3 hb4 hb5 hb6 hb7 hb8 hb9 hb1c hb2c hb3c hb4c hb5c hb6c hb7c hb8c hb9c hb1f hb2f hb3f hb4f hb5f hb6f hb7f hb8f hb9f
    generalize w9.heap.size = B11 at *
    generalize w6.heap.size = B8 at *
    have c2 := k2.cell 0 rfl
    have c2' := k2.cell 1 rfl
    have c8 := k8.cell 0 rfl
    have c8' := k8.cell 1 rfl
    have c11 := k11.cell 0 rfl
    have c11' := k11.cell 1 rfl
    clear k2 k8 k11
    go_quiet (fail)
    go_wp2_with fail
    go_ret
    exact ⟨rfl, by (repeat' (first | (with_reducible exact Below.refl _ _) | (with_reducible assumption) | (with_reducible refine Below.drew ?_) | (with_reducible refine below_drewN ?_ _) | ((with_reducible refine Below.alloc ?_ ?_ _); rotate_left; focus (go_size; done)) | ((with_reducible refine Below.setCell ?_ ?_ _); rotate_left; focus (go_size; done)) | ((with_reducible refine Below.trans ?_ (Below.mono (by with_reducible assumption) ?_)); rotate_left; focus (go_size; done))))⟩
  · obtain ⟨T, n, hz⟩ := tz_upto N 39 h0 (Nat.lt_trans hN (by decide))
    have hn38 := hz.k_le hN
    have hT : T < 2 ^ 128 := by
      have h1 := hz.1
      have h2 : T ≤ N := by rw [h1]; exact Nat.le_mul_of_pos_right _ (Nat.pow_pos (by decide))
      omega
    obtain ⟨hn1, hLT⟩ := nd_tz hz hL
    have H6 := Lib.hid (fun W => trim_any N T n hN hz W)
    have H7 := Lib.hid (fun W => ten_any n hn38 W)
    have H8 := Lib.hid (fun W => mul_any T (10 ^ n) hT (ten_38 hn38) W)
    rw [← hz.1] at H8
    have H9 := Lib.hid (fun W => digits_any T (L - n) hT hLT (by omega) W)
    have hLn : ((L - n : Nat) : Int) = (L : Int) - (n : Int) := by omega
    rw [hLn] at H9
    rw [decide_eq_false h0] at qz
    have n38 : (n : Int) ≤ 38 := by omega
    have nL : (n : Int) < (L : Int) := by omega
    have hL39' : (L : Int) ≤ 39 := by omega
    have hwr : IntKind.i64.wrap (L : Int) = (L : Int) := IntWalk.i64_in _ (by omega)
    generalize 10 ^ n = r at *
    clear h0 hL hLT hz hT hLn hn1 hL39 hn38
    clear hN hp hk
    go_enter Try.func8, Try.ntmps8
    go_wp2_with ((go_at_call 10; with_reducible refine (known_any _).mono ?_); rintro _ w1 ⟨rfl, hb1⟩; have hb1s := hb1.size; (try simp only [World.size_alloc, World.size_setCell, World.size_drew, World.heap_drewN] at hb1s); obtain ⟨hb1c, hb1f⟩ := bcell hb1; (try have : w.heap.size < w1.heap.size := by omega); (try have : w.heap.size + 1 < w1.heap.size := by omega); (try have : w.heap.size + 1 + 1 < w1.heap.size := by omega); (try have : w.heap.size + 1 + 1 + 1 < w1.heap.size := by omega))
    rw [HK.out]
    go_wp2_with (first | ((go_at_call 30; with_reducible refine (H1.out _).mono ?_); rintro _ w2 ⟨rfl, hb2⟩; have hb2s := hb2.size; (try simp only [World.size_alloc, World.size_setCell, World.size_drew, World.heap_drewN] at hb2s); obtain ⟨hb2c, hb2f⟩ := bcell hb2; (try have : w.heap.size < w2.heap.size := by omega); (try have : w.heap.size + 1 < w2.heap.size := by omega); (try have : w.heap.size + 1 + 1 < w2.heap.size := by omega); (try have : w.heap.size + 1 + 1 + 1 < w2.heap.size := by omega); (try have : w1.heap.size < w2.heap.size := by omega); (try have : w1.heap.size + 1 < w2.heap.size := by omega); (try have : w1.heap.size + 1 + 1 < w2.heap.size := by omega); (try have : w1.heap.size + 1 + 1 + 1 < w2.heap.size := by omega)) | ((go_at_call 33; with_reducible refine (H2.out _).mono ?_); rintro _ w3 ⟨rfl, hb3⟩; have hb3s := hb3.size; (try simp only [World.size_alloc, World.size_setCell, World.size_drew, World.heap_drewN] at hb3s); obtain ⟨hb3c, hb3f⟩ := bcell hb3; (try have : w.heap.size < w3.heap.size := by omega); (try have : w.heap.size + 1 < w3.heap.size := by omega); (try have : w.heap.size + 1 + 1 < w3.heap.size := by omega); (try have : w.heap.size + 1 + 1 + 1 < w3.heap.size := by omega); (try have : w1.heap.size < w3.heap.size := by omega); (try have : w1.heap.size + 1 < w3.heap.size := by omega); (try have : w1.heap.size + 1 + 1 < w3.heap.size := by omega); (try have : w1.heap.size + 1 + 1 + 1 < w3.heap.size := by omega); (try have : w2.heap.size < w3.heap.size := by omega); (try have : w2.heap.size + 1 < w3.heap.size := by omega); (try have : w2.heap.size + 1 + 1 < w3.heap.size := by omega); (try have : w2.heap.size + 1 + 1 + 1 < w3.heap.size := by omega)) | ((go_at_call 21; with_reducible refine (H3.out _).mono ?_); rintro _ w4 ⟨rfl, hb4⟩; have hb4s := hb4.size; (try simp only [World.size_alloc, World.size_setCell, World.size_drew, World.heap_drewN] at hb4s); obtain ⟨hb4c, hb4f⟩ := bcell hb4; (try have : w.heap.size < w4.heap.size := by omega); (try have : w.heap.size + 1 < w4.heap.size := by omega); (try have : w.heap.size + 1 + 1 < w4.heap.size := by omega); (try have : w.heap.size + 1 + 1 + 1 < w4.heap.size := by omega); (try have : w1.heap.size < w4.heap.size := by omega); (try have : w1.heap.size + 1 < w4.heap.size := by omega); (try have : w1.heap.size + 1 + 1 < w4.heap.size := by omega); (try have : w1.heap.size + 1 + 1 + 1 < w4.heap.size := by omega); (try have : w2.heap.size < w4.heap.size := by omega); (try have : w2.heap.size + 1 < w4.heap.size := by omega); (try have : w2.heap.size + 1 + 1 < w4.heap.size := by omega); (try have : w2.heap.size + 1 + 1 + 1 < w4.heap.size := by omega); (try have : w3.heap.size < w4.heap.size := by omega); (try have : w3.heap.size + 1 < w4.heap.size := by omega); (try have : w3.heap.size + 1 + 1 < w4.heap.size := by omega); (try have : w3.heap.size + 1 + 1 + 1 < w4.heap.size := by omega)) | ((go_at_call 12; with_reducible refine (H4.out _).mono ?_); rintro _ w5 ⟨rfl, hb5⟩; have hb5s := hb5.size; (try simp only [World.size_alloc, World.size_setCell, World.size_drew, World.heap_drewN] at hb5s); obtain ⟨hb5c, hb5f⟩ := bcell hb5; (try have : w.heap.size < w5.heap.size := by omega); (try have : w.heap.size + 1 < w5.heap.size := by omega); (try have : w.heap.size + 1 + 1 < w5.heap.size := by omega); (try have : w.heap.size + 1 + 1 + 1 < w5.heap.size := by omega); (try have : w1.heap.size < w5.heap.size := by omega); (try have : w1.heap.size + 1 < w5.heap.size := by omega); (try have : w1.heap.size + 1 + 1 < w5.heap.size := by omega); (try have : w1.heap.size + 1 + 1 + 1 < w5.heap.size := by omega); (try have : w2.heap.size < w5.heap.size := by omega); (try have : w2.heap.size + 1 < w5.heap.size := by omega); (try have : w2.heap.size + 1 + 1 < w5.heap.size := by omega); (try have : w2.heap.size + 1 + 1 + 1 < w5.heap.size := by omega); (try have : w3.heap.size < w5.heap.size := by omega); (try have : w3.heap.size + 1 < w5.heap.size := by omega); (try have : w3.heap.size + 1 + 1 < w5.heap.size := by omega); (try have : w3.heap.size + 1 + 1 + 1 < w5.heap.size := by omega); (try have : w4.heap.size < w5.heap.size := by omega); (try have : w4.heap.size + 1 < w5.heap.size := by omega); (try have : w4.heap.size + 1 + 1 < w5.heap.size := by omega); (try have : w4.heap.size + 1 + 1 + 1 < w5.heap.size := by omega)) | ((go_at_call 32; with_reducible refine (H6.out _).mono ?_); rintro _ w6 ⟨rfl, hb6⟩; have hb6s := hb6.size; (try simp only [World.size_alloc, World.size_setCell, World.size_drew, World.heap_drewN] at hb6s); obtain ⟨hb6c, hb6f⟩ := bcell hb6; (try have : w.heap.size < w6.heap.size := by omega); (try have : w.heap.size + 1 < w6.heap.size := by omega); (try have : w.heap.size + 1 + 1 < w6.heap.size := by omega); (try have : w.heap.size + 1 + 1 + 1 < w6.heap.size := by omega); (try have : w1.heap.size < w6.heap.size := by omega); (try have : w1.heap.size + 1 < w6.heap.size := by omega); (try have : w1.heap.size + 1 + 1 < w6.heap.size := by omega); (try have : w1.heap.size + 1 + 1 + 1 < w6.heap.size := by omega); (try have : w2.heap.size < w6.heap.size := by omega); (try have : w2.heap.size + 1 < w6.heap.size := by omega); (try have : w2.heap.size + 1 + 1 < w6.heap.size := by omega); (try have : w2.heap.size + 1 + 1 + 1 < w6.heap.size := by omega); (try have : w3.heap.size < w6.heap.size := by omega); (try have : w3.heap.size + 1 < w6.heap.size := by omega); (try have : w3.heap.size + 1 + 1 < w6.heap.size := by omega); (try have : w3.heap.size + 1 + 1 + 1 < w6.heap.size := by omega); (try have : w4.heap.size < w6.heap.size := by omega); (try have : w4.heap.size + 1 < w6.heap.size := by omega); (try have : w4.heap.size + 1 + 1 < w6.heap.size := by omega); (try have : w4.heap.size + 1 + 1 + 1 < w6.heap.size := by omega); (try have : w5.heap.size < w6.heap.size := by omega); (try have : w5.heap.size + 1 < w6.heap.size := by omega); (try have : w5.heap.size + 1 + 1 < w6.heap.size := by omega); (try have : w5.heap.size + 1 + 1 + 1 < w6.heap.size := by omega)) | ((go_at_call 30; with_reducible refine (H7.out _).mono ?_); rintro _ w7 ⟨rfl, hb7⟩; have hb7s := hb7.size; (try simp only [World.size_alloc, World.size_setCell, World.size_drew, World.heap_drewN] at hb7s); obtain ⟨hb7c, hb7f⟩ := bcell hb7; (try have : w.heap.size < w7.heap.size := by omega); (try have : w.heap.size + 1 < w7.heap.size := by omega); (try have : w.heap.size + 1 + 1 < w7.heap.size := by omega); (try have : w.heap.size + 1 + 1 + 1 < w7.heap.size := by omega); (try have : w1.heap.size < w7.heap.size := by omega); (try have : w1.heap.size + 1 < w7.heap.size := by omega); (try have : w1.heap.size + 1 + 1 < w7.heap.size := by omega); (try have : w1.heap.size + 1 + 1 + 1 < w7.heap.size := by omega); (try have : w2.heap.size < w7.heap.size := by omega); (try have : w2.heap.size + 1 < w7.heap.size := by omega); (try have : w2.heap.size + 1 + 1 < w7.heap.size := by omega); (try have : w2.heap.size + 1 + 1 + 1 < w7.heap.size := by omega); (try have : w5.heap.size < w7.heap.size := by omega); (try have : w5.heap.size + 1 < w7.heap.size := by omega); (try have : w5.heap.size + 1 + 1 < w7.heap.size := by omega); (try have : w5.heap.size + 1 + 1 + 1 < w7.heap.size := by omega); (try have : w6.heap.size < w7.heap.size := by omega); (try have : w6.heap.size + 1 < w7.heap.size := by omega); (try have : w6.heap.size + 1 + 1 < w7.heap.size := by omega); (try have : w6.heap.size + 1 + 1 + 1 < w7.heap.size := by omega)) | ((go_at_call 21; with_reducible refine (H8.out _).mono ?_); rintro _ w8 ⟨rfl, hb8⟩; have hb8s := hb8.size; (try simp only [World.size_alloc, World.size_setCell, World.size_drew, World.heap_drewN] at hb8s); obtain ⟨hb8c, hb8f⟩ := bcell hb8; (try have : w.heap.size < w8.heap.size := by omega); (try have : w.heap.size + 1 < w8.heap.size := by omega); (try have : w.heap.size + 1 + 1 < w8.heap.size := by omega); (try have : w.heap.size + 1 + 1 + 1 < w8.heap.size := by omega); (try have : w1.heap.size < w8.heap.size := by omega); (try have : w1.heap.size + 1 < w8.heap.size := by omega); (try have : w1.heap.size + 1 + 1 < w8.heap.size := by omega); (try have : w1.heap.size + 1 + 1 + 1 < w8.heap.size := by omega); (try have : w2.heap.size < w8.heap.size := by omega); (try have : w2.heap.size + 1 < w8.heap.size := by omega); (try have : w2.heap.size + 1 + 1 < w8.heap.size := by omega); (try have : w2.heap.size + 1 + 1 + 1 < w8.heap.size := by omega); (try have : w5.heap.size < w8.heap.size := by omega); (try have : w5.heap.size + 1 < w8.heap.size := by omega); (try have : w5.heap.size + 1 + 1 < w8.heap.size := by omega); (try have : w5.heap.size + 1 + 1 + 1 < w8.heap.size := by omega); (try have : w6.heap.size < w8.heap.size := by omega); (try have : w6.heap.size + 1 < w8.heap.size := by omega); (try have : w6.heap.size + 1 + 1 < w8.heap.size := by omega); (try have : w6.heap.size + 1 + 1 + 1 < w8.heap.size := by omega); (try have : w7.heap.size < w8.heap.size := by omega); (try have : w7.heap.size + 1 < w8.heap.size := by omega); (try have : w7.heap.size + 1 + 1 < w8.heap.size := by omega); (try have : w7.heap.size + 1 + 1 + 1 < w8.heap.size := by omega)) | ((go_at_call 28; with_reducible refine (HN.out _).mono ?_); rintro _ w9 ⟨rfl, hb9⟩; have hb9s := hb9.size; (try simp only [World.size_alloc, World.size_setCell, World.size_drew, World.heap_drewN] at hb9s); obtain ⟨hb9c, hb9f⟩ := bcell hb9; (try have : w.heap.size < w9.heap.size := by omega); (try have : w.heap.size + 1 < w9.heap.size := by omega); (try have : w.heap.size + 1 + 1 < w9.heap.size := by omega); (try have : w.heap.size + 1 + 1 + 1 < w9.heap.size := by omega); (try have : w1.heap.size < w9.heap.size := by omega); (try have : w1.heap.size + 1 < w9.heap.size := by omega); (try have : w1.heap.size + 1 + 1 < w9.heap.size := by omega); (try have : w1.heap.size + 1 + 1 + 1 < w9.heap.size := by omega); (try have : w2.heap.size < w9.heap.size := by omega); (try have : w2.heap.size + 1 < w9.heap.size := by omega); (try have : w2.heap.size + 1 + 1 < w9.heap.size := by omega); (try have : w2.heap.size + 1 + 1 + 1 < w9.heap.size := by omega); (try have : w5.heap.size < w9.heap.size := by omega); (try have : w5.heap.size + 1 < w9.heap.size := by omega); (try have : w5.heap.size + 1 + 1 < w9.heap.size := by omega); (try have : w5.heap.size + 1 + 1 + 1 < w9.heap.size := by omega); (try have : w6.heap.size < w9.heap.size := by omega); (try have : w6.heap.size + 1 < w9.heap.size := by omega); (try have : w6.heap.size + 1 + 1 < w9.heap.size := by omega); (try have : w6.heap.size + 1 + 1 + 1 < w9.heap.size := by omega); (try have : w7.heap.size < w9.heap.size := by omega); (try have : w7.heap.size + 1 < w9.heap.size := by omega); (try have : w7.heap.size + 1 + 1 < w9.heap.size := by omega); (try have : w7.heap.size + 1 + 1 + 1 < w9.heap.size := by omega); (try have : w8.heap.size < w9.heap.size := by omega); (try have : w8.heap.size + 1 < w9.heap.size := by omega); (try have : w8.heap.size + 1 + 1 < w9.heap.size := by omega); (try have : w8.heap.size + 1 + 1 + 1 < w9.heap.size := by omega)))
    have k2 : Bk (w9.alloc (.cells #[.int .u64 (wd N 1), .int .u64 (wd N 0)] 27)) w.heap.size 27 [.int .u64 (wd N 1), .int .u64 (wd N 0)] := by (repeat (first | (with_reducible assumption) | ((with_reducible refine Bk.new_ ?_); (first | rfl | (simp only [World.size_alloc, World.size_setCell, World.size_drew, World.heap_drewN]; done))) | (with_reducible refine Bk.alloc ?_ _) | (with_reducible refine Bk.drew ?_) | (with_reducible refine Bk.drewN ?_ _) | ((with_reducible refine Bk.far ?_ ?_ _); rotate_left; focus (simp only []; omega)) | ((with_reducible refine Bk.below ?_ (by with_reducible assumption) ?_); rotate_left; focus (go_size; done))))
    have k8 : Bk (w9.alloc (.cells #[.int .u64 (wd N 1), .int .u64 (wd N 0)] 27)) w6.heap.size 27 [.int .u64 (wd T 1), .int .u64 (wd T 0)] := by (repeat (first | (with_reducible assumption) | ((with_reducible refine Bk.new_ ?_); (first | rfl | (simp only [World.size_alloc, World.size_setCell, World.size_drew, World.heap_drewN]; done))) | (with_reducible refine Bk.alloc ?_ _) | (with_reducible refine Bk.drew ?_) | (with_reducible refine Bk.drewN ?_ _) | ((with_reducible refine Bk.far ?_ ?_ _); rotate_left; focus (simp only []; omega)) | ((with_reducible refine Bk.below ?_ (by with_reducible assumption) ?_); rotate_left; focus (go_size; done))))
    have k11 : Bk (w9.alloc (.cells #[.int .u64 (wd N 1), .int .u64 (wd N 0)] 27)) w9.heap.size 27 [.int .u64 (wd N 1), .int .u64 (wd N 0)] := Bk.new_ rfl
    have mb : Below w.heap.size w (w9.alloc (.cells #[.int .u64 (wd N 1), .int .u64 (wd N 0)] 27)) := by (repeat' (first | (with_reducible exact Below.refl _ _) | (with_reducible assumption) | (with_reducible refine Below.drew ?_) | (with_reducible refine below_drewN ?_ _) | ((with_reducible refine Below.alloc ?_ ?_ _); rotate_left; focus (go_size; done)) | ((with_reducible refine Below.setCell ?_ ?_ _); rotate_left; focus (go_size; done)) | ((with_reducible refine Below.trans ?_ (Below.mono (by with_reducible assumption) ?_)); rotate_left; focus (go_size; done))))
    generalize w9.alloc (.cells #[.int .u64 (wd N 1), .int .u64 (wd N 0)] 27) = W at *
    clear hb1 hb2 hb3 hb4 hb5 hb6 hb7 hb8 hb9 hb1c hb2c hb3c hb4c hb5c hb6c hb7c hb8c hb9c hb1f hb2f hb3f hb4f hb5f hb6f hb7f hb8f hb9f
    generalize w9.heap.size = B11 at *
    generalize w6.heap.size = B8 at *
    have l2 := k2.lt
    have l8 := k8.lt
    have l11 := k11.lt
    have c2 := k2.cell 0 rfl
    have c2' := k2.cell 1 rfl
    have c8 := k8.cell 0 rfl
    have c8' := k8.cell 1 rfl
    have c11 := k11.cell 0 rfl
    have c11' := k11.cell 1 rfl
    clear k2 k8 k11
    go_region_held3 (fun w' => (w'.cell? ⟨w.heap.size, 0, none⟩ = some (.int .u64 (wd N 1)) ∧ w'.cell? ⟨w.heap.size, 1, none⟩ = some (.int .u64 (wd N 0)) ∧ w'.cell? ⟨B8, 0, none⟩ = some (.int .u64 (wd T 1)) ∧ w'.cell? ⟨B8, 1, none⟩ = some (.int .u64 (wd T 0)) ∧ w'.cell? ⟨B11, 0, none⟩ = some (.int .u64 (wd N 1)) ∧ w'.cell? ⟨B11, 1, none⟩ = some (.int .u64 (wd N 0)))) (first | (go_keep; done) | (simp [go_sem]; done) | ((try dsimp only); (repeat' apply And.intro) <;> (first | (with_reducible assumption) | ((rw [World.cell?_alloc_lt _ _ _ (by show _ < _; omega)]); go_split_ands; (first | with_reducible assumption | (refine (World.cell?_alloc_lt _ _ _ (by show _ < _; omega)).symm.trans ?_; with_reducible assumption))) | ((rw [World.cell?_setCell_other _ _ _ _ (by intro e; injection e; omega)]); with_reducible assumption) | (go_keep; done) | (simp [go_sem]; done) | (simp (disch := go_size) [*, World.cell?_alloc_some, World.cell?_setCell_far]; done)))) (first | (go_at_call 33; (first | (with_reducible refine (H5.out _).mono ?_) | (with_reducible refine (H9.out _).mono ?_)); rintro _ w7 ⟨rfl, hb7⟩; have hb7s := hb7.size; (try simp only [World.size_alloc, World.size_setCell, World.size_drew, World.heap_drewN] at hb7s); obtain ⟨hb7c, hb7f⟩ := bcell hb7; (try have : w.heap.size < w7.heap.size := by omega); (try have : w.heap.size + 1 < w7.heap.size := by omega); (try have : w.heap.size + 1 + 1 < w7.heap.size := by omega); (try have : w.heap.size + 1 + 1 + 1 < w7.heap.size := by omega); (try have : B8 < w7.heap.size := by omega); (try have : B11 < w7.heap.size := by omega)))
    all_goals
      go_wp2_with fail
      go_ret
      exact ⟨rfl, by (repeat' (first | (with_reducible exact Below.refl _ _) | (with_reducible assumption) | (with_reducible refine Below.drew ?_) | (with_reducible refine below_drewN ?_ _) | ((with_reducible refine Below.alloc ?_ ?_ _); rotate_left; focus (go_size; done)) | ((with_reducible refine Below.setCell ?_ ?_ _); rotate_left; focus (go_size; done)) | ((with_reducible refine Below.trans ?_ (Below.mono (by with_reducible assumption) ?_)); rotate_left; focus (go_size; done))))⟩

set_option maxRecDepth 100000 in
theorem lifted_WideTens (os : Os) (started : os.Started) (H : Type) (enc : TypeId × Value → H) :
    ReturnsInHanded {} Try.checked os 8 .any (Rows.wideTensSpec.pre6 enc Try.prog Try.f8 Rows.wideTensRow.domain false) (Rows.wideTensSpec.post enc Try.prog Try.f8 false true false false) := by
  refine returnsInHanded_of_change (C := Try.checked) own started (by kernel_rfl) Try.func8
    (ChangeSpec.witness6 (enc := enc) (C := Try.checked) false ⟨#[], #[.agg #[.int .u64 0, .int .u64 0], .int .i64 0], []⟩ 8 (by kernel_rfl) (by kernel_rfl) (by kernel_rfl) (by kernel_rfl)) ?_
  intro W base args ds gs before hval0 hW hcnd _
  have hval : ∀ (j : Nat) t v, Try.f8.params[j]? = some t → args[j]? = some v → Value.okWide Try.prog W .any base t v := hval0
  have hW' := hW
  obtain ⟨p, q, hA0, hV, rfl, hfz, hnd⟩ := hW
  have hA : DataW.TrodAll enc Try.prog W 0 (fun _ => true) true Try.f8.params.toList args.toList ds p := hA0
  rw [Try.params8] at hA hval
  obtain ⟨v0, vs0, d0, ds0, p0, q0, hargs0, rfl, rfl, h0, r0⟩ := trodAll_cons hA
  obtain ⟨v1, vs1, d1, ds1, p1, q1, hargs1, rfl, rfl, h1, r1⟩ := trodAll_cons r0
  obtain ⟨rfl, rfl, rfl⟩ := trodAll_nil r1
  obtain rfl : args = #[v0, v1] := by cases args; simp_all
  obtain ⟨rfl, rfl⟩ := trodVars_none hV
  have k0 := h0
  have lt0 : ∀ x ∈ p0, x.block < W.heap.size := by obtain ⟨m, hm⟩ := k0; exact DataW.trod_lt m _ _ _ hm
  have k1 := h1
  have lt1 : ∀ x ∈ p1, x.block < W.heap.size := by obtain ⟨m, hm⟩ := k1; exact DataW.trod_lt m _ _ _ hm
  obtain ⟨c00, c01, y00, y01, m0, rfl, rfl, rfl, hy00, hy01⟩ := Joins.open_agg2 Try.underlying27 (by kernel_rfl) (by kernel_rfl) (hval 0 27 v0 rfl rfl) h0
  obtain ⟨a00, e00, rfl, w00⟩ := DataW.trod_int Try.underlying22 hy00
  simp at e00; subst e00
  obtain ⟨a01, e01, rfl, w01⟩ := DataW.trod_int Try.underlying22 hy01
  simp at e01; subst e01
  obtain ⟨a1, rfl, rfl, rfl, w1⟩ := open_int Try.underlying3 (hval 1 3 v1 rfl rfl) h1
  clear hA0 hval0
  refine (walk_WideTens a00 a01 w00 w01 a1 w1 W).mono fun e W' ⟨he, bel⟩ => ?_
  subst he
  exact ⟨_, rfl, _, _, _, [], _, [], hW', trodAll_mk1 (shut_bool Try.underlying4 _), (trodAll_cons_mk (Below.trod laidOut (by kernel_rfl) (of_decide_eq_true (by kernel_rfl)) k0 bel lt0) (trodAll_cons_mk (Below.trod laidOut (by kernel_rfl) (of_decide_eq_true (by kernel_rfl)) k1 bel lt1) trodAll_mk0)), rfl, bel.frame _, fun h => by cases h⟩

theorem WideTens_holds : Rows.WideTensSaid :=
  OpenClaim.holds_of_wide 8 Try.f8 rfl rfl rfl rfl rfl rfl rfl ⟨rfl, rfl, rfl, rfl, rfl⟩ rfl rfl rfl rfl rfl (by kernel_rfl) Try.func8 (by kernel_rfl)
    (of_decide_eq_true (by kernel_rfl)) (by unfold Func.isWrapper; first | (rw [if_pos (by decide +kernel)]; kernel_rfl) | (rw [if_neg (by decide +kernel)]; exact ⟨rfl, rfl⟩))
    (fun os started H enc _ => lifted_WideTens os started H enc)
#print axioms WideTens_holds
end Go.Proofs.Ytnjiibeomailhaa
