/- The contracts of the functions that the law reaches, part 2: what each returns and what becomes of memory. -/
import Derived.Test.YtogpbcllbbpgbaaDoorSh
import Derived.Shelf.Spec.BitsCarry
import Derived.Lib.Hide
import Derived.Lib.TrimByte
import Derived.RegionTactic
import Derived.BigRegion
import Derived.Deep.RegionHeld3
import Derived.Test.YtogpbcllbbpgbaaDoorM1
set_option linter.unusedSimpArgs false
set_option linter.unusedVariables false
namespace Go.Proofs.YtogpbcllbbpgbaaDoor
open Go.RowKit

/-- a word and a carry: s + 2^64 k is t -/
def Carry (s k t : Int) : Prop := s + 18446744073709551616 * k = t ∧ 0 ≤ s ∧ s < 18446744073709551616 ∧ 0 ≤ k ∧ k ≤ 1
theorem add64_ex (x y c : Int) (hx0 : 0 ≤ x) (hx : x < 18446744073709551616) (hy0 : 0 ≤ y) (hy : y < 18446744073709551616) (hc0 : 0 ≤ c) (hc : c ≤ 1) :
    ∃ s k : Int, (∀ W : World, (callFunc 59 #[.int .u64 x, .int .u64 y, .int .u64 c]).run Tryd.prog W = .ok (.value (.tuple #[.int .u64 s, .int .u64 k])) W) ∧ Carry s k (x + y + c) := by
  refine ⟨(x + y + c) % 18446744073709551616, (x + y + c) / 18446744073709551616, fun W => ?_, ?_⟩
  · rw [run_callFunc_extern Tryd.func59 (by kernel_rfl) (by kernel_rfl) (by kernel_rfl) (e := add64Entry) (by kernel_rfl), run_add64 x y c hx0 hy0 hc0 hc]
    rfl
  · unfold Carry; omega
/-- a difference and a borrow: s - 2^64 k is t -/
def Borrow (s k t : Int) : Prop := s - 18446744073709551616 * k = t ∧ 0 ≤ s ∧ s < 18446744073709551616 ∧ 0 ≤ k ∧ k ≤ 1
theorem sub64_ex (x y c : Int) (hx0 : 0 ≤ x) (hx : x < 18446744073709551616) (hy0 : 0 ≤ y) (hy : y < 18446744073709551616) (hc0 : 0 ≤ c) (hc : c ≤ 1) :
    ∃ s k : Int, (∀ W : World, (callFunc 60 #[.int .u64 x, .int .u64 y, .int .u64 c]).run Tryd.prog W = .ok (.value (.tuple #[.int .u64 s, .int .u64 k])) W) ∧ Borrow s k (x - y - c) := by
  obtain ⟨x, rfl⟩ := Int.eq_ofNat_of_zero_le hx0
  obtain ⟨y, rfl⟩ := Int.eq_ofNat_of_zero_le hy0
  obtain ⟨c, rfl⟩ := Int.eq_ofNat_of_zero_le hc0
  refine ⟨(((x + 18446744073709551616 - y - c) % 18446744073709551616 : Nat) : Int), ((if x < y + c then 1 else 0 : Nat) : Int), fun W => ?_, ?_⟩
  · rw [run_callFunc_extern Tryd.func60 (by kernel_rfl) (by kernel_rfl) (by kernel_rfl) (e := sub64Entry) (by kernel_rfl), run_sub64 x y c (by omega)]
    rfl
  · unfold Borrow; split <;> omega
/-- a product's two words -/
def Two (h l t : Int) : Prop := h * 18446744073709551616 + l = t ∧ 0 ≤ h ∧ h < 18446744073709551616 ∧ 0 ≤ l ∧ l < 18446744073709551616
theorem mul64_ex (x y : Int) (hx0 : 0 ≤ x) (hx : x < 18446744073709551616) (hy0 : 0 ≤ y) (hy : y < 18446744073709551616) :
    ∃ h l : Int, (∀ w : World, Calls Tryd.prog 68 #[.int .u64 x, .int .u64 y] w fun e w' => e = .returned (.tuple #[.int .u64 h, .int .u64 l]) ∧ ∃ nn, w' = w.drewN nn) ∧ Two h l (x * y) := by
  obtain ⟨x, rfl⟩ := Int.eq_ofNat_of_zero_le hx0
  obtain ⟨y, rfl⟩ := Int.eq_ofNat_of_zero_le hy0
  refine ⟨((x * y / 18446744073709551616 : Nat) : Int), ((x * y % 18446744073709551616 : Nat) : Int), fun w => (Tryd.bits_Mul64 x y (by omega) (by omega) w).mono fun e w' h => ⟨h.1, 0, h.2⟩, ?_⟩
  have hlt : x * y < 340282366920938463463374607431768211456 := by
    have h1 : x * y ≤ 18446744073709551615 * 18446744073709551615 := Nat.mul_le_mul (by omega) (by omega)
    omega
  unfold Two
  rw [← Int.natCast_mul]
  generalize x * y = p at *
  omega
end Go.Proofs.YtogpbcllbbpgbaaDoor

set_option linter.unusedSimpArgs false
set_option linter.unusedVariables false
namespace Go.Proofs.YtogpbcllbbpgbaaDoor
open Go.RowKit

theorem lz10 (w : World) : Calls Tryd.prog 87 #[.int .u64 10] w fun e w' => e = .returned (.int .i64 60) ∧ ∃ nn, w' = w.drewN nn :=
  (Tryd.bits_LeadingZeros64 10 w (by decide) (by decide)).mono fun e w' h => ⟨by rw [h.1]; rfl, 0, h.2⟩

theorem or_gen (i a b : Nat) (hb : b < 2 ^ i) : a * 2 ^ i ||| b = a * 2 ^ i + b := by
  rw [Nat.mul_comm]; exact (Nat.two_pow_add_eq_or_of_lt hb a).symm
theorem or_sum (x b : Nat) (hx : x < 18446744073709551616) (hb : b < 18446744073709551616) (h : x ||| b = x + b) : bits .or .u64 (x : Int) (b : Int) = (x : Int) + b := by
  rw [bits_or_u64_nat x b hx hb, h]; omega
theorem or_top (h l : Int) (h0 : 0 ≤ h) (h9 : h ≤ 9) (l0 : 0 ≤ l) (l1 : l < 18446744073709551616) : bits .or .u64 (h * 1152921504606846976) (l / 16) = h * 1152921504606846976 + l / 16 := by
  obtain ⟨a, rfl⟩ := Int.eq_ofNat_of_zero_le h0
  obtain ⟨b, rfl⟩ := Int.eq_ofNat_of_zero_le l0
  obtain ⟨x, hx⟩ : ∃ x : Nat, (x : Int) = (a : Int) * 1152921504606846976 := ⟨((a : Int) * 1152921504606846976).toNat, by omega⟩
  have e : ((b / 16 : Nat) : Int) = (b : Int) / 16 := by omega
  have h2 : x ||| b / 16 = x + b / 16 := by
    have h3 := or_gen 60 a (b / 16) (by omega)
    have h4 : a * 2 ^ 60 = x := by omega
    rw [h4] at h3; exact h3
  rw [← hx, ← e]
  exact or_sum x (b / 16) (by omega) (by omega) h2
theorem and_low (z : Int) (k : Int) (hz : z = k * 1152921504606846976) (h0 : 0 ≤ k) (h1 : k < 16) : bits .and .u64 z 4294967295 = 0 := by
  rw [and_low32 z (by omega) (by omega)]; omega
/-- a number of two words by ten -/
def Ten (q r t : Int) : Prop := 10 * q + r = t ∧ 0 ≤ q ∧ q < 18446744073709551616 ∧ 0 ≤ r ∧ r ≤ 9
theorem ten_last (h l u q r s p t : Int) (hu : u = h * 1152921504606846976 + l / 16) (hq : u = q * 2684354560 + r) (hr0 : 0 ≤ r) (hr : r < 2684354560)
    (hs : s = r * 4294967296 + l % 16 * 268435456) (hp : s = p * 2684354560 + t) (ht0 : 0 ≤ t) (ht : t < 2684354560) (h9 : h ≤ 9) (h0 : 0 ≤ h) (l0 : 0 ≤ l) (l1 : l < 18446744073709551616) :
    Ten (q * 4294967296 + p) (t / 268435456) (h * 18446744073709551616 + l) := by
  unfold Ten; omega

set_option maxHeartbeats 1000000 in
theorem div10_big (h l : Int) (h0 : 1 ≤ h) (h9 : h ≤ 9) (l0 : 0 ≤ l) (l1 : l < 18446744073709551616) :
    ∃ q r : Int, (∀ w : World, Calls Tryd.prog 72 #[.int .u64 h, .int .u64 l, .int .u64 10] w fun e w' => e = .returned (.tuple #[.int .u64 q, .int .u64 r]) ∧ ∃ nn, w' = w.drewN nn) ∧ Ten q r (h * 18446744073709551616 + l) := by
  have g1 : (h == 0) = false := by simp; omega
  obtain ⟨u, hu⟩ : ∃ u, u = h * 1152921504606846976 + l / 16 := ⟨_, rfl⟩
  obtain ⟨q, hq⟩ : ∃ q, q = u / 2684354560 := ⟨_, rfl⟩
  obtain ⟨r, hr⟩ : ∃ r, r = u % 2684354560 := ⟨_, rfl⟩
  obtain ⟨s, hs⟩ : ∃ s, s = r * 4294967296 + l % 16 * 268435456 := ⟨_, rfl⟩
  obtain ⟨p, hp⟩ : ∃ p, p = s / 2684354560 := ⟨_, rfl⟩
  obtain ⟨t, ht⟩ : ∃ t, t = s % 2684354560 := ⟨_, rfl⟩
  refine ⟨q * 4294967296 + p, t / 268435456, fun w => ?_, ten_last h l u q r s p t hu (by omega) (by omega) (by omega) hs (by omega) (by omega) (by omega) h9 (by omega) l0 l1⟩
  have E10 : bits .and .u64 11529215046068469760 4294967295 = 0 := by decide
  have E11 := or_top h l (by omega) h9 l0 l1
  rw [← hu] at E11
  have E12 : IntKind.u64.wrap (l * 1152921504606846976) = l % 16 * 1152921504606846976 := by rw [IntKind.wrap_u64]; omega
  have E13 : l % 16 * 1152921504606846976 / 4294967296 = l % 16 * 268435456 := by omega
  have E14 : bits .and .u64 (l % 16 * 1152921504606846976) 4294967295 = 0 := and_low _ (l % 16) rfl (by omega) (by omega)
  have E15 : IntKind.u64.wrap (u.tdiv 2684354560) = q := by rw [IntKind.wrap_u64, Int.tdiv_eq_ediv_of_nonneg (by omega)]; omega
  have E16 : IntKind.u64.wrap (u - IntKind.u64.wrap (q * 2684354560)) = r := by rw [IntKind.wrap_u64, IntKind.wrap_u64]; omega
  have E21 : IntKind.u64.wrap (IntKind.u64.wrap (IntKind.u64.wrap (u * 4294967296) + l % 16 * 268435456) - IntKind.u64.wrap (q * 11529215046068469760)) = s := by simp only [IntKind.wrap_u64]; omega
  have E22 : IntKind.u64.wrap (s.tdiv 2684354560) = p := by rw [IntKind.wrap_u64, Int.tdiv_eq_ediv_of_nonneg (by omega)]; omega
  have E23 : IntKind.u64.wrap (s - IntKind.u64.wrap (p * 2684354560)) = t := by simp only [IntKind.wrap_u64]; omega
  have E24 : IntKind.u64.wrap (IntKind.u64.wrap (IntKind.u64.wrap (s * 4294967296)) - IntKind.u64.wrap (p * 11529215046068469760)) / 1152921504606846976 = t / 268435456 := by simp only [IntKind.wrap_u64]; omega
  have J4 := Lib.hid E24
  have J1 := Lib.hid E21
  have J2 := Lib.hid E22
  have J3 := Lib.hid E23
  clear E21 E22 E23 E24
  have q0 : 0 ≤ q := by omega
  have q1 : q < 4294967296 := by omega
  have r0 : 0 ≤ r := by omega
  have r1 : r < 2684354560 := by omega
  have s0 : 0 ≤ s := by omega
  have s1 : s < 11529215046068469760 := by omega
  have p0 : 0 ≤ p := by omega
  have p1 : p < 4294967296 := by omega
  have t0 : 0 ≤ t := by omega
  have t1 : t < 2684354560 := by omega
  have m0 : 0 ≤ l % 16 * 268435456 := by omega
  have m1 : l % 16 * 268435456 < 4294967296 := by omega
  have H1 := Lib.hid E10
  have H2 := Lib.hid E11
  have H3 := Lib.hid E12
  have H4 := Lib.hid E13
  have H5 := Lib.hid E14
  have H6 := Lib.hid E15
  have H7 := Lib.hid E16
  have G1 := Lib.hid hu
  have G2 := Lib.hid hq
  have G3 := Lib.hid hr
  have G4 := Lib.hid hs
  have G5 := Lib.hid hp
  have G6 := Lib.hid ht
  clear E10 E11 E12 E13 E14 E15 E16 hu hq hr hs hp ht
  go_enter Tryd.func72, Tryd.ntmps72
  go_wp2_with ((go_at_call 87; with_reducible refine (lz10 _).mono ?_); rintro _ _ ⟨rfl, n1, rfl⟩)
  rw [H1.out, H2.out, H3.out, H4.out, H5.out, H6.out, H7.out]
  refine wp_loop_rounds 1 ?_
  rw [rounds_succ]
  go_wp2
  rw [J1.out, J2.out, J3.out]
  refine wp_loop_rounds 1 ?_
  rw [rounds_succ]
  go_wp2
  go_ret2
  refine ⟨?_, _, rfl⟩
  show Ending.returned (.tuple #[.int .u64 _, .int .u64 _]) = _
  rw [J4.out]
set_option maxHeartbeats 1000000 in
theorem div10_small (l : Int) (l0 : 0 ≤ l) (l1 : l < 18446744073709551616) (w : World) :
    Calls Tryd.prog 72 #[.int .u64 0, .int .u64 l, .int .u64 10] w fun e w' => e = .returned (.tuple #[.int .u64 (l / 10), .int .u64 (l % 10)]) ∧ ∃ nn, w' = w.drewN nn := by
  go_enter Tryd.func72, Tryd.ntmps72
  go_wp2_with fail
  go_quiet (fail)
  go_wp2_with fail
  go_ret2
  exact ⟨rfl, _, rfl⟩
theorem div10_ex (h l : Int) (h0 : 0 ≤ h) (h9 : h ≤ 9) (l0 : 0 ≤ l) (l1 : l < 18446744073709551616) :
    ∃ q r : Int, (∀ w : World, Calls Tryd.prog 72 #[.int .u64 h, .int .u64 l, .int .u64 10] w fun e w' => e = .returned (.tuple #[.int .u64 q, .int .u64 r]) ∧ ∃ nn, w' = w.drewN nn) ∧ Ten q r (h * 18446744073709551616 + l) := by
  by_cases hz : h = 0
  · subst hz
    exact ⟨_, _, div10_small l l0 l1, by unfold Ten; omega⟩
  · exact div10_big h l (by omega) h9 l0 l1
end Go.Proofs.YtogpbcllbbpgbaaDoor

set_option linter.unusedSimpArgs false
set_option linter.unusedVariables false
namespace Go.Proofs.YtogpbcllbbpgbaaDoor
open Go.RowKit

def cmpI (a b c d : Int) : Int := if a = c ∧ b = d then 0 else if a < c ∨ (a = c ∧ b < d) then -1 else 1
/-- -1, 0, 1: below, equal, above -/
def cmpN (n m : Nat) : Int := if n = m then 0 else if n < m then -1 else 1
theorem cmp_eq (n m : Nat) (hn : n < 2 ^ 128) (hm : m < 2 ^ 128) : cmpI (wd n 1) (wd n 0) (wd m 1) (wd m 0) = cmpN n m := by
  have h1 := wd_two hn
  have h2 := wd_two hm
  have h3 := wd_nn n 0
  have h4 := wd_lt n 0
  have h5 := wd_nn m 0
  have h6 := wd_lt m 0
  unfold cmpI cmpN
  split <;> split <;> (try split) <;> (try split) <;> omega
set_option maxHeartbeats 1000000 in
theorem cmp_int (a b c d : Int) (w : World) : Calls Tryd.prog 56 #[.agg #[.int .u64 a, .int .u64 b], .agg #[.int .u64 c, .int .u64 d]] w fun e w' => e = .returned (.int .i64 (cmpI a b c d)) ∧ Below w.heap.size w w' := by
  go_enter Tryd.func56, Tryd.ntmps56
  go_wp2
  all_goals go_ret
  all_goals refine ⟨?_, by (repeat' (first | (with_reducible exact Below.refl _ _) | (with_reducible assumption) | (with_reducible refine Below.drew ?_) | (with_reducible refine below_drewN ?_ _) | ((with_reducible refine Below.alloc ?_ ?_ _); rotate_left; focus (go_size; done)) | ((with_reducible refine Below.setCell ?_ ?_ _); rotate_left; focus (go_size; done)) | ((with_reducible refine Below.trans ?_ (Below.mono (by with_reducible assumption) ?_)); rotate_left; focus (go_size; done))))⟩
  all_goals simp [cmpI]
  all_goals (first | done | omega | (simp_all; done) | (simp_all; omega))
theorem cmp_any (n m : Nat) (hn : n < 2 ^ 128) (hm : m < 2 ^ 128) (w : World) : Calls Tryd.prog 56 #[.agg #[.int .u64 (wd n 1), .int .u64 (wd n 0)], .agg #[.int .u64 (wd m 1), .int .u64 (wd m 0)]] w fun e w' => e = .returned (.int .i64 (cmpN n m)) ∧ Below w.heap.size w w' := by
  rw [← cmp_eq n m hn hm]
  exact cmp_int _ _ _ _ w

def over (n : Nat) : Int := if n < 2 ^ 128 then 0 else 3
def fitW (n : Nat) : Nat := if n < 2 ^ 128 then n else 0
set_option maxHeartbeats 1000000 in
theorem add_any (n m : Nat) (hn : n < 2 ^ 128) (hm : m < 2 ^ 128) (w : World) : Calls Tryd.prog 43 #[.agg #[.int .u64 (wd n 1), .int .u64 (wd n 0)], .agg #[.int .u64 (wd m 1), .int .u64 (wd m 0)]] w fun e w' => e = .returned (.tuple #[.agg #[.int .u64 (wd (fitW (n + m)) 1), .int .u64 (wd (fitW (n + m)) 0)], .int .i64 (over (n + m))]) ∧ Below w.heap.size w w' := by
  have h1 := wd_two hn
  have h2 := wd_two hm
  have a0 := wd_nn n 0
  have a1 := wd_lt n 0
  have b0 := wd_nn n 1
  have b1 := wd_lt n 1
  have c0 := wd_nn m 0
  have c1 := wd_lt m 0
  have d0 := wd_nn m 1
  have d1 := wd_lt m 1
  obtain ⟨s, k, f1, H1⟩ := add64_ex (wd n 0) (wd m 0) 0 a0 a1 c0 c1 (by decide) (by decide)
  have H1' := H1
  unfold Carry at H1'
  obtain ⟨t, j, f2, H2⟩ := add64_ex (wd n 1) (wd m 1) k b0 b1 d0 d1 H1'.2.2.2.1 H1'.2.2.2.2
  have H2' := H2
  unfold Carry at H2'
  by_cases hj : j = 0
  · subst hj
    have e0 : n + m < 2 ^ 128 := by omega
    have e1 : over (n + m) = 0 := by unfold over; rw [if_pos e0]
    have e2 : fitW (n + m) = n + m := by unfold fitW; rw [if_pos e0]
    obtain ⟨e3, e4⟩ := wd_of (n + m) t s (by omega) (by omega) (by omega) (by omega) (by omega)
    rw [e1, e2, ← e3, ← e4]
    clear e0 e1 e2 e3 e4 H1 H2 H1' H2' h1 h2
    generalize wd n 0 = x0 at *
    generalize wd n 1 = x1 at *
    generalize wd m 0 = y0 at *
    generalize wd m 1 = y1 at *
    go_enter Tryd.func43, Tryd.ntmps43
    go_wp2
    refine bodyPost_ret (by simp [results, Tryd.results43, go_sem, *]; try rfl) rfl ?_
    exact ⟨rfl, by (repeat' (first | (with_reducible exact Below.refl _ _) | (with_reducible assumption) | (with_reducible refine Below.drew ?_) | (with_reducible refine below_drewN ?_ _) | ((with_reducible refine Below.alloc ?_ ?_ _); rotate_left; focus (go_size; done)) | ((with_reducible refine Below.setCell ?_ ?_ _); rotate_left; focus (go_size; done)) | ((with_reducible refine Below.trans ?_ (Below.mono (by with_reducible assumption) ?_)); rotate_left; focus (go_size; done))))⟩
  · have hj1 : j = 1 := by omega
    subst hj1
    have e0 : ¬ n + m < 2 ^ 128 := by omega
    have e1 : over (n + m) = 3 := by unfold over; rw [if_neg e0]
    have e2 : fitW (n + m) = 0 := by unfold fitW; rw [if_neg e0]
    rw [e1, e2, wd_zero, wd_zero]
    clear e0 e1 e2 H1 H2 H1' H2' h1 h2 hj
    generalize wd n 0 = x0 at *
    generalize wd n 1 = x1 at *
    generalize wd m 0 = y0 at *
    generalize wd m 1 = y1 at *
    go_enter Tryd.func43, Tryd.ntmps43
    go_wp2
    refine bodyPost_ret (by simp [results, Tryd.results43, go_sem, *]; try rfl) rfl ?_
    exact ⟨rfl, by (repeat' (first | (with_reducible exact Below.refl _ _) | (with_reducible assumption) | (with_reducible refine Below.drew ?_) | (with_reducible refine below_drewN ?_ _) | ((with_reducible refine Below.alloc ?_ ?_ _); rotate_left; focus (go_size; done)) | ((with_reducible refine Below.setCell ?_ ?_ _); rotate_left; focus (go_size; done)) | ((with_reducible refine Below.trans ?_ (Below.mono (by with_reducible assumption) ?_)); rotate_left; focus (go_size; done))))⟩

def under (n m : Nat) : Int := if n < m then 3 else 0
def lessW (n m : Nat) : Nat := if n < m then n + 2 ^ 128 - m else n - m
def borrowW (n m : Nat) : Int := if n < m then 1 else 0
def subW (n m : Nat) : Nat := if n < m then 0 else n - m
set_option maxHeartbeats 1000000 in
theorem narrow_any (n : Nat) (hn : n < 2 ^ 256) (w : World) : Calls Tryd.prog 41 #[.agg #[.int .u64 (wd n 0), .int .u64 (wd n 1), .int .u64 (wd n 2), .int .u64 (wd n 3)]] w fun e w' => e = .returned (.tuple #[.agg #[.int .u64 (wd (fitW n) 1), .int .u64 (wd (fitW n) 0)], .int .i64 (over n)]) ∧ Below w.heap.size w w' := by
  have hi := wd_low4 hn
  by_cases h : n < 2 ^ 128
  · have e1 : over n = 0 := by unfold over; rw [if_pos h]
    have e2 : fitW n = n := by unfold fitW; rw [if_pos h]
    obtain ⟨e3, e4⟩ := hi.2 h
    rw [e1, e2]
    have g3 : (wd n 2 == 0) = true := by simp [e3]
    have g4 : (wd n 3 == 0) = true := by simp [e4]
    have g5 : (wd n 2 != 0) = false := by simp [e3]
    have g6 : (wd n 3 != 0) = false := by simp [e4]
    clear e1 e2 e3 e4 hi h hn
    generalize wd n 0 = x0 at *
    generalize wd n 1 = x1 at *
    generalize wd n 2 = x2 at *
    generalize wd n 3 = x3 at *
    go_enter Tryd.func41, Tryd.ntmps41
    go_wp2
    refine bodyPost_ret (by simp [results, Tryd.results41, go_sem, *]; try rfl) rfl ?_
    exact ⟨rfl, by (repeat' (first | (with_reducible exact Below.refl _ _) | (with_reducible assumption) | (with_reducible refine Below.drew ?_) | (with_reducible refine below_drewN ?_ _) | ((with_reducible refine Below.alloc ?_ ?_ _); rotate_left; focus (go_size; done)) | ((with_reducible refine Below.setCell ?_ ?_ _); rotate_left; focus (go_size; done)) | ((with_reducible refine Below.trans ?_ (Below.mono (by with_reducible assumption) ?_)); rotate_left; focus (go_size; done))))⟩
  · have e1 : over n = 3 := by unfold over; rw [if_neg h]
    have e2 : fitW n = 0 := by unfold fitW; rw [if_neg h]
    rw [e1, e2, wd_zero, wd_zero]
    have hi' : ¬ (wd n 2 = 0 ∧ wd n 3 = 0) := fun x => h (hi.1 x)
    have H := Lib.hid hi'
    clear e1 e2 hi hi' h hn
    generalize wd n 0 = x0 at *
    generalize wd n 1 = x1 at *
    generalize wd n 2 = x2 at *
    generalize wd n 3 = x3 at *
    go_enter Tryd.func41, Tryd.ntmps41
    go_wp2
    all_goals first
      | (exfalso; have := H.out; simp_all; done)
      | (refine bodyPost_ret (by simp [results, Tryd.results41, go_sem, *]; try rfl) rfl ?_
         exact ⟨rfl, by (repeat' (first | (with_reducible exact Below.refl _ _) | (with_reducible assumption) | (with_reducible refine Below.drew ?_) | (with_reducible refine below_drewN ?_ _) | ((with_reducible refine Below.alloc ?_ ?_ _); rotate_left; focus (go_size; done)) | ((with_reducible refine Below.setCell ?_ ?_ _); rotate_left; focus (go_size; done)) | ((with_reducible refine Below.trans ?_ (Below.mono (by with_reducible assumption) ?_)); rotate_left; focus (go_size; done))))⟩)
set_option maxHeartbeats 2000000 in
theorem tenth_any (n : Nat) (hn : n < 2 ^ 256) (w : World) : Calls Tryd.prog 47 #[.agg #[.int .u64 (wd n 0), .int .u64 (wd n 1), .int .u64 (wd n 2), .int .u64 (wd n 3)]] w fun e w' => e = .returned (.tuple #[.agg #[.int .u64 (wd (n / 10) 0), .int .u64 (wd (n / 10) 1), .int .u64 (wd (n / 10) 2), .int .u64 (wd (n / 10) 3)], .int .u64 ((n % 10 : Nat) : Int)]) ∧ Below w.heap.size w w' := by
  have h := wd_four hn
  have a0 := wd_nn n 0
  have a1 := wd_lt n 0
  have b0 := wd_nn n 1
  have b1 := wd_lt n 1
  have c0 := wd_nn n 2
  have c1 := wd_lt n 2
  have d0 := wd_nn n 3
  have d1 := wd_lt n 3
  obtain ⟨q3, r3, f3, H3⟩ := div10_ex 0 (wd n 3) (by decide) (by decide) d0 d1
  have G3 := H3
  unfold Ten at G3
  obtain ⟨q2, r2, f2, H2⟩ := div10_ex r3 (wd n 2) (by omega) (by omega) c0 c1
  have G2 := H2
  unfold Ten at G2
  obtain ⟨q1, r1, f1, H1⟩ := div10_ex r2 (wd n 1) (by omega) (by omega) b0 b1
  have G1 := H1
  unfold Ten at G1
  obtain ⟨q0, r0, f0, H0⟩ := div10_ex r1 (wd n 0) (by omega) (by omega) a0 a1
  have G0 := H0
  unfold Ten at G0
  have e := wd_of4 (n / 10) q0 q1 q2 q3 (by omega) (by omega) (by omega) (by omega) (by omega) (by omega) (by omega) (by omega) (by omega)
  obtain ⟨e0, e1, e2, e3⟩ := e
  have er : ((n % 10 : Nat) : Int) = r0 := by omega
  rw [er, ← e0, ← e1, ← e2, ← e3]
  have F0 := Lib.hid f0
  have F1 := Lib.hid f1
  have F2 := Lib.hid f2
  have F3 := Lib.hid f3
  clear f0 f1 f2 f3 e0 e1 e2 e3 er H0 H1 H2 H3 G0 G1 G2 G3 h a0 a1 b0 b1 c0 c1 d0 d1 hn
  generalize wd n 0 = x0 at *
  generalize wd n 1 = x1 at *
  generalize wd n 2 = x2 at *
  generalize wd n 3 = x3 at *
  go_enter Tryd.func47, Tryd.ntmps47
  go_wp2_with fail
  refine wp_loop_rounds 5 ?_
  rw [rounds_succ]
  go_wp2_with ((go_at_call 72; with_reducible refine (F3.out _).mono ?_); rintro _ _ ⟨rfl, n1, rfl⟩)
  rw [rounds_succ]
  go_wp2_with ((go_at_call 72; with_reducible refine (F2.out _).mono ?_); rintro _ _ ⟨rfl, n2, rfl⟩)
  rw [rounds_succ]
  go_wp2_with ((go_at_call 72; with_reducible refine (F1.out _).mono ?_); rintro _ _ ⟨rfl, n3, rfl⟩)
  rw [rounds_succ]
  go_wp2_with ((go_at_call 72; with_reducible refine (F0.out _).mono ?_); rintro _ _ ⟨rfl, n4, rfl⟩)
  rw [rounds_succ]
  go_wp2_with fail
  refine bodyPost_ret (by simp [results, Tryd.results47, go_sem, *]; try rfl) rfl ?_
  exact ⟨rfl, by (repeat' (first | (with_reducible exact Below.refl _ _) | (with_reducible assumption) | (with_reducible refine Below.drew ?_) | (with_reducible refine below_drewN ?_ _) | ((with_reducible refine Below.alloc ?_ ?_ _); rotate_left; focus (go_size; done)) | ((with_reducible refine Below.setCell ?_ ?_ _); rotate_left; focus (go_size; done)) | ((with_reducible refine Below.trans ?_ (Below.mono (by with_reducible assumption) ?_)); rotate_left; focus (go_size; done))))⟩
end Go.Proofs.YtogpbcllbbpgbaaDoor

set_option linter.unusedSimpArgs false
set_option linter.unusedVariables false
namespace Go.Proofs.YtogpbcllbbpgbaaDoor
open Go.RowKit

/-- N / d to the nearest, half to even -/
def near (N d : Nat) : Nat := N / d + if 2 * (N % d) > d ∨ (2 * (N % d) = d ∧ N / d % 2 = 1) then 1 else 0
def lastD (N n : Nat) : Int := if n = 0 then 0 else ((N / 10 ^ (n - 1) % 10 : Nat) : Int)
def belD (N n : Nat) : Bool := decide (n ≠ 0 ∧ N % 10 ^ (n - 1) ≠ 0)
theorem lastD_succ (N n : Nat) : lastD N (n + 1) = ((N / 10 ^ n % 10 : Nat) : Int) := by
  unfold lastD; rw [if_neg (by omega), Nat.add_sub_cancel]
theorem lastD_bd (N n : Nat) : 0 ≤ lastD N n ∧ lastD N n ≤ 9 := by
  unfold lastD; split <;> omega
theorem mod_step (N n : Nat) : N % 10 ^ (n + 1) = N % 10 ^ n + 10 ^ n * (N / 10 ^ n % 10) := by
  rw [Nat.pow_succ, Nat.mod_mul]
theorem belD_succ (N n : Nat) : belD N (n + 1) = (belD N n || (lastD N n != 0)) := by
  rw [Bool.eq_iff_iff]
  simp only [belD, Bool.or_eq_true, decide_eq_true_eq, bne_iff_ne, Nat.add_sub_cancel]
  cases n with
  | zero => simp [lastD]; omega
  | succ m =>
    rw [lastD_succ, mod_step]
    have hp : 0 < 10 ^ m := Nat.pow_pos (by decide)
    constructor
    · rintro ⟨_, h⟩
      by_cases h0 : N % 10 ^ m = 0
      · right; intro hz
        have hz' : N / 10 ^ m % 10 = 0 := by omega
        rw [h0, hz'] at h; exact h rfl
      · left; exact ⟨by omega, by simpa using h0⟩
    · rintro (⟨_, h⟩ | h)
      · refine ⟨by omega, ?_⟩
        simp only [Nat.add_sub_cancel] at h
        omega
      · refine ⟨by omega, fun hz => h ?_⟩
        have h1 : 10 ^ m * (N / 10 ^ m % 10) = 0 := by omega
        rcases Nat.mul_eq_zero.1 h1 with h2 | h2 <;> omega
theorem near_of (N n : Nat) (up : Prop) [Decidable up] (h : up ↔ (lastD N n > 5 ∨ (lastD N n = 5 ∧ (belD N n = true ∨ N / 10 ^ n % 2 = 1)))) :
    near N (10 ^ n) = N / 10 ^ n + if up then 1 else 0 := by
  unfold near
  congr 1
  have key : (2 * (N % 10 ^ n) > 10 ^ n ∨ (2 * (N % 10 ^ n) = 10 ^ n ∧ N / 10 ^ n % 2 = 1)) ↔ up := by
    rw [h]
    cases n with
    | zero => simp [lastD, Nat.mod_one]
    | succ m =>
      rw [lastD_succ, mod_step]
      simp only [belD, decide_eq_true_eq, Nat.add_sub_cancel]
      have hp : 0 < 10 ^ m := Nat.pow_pos (by decide)
      have hl : N % 10 ^ m < 10 ^ m := Nat.mod_lt _ hp
      have hd : N / 10 ^ m % 10 < 10 := Nat.mod_lt _ (by decide)
      generalize N / 10 ^ (m + 1) % 2 = par
      generalize N / 10 ^ m % 10 = d at *
      rw [Nat.pow_succ]
      generalize N % 10 ^ m = low at *
      generalize 10 ^ m = P at *
      have hc : d = 0 ∨ d = 1 ∨ d = 2 ∨ d = 3 ∨ d = 4 ∨ d = 5 ∨ d = 6 ∨ d = 7 ∨ d = 8 ∨ d = 9 := by omega
      rcases hc with rfl | rfl | rfl | rfl | rfl | rfl | rfl | rfl | rfl | rfl <;> simp <;> omega
  by_cases hu : up
  · rw [if_pos hu, if_pos (key.2 hu)]
  · rw [if_neg hu, if_neg (fun x => hu (key.1 x))]
theorem div_lt_256 {N : Nat} (hN : N < 2 ^ 256) (d : Nat) : N / d < 2 ^ 256 := Nat.lt_of_le_of_lt (Nat.div_le_self _ _) hN

theorem wd_odd (X : Nat) : bits .and .u64 (wd X 0) 1 = ((X % 2 : Nat) : Int) := by
  have h := bits_and_u64_nat (X % 18446744073709551616) 1 (by omega) (by omega)
  rw [Nat.and_one_is_mod] at h
  have e : ((1 : Nat) : Int) = 1 := rfl
  rw [e] at h
  rw [wd0, h]
  omega
set_option maxHeartbeats 2000000 in
theorem round_bad (N : Nat) (k : Int) (hk : k < 0 ∨ 76 < k) (w : World) : Calls Tryd.prog 55 #[.agg #[.int .u64 (wd N 0), .int .u64 (wd N 1), .int .u64 (wd N 2), .int .u64 (wd N 3)], .int .i64 k] w fun e w' => e = .returned (.tuple #[.agg #[.int .u64 0, .int .u64 0], .int .i64 1]) ∧ Below w.heap.size w w' := by
  generalize wd N 0 = x0 at *
  generalize wd N 1 = x1 at *
  generalize wd N 2 = x2 at *
  generalize wd N 3 = x3 at *
  rcases hk with hk | hk
  · go_enter Tryd.func55, Tryd.ntmps55
    go_wp2_with fail
    refine bodyPost_ret (by simp [results, Tryd.results55, go_sem, *]; try rfl) rfl ?_
    exact ⟨rfl, by (repeat' (first | (with_reducible exact Below.refl _ _) | (with_reducible assumption) | (with_reducible refine Below.drew ?_) | (with_reducible refine below_drewN ?_ _) | ((with_reducible refine Below.alloc ?_ ?_ _); rotate_left; focus (go_size; done)) | ((with_reducible refine Below.setCell ?_ ?_ _); rotate_left; focus (go_size; done)) | ((with_reducible refine Below.trans ?_ (Below.mono (by with_reducible assumption) ?_)); rotate_left; focus (go_size; done))))⟩
  · have h0 : ¬ k < 0 := by omega
    go_enter Tryd.func55, Tryd.ntmps55
    go_wp2_with fail
    refine bodyPost_ret (by simp [results, Tryd.results55, go_sem, *]; try rfl) rfl ?_
    exact ⟨rfl, by (repeat' (first | (with_reducible exact Below.refl _ _) | (with_reducible assumption) | (with_reducible refine Below.drew ?_) | (with_reducible refine below_drewN ?_ _) | ((with_reducible refine Below.alloc ?_ ?_ _); rotate_left; focus (go_size; done)) | ((with_reducible refine Below.setCell ?_ ?_ _); rotate_left; focus (go_size; done)) | ((with_reducible refine Below.trans ?_ (Below.mono (by with_reducible assumption) ?_)); rotate_left; focus (go_size; done))))⟩

set_option maxHeartbeats 4000000 in
theorem round_any (N : Nat) (hN : N < 2 ^ 256) (k : Nat) (hk : k ≤ 76) (w : World) : Calls Tryd.prog 55 #[.agg #[.int .u64 (wd N 0), .int .u64 (wd N 1), .int .u64 (wd N 2), .int .u64 (wd N 3)], .int .i64 k] w fun e w' => e = .returned (.tuple #[.agg #[.int .u64 (wd (fitW (near N (10 ^ k))) 1), .int .u64 (wd (fitW (near N (10 ^ k))) 0)], .int .i64 (over (near N (10 ^ k)))]) ∧ Below w.heap.size w w' := by
  have k0 : (0 : Int) ≤ (k : Int) := by omega
  have k1 : (k : Int) ≤ 76 := by omega
  have HN := Lib.hid hN
  clear hN
  go_enter Tryd.func55, Tryd.ntmps55
  go_wp2_with fail
  go_loopg [6, 7, 18] k (fun kk l b i wr => ∃ n : Nat, kk + n = k ∧ l = .int .u64 (lastD N n) ∧ b = .bool (belD N n) ∧ i = .int .i64 n ∧ w.heap.size + 2 ≤ wr.heap.size ∧ Below w.heap.size w wr ∧
    Bk wr w.heap.size 52 [.int .u64 (wd (N / 10 ^ n) 0), .int .u64 (wd (N / 10 ^ n) 1), .int .u64 (wd (N / 10 ^ n) 2), .int .u64 (wd (N / 10 ^ n) 3)] ∧ Bk wr (w.heap.size + 1) 24 [.int .u64 0, .int .u64 0])
  case atStart =>
    refine ⟨0, by omega, rfl, rfl, rfl, by go_size, by (repeat' (first | (with_reducible exact Below.refl _ _) | (with_reducible assumption) | (with_reducible refine Below.drew ?_) | (with_reducible refine below_drewN ?_ _) | ((with_reducible refine Below.alloc ?_ ?_ _); rotate_left; focus (go_size; done)) | ((with_reducible refine Below.setCell ?_ ?_ _); rotate_left; focus (go_size; done)) | ((with_reducible refine Below.trans ?_ (Below.mono (by with_reducible assumption) ?_)); rotate_left; focus (go_size; done)))), ?_, by (repeat (first | (with_reducible assumption) | ((with_reducible refine Bk.new_ ?_); (first | rfl | (simp only [World.size_alloc, World.size_setCell, World.size_drew, World.heap_drewN]; done))) | (with_reducible refine Bk.alloc ?_ _) | (with_reducible refine Bk.drew ?_) | (with_reducible refine Bk.drewN ?_ _) | ((with_reducible refine Bk.far ?_ ?_ _); rotate_left; focus (simp only []; omega)) | ((with_reducible refine Bk.below ?_ (by with_reducible assumption) ?_); rotate_left; focus (go_size; done))))⟩
    rw [Nat.pow_zero, Nat.div_one]
    (repeat (first | (with_reducible assumption) | ((with_reducible refine Bk.new_ ?_); (first | rfl | (simp only [World.size_alloc, World.size_setCell, World.size_drew, World.heap_drewN]; done))) | (with_reducible refine Bk.alloc ?_ _) | (with_reducible refine Bk.drew ?_) | (with_reducible refine Bk.drewN ?_ _) | ((with_reducible refine Bk.far ?_ ?_ _); rotate_left; focus (simp only []; omega)) | ((with_reducible refine Bk.below ?_ (by with_reducible assumption) ?_); rotate_left; focus (go_size; done))))
  case round =>
    obtain ⟨n, hn, rfl, rfl, rfl, hsz, hbel, b0, b1⟩ := hrel
    have HK := Lib.hid hn
    have hle : (n : Int) ≤ (k : Int) := by omega
    have HB := Lib.hid (belD_succ N n)
    have HL := Lib.hid (lastD_bd N n)
    have HX := Lib.hid (div_lt_256 HN.out (10 ^ n))
    have hlb := lastD_bd N n
    obtain ⟨l0, l9⟩ := hlb
    obtain ⟨X, hX⟩ : ∃ X, X = N / 10 ^ n := ⟨_, rfl⟩
    rw [← hX] at b0 HX
    obtain ⟨L, hL⟩ : ∃ L, L = lastD N n := ⟨_, rfl⟩
    obtain ⟨bb, hbb⟩ : ∃ bb, bb = belD N n := ⟨_, rfl⟩
    rw [← hL] at HL HB l0 l9 ⊢
    rw [← hbb] at HB ⊢
    have GX := Lib.hid hX
    have GL := Lib.hid hL
    have GB := Lib.hid hbb
    clear hX hL hbb hn
    have c00 := b0.cell 0 rfl
    have c01 := b0.cell 1 rfl
    have c02 := b0.cell 2 rfl
    have c03 := b0.cell 3 rfl
    have c10 := b1.cell 0 rfl
    have c11 := b1.cell 1 rfl
    have f00 := b0.frozen 0
    have f01 := b0.frozen 1
    have f02 := b0.frozen 2
    have f03 := b0.frozen 3
    have f10 := b1.frozen 0
    have f11 := b1.frozen 1
    (try have : w.heap.size < wr.heap.size := by omega); (try have : w.heap.size + 1 < wr.heap.size := by omega); (try have : w.heap.size + 1 + 1 < wr.heap.size := by omega); (try have : w.heap.size + 1 + 1 + 1 < wr.heap.size := by omega)
    have HT := Lib.hid (fun W => tenth_any X HX.out W)
    have HR := Lib.hid (fun W => narrow_any X HX.out W)
    by_cases hlt : (n : Int) < (k : Int)
    · cases bb
      · go_wp2_with ((go_at_call 47; with_reducible refine (HT.out _).mono ?_); rintro _ w1 ⟨rfl, hb1⟩; have hb1s := hb1.size; (try simp only [World.size_alloc, World.size_setCell, World.size_drew, World.heap_drewN] at hb1s); obtain ⟨hb1c, hb1f⟩ := bcell hb1; (try have : w.heap.size < w1.heap.size := by omega); (try have : w.heap.size + 1 < w1.heap.size := by omega); (try have : w.heap.size + 1 + 1 < w1.heap.size := by omega); (try have : w.heap.size + 1 + 1 + 1 < w1.heap.size := by omega))
        go_roundg (gk - 1)
        case measure => have := HK.out; omega
        case rel =>
          refine ⟨n + 1, by have := HK.out; omega, ?_, ?_, by go_num, by go_size, by (repeat' (first | (with_reducible exact Below.refl _ _) | (with_reducible assumption) | (with_reducible refine Below.drew ?_) | (with_reducible refine below_drewN ?_ _) | ((with_reducible refine Below.alloc ?_ ?_ _); rotate_left; focus (go_size; done)) | ((with_reducible refine Below.setCell ?_ ?_ _); rotate_left; focus (go_size; done)) | ((with_reducible refine Below.trans ?_ (Below.mono (by with_reducible assumption) ?_)); rotate_left; focus (go_size; done)))), ?_, by (repeat (first | (with_reducible assumption) | ((with_reducible refine Bk.new_ ?_); (first | rfl | (simp only [World.size_alloc, World.size_setCell, World.size_drew, World.heap_drewN]; done))) | (with_reducible refine Bk.alloc ?_ _) | (with_reducible refine Bk.drew ?_) | (with_reducible refine Bk.drewN ?_ _) | ((with_reducible refine Bk.far ?_ ?_ _); rotate_left; focus (simp only []; omega)) | ((with_reducible refine Bk.below ?_ (by with_reducible assumption) ?_); rotate_left; focus (go_size; done))))⟩
          · rw [lastD_succ, ← GX.out]; rfl
          · rw [HB.out]; rfl
          · rw [show N / 10 ^ (n + 1) = X / 10 from by rw [GX.out, Nat.div_div_eq_div_mul, Nat.pow_succ]]
            refine (((((?_ : Bk w1 _ _ [.int .u64 (wd X 0), .int .u64 (wd X 1), .int .u64 (wd X 2), .int .u64 (wd X 3)]).set_ 0 _).set_ 1 _).set_ 2 _).set_ 3 _)
            (repeat (first | (with_reducible assumption) | ((with_reducible refine Bk.new_ ?_); (first | rfl | (simp only [World.size_alloc, World.size_setCell, World.size_drew, World.heap_drewN]; done))) | (with_reducible refine Bk.alloc ?_ _) | (with_reducible refine Bk.drew ?_) | (with_reducible refine Bk.drewN ?_ _) | ((with_reducible refine Bk.far ?_ ?_ _); rotate_left; focus (simp only []; omega)) | ((with_reducible refine Bk.below ?_ (by with_reducible assumption) ?_); rotate_left; focus (go_size; done))))
      · go_wp2_with ((go_at_call 47; with_reducible refine (HT.out _).mono ?_); rintro _ w1 ⟨rfl, hb1⟩; have hb1s := hb1.size; (try simp only [World.size_alloc, World.size_setCell, World.size_drew, World.heap_drewN] at hb1s); obtain ⟨hb1c, hb1f⟩ := bcell hb1; (try have : w.heap.size < w1.heap.size := by omega); (try have : w.heap.size + 1 < w1.heap.size := by omega); (try have : w.heap.size + 1 + 1 < w1.heap.size := by omega); (try have : w.heap.size + 1 + 1 + 1 < w1.heap.size := by omega))
        go_roundg (gk - 1)
        case measure => have := HK.out; omega
        case rel =>
          refine ⟨n + 1, by have := HK.out; omega, ?_, ?_, by go_num, by go_size, by (repeat' (first | (with_reducible exact Below.refl _ _) | (with_reducible assumption) | (with_reducible refine Below.drew ?_) | (with_reducible refine below_drewN ?_ _) | ((with_reducible refine Below.alloc ?_ ?_ _); rotate_left; focus (go_size; done)) | ((with_reducible refine Below.setCell ?_ ?_ _); rotate_left; focus (go_size; done)) | ((with_reducible refine Below.trans ?_ (Below.mono (by with_reducible assumption) ?_)); rotate_left; focus (go_size; done)))), ?_, by (repeat (first | (with_reducible assumption) | ((with_reducible refine Bk.new_ ?_); (first | rfl | (simp only [World.size_alloc, World.size_setCell, World.size_drew, World.heap_drewN]; done))) | (with_reducible refine Bk.alloc ?_ _) | (with_reducible refine Bk.drew ?_) | (with_reducible refine Bk.drewN ?_ _) | ((with_reducible refine Bk.far ?_ ?_ _); rotate_left; focus (simp only []; omega)) | ((with_reducible refine Bk.below ?_ (by with_reducible assumption) ?_); rotate_left; focus (go_size; done))))⟩
          · rw [lastD_succ, ← GX.out]; rfl
          · rw [HB.out]; rfl
          · rw [show N / 10 ^ (n + 1) = X / 10 from by rw [GX.out, Nat.div_div_eq_div_mul, Nat.pow_succ]]
            refine (((((?_ : Bk w1 _ _ [.int .u64 (wd X 0), .int .u64 (wd X 1), .int .u64 (wd X 2), .int .u64 (wd X 3)]).set_ 0 _).set_ 1 _).set_ 2 _).set_ 3 _)
            (repeat (first | (with_reducible assumption) | ((with_reducible refine Bk.new_ ?_); (first | rfl | (simp only [World.size_alloc, World.size_setCell, World.size_drew, World.heap_drewN]; done))) | (with_reducible refine Bk.alloc ?_ _) | (with_reducible refine Bk.drew ?_) | (with_reducible refine Bk.drewN ?_ _) | ((with_reducible refine Bk.far ?_ ?_ _); rotate_left; focus (simp only []; omega)) | ((with_reducible refine Bk.below ?_ (by with_reducible assumption) ?_); rotate_left; focus (go_size; done))))
    · obtain rfl : n = k := by omega
      by_cases hx : X < 2 ^ 128
      · have e6 : fitW X = X := by unfold fitW; rw [if_pos hx]
        have e7 : over X = 0 := by unfold over; rw [if_pos hx]
        rw [e6, e7] at HR
        have w11 : wd 1 1 = 0 := by decide
        have w10 : wd 1 0 = 1 := by decide
        have HA := Lib.hid (fun W => add_any X 1 hx (by decide) W)
        rw [w11, w10] at HA
        have hodd := wd_odd X
        have HO := Lib.hid hodd
        clear hodd w11 w10 hx
        by_cases c1 : 5 < L
        · have E6 := Lib.hid e6
          have E7 := Lib.hid e7
          clear e6 e7
          have hf := near_of N n True (by rw [← GL.out, ← GB.out, ← GX.out]; simp; left; exact c1)
          rw [if_pos trivial, ← GX.out] at hf
          have HF := Lib.hid hf
          clear hf
          clear hlt
          go_wp2_with (first
            | ((go_at_call 41; with_reducible refine (HR.out _).mono ?_); rintro _ w1 ⟨rfl, hb1⟩; have hb1s := hb1.size; (try simp only [World.size_alloc, World.size_setCell, World.size_drew, World.heap_drewN] at hb1s); obtain ⟨hb1c, hb1f⟩ := bcell hb1; (try have : w.heap.size < w1.heap.size := by omega); (try have : w.heap.size + 1 < w1.heap.size := by omega); (try have : w.heap.size + 1 + 1 < w1.heap.size := by omega); (try have : w.heap.size + 1 + 1 + 1 < w1.heap.size := by omega))
            | ((go_at_call 43; with_reducible refine (HA.out _).mono ?_); rintro _ w2 ⟨rfl, hb2⟩; have hb2s := hb2.size; (try simp only [World.size_alloc, World.size_setCell, World.size_drew, World.heap_drewN] at hb2s); obtain ⟨hb2c, hb2f⟩ := bcell hb2; (try have : w.heap.size < w2.heap.size := by omega); (try have : w.heap.size + 1 < w2.heap.size := by omega); (try have : w.heap.size + 1 + 1 < w2.heap.size := by omega); (try have : w.heap.size + 1 + 1 + 1 < w2.heap.size := by omega)))
          refine bodyPost_ret (by simp [results, Tryd.results55, go_sem, *]; try rfl) rfl ?_
          rw [HF.out]
          exact ⟨rfl, by (repeat' (first | (with_reducible exact Below.refl _ _) | (with_reducible assumption) | (with_reducible refine Below.drew ?_) | (with_reducible refine below_drewN ?_ _) | ((with_reducible refine Below.alloc ?_ ?_ _); rotate_left; focus (go_size; done)) | ((with_reducible refine Below.setCell ?_ ?_ _); rotate_left; focus (go_size; done)) | ((with_reducible refine Below.trans ?_ (Below.mono (by with_reducible assumption) ?_)); rotate_left; focus (go_size; done))))⟩
        · by_cases c2 : L = 5
          · have g1 : (L == 5) = true := by simp [c2]
            have C2 := Lib.hid c2
            cases bb
            · by_cases c3 : X % 2 = 1
              · have g2 : (bits .and .u64 (wd X 0) 1 == 1) = true := by rw [HO.out, c3]; rfl
                have C3 := Lib.hid c3
                have E6 := Lib.hid e6
                have E7 := Lib.hid e7
                clear e6 e7 c2 c3
                have hf := near_of N n True (by rw [← GL.out, ← GB.out, ← GX.out]; simp; right; exact ⟨C2.out, C3.out⟩)
                rw [if_pos trivial, ← GX.out] at hf
                have HF := Lib.hid hf
                clear hf
                clear hlt
                go_wp2_with (first
                  | ((go_at_call 41; with_reducible refine (HR.out _).mono ?_); rintro _ w1 ⟨rfl, hb1⟩; have hb1s := hb1.size; (try simp only [World.size_alloc, World.size_setCell, World.size_drew, World.heap_drewN] at hb1s); obtain ⟨hb1c, hb1f⟩ := bcell hb1; (try have : w.heap.size < w1.heap.size := by omega); (try have : w.heap.size + 1 < w1.heap.size := by omega); (try have : w.heap.size + 1 + 1 < w1.heap.size := by omega); (try have : w.heap.size + 1 + 1 + 1 < w1.heap.size := by omega))
                  | ((go_at_call 43; with_reducible refine (HA.out _).mono ?_); rintro _ w2 ⟨rfl, hb2⟩; have hb2s := hb2.size; (try simp only [World.size_alloc, World.size_setCell, World.size_drew, World.heap_drewN] at hb2s); obtain ⟨hb2c, hb2f⟩ := bcell hb2; (try have : w.heap.size < w2.heap.size := by omega); (try have : w.heap.size + 1 < w2.heap.size := by omega); (try have : w.heap.size + 1 + 1 < w2.heap.size := by omega); (try have : w.heap.size + 1 + 1 + 1 < w2.heap.size := by omega)))
                refine bodyPost_ret (by simp [results, Tryd.results55, go_sem, *]; try rfl) rfl ?_
                rw [HF.out]
                exact ⟨rfl, by (repeat' (first | (with_reducible exact Below.refl _ _) | (with_reducible assumption) | (with_reducible refine Below.drew ?_) | (with_reducible refine below_drewN ?_ _) | ((with_reducible refine Below.alloc ?_ ?_ _); rotate_left; focus (go_size; done)) | ((with_reducible refine Below.setCell ?_ ?_ _); rotate_left; focus (go_size; done)) | ((with_reducible refine Below.trans ?_ (Below.mono (by with_reducible assumption) ?_)); rotate_left; focus (go_size; done))))⟩
              · have g2 : (bits .and .u64 (wd X 0) 1 == 1) = false := by rw [HO.out]; simp; omega
                have C3 := Lib.hid c3
                clear c2 c3
                have hf := near_of N n False (by rw [← GL.out, ← GB.out, ← GX.out]; simp; exact ⟨by omega, fun _ => by have := C3.out; omega⟩)
                rw [if_neg not_false, ← GX.out, Nat.add_zero] at hf
                have HF := Lib.hid hf
                clear hf
                clear hlt
                have E6 := Lib.hid e6
                have E7 := Lib.hid e7
                clear e6 e7
                go_wp2_with ((go_at_call 41; with_reducible refine (HR.out _).mono ?_); rintro _ w1 ⟨rfl, hb1⟩; have hb1s := hb1.size; (try simp only [World.size_alloc, World.size_setCell, World.size_drew, World.heap_drewN] at hb1s); obtain ⟨hb1c, hb1f⟩ := bcell hb1; (try have : w.heap.size < w1.heap.size := by omega); (try have : w.heap.size + 1 < w1.heap.size := by omega); (try have : w.heap.size + 1 + 1 < w1.heap.size := by omega); (try have : w.heap.size + 1 + 1 + 1 < w1.heap.size := by omega))
                refine bodyPost_ret (by simp [results, Tryd.results55, go_sem, *]; try rfl) rfl ?_
                rw [HF.out, E6.out, E7.out]
                exact ⟨rfl, by (repeat' (first | (with_reducible exact Below.refl _ _) | (with_reducible assumption) | (with_reducible refine Below.drew ?_) | (with_reducible refine below_drewN ?_ _) | ((with_reducible refine Below.alloc ?_ ?_ _); rotate_left; focus (go_size; done)) | ((with_reducible refine Below.setCell ?_ ?_ _); rotate_left; focus (go_size; done)) | ((with_reducible refine Below.trans ?_ (Below.mono (by with_reducible assumption) ?_)); rotate_left; focus (go_size; done))))⟩
            · have E6 := Lib.hid e6
              have E7 := Lib.hid e7
              clear e6 e7 c2
              have hf := near_of N n True (by rw [← GL.out, ← GB.out, ← GX.out]; simp; right; exact C2.out)
              rw [if_pos trivial, ← GX.out] at hf
              have HF := Lib.hid hf
              clear hf
              clear hlt
              go_wp2_with (first
                | ((go_at_call 41; with_reducible refine (HR.out _).mono ?_); rintro _ w1 ⟨rfl, hb1⟩; have hb1s := hb1.size; (try simp only [World.size_alloc, World.size_setCell, World.size_drew, World.heap_drewN] at hb1s); obtain ⟨hb1c, hb1f⟩ := bcell hb1; (try have : w.heap.size < w1.heap.size := by omega); (try have : w.heap.size + 1 < w1.heap.size := by omega); (try have : w.heap.size + 1 + 1 < w1.heap.size := by omega); (try have : w.heap.size + 1 + 1 + 1 < w1.heap.size := by omega))
                | ((go_at_call 43; with_reducible refine (HA.out _).mono ?_); rintro _ w2 ⟨rfl, hb2⟩; have hb2s := hb2.size; (try simp only [World.size_alloc, World.size_setCell, World.size_drew, World.heap_drewN] at hb2s); obtain ⟨hb2c, hb2f⟩ := bcell hb2; (try have : w.heap.size < w2.heap.size := by omega); (try have : w.heap.size + 1 < w2.heap.size := by omega); (try have : w.heap.size + 1 + 1 < w2.heap.size := by omega); (try have : w.heap.size + 1 + 1 + 1 < w2.heap.size := by omega)))
              refine bodyPost_ret (by simp [results, Tryd.results55, go_sem, *]; try rfl) rfl ?_
              rw [HF.out]
              exact ⟨rfl, by (repeat' (first | (with_reducible exact Below.refl _ _) | (with_reducible assumption) | (with_reducible refine Below.drew ?_) | (with_reducible refine below_drewN ?_ _) | ((with_reducible refine Below.alloc ?_ ?_ _); rotate_left; focus (go_size; done)) | ((with_reducible refine Below.setCell ?_ ?_ _); rotate_left; focus (go_size; done)) | ((with_reducible refine Below.trans ?_ (Below.mono (by with_reducible assumption) ?_)); rotate_left; focus (go_size; done))))⟩
          · have g1 : (L == 5) = false := by simp [c2]
            have C2 := Lib.hid c2
            clear c2
            have hf := near_of N n False (by rw [← GL.out, ← GB.out, ← GX.out]; simp; exact ⟨by omega, fun h => absurd h C2.out⟩)
            rw [if_neg not_false, ← GX.out, Nat.add_zero] at hf
            have HF := Lib.hid hf
            clear hf
            clear hlt
            have E6 := Lib.hid e6
            have E7 := Lib.hid e7
            clear e6 e7
            go_wp2_with ((go_at_call 41; with_reducible refine (HR.out _).mono ?_); rintro _ w1 ⟨rfl, hb1⟩; have hb1s := hb1.size; (try simp only [World.size_alloc, World.size_setCell, World.size_drew, World.heap_drewN] at hb1s); obtain ⟨hb1c, hb1f⟩ := bcell hb1; (try have : w.heap.size < w1.heap.size := by omega); (try have : w.heap.size + 1 < w1.heap.size := by omega); (try have : w.heap.size + 1 + 1 < w1.heap.size := by omega); (try have : w.heap.size + 1 + 1 + 1 < w1.heap.size := by omega))
            refine bodyPost_ret (by simp [results, Tryd.results55, go_sem, *]; try rfl) rfl ?_
            rw [HF.out, E6.out, E7.out]
            exact ⟨rfl, by (repeat' (first | (with_reducible exact Below.refl _ _) | (with_reducible assumption) | (with_reducible refine Below.drew ?_) | (with_reducible refine below_drewN ?_ _) | ((with_reducible refine Below.alloc ?_ ?_ _); rotate_left; focus (go_size; done)) | ((with_reducible refine Below.setCell ?_ ?_ _); rotate_left; focus (go_size; done)) | ((with_reducible refine Below.trans ?_ (Below.mono (by with_reducible assumption) ?_)); rotate_left; focus (go_size; done))))⟩
      · have e6 : fitW X = 0 := by unfold fitW; rw [if_neg hx]
        have e7 : over X = 3 := by unfold over; rw [if_neg hx]
        rw [e6, e7] at HR
        have hbig : ¬ near N (10 ^ n) < 2 ^ 128 := by
          have : N / 10 ^ n ≤ near N (10 ^ n) := Nat.le_add_right _ _
          rw [← GX.out] at this
          omega
        have e8 : fitW (near N (10 ^ n)) = 0 := by unfold fitW; rw [if_neg hbig]
        have e9 : over (near N (10 ^ n)) = 3 := by unfold over; rw [if_neg hbig]
        have E8 := Lib.hid e8
        have E9 := Lib.hid e9
        rw [wd_zero, wd_zero] at HR
        clear e6 e7 e8 e9 hbig hx hlt
        go_wp2_with ((go_at_call 41; with_reducible refine (HR.out _).mono ?_); rintro _ w1 ⟨rfl, hb1⟩; have hb1s := hb1.size; (try simp only [World.size_alloc, World.size_setCell, World.size_drew, World.heap_drewN] at hb1s); obtain ⟨hb1c, hb1f⟩ := bcell hb1; (try have : w.heap.size < w1.heap.size := by omega); (try have : w.heap.size + 1 < w1.heap.size := by omega); (try have : w.heap.size + 1 + 1 < w1.heap.size := by omega); (try have : w.heap.size + 1 + 1 + 1 < w1.heap.size := by omega))
        refine bodyPost_ret (by simp [results, Tryd.results55, go_sem, *]; try rfl) rfl ?_
        rw [E8.out, E9.out, wd_zero, wd_zero]
        exact ⟨rfl, by (repeat' (first | (with_reducible exact Below.refl _ _) | (with_reducible assumption) | (with_reducible refine Below.drew ?_) | (with_reducible refine below_drewN ?_ _) | ((with_reducible refine Below.alloc ?_ ?_ _); rotate_left; focus (go_size; done)) | ((with_reducible refine Below.setCell ?_ ?_ _); rotate_left; focus (go_size; done)) | ((with_reducible refine Below.trans ?_ (Below.mono (by with_reducible assumption) ?_)); rotate_left; focus (go_size; done))))⟩
end Go.Proofs.YtogpbcllbbpgbaaDoor

set_option linter.unusedSimpArgs false
set_option linter.unusedVariables false
namespace Go.Proofs.YtogpbcllbbpgbaaDoor
open Go.RowKit

def B34 : Nat := 10 ^ 34
theorem B34_lt : B34 < 2 ^ 128 := by unfold B34; decide
theorem B34_pos : 0 < B34 := by unfold B34; decide
/-- c / 10^s without the noughts behind the point: the coefficient, the scale -/
def stripC : Nat → Nat → Nat
  | c, 0 => c
  | c, s + 1 => if c % 10 = 0 then stripC (c / 10) s else c
def stripS : Nat → Nat → Nat
  | _, 0 => 0
  | c, s + 1 => if c % 10 = 0 then stripS (c / 10) s else s + 1
theorem strip_ten (c s : Nat) : stripC (c * 10) (s + 1) = stripC c s ∧ stripS (c * 10) (s + 1) = stripS c s := by
  unfold stripC stripS
  rw [if_pos (Nat.mul_mod_left _ _), if_pos (Nat.mul_mod_left _ _), Nat.mul_div_cancel _ (by decide)]
  exact ⟨by cases s <;> rfl, by cases s <;> rfl⟩
theorem strip_pow (c s j : Nat) : stripC (c * 10 ^ j) (s + j) = stripC c s ∧ stripS (c * 10 ^ j) (s + j) = stripS c s := by
  induction j with
  | zero => rw [Nat.pow_zero, Nat.mul_one]; exact ⟨rfl, rfl⟩
  | succ j ih =>
    have h := strip_ten (c * 10 ^ j) (s + j)
    rw [Nat.pow_succ, ← Nat.mul_assoc]
    exact ⟨h.1.trans ih.1, h.2.trans ih.2⟩
theorem strip_nil (s : Nat) : stripC 0 s = 0 ∧ stripS 0 s = 0 := by
  induction s with
  | zero => exact ⟨rfl, rfl⟩
  | succ s ih => have h := strip_ten 0 s; exact ⟨h.1.trans ih.1, h.2.trans ih.2⟩
theorem strip_yes {c : Nat} (h : c % 10 = 0) (s : Nat) : stripC c (s + 1) = stripC (c / 10) s ∧ stripS c (s + 1) = stripS (c / 10) s := by
  have e : c = c / 10 * 10 := by omega
  have := strip_ten (c / 10) s
  rwa [← e] at this
theorem strip_no {c : Nat} (h : c % 10 ≠ 0) (s : Nat) : stripC c s = c ∧ stripS c s = s := by
  cases s with
  | zero => exact ⟨rfl, rfl⟩
  | succ s => unfold stripC stripS; rw [if_neg h, if_neg h]; exact ⟨rfl, rfl⟩
theorem strip_val (c s : Nat) : stripC c s * 10 ^ (s - stripS c s) = c ∧ stripS c s ≤ s := by
  induction s generalizing c with
  | zero => exact ⟨Nat.mul_one _, Nat.le_refl _⟩
  | succ s ih =>
    by_cases h : c % 10 = 0
    · rw [(strip_yes h s).1, (strip_yes h s).2]
      obtain ⟨h1, h2⟩ := ih (c / 10)
      refine ⟨?_, by omega⟩
      rw [show s + 1 - stripS (c / 10) s = s - stripS (c / 10) s + 1 by omega, Nat.pow_succ, ← Nat.mul_assoc, h1]
      omega
    · rw [(strip_no h _).1, (strip_no h _).2, Nat.sub_self]
      exact ⟨Nat.mul_one _, Nat.le_refl _⟩
theorem stripC_le (c s : Nat) : stripC c s ≤ c := by
  have h := (strip_val c s).1
  have hp : 0 < 10 ^ (s - stripS c s) := Nat.pow_pos (by decide)
  calc stripC c s ≤ stripC c s * 10 ^ (s - stripS c s) := Nat.le_mul_of_pos_right _ hp
    _ = c := h
theorem stripC_zero {c s : Nat} : stripC c s = 0 ↔ c = 0 := by
  constructor
  · intro h; have := (strip_val c s).1; rw [h, Nat.zero_mul] at this; exact this.symm
  · rintro rfl; exact (strip_nil s).1
theorem strip_end (c s : Nat) : stripS c s = 0 ∨ stripC c s % 10 ≠ 0 := by
  induction s generalizing c with
  | zero => exact .inl rfl
  | succ s ih =>
    by_cases h : c % 10 = 0
    · rw [(strip_yes h s).1, (strip_yes h s).2]; exact ih _
    · rw [(strip_no h _).1, (strip_no h _).2]; exact .inr h
/-- what Trim cuts off tells it -/
theorem strip_trim (T k s : Nat) (hT : T % 10 ≠ 0) : (k ≤ s → stripC (T * 10 ^ k) s = T ∧ stripS (T * 10 ^ k) s = s - k) ∧ (s ≤ k → stripC (T * 10 ^ k) s = T * 10 ^ (k - s) ∧ stripS (T * 10 ^ k) s = 0) := by
  constructor
  · intro h
    have e := strip_pow T (s - k) k
    rw [show s - k + k = s by omega] at e
    rw [e.1, e.2]
    exact strip_no hT _
  · intro h
    have e := strip_pow (T * 10 ^ (k - s)) 0 s
    rw [Nat.mul_assoc, ← Nat.pow_add, show k - s + s = k by omega, Nat.zero_add] at e
    exact e
theorem strip_fix {c s : Nat} (h : s = 0 ∨ c % 10 ≠ 0) : stripC c s = c ∧ stripS c s = s := by
  rcases h with rfl | h
  · exact ⟨rfl, rfl⟩
  · exact strip_no h s

/-- the sign of what may be nought -/
def sg (neg : Bool) (c : Nat) : Bool := neg && decide (c ≠ 0)
theorem sg_zero (neg : Bool) : sg neg 0 = false := by unfold sg; simp
theorem sg_pos {neg : Bool} {c : Nat} (h : c ≠ 0) : sg neg c = neg := by unfold sg; simp [h]
/-- is it in form? -/
def dform (neg : Bool) (c : Nat) (s : Int) : Bool := decide (c < B34) && (decide (0 ≤ s) && (decide (s ≤ 18) && (if c = 0 then !neg && decide (s = 0) else decide (s = 0) || decide (c % 10 ≠ 0))))
def DForm (neg : Bool) (c s : Nat) : Prop := c < B34 ∧ s ≤ 18 ∧ (c = 0 → neg = false ∧ s = 0) ∧ (s = 0 ∨ c % 10 ≠ 0)
theorem dform_iff (neg : Bool) (c : Nat) (s : Int) : dform neg c s = true ↔ ∃ t : Nat, s = (t : Int) ∧ DForm neg c t := by
  unfold dform DForm
  by_cases h0 : c = 0
  · subst h0
    simp only [Bool.and_eq_true, decide_eq_true_eq, if_pos]
    constructor
    · rintro ⟨h1, h2, h3, h4, h5⟩
      refine ⟨0, by omega, h1, by omega, fun _ => ⟨by simpa using h4, rfl⟩, .inl rfl⟩
    · rintro ⟨t, rfl, h1, h2, h3, h4⟩
      obtain ⟨h5, h6⟩ := h3 trivial
      subst h6
      simp [h5, h1]
  · simp only [Bool.and_eq_true, decide_eq_true_eq, if_neg h0, Bool.or_eq_true]
    constructor
    · rintro ⟨h1, h2, h3, h4⟩
      refine ⟨s.toNat, by omega, h1, by omega, fun h => absurd h h0, ?_⟩
      rcases h4 with h4 | h4
      · left; omega
      · right; exact h4
    · rintro ⟨t, rfl, h1, h2, h3, h4⟩
      refine ⟨h1, by omega, by omega, ?_⟩
      rcases h4 with h4 | h4
      · left; omega
      · right; exact h4

/-- the nearest -/
theorem near_scale (a b k : Nat) (hk : 0 < k) : near (a * k) (b * k) = near a b := by
  unfold near
  rw [Nat.mul_div_mul_right _ _ hk, Nat.mul_mod_mul_right]
  have e1 : 2 * (a % b * k) > b * k ↔ 2 * (a % b) > b := by
    rw [← Nat.mul_assoc]; exact Nat.mul_lt_mul_right hk
  have e2 : 2 * (a % b * k) = b * k ↔ 2 * (a % b) = b := by
    rw [← Nat.mul_assoc]; exact Nat.mul_left_inj (Nat.ne_of_gt hk)
  simp only [e1, e2]
theorem near_exact (q d : Nat) (hd : 0 < d) : near (q * d) d = q := by
  unfold near
  rw [Nat.mul_div_cancel _ hd, Nat.mul_mod_left]
  simp; omega
theorem near_pow (n s t : Nat) (h : s ≤ t) : near (n * 10 ^ s) (10 ^ t) = near n (10 ^ (t - s)) := by
  rw [show 10 ^ t = 10 ^ (t - s) * 10 ^ s by rw [← Nat.pow_add]; congr 1; omega]
  exact near_scale _ _ _ (Nat.pow_pos (by decide))
theorem near_high (n t j : Nat) : near (n * 10 ^ (t + j)) (10 ^ t) = n * 10 ^ j := by
  rw [Nat.pow_add, Nat.mul_comm (10 ^ t), ← Nat.mul_assoc]
  exact near_exact _ _ (Nat.pow_pos (by decide))

/-- n / d fitted, trying the scales below k -/
def fitK (n d : Nat) : Nat → Nat × Nat × Int
  | 0 => (0, 0, 3)
  | s + 1 => if near (n * 10 ^ s) d < B34 then (near (n * 10 ^ s) d, s, 0) else fitK n d s
def fin (r : Nat × Nat × Int) : Nat × Nat × Int := (stripC r.1 r.2.1, stripS r.1 r.2.1, r.2.2)
/-- nineteen, and nothing that the kernel counts out -/
def K19 (n : Nat) : Nat := 19 + 0 * n
theorem K19_eq (n : Nat) : K19 n = 19 := by unfold K19; omega
def FitC (n d : Nat) : Nat := (fin (fitK n d (K19 n))).1
def FitS (n d : Nat) : Nat := (fin (fitK n d (K19 n))).2.1
def FitE (n d : Nat) : Int := (fin (fitK n d (K19 n))).2.2
theorem fitK_yes {n d s : Nat} (h : near (n * 10 ^ s) d < B34) : fitK n d (s + 1) = (near (n * 10 ^ s) d, s, 0) := by rw [fitK, if_pos h]
theorem fitK_no {n d s : Nat} (h : ¬ near (n * 10 ^ s) d < B34) : fitK n d (s + 1) = fitK n d s := by rw [fitK, if_neg h]
theorem fitK_up (n t j : Nat) : fin (fitK n (10 ^ t) (t + j + 1)) = fin (fitK n (10 ^ t) (t + 1)) := by
  induction j with
  | zero => rfl
  | succ j ih =>
    have e := near_high n t (j + 1)
    have e0 := near_high n t 0
    rw [Nat.pow_zero, Nat.mul_one, Nat.add_zero] at e0
    by_cases h : near (n * 10 ^ (t + (j + 1))) (10 ^ t) < B34
    · have h0 : near (n * 10 ^ t) (10 ^ t) < B34 := by
        rw [e0]; rw [e] at h
        exact Nat.lt_of_le_of_lt (Nat.le_mul_of_pos_right _ (Nat.pow_pos (by decide))) h
      rw [fitK_yes h, fitK_yes h0, e, e0]
      have hs := strip_pow n t (j + 1)
      unfold fin
      simp only [hs.1, hs.2]
    · rw [fitK_no h]; exact ih
theorem fit_top (n t : Nat) (h : t ≤ 18) : fin (fitK n (10 ^ t) (K19 n)) = fin (fitK n (10 ^ t) (t + 1)) := by
  have e := fitK_up n t (18 - t)
  rwa [show t + (18 - t) + 1 = K19 n by rw [K19_eq]; omega] at e
theorem fitK_scale (n d k : Nat) (hk : 0 < k) (s : Nat) : fitK (n * k) (d * k) s = fitK n d s := by
  induction s with
  | zero => rfl
  | succ s ih =>
    have e : near (n * k * 10 ^ s) (d * k) = near (n * 10 ^ s) d := by
      rw [Nat.mul_right_comm]; exact near_scale _ _ _ hk
    rw [fitK, fitK, e, ih]
theorem fit_scale (n d k : Nat) (hk : 0 < k) : FitC (n * k) (d * k) = FitC n d ∧ FitS (n * k) (d * k) = FitS n d ∧ FitE (n * k) (d * k) = FitE n d := by
  unfold FitC FitS FitE
  rw [fitK_scale n d k hk, show K19 (n * k) = K19 n by rw [K19_eq, K19_eq]]
  exact ⟨rfl, rfl, rfl⟩
theorem fitK_lt (n d k : Nat) : (fitK n d k).1 < B34 ∧ ((fitK n d k).2.1 < k ∨ (fitK n d k).2.1 = 0) ∧ ((fitK n d k).2.2 = 0 ∨ ((fitK n d k).2.2 = 3 ∧ (fitK n d k).1 = 0)) := by
  induction k with
  | zero => exact ⟨B34_pos, .inr rfl, .inr ⟨rfl, rfl⟩⟩
  | succ s ih =>
    by_cases h : near (n * 10 ^ s) d < B34
    · rw [fitK_yes h]; exact ⟨h, .inl (Nat.lt_succ_self _), .inl rfl⟩
    · rw [fitK_no h]; exact ⟨ih.1, by omega, ih.2.2⟩
theorem fit_form (neg : Bool) (n d : Nat) : DForm (sg neg (FitC n d)) (FitC n d) (FitS n d) := by
  obtain ⟨h1, h2, _⟩ := fitK_lt n d (K19 n)
  have h19 := K19_eq n
  refine ⟨Nat.lt_of_le_of_lt (stripC_le _ _) h1, Nat.le_trans (strip_val _ _).2 (by omega), ?_, strip_end _ _⟩
  intro h0
  refine ⟨by rw [h0]; exact sg_zero neg, ?_⟩
  have hz : (fitK n d (K19 n)).1 = 0 := stripC_zero.1 h0
  show stripS (fitK n d (K19 n)).1 _ = 0
  rw [hz]; exact (strip_nil _).2
theorem fit_err (n d : Nat) : FitE n d = 0 ∨ (FitE n d = 3 ∧ FitC n d = 0 ∧ FitS n d = 0) := by
  obtain ⟨h1, h2, h3⟩ := fitK_lt n d (K19 n)
  rcases h3 with h3 | ⟨h3, h4⟩
  · exact .inl h3
  · refine .inr ⟨h3, ?_, ?_⟩
    · show stripC (fitK n d (K19 n)).1 _ = 0; rw [h4]; exact (strip_nil _).1
    · show stripS (fitK n d (K19 n)).1 _ = 0; rw [h4]; exact (strip_nil _).2
end Go.Proofs.YtogpbcllbbpgbaaDoor

set_option linter.unusedSimpArgs false
set_option linter.unusedVariables false
namespace Go.Proofs.YtogpbcllbbpgbaaDoor

def isDs (l : List UInt8) : Bool := decide (l ≠ []) && l.all isD
def rt0 (l : List UInt8) : List UInt8 := Lib.trimRightB l 48
def lt0 (l : List UInt8) : List UInt8 := Lib.trimLeftB l 48
theorem dvb_lt {l : List UInt8} (h : l.all isD = true) : ∀ a k, a < 10 ^ k → dvb l a < 10 ^ (k + l.length) := by
  induction l with
  | nil => intro a k ha; simpa [dvb] using ha
  | cons d r ih =>
    intro a k ha
    rw [List.all_cons, Bool.and_eq_true] at h
    have hd : 48 ≤ d.toNat ∧ d.toNat ≤ 57 := by simpa [isD] using h.1
    have := ih h.2 (a * 10 + (d.toNat - 48)) (k + 1) (by rw [Nat.pow_succ]; omega)
    rw [List.length_cons, show k + (r.length + 1) = k + 1 + r.length by omega]
    exact this
theorem lt0_dvb (l : List UInt8) : dvb (lt0 l) 0 = dvb l 0 := by
  unfold lt0 Lib.trimLeftB
  induction l with
  | nil => rfl
  | cons d r ih =>
    rw [List.dropWhile_cons]
    split
    · rename_i h
      have e : d = 48 := by simpa using h
      subst e
      exact ih
    · rfl
theorem lt0_head (l : List UInt8) : ∀ c r, lt0 l = c :: r → c ≠ 48 := by
  intro c r h
  have := List.head?_dropWhile_not (· == (48 : UInt8)) l
  unfold lt0 Lib.trimLeftB at h
  rw [h] at this
  simpa using this
theorem lt0_all {l : List UInt8} (h : l.all isD = true) : (lt0 l).all isD = true := by
  rw [List.all_eq_true] at h ⊢
  intro c hc
  exact h c ((List.dropWhile_sublist _).subset hc)
theorem rt0_all {l : List UInt8} (h : l.all isD = true) : (rt0 l).all isD = true := by
  rw [List.all_eq_true] at h ⊢
  intro c hc
  unfold rt0 Lib.trimRightB at hc
  rw [List.mem_reverse] at hc
  exact h c (List.mem_reverse.1 ((List.dropWhile_sublist _).subset hc))
/-- the last digit of what rt0 leaves is none -/
theorem rt0_last (l : List UInt8) : ∀ c, (rt0 l).getLast? = some c → c ≠ 48 := by
  intro c h
  unfold rt0 Lib.trimRightB at h
  rw [List.getLast?_reverse] at h
  have := List.head?_dropWhile_not (· == (48 : UInt8)) l.reverse
  rw [h] at this
  simpa using this
theorem rt0_len (l : List UInt8) : (rt0 l).length ≤ l.length := by
  unfold rt0 Lib.trimRightB
  rw [List.length_reverse]
  have := (List.dropWhile_sublist (· == (48 : UInt8)) (l := l.reverse)).length_le
  simpa using this
theorem lt0_len (l : List UInt8) : (lt0 l).length ≤ l.length := (List.dropWhile_sublist _).length_le
theorem lt0_low {l : List UInt8} (h : l.all isD = true) (hn : lt0 l ≠ []) : 10 ^ ((lt0 l).length - 1) ≤ dvb l 0 := by
  rw [← lt0_dvb]
  cases e : lt0 l with
  | nil => exact absurd e hn
  | cons c r =>
    have h1 := lt0_head l c r e
    have h2 := lt0_all h
    rw [e, List.all_cons, Bool.and_eq_true] at h2
    have hd : 48 ≤ c.toNat ∧ c.toNat ≤ 57 := by simpa [isD] using h2.1
    have h3 : c.toNat ≠ 48 := fun hh => h1 (UInt8.toNat_inj.1 hh)
    have := dvb_low r (0 * 10 + (c.toNat - 48)) 0 (by simp; omega)
    rw [Nat.zero_add] at this
    simpa [dvb] using this
theorem lt0_up {l : List UInt8} (h : l.all isD = true) : dvb l 0 < 10 ^ (lt0 l).length := by
  rw [← lt0_dvb]
  have := dvb_lt (lt0_all h) 0 0 (by simp)
  rwa [Nat.zero_add] at this
theorem lt0_nil {l : List UInt8} (h : l.all isD = true) : lt0 l = [] ↔ dvb l 0 = 0 := by
  constructor
  · intro e
    rw [← lt0_dvb, e]; rfl
  · intro e
    rcases Classical.em (lt0 l = []) with h1 | h1
    · exact h1
    · have := lt0_low h h1
      have h2 : 0 < 10 ^ ((lt0 l).length - 1) := Nat.pow_pos (by decide)
      omega
theorem lt0_34 {l : List UInt8} (h : l.all isD = true) : (lt0 l).length ≤ 34 ↔ dvb l 0 < B34 := by
  unfold B34
  constructor
  · intro hl
    exact Nat.lt_of_lt_of_le (lt0_up h) (Nat.pow_le_pow_right (by decide) hl)
  · intro hl
    rcases Nat.lt_or_ge 34 (lt0 l).length with h1 | h1
    · have hn : lt0 l ≠ [] := by intro e; rw [e] at h1; simp at h1
      have h2 := lt0_low h hn
      have h3 : 10 ^ 34 ≤ 10 ^ ((lt0 l).length - 1) := Nat.pow_le_pow_right (by decide) (by omega)
      omega
    · exact h1
theorem lt0_ok {l : List UInt8} (h : l.all isD = true) (hn : lt0 l ≠ []) : okB (lt0 l) = true := by
  unfold okB
  rw [lt0_all h, Bool.and_true, Bool.and_eq_true]
  refine ⟨by simpa using hn, ?_⟩
  rw [Bool.or_eq_true]
  right
  cases e : lt0 l with
  | nil => exact absurd e hn
  | cons c r =>
    have h1 := lt0_head l c r e
    have h3 : c.toNat ≠ 48 := fun hh => h1 (UInt8.toNat_inj.1 hh)
    simpa using h3
/-- what Parse comes to: its sign, the digits ahead of the point and behind it, is there a point? -/
def parS (neg : Bool) (a b : List UInt8) (dot : Bool) : Bool × Nat × Nat × Int :=
  if isDs a = true ∧ ¬ (1 < a.length ∧ (a.headD 0).toNat = 48) ∧ (dot = true → isDs b = true) then
    if dvb (a ++ rt0 b) 0 = 0 then (false, 0, 0, if neg = true then 5 else 0)
    else if 18 < (rt0 b).length ∨ ¬ dvb (a ++ rt0 b) 0 < B34 then (false, 0, 0, 3)
    else (neg, dvb (a ++ rt0 b) 0, (rt0 b).length, 0)
  else (false, 0, 0, 5)
def ahead (l : List UInt8) : List UInt8 := l.takeWhile (· != 46)
def behind (l : List UInt8) : List UInt8 := (l.dropWhile (· != 46)).drop 1
def hasDot (l : List UInt8) : Bool := l.contains 46
def minus1 (l : List UInt8) : Bool := l.head? == some 45
def past (l : List UInt8) : List UInt8 := if minus1 l = true then l.drop 1 else l
def parD (l : List UInt8) : Bool × Nat × Nat × Int := parS (minus1 l) (ahead (past l)) (behind (past l)) (hasDot (past l))
/-- what Print comes to: L digits -/
def padS (c s L : Nat) : List UInt8 := List.replicate (s + 1 - L) 48 ++ txl c L
def insS (t : List UInt8) (s : Nat) : List UInt8 := if 0 < s then t.take (t.length - s) ++ [46] ++ t.drop (t.length - s) else t
def prS (b : Bool) (c s L : Nat) : List UInt8 := (if b = true then [45] else []) ++ insS (padS c s L) s
theorem all_rep (n : Nat) : (List.replicate n (48 : UInt8)).all isD = true := by
  rw [List.all_eq_true]
  intro c hc
  rw [(List.mem_replicate.1 hc).2]; rfl
theorem padS_all (c s L : Nat) : (padS c s L).all isD = true := by
  unfold padS
  rw [List.all_append, all_rep, txl_digits]; rfl
theorem padS_length (c s L : Nat) (hL : 1 ≤ L) : (padS c s L).length = max (s + 1) L := by
  unfold padS
  rw [List.length_append, List.length_replicate, txl_length]; omega
theorem dvb_zeros (n : Nat) (l : List UInt8) : dvb (List.replicate n 48 ++ l) 0 = dvb l 0 := by
  induction n with
  | zero => rfl
  | succ n ih => rw [List.replicate_succ, List.cons_append]; exact ih
theorem padS_dvb (c s L : Nat) (h : c < 10 ^ L) : dvb (padS c s L) 0 = c := by
  unfold padS
  rw [dvb_zeros, dvb_txl c L h]
theorem isD_46 {c : UInt8} (h : isD c = true) : (c != 46) = true := by
  rw [bne_iff_ne]
  rintro rfl
  exact absurd h (by decide)
theorem isD_45 {c : UInt8} (h : isD c = true) : c ≠ 45 := by
  rintro rfl
  exact absurd h (by decide)
theorem ahead_dig {l r : List UInt8} (h : l.all isD = true) : ahead (l ++ 46 :: r) = l ∧ behind (l ++ 46 :: r) = r ∧ hasDot (l ++ 46 :: r) = true := by
  have hp : ∀ c ∈ l, (c != 46) = true := fun c hc => isD_46 (List.all_eq_true.1 h c hc)
  refine ⟨?_, ?_, ?_⟩
  · unfold ahead
    rw [List.takeWhile_append_of_pos hp]
    simp
  · unfold behind
    rw [List.dropWhile_append_of_pos hp]
    simp
  · unfold hasDot
    simp
theorem ahead_no {l : List UInt8} (h : l.all isD = true) : ahead l = l ∧ behind l = [] ∧ hasDot l = false := by
  have hp : ∀ c ∈ l, (c != 46) = true := fun c hc => isD_46 (List.all_eq_true.1 h c hc)
  refine ⟨?_, ?_, ?_⟩
  · have := List.takeWhile_append_of_pos (l₂ := []) hp
    unfold ahead
    simpa using this
  · have := List.dropWhile_append_of_pos (l₂ := []) hp
    unfold behind
    rw [List.append_nil] at this
    rw [this]; rfl
  · unfold hasDot
    rw [Bool.eq_false_iff]
    intro hh
    have := hp 46 (by simpa using hh)
    exact absurd this (by decide)
theorem past_cons (l : List UInt8) : minus1 (45 :: l) = true ∧ past (45 :: l) = l := ⟨rfl, rfl⟩
theorem past_no {l : List UInt8} (h : ∀ c r, l = c :: r → c ≠ 45) : minus1 l = false ∧ past l = l := by
  have : minus1 l = false := by
    unfold minus1
    cases l with
    | nil => rfl
    | cons c r => simpa using h c r rfl
  exact ⟨this, by unfold past; rw [this]; rfl⟩
theorem insS_head {t : List UInt8} (s : Nat) (h : t.all isD = true) (hs : s < t.length) : ∀ c r, insS t s = c :: r → c ≠ 45 := by
  intro c r e
  have : c ∈ t := by
    unfold insS at e
    cases t with
    | nil => simp at hs
    | cons x y =>
      split at e
      · obtain ⟨m, hm⟩ : ∃ m, (x :: y).length - s = m + 1 := ⟨(x :: y).length - s - 1, by omega⟩
        rw [hm] at e
        simp at e
        rw [← e.1]; exact List.mem_cons_self ..
      · injection e with e1 e2
        rw [← e1]; exact List.mem_cons_self ..
  exact isD_45 (List.all_eq_true.1 h c this)
theorem dvb_last (l : List UInt8) (c : UInt8) (h : isD c = true) (hz : dvb (l ++ [c]) 0 % 10 ≠ 0) : c ≠ 48 := by
  rintro rfl
  rw [dvb_append] at hz
  apply hz
  have : (48 : UInt8).toNat - 48 = 0 := rfl
  rw [this]; omega
theorem drop_none : ∀ (l : List UInt8), (∀ c, l.head? = some c → c ≠ 48) → l.dropWhile (· == 48) = l
  | [], _ => rfl
  | d :: r, h => by
    have h1 : (d == 48) = false := by simpa using h d rfl
    rw [List.dropWhile_cons, h1]; rfl
theorem rt0_keep {l : List UInt8} (h : ∀ c, l.getLast? = some c → c ≠ 48) : rt0 l = l := by
  unfold rt0 Lib.trimRightB
  rw [drop_none _ (fun c hc => h c (by rw [List.head?_reverse] at hc; exact hc)), List.reverse_reverse]
/-- what is printed reads back as it was -/
theorem par_pr {b : Bool} {c s L : Nat} (h : DForm b c s) (hL : IsNd c L) : parD (prS b c s L) = (b, c, s, 0) := by
  obtain ⟨h1, h2, h3, h4⟩ := h
  have hl := padS_length c s L hL.1
  have ha := padS_all c s L
  have hv := padS_dvb c s L hL.2.1
  have hfirst : s + 1 < L ∨ ¬ (1 < (padS c s L).length - s ∧ ((padS c s L).headD 0).toNat = 48) := by
    rcases Nat.lt_or_ge (s + 1) L with hh | hh
    · exact .inl hh
    · right
      rw [hl]; omega
  obtain ⟨t, ht⟩ : ∃ t, t = padS c s L := ⟨_, rfl⟩
  have hlt : s < t.length := by rw [ht, hl]; omega
  have hbody : parS b (ahead (insS t s)) (behind (insS t s)) (hasDot (insS t s)) = (b, c, s, 0) := by
    -- the first digit
    have hnz : ∀ k, 1 ≤ k → k + s = t.length → ¬ (1 < k ∧ (t.headD 0).toNat = 48) := by
      rintro k hk1 hk2 ⟨hk3, hk4⟩
      rw [ht, hl] at hk2
      have hLs : s + 1 < L := by omega
      have e : padS c s L = txl c L := by
        unfold padS
        rw [show s + 1 - L = 0 by omega]; rfl
      rw [ht, e] at hk4
      have hok := txl_ok hL
      unfold okB at hok
      rw [Bool.and_eq_true, Bool.and_eq_true, Bool.or_eq_true, txl_length] at hok
      rcases hok.1.2 with q | q
      · have : L ≤ 1 := of_decide_eq_true q
        omega
      · exact of_decide_eq_true q hk4
    have hne : ∀ k, 1 ≤ k → isDs (t.take k) = true := by
      intro k hk
      unfold isDs
      rw [Bool.and_eq_true]
      refine ⟨decide_eq_true ?_, ?_⟩
      · intro e
        have := congrArg List.length e
        rw [List.length_take, List.length_nil] at this
        omega
      · rw [List.all_eq_true]
        intro x hx
        exact List.all_eq_true.1 (ht ▸ ha) x (List.mem_of_mem_take hx)
    have hv' : dvb t 0 = c := by rw [ht]; exact hv
    by_cases hs : 0 < s
    · have e : insS t s = t.take (t.length - s) ++ 46 :: t.drop (t.length - s) := by
        unfold insS
        rw [if_pos hs, List.append_assoc]; rfl
      have hta : (t.take (t.length - s)).all isD = true := by
        rw [List.all_eq_true]
        intro x hx
        exact List.all_eq_true.1 (ht ▸ ha) x (List.mem_of_mem_take hx)
      obtain ⟨e1, e2, e3⟩ := ahead_dig (r := t.drop (t.length - s)) hta
      rw [e, e1, e2, e3]
      have hr : rt0 (t.drop (t.length - s)) = t.drop (t.length - s) := by
        refine rt0_keep fun x hx => ?_
        have hdl : (t.drop (t.length - s)).length = s := by rw [List.length_drop]; omega
        have hx2 : t.getLast? = some x := by
          have e5 := List.take_append_drop (t.length - s) t
          have : (t.take (t.length - s) ++ t.drop (t.length - s)).getLast? = some x := by
            rw [List.getLast?_append, hx]; rfl
          rwa [e5] at this
        obtain ⟨m, hm⟩ : ∃ m, t = m ++ [x] := by
          rcases List.eq_nil_or_concat t with e6 | ⟨m, y, e6⟩
          · rw [e6] at hx2; cases hx2
          · rw [e6, List.concat_eq_append, List.getLast?_concat] at hx2
            injection hx2 with hx2
            exact ⟨m, by rw [e6, List.concat_eq_append, hx2]⟩
        have hxd : isD x = true := List.all_eq_true.1 (ht ▸ ha) x (by rw [hm]; simp)
        refine dvb_last m x hxd ?_
        rw [← hm, hv']
        rcases h4 with h4 | h4
        · omega
        · exact h4
      have hdl : (t.drop (t.length - s)).length = s := by rw [List.length_drop]; omega
      unfold parS
      rw [hr, List.take_append_drop, hv', hdl]
      have hdd : isDs (t.drop (t.length - s)) = true := by
        unfold isDs
        rw [Bool.and_eq_true]
        refine ⟨decide_eq_true ?_, ?_⟩
        · intro e5; rw [e5] at hdl; simp at hdl; omega
        · rw [List.all_eq_true]
          intro x hx
          exact List.all_eq_true.1 (ht ▸ ha) x (List.mem_of_mem_drop hx)
      have hhd : (t.take (t.length - s)).headD 0 = t.headD 0 := by
        cases t with
        | nil => simp at hlt
        | cons x y =>
          obtain ⟨m, hm⟩ : ∃ m, (x :: y).length - s = m + 1 := ⟨(x :: y).length - s - 1, by omega⟩
          rw [hm]; rfl
      have htl : (t.take (t.length - s)).length = t.length - s := by rw [List.length_take]; omega
      rw [if_pos ⟨hne _ (by omega), by rw [hhd, htl]; exact hnz _ (by omega) (by omega), fun _ => hdd⟩]
      have hc0 : c ≠ 0 := fun e5 => by have := (h3 e5).2; omega
      rw [if_neg hc0, if_neg (by rintro (q | q); omega; exact q h1)]
    · have s0 : s = 0 := by omega
      have e : insS t s = t := by unfold insS; rw [if_neg hs]
      obtain ⟨e1, e2, e3⟩ := ahead_no (ht ▸ ha : t.all isD = true)
      rw [e, e1, e2, e3]
      have hr : rt0 [] = [] := rfl
      unfold parS
      rw [hr, List.append_nil, hv']
      have hn1 := hne t.length (by omega)
      rw [List.take_length] at hn1
      rw [if_pos ⟨hn1, hnz _ (by omega) (by omega), fun q => Bool.noConfusion q⟩]
      by_cases hc0 : c = 0
      · rw [if_pos hc0]
        rw [(h3 hc0).1, s0, hc0]; rfl
      · rw [if_neg hc0, if_neg (by rintro (q | q); exact absurd q (by decide); exact q h1), s0]; rfl
  unfold prS parD
  rw [← ht]
  cases b with
  | true =>
    show parS (minus1 (45 :: insS t s)) (ahead (past (45 :: insS t s))) (behind (past (45 :: insS t s))) (hasDot (past (45 :: insS t s))) = _
    rw [(past_cons (insS t s)).1, (past_cons (insS t s)).2]
    exact hbody
  | false =>
    show parS (minus1 (insS t s)) (ahead (past (insS t s))) (behind (past (insS t s))) (hasDot (past (insS t s))) = _
    have := past_no (insS_head s (ht ▸ ha) hlt)
    rw [this.1, this.2]
    exact hbody
end Go.Proofs.YtogpbcllbbpgbaaDoor

set_option linter.unusedSimpArgs false
set_option linter.unusedVariables false
namespace Go.Proofs.YtogpbcllbbpgbaaDoor
open Go.RowKit

/-- the size in units of 10^-18 -/
def unit (c s : Nat) : Nat := c * 10 ^ (18 - s)
def sgn (an : Bool) (x : Nat) (bn : Bool) (y : Nat) : Bool := if an = bn then an else if y ≤ x then an else bn
def sab (an : Bool) (x : Nat) (bn : Bool) (y : Nat) : Nat := if an = bn then x + y else if y ≤ x then x - y else y - x
theorem sgn_scale (an bn : Bool) (x y k : Nat) (hk : 0 < k) : sgn an (x * k) bn (y * k) = sgn an x bn y := by
  unfold sgn
  have e : y * k ≤ x * k ↔ y ≤ x := Nat.mul_le_mul_right_iff hk
  simp only [e]
theorem sab_scale (an bn : Bool) (x y k : Nat) (hk : 0 < k) : sab an (x * k) bn (y * k) = sab an x bn y * k := by
  unfold sab
  have e : y * k ≤ x * k ↔ y ≤ x := Nat.mul_le_mul_right_iff hk
  simp only [e]
  split
  · rw [Nat.add_mul]
  · split <;> rw [Nat.sub_mul]
theorem unit_split (c s m : Nat) (h : s ≤ m) (h18 : m ≤ 18) : unit c s = c * 10 ^ (m - s) * 10 ^ (18 - m) := by
  unfold unit
  rw [Nat.mul_assoc, ← Nat.pow_add]; congr 2; omega
theorem unit_lt {c s : Nat} (h : c < B34) : unit c s < 10 ^ 52 := by
  unfold unit
  have h1 : c * 10 ^ (18 - s) ≤ c * 10 ^ 18 := Nat.mul_le_mul_left _ (Nat.pow_le_pow_right (by decide) (by omega))
  have h2 : c * 10 ^ 18 < B34 * 10 ^ 18 := Nat.mul_lt_mul_of_pos_right h (by decide)
  have h3 : B34 * 10 ^ 18 = 10 ^ 52 := by unfold B34; decide
  omega
theorem scaled_lt {c s m : Nat} (h : c < B34) (hm : m ≤ 18) : c * 10 ^ (m - s) < 10 ^ 52 := by
  have h1 : c * 10 ^ (m - s) ≤ c * 10 ^ 18 := Nat.mul_le_mul_left _ (Nat.pow_le_pow_right (by decide) (by omega))
  have h2 : c * 10 ^ 18 < B34 * 10 ^ 18 := Nat.mul_lt_mul_of_pos_right h (by decide)
  have h3 : B34 * 10 ^ 18 = 10 ^ 52 := by unfold B34; decide
  omega
theorem sab_le (an bn : Bool) (x y : Nat) : sab an x bn y ≤ x + y := by unfold sab; split; omega; split <;> omega
/-- a fraction of a power of ten, in other units -/
theorem fit_units (u m : Nat) (h : m ≤ 18) : FitC (u * 10 ^ (18 - m)) (10 ^ 18) = FitC u (10 ^ m) ∧ FitS (u * 10 ^ (18 - m)) (10 ^ 18) = FitS u (10 ^ m) ∧ FitE (u * 10 ^ (18 - m)) (10 ^ 18) = FitE u (10 ^ m) := by
  have e : 10 ^ 18 = 10 ^ m * 10 ^ (18 - m) := by rw [← Nat.pow_add]; congr 1; omega
  rw [e]
  exact fit_scale u (10 ^ m) (10 ^ (18 - m)) (Nat.pow_pos (by decide))
theorem sum_units (an bn : Bool) (ca cb sa sb m : Nat) (ha : sa ≤ m) (hb : sb ≤ m) (h : m ≤ 18) :
    sgn an (unit ca sa) bn (unit cb sb) = sgn an (ca * 10 ^ (m - sa)) bn (cb * 10 ^ (m - sb)) ∧ sab an (unit ca sa) bn (unit cb sb) = sab an (ca * 10 ^ (m - sa)) bn (cb * 10 ^ (m - sb)) * 10 ^ (18 - m) := by
  rw [unit_split ca sa m ha h, unit_split cb sb m hb h]
  have hp : 0 < 10 ^ (18 - m) := Nat.pow_pos (by decide)
  exact ⟨sgn_scale _ _ _ _ _ hp, sab_scale _ _ _ _ _ hp⟩
/-- the order -/
def ordD (an : Bool) (x : Nat) (bn : Bool) (y : Nat) : Int := if an = bn then (if an = true then cmpN y x else cmpN x y) else if an = true then -1 else 1
theorem cmpN_scale (x y k : Nat) (hk : 0 < k) : cmpN (x * k) (y * k) = cmpN x y := by
  unfold cmpN
  have e1 : x * k = y * k ↔ x = y := Nat.mul_left_inj (Nat.ne_of_gt hk)
  have e2 : x * k < y * k ↔ x < y := Nat.mul_lt_mul_right hk
  simp only [e1, e2]
theorem ordD_scale (an bn : Bool) (x y k : Nat) (hk : 0 < k) : ordD an (x * k) bn (y * k) = ordD an x bn y := by
  unfold ordD; rw [cmpN_scale _ _ _ hk, cmpN_scale _ _ _ hk]
theorem ord_units (an bn : Bool) (ca cb sa sb m : Nat) (ha : sa ≤ m) (hb : sb ≤ m) (h : m ≤ 18) :
    ordD an (unit ca sa) bn (unit cb sb) = ordD an (ca * 10 ^ (m - sa)) bn (cb * 10 ^ (m - sb)) := by
  rw [unit_split ca sa m ha h, unit_split cb sb m hb h]
  exact ordD_scale _ _ _ _ _ (Nat.pow_pos (by decide))
/-- the difference's sign is the order -/
theorem ord_sum (an bn : Bool) (x y : Nat) (ha : x = 0 → an = false) (hb : y = 0 → bn = false) :
    ordD an x bn y = if sab an x (!bn) y = 0 then 0 else if sgn an x (!bn) y = true then -1 else 1 := by
  cases an <;> cases bn <;> simp [ordD, sab, sgn, cmpN] at * <;> (repeat' split) <;> omega
end Go.Proofs.YtogpbcllbbpgbaaDoor

set_option linter.unusedSimpArgs false
set_option linter.unusedVariables false
namespace Go.Proofs.YtogpbcllbbpgbaaDoor
open Go.RowKit

theorem mod_fit {N : Nat} (h : N < 2 ^ 128) : N % 2 ^ 256 = N := Nat.mod_eq_of_lt (Nat.lt_trans h (by decide))
theorem cmp_top {xs ys : List Int} (hx : Digs xs) (hy : Digs ys) (k : Nat) (h1 : k < xs.length) (h2 : k < ys.length) (he : xs.length = ys.length) (heq : xs.drop (k + 1) = ys.drop (k + 1)) (hlt : xs.getD k 0 < ys.getD k 0) : dval xs < dval ys := by
  have a := dval_append (xs.take k) (xs.drop k)
  have b := dval_append (ys.take k) (ys.drop k)
  rw [List.take_append_drop, List.length_take, Nat.min_eq_left (by omega), dval_drop xs k h1] at a
  rw [List.take_append_drop, List.length_take, Nat.min_eq_left (by omega), dval_drop ys k h2, ← heq] at b
  have ba := dval_bd (hx.take k)
  have bb := dval_bd (hy.take k)
  rw [List.length_take, Nat.min_eq_left (by omega)] at ba bb
  have hp := ten_pos k
  generalize dval (xs.drop (k + 1)) = T at *
  have hm : (10 : Int) ^ k * (xs.getD k 0 + 10 * T) + 10 ^ k ≤ 10 ^ k * (ys.getD k 0 + 10 * T) := by
    have : (10 : Int) ^ k * (xs.getD k 0 + 10 * T + 1) ≤ 10 ^ k * (ys.getD k 0 + 10 * T) := Int.mul_le_mul_of_nonneg_left (by omega) (by omega)
    rw [Int.mul_add, Int.mul_one] at this
    exact this
  omega
theorem cmp_long {xs ys : List Int} {n m : Nat} (hx : IsDg xs n) (hy : IsDg ys m) (h : xs.length < ys.length) : n < m := by
  have h1 := hx.lt_of_len (k := ys.length - 1) (by omega)
  have h2 := hy.le_of_ne (by intro e; subst e; simp at h)
  omega
end Go.Proofs.YtogpbcllbbpgbaaDoor

set_option linter.unusedSimpArgs false
set_option linter.unusedVariables false
namespace Go.Proofs.YtogpbcllbbpgbaaDoor
open Go.RowKit

theorem zrow_own (w : World) (n : Nat) (hn : n ≤ 1000000) : (w.alloc (.cells (zrow n).toArray 3)).ownsRow w.heap.size 3 1 (.slice (some ⟨w.heap.size, 0, none⟩) n n) (List.replicate n (0 : Int)).length ((List.replicate n (0 : Int)).map (Value.int .i64)) := by
  refine ⟨by simp, .inr ⟨w.heap.size, n, (zrow n).toArray, by simp, Nat.le_refl _, heap_alloc_new w _, by simp, by unfold maxLen; omega, by simp [zrow], by simp [zrow]⟩⟩
theorem IsDg.shift {l : List Int} {n : Nat} (h : IsDg l n) (hne : l ≠ []) (k : Nat) : IsDg (List.replicate k 0 ++ l) (n * 10 ^ k) := by
  refine ⟨(Digs.zeros k).append h.1, ?_, ?_⟩
  · have ht := h.2.1
    obtain ⟨i, x, rfl⟩ : ∃ i x, l = i ++ [x] := ⟨l.dropLast, l.getLast hne, (List.dropLast_concat_getLast hne).symm⟩
    unfold Top at *
    rw [← List.append_assoc]
    simpa using ht
  · rw [dval_append, dval_replicate, List.length_replicate, h.2.2, Int.zero_add, Int.natCast_mul, Int.natCast_pow, Int.mul_comm]; rfl
theorem dval_take_any (l : List Int) (n : Nat) : dval (l.take (n + 1)) = dval (l.take n) + 10 ^ n * l.getD n 0 := by
  by_cases h : n < l.length
  · exact dval_take_succ l n h
  · rw [List.take_of_length_le (by omega), List.take_of_length_le (by omega), List.getD_eq_getElem?_getD, List.getElem?_eq_none (by omega)]
    simp
theorem getD_past (l : List Int) (n : Nat) (h : l.length ≤ n) : l.getD n 0 = 0 := by
  rw [List.getD_eq_getElem?_getD, List.getElem?_eq_none h]; rfl
theorem plus_step (ds : List Int) (cc s : Int) (n : Nat) (xs ys : List Int) (hv : dval ds + 10 ^ n * cc = dval (xs.take n) + dval (ys.take n)) (hs : s = cc + xs.getD n 0 + ys.getD n 0) (hl : ds.length = n) :
    dval (ds ++ [s % 10]) + 10 ^ (n + 1) * (s / 10) = dval (xs.take (n + 1)) + dval (ys.take (n + 1)) := by
  rw [dval_snoc, hl, dval_take_any, dval_take_any, Int.pow_succ]
  have e1 := carry_step (10 ^ n) s
  have e2 : (10 : Int) ^ n * s = 10 ^ n * cc + 10 ^ n * xs.getD n 0 + 10 ^ n * ys.getD n 0 := by rw [hs, Int.mul_add, Int.mul_add]
  omega
end Go.Proofs.YtogpbcllbbpgbaaDoor

set_option linter.unusedSimpArgs false
set_option linter.unusedVariables false
namespace Go.Proofs.YtogpbcllbbpgbaaDoor
open Go.RowKit

theorem own_bk {w : World} {base : Nat} {v : Value} {xs : List Int} (h : w.ownsRow base 3 1 v xs.length (xs.map (Value.int .i64))) (hne : xs ≠ []) :
    ∃ g cap rest, v = .slice (some ⟨g, 0, none⟩) xs.length cap ∧ base ≤ g ∧ Bk w g 3 (xs.map (Value.int .i64) ++ rest) ∧ xs.length ≤ cap := by
  rcases h.2 with ⟨_, hn⟩ | ⟨g, cap, cur, rfl, hg, hh, r1, r2, r3, r4⟩
  · exact absurd (List.length_eq_zero_iff.1 hn) hne
  · refine ⟨g, cap, cur.toList.drop xs.length, rfl, hg, ?_, r1⟩
    unfold Bk
    rw [Nat.mul_one] at r4
    rw [← r4, List.take_append_drop]
    simpa using hh
theorem bk_at {w : World} {g : Nat} {zs : List Int} {rest : List Value} (h : Bk w g 3 (zs.map (Value.int .i64) ++ rest)) {k : Nat} (hk : k < zs.length) : w.cell? ⟨g, k, none⟩ = some (.int .i64 (zs.getD k 0)) := by
  refine h.cell _ ?_
  rw [List.getElem?_append_left (by simpa using hk), List.getElem?_map, List.getElem?_eq_getElem hk, getD_lt _ _ hk]; rfl
theorem bk_set {w : World} {g : Nat} {zs : List Int} {rest : List Value} (h : Bk w g 3 (zs.map (Value.int .i64) ++ rest)) {k : Nat} (hk : k < zs.length) (x : Int) : Bk (w.setCell ⟨g, k, none⟩ (.int .i64 x)) g 3 ((zs.set k x).map (Value.int .i64) ++ rest) := by
  have := h.set_ k (.int .i64 x)
  rwa [List.set_append_left _ _ (by simpa using hk), ← List.map_set] at this
theorem IsSl.of_bk2 {w : World} {g : Nat} {ds : List Int} {rest : List Value} {n c : Nat} (h : Bk w g 3 (ds.map (Value.int .i64) ++ rest)) (hn : ds.length = n) (hc : n ≤ c) : IsSl w (.slice (some ⟨g, 0, none⟩) n c) ds := by
  subst hn
  refine ⟨_, c, rfl, hc, fun hne => ⟨g, 0, _, rfl, h, fun j hj => ?_⟩⟩
  rw [Nat.zero_add, List.getElem?_append_left (by simpa using hj), List.getElem?_map, List.getElem?_eq_getElem hj, getD_lt _ _ hj]; rfl
theorem getD_set (l : List Int) (k j : Nat) (x : Int) (hk : k < l.length) : (l.set k x).getD j 0 = if j = k then x else l.getD j 0 := by
  rw [List.getD_eq_getElem?_getD, List.getElem?_set]
  by_cases h : j = k
  · subst h; rw [if_pos rfl, if_pos rfl, if_pos hk]; rfl
  · rw [if_neg (fun e => h e.symm), if_neg h, List.getD_eq_getElem?_getD]
theorem dval_set (l : List Int) (k : Nat) (x : Int) (hk : k < l.length) : dval (l.set k x) = dval l + 10 ^ k * (x - l.getD k 0) := by
  have a := dval_append (l.take k) (l.drop k)
  rw [List.take_append_drop, List.length_take, Nat.min_eq_left (by omega), dval_drop l k hk] at a
  have b := dval_append ((l.set k x).take k) ((l.set k x).drop k)
  rw [List.take_append_drop, List.length_take, List.length_set, Nat.min_eq_left (by omega), drop_set _ _ _ hk, List.take_set_of_le (by omega)] at b
  rw [a, b]
  show _ + 10 ^ k * (x + 10 * dval (l.drop (k + 1))) = _
  rw [Int.mul_add, Int.mul_add, Int.mul_sub]
  omega
theorem len_mono {xs ys : List Int} {n m : Nat} (hx : IsDg xs n) (hy : IsDg ys m) (h : m ≤ n) : ys.length ≤ xs.length := by
  rcases Nat.lt_or_ge xs.length ys.length with hlt | hge
  · have := cmp_long hx hy hlt; omega
  · exact hge
/-- behind the second loop all are digits: the value is not below nought -/
theorem digs_end (zs : List Int) (L : Nat) (hL : zs.length = L + 1) (h0 : ∀ j, j < L → 0 ≤ zs.getD j 0) (h9 : ∀ j, zs.getD j 0 ≤ 9) (hv : 0 ≤ dval zs) : Digs zs := by
  have hd : Digs (zs.take L) := by
    intro d hd
    obtain ⟨i, hi, rfl⟩ := List.getElem_of_mem hd
    rw [List.length_take] at hi
    rw [List.getElem_take, ← getD_lt _ _ (by omega)]
    exact ⟨h0 i (by omega), h9 i⟩
  have e := dval_take_succ zs L (by omega)
  rw [List.take_of_length_le (by omega)] at e
  have hb := dval_bd hd
  rw [List.length_take, Nat.min_eq_left (by omega)] at hb
  have htop : 0 ≤ zs.getD L 0 := by
    rcases Int.lt_or_le (zs.getD L 0) 0 with hlt | hge
    · have hm : (10 : Int) ^ L * zs.getD L 0 ≤ 10 ^ L * (-1) := Int.mul_le_mul_of_nonneg_left (by omega) (Int.le_of_lt (ten_pos L))
      omega
    · exact hge
  intro d hd'
  obtain ⟨i, hi, rfl⟩ := List.getElem_of_mem hd'
  rw [← getD_lt _ _ hi]
  by_cases hi2 : i < L
  · exact ⟨h0 i hi2, h9 i⟩
  · have : i = L := by omega
    subst this
    exact ⟨htop, h9 i⟩
end Go.Proofs.YtogpbcllbbpgbaaDoor

set_option linter.unusedSimpArgs false
set_option linter.unusedVariables false
namespace Go.Proofs.YtogpbcllbbpgbaaDoor
open Go.RowKit

theorem empty_own (w : World) : (w.alloc (.cells #[] 3)).ownsRow w.heap.size 3 1 (.slice (some ⟨w.heap.size, 0, none⟩) 0 0) ([] : List Int).length (([] : List Int).map (Value.int .i64)) :=
  World.ownsRow_made w #[] 0 (Nat.le_refl _) (by unfold maxLen; omega) (by simp)
/-- the digits of n, in memory of its own -/
def RetNew (n : Nat) (w : World) (e : Ending) (w' : World) : Prop := ∃ v, e = .returned v ∧ New w.heap.size v ∧ Dg w' v n ∧ Below w.heap.size w w'
end Go.Proofs.YtogpbcllbbpgbaaDoor

set_option linter.unusedSimpArgs false
set_option linter.unusedVariables false
namespace Go.Proofs.YtogpbcllbbpgbaaDoor
open Go.RowKit

/-- the digits n of xs lie above place k: what they are -/
theorem quo_head {xs : List Int} {N : Nat} (h : IsDg xs N) (k : Nat) (hk : k < xs.length) : N / 10 ^ k = 10 * (N / 10 ^ (k + 1)) + (xs.getD k 0).toNat := by
  have hd := dval_digit h.1 k hk
  have hg := h.get k
  rw [h.2.2] at hd
  have e : ((N / 10 ^ k % 10 : Nat) : Int) = xs.getD k 0 := by
    rw [hd, Int.natCast_emod, Int.natCast_ediv, Int.natCast_pow]; rfl
  have e2 : (xs.getD k 0).toNat = N / 10 ^ k % 10 := by rw [← e]; rfl
  rw [e2, Nat.pow_succ, ← Nat.div_div_eq_div_mul]
  omega
theorem quo_top {xs : List Int} {N : Nat} (h : IsDg xs N) : N / 10 ^ xs.length = 0 := Nat.div_eq_of_lt (h.lt_of_len (Nat.le_refl _))
/-- one digit more of the quotient -/
theorem quo_step (P M d t r : Nat) (hM : 0 < M) (hr : r < M) (h : 10 * (P % M) + d = t * M + r) : (10 * P + d) / M = 10 * (P / M) + t ∧ (10 * P + d) % M = r := by
  have e : 10 * P + d = r + M * (10 * (P / M) + t) := by
    have h1 := Nat.div_add_mod P M
    rw [Nat.mul_add, Nat.mul_comm M t, Nat.mul_left_comm]
    omega
  rw [e, Nat.add_mul_div_left _ _ hM, Nat.div_eq_of_lt hr, Nat.zero_add, Nat.add_mul_mod_self_left, Nat.mod_eq_of_lt hr]
  exact ⟨rfl, rfl⟩
theorem cons_dg {l : List Int} {n : Nat} (h : IsDg l n) (d : Int) (h0 : 0 ≤ d) (h9 : d ≤ 9) : Digs (d :: l) ∧ dval (d :: l) = ((10 * n + d.toNat : Nat) : Int) := by
  refine ⟨fun x hx => ?_, ?_⟩
  · rcases List.mem_cons.1 hx with rfl | hx
    · exact ⟨h0, h9⟩
    · exact h.1 x hx
  · simp only [dval, h.2.2]; omega
theorem below_trans_drewN {w w' : World} {n : Nat} (h : Below (w.drewN n).heap.size (w.drewN n) w') : Below w.heap.size w w' := (below_drewN (Below.refl _ w) n).trans h
theorem one_own (w : World) (d : Int) (hb : Bk w w.heap.size 3 [.int .i64 d]) : True := trivial
def RetTwo (n m : Nat) (w : World) (e : Ending) (w' : World) : Prop := ∃ u v, e = .returned (.tuple #[u, v]) ∧ Dg w' u n ∧ Dg w' v m ∧ Below w.heap.size w w'
theorem own_of_bk1 {w : World} {g B : Nat} {d : Int} (hg : B ≤ g) (h : Bk w g 3 [.int .i64 d]) : w.ownsRow B 3 1 (.slice (some ⟨g, 0, none⟩) 1 1) ([d] : List Int).length (([d] : List Int).map (Value.int .i64)) := by
  refine ⟨by simp, .inr ⟨g, 1, #[.int .i64 d], by simp, hg, h, by simp, by unfold maxLen; omega, by simp, by simp⟩⟩
end Go.Proofs.YtogpbcllbbpgbaaDoor

set_option linter.unusedSimpArgs false
set_option linter.unusedVariables false
namespace Go.Proofs.YtogpbcllbbpgbaaDoor
open Go.RowKit

theorem IsDg.one : IsDg [1] 1 := ⟨by intro d hd; rw [List.mem_singleton.1 hd]; decide, by simp [Top], rfl⟩
theorem dg_one {w : World} {g : Nat} (h : Bk w g 3 [.int .i64 1]) : Dg w (.slice (some ⟨g, 0, none⟩) 1 1) 1 :=
  ⟨[1], IsSl.of_bk (ds := [1]) h rfl (Nat.le_refl _), IsDg.one⟩
theorem near_up (N M : Nat) (h : M < N % M + N % M ∨ (N % M + N % M = M ∧ N / M % 2 = 1)) : near N M = N / M + 1 := by
  unfold near; rw [if_pos (by omega)]
theorem near_stay (N M : Nat) (h : N % M + N % M < M ∨ (N % M + N % M = M ∧ N / M % 2 = 0)) : near N M = N / M := by
  unfold near; rw [if_neg (by omega)]; rfl
theorem dg_first {w : World} {v : Value} {n : Nat} (h : Dg w v n) (hn : n ≠ 0) : ∃ g o k c, v = .slice (some ⟨g, o, none⟩) (k + 1) c ∧ k + 1 ≤ c ∧ w.cell? ⟨g, o, none⟩ = some (.int .i64 ((n % 10 : Nat) : Int)) ∧ g < w.heap.size := by
  obtain ⟨xs, ⟨A, c, rfl, hc, hs⟩, hd⟩ := h
  have hz := hd.zero_iff
  obtain ⟨k, hk⟩ : ∃ k, xs.length = k + 1 := ⟨xs.length - 1, by omega⟩
  obtain ⟨g, o, rfl, hg, hcell⟩ := hs.at_ (k := 0) (by omega)
  refine ⟨g, o, k, c, by rw [hk], by omega, ?_, hg⟩
  rw [Nat.add_zero] at hcell
  rw [hcell, dval_digit hd.1 0 (by omega), hd.2.2, Int.pow_zero, Int.ediv_one]
  rfl
/-- a bound that is a little nearer -/
def Tiny (n : Nat) : Prop := True → n < 10 ^ 999
theorem ten_lt (a b : Nat) (h : a < b) : (10 : Nat) ^ a < 10 ^ b := Nat.pow_lt_pow_right (by decide) h
theorem one_lt_ten (a : Nat) (h : 0 < a) : 1 < (10 : Nat) ^ a := Nat.one_lt_pow (by omega) (by decide)
theorem ten_next (a b : Nat) (h : b = a + 1) : (10 : Nat) ^ b = 10 * 10 ^ a := by rw [h, Nat.pow_succ, Nat.mul_comm]
theorem small_add {n m : Nat} (hn : Tiny n) (hm : Tiny m) : Small (n + m) := by
  intro _
  have e := ten_next 999 1000 rfl
  have h1 := hn trivial
  have h2 := hm trivial
  rw [e]
  generalize (10 : Nat) ^ 999 = T at *
  omega
theorem Tiny.of_le {n m : Nat} (h : Tiny n) (hm : m ≤ n) : Tiny m := fun t => Nat.lt_of_le_of_lt hm (h t)
theorem Tiny.small {n : Nat} (h : Tiny n) : Small n := fun t => Nat.lt_trans (h t) (ten_lt 999 1000 (by decide))
theorem near_le (N M : Nat) : near N M ≤ N + 1 := by
  unfold near
  have := Nat.div_le_self N M
  split <;> omega
end Go.Proofs.YtogpbcllbbpgbaaDoor

set_option linter.unusedSimpArgs false
set_option linter.unusedVariables false
namespace Go.Proofs.YtogpbcllbbpgbaaDoor
open Go.RowKit

theorem ten_le (a b : Nat) (h : a ≤ b) : (10 : Nat) ^ a ≤ 10 ^ b := Nat.pow_le_pow_right (by decide) h
theorem lt_256_tiny {N : Nat} (h : N < 2 ^ 256) : Tiny N := fun _ => by
  have h1 : (2 : Nat) ^ 256 ≤ 10 ^ 78 := by decide
  exact Nat.lt_of_lt_of_le h (Nat.le_trans h1 (ten_le 78 999 (by decide)))
theorem ten_tiny {k : Nat} (h : k < 999) : Tiny (10 ^ k) := fun _ => ten_lt k 999 h
theorem small_one : Small 1 := fun _ => one_lt_ten 1000 (by decide)
theorem near_small {N : Nat} (h : Tiny N) (M : Nat) : Small (near N M) := (small_add h (fun _ => one_lt_ten 999 (by decide))).of_le (near_le N M)
end Go.Proofs.YtogpbcllbbpgbaaDoor

set_option linter.unusedSimpArgs false
set_option linter.unusedVariables false
namespace Go.Proofs.YtogpbcllbbpgbaaDoor
open Go.RowKit

theorem mul_bd {d e : Int} (d0 : 0 ≤ d) (d9 : d ≤ 9) (e0 : 0 ≤ e) (e9 : e ≤ 9) : 0 ≤ d * e ∧ d * e ≤ 81 :=
  ⟨Int.mul_nonneg d0 e0, by have h := Int.mul_le_mul d9 e9 e0 (by omega : (0 : Int) ≤ 9); omega⟩
/-- where no place is below nought, the top place times its weight is not above the value -/
theorem dval_top_le (zs : List Int) (L : Nat) (hL : zs.length = L + 1) (h0 : ∀ j, 0 ≤ zs.getD j 0) : 10 ^ L * zs.getD L 0 ≤ dval zs := by
  have a := dval_append (zs.take L) (zs.drop L)
  rw [List.take_append_drop, List.length_take, Nat.min_eq_left (by omega), dval_drop zs L (by omega), List.drop_of_length_le (by omega)] at a
  have hb : 0 ≤ dval (zs.take L) := by
    have key : ∀ l : List Int, (∀ d ∈ l, 0 ≤ d) → 0 ≤ dval l := by
      intro l
      induction l with
      | nil => intro _; simp [dval]
      | cons d r ih =>
        intro h
        have h1 := h d List.mem_cons_self
        have h2 := ih fun x hx => h x (List.mem_cons_of_mem _ hx)
        simp only [dval]; omega
    refine key _ fun d hd => ?_
    obtain ⟨i, hi, rfl⟩ := List.getElem_of_mem hd
    rw [List.length_take] at hi
    rw [List.getElem_take, ← getD_lt _ _ (by omega)]
    exact h0 i
  rw [a]
  show _ ≤ dval (zs.take L) + 10 ^ L * (zs.getD L 0 + 10 * dval [])
  simp only [dval]
  have e : zs.getD L 0 + 10 * 0 = zs.getD L 0 := by omega
  rw [e]; omega
theorem digs_of (zs : List Int) (h : ∀ j, j < zs.length → 0 ≤ zs.getD j 0 ∧ zs.getD j 0 ≤ 9) : Digs zs := by
  intro d hd
  obtain ⟨i, hi, rfl⟩ := List.getElem_of_mem hd
  rw [← getD_lt _ _ hi]
  exact h i hi
theorem IsDg.getD_zero {l : List Int} {n : Nat} (h : IsDg l n) (j : Nat) : 0 ≤ l.getD j 0 ∧ l.getD j 0 ≤ 9 := h.get j
theorem rep_getD (n j : Nat) : (List.replicate n (0 : Int)).getD j 0 = 0 := by
  rw [List.getD_eq_getElem?_getD, List.getElem?_replicate]
  split <;> rfl
end Go.Proofs.YtogpbcllbbpgbaaDoor

set_option linter.unusedSimpArgs false
set_option linter.unusedVariables false
namespace Go.Proofs.YtogpbcllbbpgbaaDoor
open Go.RowKit

theorem lt_128_tiny {N : Nat} (h : N < 2 ^ 128) : Tiny N := lt_256_tiny (Nat.lt_of_lt_of_le h (Nat.pow_le_pow_right (by decide) (by decide)))
theorem mul_lt_256 {n m : Nat} (hn : n < 2 ^ 128) (hm : m < 2 ^ 128) : n * m < 2 ^ 256 := by
  have h := Nat.mul_lt_mul'' hn hm
  rwa [← Nat.pow_add] at h
end Go.Proofs.YtogpbcllbbpgbaaDoor

set_option linter.unusedSimpArgs false
set_option linter.unusedVariables false
namespace Go.Proofs.YtogpbcllbbpgbaaDoor
open Go.RowKit

/-- the digits' slice: empty at nought alone -/
theorem dg_len {w : World} {v : Value} {n : Nat} (h : Dg w v n) : ∃ (A : Option Addr) (k c : Nat), v = .slice A k c ∧ (k = 0 ↔ n = 0) ∧ k ≤ c := by
  obtain ⟨xs, ⟨A, c, rfl, hc, hs⟩, hd⟩ := h
  exact ⟨A, xs.length, c, rfl, hd.zero_iff, hc⟩
end Go.Proofs.YtogpbcllbbpgbaaDoor

set_option linter.unusedSimpArgs false
set_option linter.unusedVariables false
namespace Go.Proofs.YtogpbcllbbpgbaaDoor
open Go.RowKit

/-- N is T and k noughts behind it -/
def IsTz (N T k : Nat) : Prop := N = T * 10 ^ k ∧ T % 10 ≠ 0
theorem tz_upto (N b : Nat) (h0 : N ≠ 0) (h : N < 10 ^ b) : ∃ T k, IsTz N T k := by
  induction b generalizing N with
  | zero => simp at h; omega
  | succ b ih =>
    by_cases hd : N % 10 = 0
    · obtain ⟨T, k, e, ht⟩ := ih (N / 10) (by omega) (by rw [Nat.pow_succ] at h; omega)
      refine ⟨T, k + 1, ?_, ht⟩
      rw [Nat.pow_succ, ← Nat.mul_assoc, ← e]; omega
    · exact ⟨N, 0, by simp, hd⟩
theorem IsTz.k_le {N T k : Nat} (h : IsTz N T k) (hN : N < 2 ^ 128) : k ≤ 38 := by
  obtain ⟨e, ht⟩ := h
  have h1 : 1 ≤ T := by
    rcases Nat.eq_zero_or_pos T with h0 | h0
    · subst h0; exact absurd rfl ht
    · exact h0
  have h2 : 10 ^ k ≤ N := by rw [e]; exact Nat.le_mul_of_pos_left _ h1
  have h3 : (10 : Nat) ^ k < 10 ^ 39 := Nat.lt_of_le_of_lt h2 (Nat.lt_trans hN (by decide))
  have := pow_lt10 h3
  omega
theorem IsTz.at_ {N T k t : Nat} (h : IsTz N T k) (ht : t ≤ k) : N / 10 ^ t = T * 10 ^ (k - t) := by
  have e : 10 ^ k = 10 ^ (k - t) * 10 ^ t := by rw [← Nat.pow_add]; congr 1; omega
  rw [h.1, e, ← Nat.mul_assoc, Nat.mul_div_cancel _ (Nat.pow_pos (by decide))]
theorem IsTz.mod_lt {N T k t : Nat} (h : IsTz N T k) (ht : t < k) : N / 10 ^ t % 10 = 0 := by
  rw [h.at_ (by omega), show k - t = k - t - 1 + 1 by omega, Nat.pow_succ, ← Nat.mul_assoc, Nat.mul_mod_left]
theorem IsTz.mod_eq {N T k : Nat} (h : IsTz N T k) : N / 10 ^ k = T := by
  rw [h.at_ (Nat.le_refl _), Nat.sub_self, Nat.pow_zero, Nat.mul_one]
set_option maxHeartbeats 1000000 in
theorem trim_zero (w : World) : Calls Tryd.prog 71 #[.agg #[.int .u64 0, .int .u64 0]] w fun e w' => e = .returned (.tuple #[.agg #[.int .u64 0, .int .u64 0], .int .i64 0]) ∧ Below w.heap.size w w' := by
  go_enter Tryd.func71, Tryd.ntmps71
  go_wp2_with fail
  refine bodyPost_ret (by simp [results, Tryd.results71, go_sem, *]; try rfl) rfl ?_
  exact ⟨rfl, by (repeat' (first | (with_reducible exact Below.refl _ _) | (with_reducible assumption) | (with_reducible refine Below.drew ?_) | (with_reducible refine below_drewN ?_ _) | ((with_reducible refine Below.alloc ?_ ?_ _); rotate_left; focus (go_size; done)) | ((with_reducible refine Below.setCell ?_ ?_ _); rotate_left; focus (go_size; done)) | ((with_reducible refine Below.trans ?_ (Below.mono (by with_reducible assumption) ?_)); rotate_left; focus (go_size; done))))⟩
set_option maxHeartbeats 1000000 in
theorem trim_any (N T k : Nat) (hN : N < 2 ^ 128) (h : IsTz N T k) (w : World) : Calls Tryd.prog 71 #[.agg #[.int .u64 (wd N 1), .int .u64 (wd N 0)]] w fun e w' => e = .returned (.tuple #[.agg #[.int .u64 (wd T 1), .int .u64 (wd T 0)], .int .i64 k]) ∧ Below w.heap.size w w' := by
  have hk38 := h.k_le hN
  have h0 : N ≠ 0 := by
    rintro rfl
    have h1 := h.1
    have h2 := h.2
    rcases Nat.mul_eq_zero.1 h1.symm with h3 | h3
    · subst h3; exact h2 rfl
    · exact absurd h3 (Nat.ne_of_gt (Nat.pow_pos (by decide)))
  have qz : ∀ W, (binOp .eql 24 (.agg #[.int .u64 (wd N 1), .int .u64 (wd N 0)]) (.agg #[.int .u64 0, .int .u64 0])).run Tryd.prog W = .ok (.bool false) W := fun W => by
    rw [eq_wide]
    have e := wd_eq_iff hN (show 0 < 2 ^ 128 by decide)
    rw [wd_zero, wd_zero] at e
    rw [e, decide_eq_false h0]
  have e2 : wd N 2 = 0 := wd_past (k := 2) (by simpa using hN) (Nat.le_refl _)
  have e3 : wd N 3 = 0 := wd_past (k := 3) (Nat.lt_of_lt_of_le hN (Nat.pow_le_pow_right (by decide) (by decide))) (Nat.le_refl _)
  have E2 := Lib.hid e2
  have E3 := Lib.hid e3
  have HN := Far.mk hN
  have HZ := Far.mk h
  clear hN h h0 e2 e3
  go_enter Tryd.func71, Tryd.ntmps71
  go_wp2_with fail
  go_loopg [5] k (fun kk c wr => ∃ t : Nat, kk + t = k ∧ c = .int .i64 t ∧ Bk wr (w.heap.size + 1 + 1) 52 (lcells (N / 10 ^ t)) ∧ Bk wr (w.heap.size + 1) 24 [.int .u64 0, .int .u64 0] ∧ w.heap.size + 3 ≤ wr.heap.size ∧ Below w.heap.size w wr)
  case atStart =>
    refine ⟨0, by omega, rfl, ?_, by (repeat (first | (with_reducible assumption) | ((with_reducible refine Bk.new_ ?_); (first | rfl | (simp only [World.size_alloc, World.size_setCell, World.size_drew, World.heap_drewN]; done))) | (with_reducible refine Bk.alloc ?_ _) | (with_reducible refine Bk.drew ?_) | (with_reducible refine Bk.drewN ?_ _) | ((with_reducible refine Bk.far ?_ ?_ _); rotate_left; focus (simp only []; omega)) | ((with_reducible refine Bk.below ?_ (by with_reducible assumption) ?_); rotate_left; focus (go_size; done)))), by go_size, by (repeat' (first | (with_reducible exact Below.refl _ _) | (with_reducible assumption) | (with_reducible refine Below.drew ?_) | (with_reducible refine below_drewN ?_ _) | ((with_reducible refine Below.alloc ?_ ?_ _); rotate_left; focus (go_size; done)) | ((with_reducible refine Below.setCell ?_ ?_ _); rotate_left; focus (go_size; done)) | ((with_reducible refine Below.trans ?_ (Below.mono (by with_reducible assumption) ?_)); rotate_left; focus (go_size; done))))⟩
    rw [Nat.pow_zero, Nat.div_one, lcells_eq, E2.out, E3.out]
    (repeat (first | (with_reducible assumption) | ((with_reducible refine Bk.new_ ?_); (first | rfl | (simp only [World.size_alloc, World.size_setCell, World.size_drew, World.heap_drewN]; done))) | (with_reducible refine Bk.alloc ?_ _) | (with_reducible refine Bk.drew ?_) | (with_reducible refine Bk.drewN ?_ _) | ((with_reducible refine Bk.far ?_ ?_ _); rotate_left; focus (simp only []; omega)) | ((with_reducible refine Bk.below ?_ (by with_reducible assumption) ?_); rotate_left; focus (go_size; done))))
  case round =>
    obtain ⟨t, hn, rfl, b2, b1, hsz, hbel⟩ := hrel
    have HK := Lib.hid hn
    have ht : t ≤ k := by omega
    have B2 := Lib.hid b2
    have B1 := Lib.hid b1
    have b2' := b2
    rw [lcells_eq] at b2'
    have c0 := b2'.cell 0 rfl
    have c1 := b2'.cell 1 rfl
    have c2 := b2'.cell 2 rfl
    have c3 := b2'.cell 3 rfl
    have f0 := b2.frozen 0
    have f1 := b2.frozen 1
    have f2 := b2.frozen 2
    have f3 := b2.frozen 3
    have d0 := b1.cell 0 rfl
    have d1 := b1.cell 1 rfl
    have g0 := b1.frozen 0
    have g1 := b1.frozen 1
    (try have : w.heap.size < wr.heap.size := by omega); (try have : w.heap.size + 1 < wr.heap.size := by omega); (try have : w.heap.size + 1 + 1 < wr.heap.size := by omega); (try have : w.heap.size + 1 + 1 + 1 < wr.heap.size := by omega)
    have HT := Lib.hid (fun W => tenth_any (N / 10 ^ t) (Nat.lt_of_le_of_lt (Nat.div_le_self _ _) (Nat.lt_trans HN.out (by decide))) W)
    clear hn b2 b1 b2'
    by_cases hlt : t < k
    · have hm := HZ.out.mod_lt hlt
      rw [hm] at HT
      obtain ⟨X, hX⟩ : ∃ X, X = N / 10 ^ t := ⟨_, rfl⟩
      rw [← hX] at HT c0 c1 c2 c3 B2
      have EX := Far.mk hX
      clear hX hm
      go_wp2_with ((go_at_call 47; with_reducible refine (HT.out _).mono ?_); rintro _ w1 ⟨rfl, hb1⟩; have hb1s := hb1.size; (try simp only [World.size_alloc, World.size_setCell, World.size_drew, World.heap_drewN] at hb1s); obtain ⟨hb1c, hb1f⟩ := bcell hb1; (try have : w.heap.size < w1.heap.size := by omega); (try have : w.heap.size + 1 < w1.heap.size := by omega); (try have : w.heap.size + 1 + 1 < w1.heap.size := by omega); (try have : w.heap.size + 1 + 1 + 1 < w1.heap.size := by omega))
      go_roundg (gk - 1)
      case measure => have := HK.out; omega
      case rel =>
        have b1 := B1.out
        refine ⟨t + 1, by have := HK.out; omega, by go_num, ?_, by (repeat (first | (with_reducible assumption) | ((with_reducible refine Bk.new_ ?_); (first | rfl | (simp only [World.size_alloc, World.size_setCell, World.size_drew, World.heap_drewN]; done))) | (with_reducible refine Bk.alloc ?_ _) | (with_reducible refine Bk.drew ?_) | (with_reducible refine Bk.drewN ?_ _) | ((with_reducible refine Bk.far ?_ ?_ _); rotate_left; focus (simp only []; omega)) | ((with_reducible refine Bk.below ?_ (by with_reducible assumption) ?_); rotate_left; focus (go_size; done)))), by go_size, by (repeat' (first | (with_reducible exact Below.refl _ _) | (with_reducible assumption) | (with_reducible refine Below.drew ?_) | (with_reducible refine below_drewN ?_ _) | ((with_reducible refine Below.alloc ?_ ?_ _); rotate_left; focus (go_size; done)) | ((with_reducible refine Below.setCell ?_ ?_ _); rotate_left; focus (go_size; done)) | ((with_reducible refine Below.trans ?_ (Below.mono (by with_reducible assumption) ?_)); rotate_left; focus (go_size; done))))⟩
        have e : N / 10 ^ (t + 1) = X / 10 := by rw [EX.out, Nat.div_div_eq_div_mul, Nat.pow_succ]
        rw [e, lcells_eq]
        refine Bk.alloc ?_ _
        refine ((((?_ : Bk w1 _ _ [.int .u64 (wd X 0), .int .u64 (wd X 1), .int .u64 (wd X 2), .int .u64 (wd X 3)]).set_ 0 _).set_ 1 _).set_ 2 _).set_ 3 _
        have b2 := B2.out
        rw [lcells_eq] at b2
        (repeat (first | (with_reducible assumption) | ((with_reducible refine Bk.new_ ?_); (first | rfl | (simp only [World.size_alloc, World.size_setCell, World.size_drew, World.heap_drewN]; done))) | (with_reducible refine Bk.alloc ?_ _) | (with_reducible refine Bk.drew ?_) | (with_reducible refine Bk.drewN ?_ _) | ((with_reducible refine Bk.far ?_ ?_ _); rotate_left; focus (simp only []; omega)) | ((with_reducible refine Bk.below ?_ (by with_reducible assumption) ?_); rotate_left; focus (go_size; done))))
    · obtain rfl : t = k := by omega
      have hm := HZ.out.mod_eq
      rw [hm] at HT c0 c1 c2 c3 B2
      have hne : (((T % 10 : Nat) : Int) != 0) = true := by
        have := HZ.out.2
        simp; omega
      obtain ⟨dd, hdd⟩ : ∃ dd : Int, dd = ((T % 10 : Nat) : Int) := ⟨_, rfl⟩
      rw [← hdd] at HT hne
      clear hm hdd
      go_wp2_with ((go_at_call 47; with_reducible refine (HT.out _).mono ?_); rintro _ w1 ⟨rfl, hb1⟩; have hb1s := hb1.size; (try simp only [World.size_alloc, World.size_setCell, World.size_drew, World.heap_drewN] at hb1s); obtain ⟨hb1c, hb1f⟩ := bcell hb1; (try have : w.heap.size < w1.heap.size := by omega); (try have : w.heap.size + 1 < w1.heap.size := by omega); (try have : w.heap.size + 1 + 1 < w1.heap.size := by omega); (try have : w.heap.size + 1 + 1 + 1 < w1.heap.size := by omega))
      refine bodyPost_ret (by simp [results, Tryd.results71, go_sem, *]; try rfl) rfl ?_
      exact ⟨rfl, by (repeat' (first | (with_reducible exact Below.refl _ _) | (with_reducible assumption) | (with_reducible refine Below.drew ?_) | (with_reducible refine below_drewN ?_ _) | ((with_reducible refine Below.alloc ?_ ?_ _); rotate_left; focus (go_size; done)) | ((with_reducible refine Below.setCell ?_ ?_ _); rotate_left; focus (go_size; done)) | ((with_reducible refine Below.trans ?_ (Below.mono (by with_reducible assumption) ?_)); rotate_left; focus (go_size; done))))⟩
end Go.Proofs.YtogpbcllbbpgbaaDoor

set_option linter.unusedSimpArgs false
set_option linter.unusedVariables false
namespace Go.Proofs.YtogpbcllbbpgbaaDoor
open Go.RowKit

theorem IsDg.drop_zeros {l : List Int} {N : Nat} (h : IsDg l N) (k : Nat) (hk : k ≤ l.length) (hz : ∀ j, j < k → l.getD j 0 = 0) : IsDg (l.drop k) (N / 10 ^ k) ∧ N = N / 10 ^ k * 10 ^ k := by
  have e := dval_append (l.take k) (l.drop k)
  rw [List.take_append_drop, List.length_take, Nat.min_eq_left hk] at e
  have hz0 : dval (l.take k) = 0 := dval_zeros (fun d hd => by
    obtain ⟨i, hi, rfl⟩ := List.getElem_of_mem hd
    rw [List.length_take] at hi
    rw [List.getElem_take, ← getD_lt _ _ (by omega)]
    exact hz i (by omega))
  rw [hz0, Int.zero_add, h.2.2] at e
  have hb := dval_bd (h.1.drop k)
  obtain ⟨V, hV⟩ : ∃ V : Nat, dval (l.drop k) = (V : Int) := ⟨(dval (l.drop k)).toNat, by omega⟩
  rw [hV] at e
  have e2 : N = 10 ^ k * V := by exact_mod_cast e
  have e3 : N / 10 ^ k = V := by rw [e2, Nat.mul_div_cancel_left _ (Nat.pow_pos (by decide))]
  refine ⟨⟨h.1.drop k, ?_, by rw [hV, e3]⟩, by rw [e3, Nat.mul_comm]; exact e2⟩
  have ht := h.2.1
  unfold Top at *
  by_cases hlt : k < l.length
  · rw [List.getLast?_drop, if_neg (by omega)]; exact ht
  · rw [List.drop_of_length_le (by omega)]; simp
theorem tz_dig {l : List Int} {N T k : Nat} (h : IsDg l N) (hz : IsTz N T k) : k < l.length ∧ (∀ j, j < k → l.getD j 0 = 0) ∧ l.getD k 0 ≠ 0 := by
  have hk : k < l.length := by
    rcases Nat.lt_or_ge k l.length with hk | hk
    · exact hk
    · exfalso
      have h1 := h.lt_of_len hk
      have h2 : 1 ≤ T := by
        rcases Nat.eq_zero_or_pos T with h0 | h0
        · subst h0; exact absurd rfl hz.2
        · exact h0
      have h3 : 10 ^ k ≤ N := by rw [hz.1]; exact Nat.le_mul_of_pos_left _ h2
      omega
  have hd : ∀ j, j < l.length → l.getD j 0 = ((N / 10 ^ j % 10 : Nat) : Int) := fun j hj => by
    rw [dval_digit h.1 j hj, h.2.2, Int.natCast_emod, Int.natCast_ediv, Int.natCast_pow]; rfl
  refine ⟨hk, fun j hj => by rw [hd j (by omega), hz.mod_lt hj]; rfl, ?_⟩
  rw [hd k hk, hz.mod_eq]
  have := hz.2
  omega
theorem sl_drop {w : World} {g o t c : Nat} {xs : List Int} (h : Sl w (some ⟨g, o, none⟩) xs) (ht : t < xs.length) (hc : xs.length ≤ c) : IsSl w (.slice (some ⟨g, o + t, none⟩) (xs.length - t) (c - t)) (xs.drop t) := by
  refine ⟨_, _, by rw [List.length_drop], by rw [List.length_drop]; omega, fun _ => ?_⟩
  obtain ⟨g', o', cs, e, hb, hcs⟩ := h (by intro e; subst e; simp at ht)
  injection e with e
  injection e with e1 e2
  subst e1 e2
  refine ⟨g, o + t, cs, rfl, hb, fun j hj => ?_⟩
  rw [List.length_drop] at hj
  rw [Nat.add_assoc, hcs (t + j) (by omega), getD_lt _ _ (by omega), getD_lt _ _ (by rw [List.length_drop]; omega), List.getElem_drop]
end Go.Proofs.YtogpbcllbbpgbaaDoor

set_option linter.unusedSimpArgs false
set_option linter.unusedVariables false
namespace Go.Proofs.YtogpbcllbbpgbaaDoor
open Go.RowKit

/-- one step of the product: a product of words, a word that is there, a carry -/
theorem mul_step (x y o c : Int) (hx0 : 0 ≤ x) (hx : x < 18446744073709551616) (hy0 : 0 ≤ y) (hy : y < 18446744073709551616) (ho0 : 0 ≤ o) (ho : o < 18446744073709551616) (hc0 : 0 ≤ c) (hc : c < 18446744073709551616) :
    ∃ h l s k t j : Int, Hid (∀ w : World, Calls Tryd.prog 68 #[.int .u64 x, .int .u64 y] w fun e w' => e = .returned (.tuple #[.int .u64 h, .int .u64 l]) ∧ ∃ nn, w' = w.drewN nn) ∧
      (∀ W : World, (callFunc 59 #[.int .u64 l, .int .u64 o, .int .u64 0]).run Tryd.prog W = .ok (.value (.tuple #[.int .u64 s, .int .u64 k])) W) ∧
      (∀ W : World, (callFunc 59 #[.int .u64 s, .int .u64 c, .int .u64 0]).run Tryd.prog W = .ok (.value (.tuple #[.int .u64 t, .int .u64 j])) W) ∧
      Hid (t + 18446744073709551616 * (h + k + j) = x * y + o + c) ∧ 0 ≤ h ∧ h + k < 18446744073709551616 ∧ 0 ≤ k ∧ 0 ≤ j ∧ 0 ≤ t ∧ t < 18446744073709551616 ∧ h + k + j < 18446744073709551616 := by
  obtain ⟨h, l, f, H⟩ := mul64_ex x y hx0 hx hy0 hy
  unfold Two at H
  obtain ⟨s, k, g, K⟩ := add64_ex l o 0 (by omega) (by omega) ho0 ho (by decide) (by decide)
  unfold Carry at K
  obtain ⟨t, j, e, J⟩ := add64_ex s c 0 (by omega) (by omega) hc0 hc (by decide) (by decide)
  unfold Carry at J
  have hm : x * y ≤ 18446744073709551615 * 18446744073709551615 := Int.mul_le_mul (by omega) (by omega) hy0 (by decide)
  have hn : 0 ≤ x * y := Int.mul_nonneg hx0 hy0
  generalize x * y = p at *
  exact ⟨h, l, s, k, t, j, f, g, e, by show t + 18446744073709551616 * (h + k + j) = p + o + c; omega, by omega, by omega, by omega, by omega, by omega, by omega, by omega⟩

theorem two_at (n t : Nat) (h : t < 2) : [Value.int .u64 (wd n 0), .int .u64 (wd n 1)][t]? = some (.int .u64 (wd n t)) := by
  have hc : t = 0 ∨ t = 1 := by omega
  rcases hc with rfl | rfl <;> rfl
theorem mul_low {n m t : Nat} (hm : m < 2 ^ 128) : n % 2 ^ (64 * t) * m < 2 ^ (64 * (t + 2)) := by
  rw [show 64 * (t + 2) = 64 * t + 128 by omega, Nat.pow_add]
  have h1 : n % 2 ^ (64 * t) < 2 ^ (64 * t) := Nat.mod_lt _ (Nat.two_pow_pos _)
  exact Nat.mul_lt_mul'' h1 hm
theorem mul_inv {V V' O t s : Nat} {cc X Y Z h k1 k3 s3 M M' : Int}
    (i1 : (V : Int) + cc * ((2 ^ (64 * (t + s)) : Nat) : Int) = O + X * M * ((2 ^ (64 * t) : Nat) : Int))
    (i2 : (V' : Int) = V + (s3 - Z) * ((2 ^ (64 * (t + s)) : Nat) : Int))
    (i3 : s3 + 18446744073709551616 * (h + k1 + k3) = X * Y + Z + cc)
    (i4 : M' = M + Y * ((2 ^ (64 * s) : Nat) : Int)) :
    (V' : Int) + (h + k1 + k3) * ((2 ^ (64 * (t + (s + 1))) : Nat) : Int) = O + X * M' * ((2 ^ (64 * t) : Nat) : Int) := by
  have e1 : ((2 ^ (64 * (t + (s + 1))) : Nat) : Int) = ((2 ^ (64 * (t + s)) : Nat) : Int) * 18446744073709551616 := by
    rw [show 64 * (t + (s + 1)) = 64 * (t + s) + 64 by omega, Nat.pow_add, Int.natCast_mul]; rfl
  have e2 : ((2 ^ (64 * (t + s)) : Nat) : Int) = ((2 ^ (64 * t) : Nat) : Int) * ((2 ^ (64 * s) : Nat) : Int) := by
    rw [show 64 * (t + s) = 64 * t + 64 * s by omega, Nat.pow_add, Int.natCast_mul]
  rw [e1, i2, i4]
  rw [e2] at i1 ⊢
  generalize ((2 ^ (64 * t) : Nat) : Int) = P at *
  generalize ((2 ^ (64 * s) : Nat) : Int) = Q at *
  grind
theorem mul_end {n m t V V' O : Nat} {cc : Int} (hm : m < 2 ^ 128) (eO : O = n % 2 ^ (64 * t) * m)
    (i1 : (V : Int) + cc * ((2 ^ (64 * (t + 2)) : Nat) : Int) = O + wd n t * ((m % 2 ^ (64 * 2) : Nat) : Int) * ((2 ^ (64 * t) : Nat) : Int))
    (i2 : (V' : Int) = V + (cc - wd V (t + 2)) * ((2 ^ (64 * (t + 2)) : Nat) : Int)) (i3 : wd V (t + 2) = 0) : n % 2 ^ (64 * (t + 1)) * m = V' := by
  rw [i3, Int.sub_zero, i1, Nat.mod_eq_of_lt hm, eO] at i2
  have e := wd_mod_succ n t
  have : ((n % 2 ^ (64 * (t + 1)) * m : Nat) : Int) = (V' : Int) := by
    rw [i2, Int.natCast_mul, e, Int.natCast_mul]
    generalize ((2 ^ (64 * t) : Nat) : Int) = P
    generalize ((n % 2 ^ (64 * t) : Nat) : Int) = Q
    grind
  exact_mod_cast this
set_option maxHeartbeats 4000000 in
theorem mul_any (n m : Nat) (hn : n < 2 ^ 128) (hm : m < 2 ^ 128) (w : World) : Calls Tryd.prog 42 #[.agg #[.int .u64 (wd n 1), .int .u64 (wd n 0)], .agg #[.int .u64 (wd m 1), .int .u64 (wd m 0)]] w fun e w' => e = .returned (.agg #[.int .u64 (wd (n * m) 0), .int .u64 (wd (n * m) 1), .int .u64 (wd (n * m) 2), .int .u64 (wd (n * m) 3)]) ∧ Below w.heap.size w w' := by
  have HN := Far.mk hn
  have HM := Far.mk hm
  have a0 := wd_nn n 0
  have a1 := wd_lt n 0
  have b0 := wd_nn n 1
  have b1 := wd_lt n 1
  have c0 := wd_nn m 0
  have c1 := wd_lt m 0
  have d0 := wd_nn m 1
  have d1 := wd_lt m 1
  clear hn hm
  go_enter Tryd.func42, Tryd.ntmps42
  go_wp2_with fail
  go_region_held3 (fun w' => w'.cell? ⟨w.heap.size, 0, none⟩ = some (.int .u64 (wd n 1)) ∧ w'.cell? ⟨w.heap.size, 1, none⟩ = some (.int .u64 (wd n 0)) ∧ w'.cell? ⟨w.heap.size + 1, 0, none⟩ = some (.int .u64 (wd m 1)) ∧ w'.cell? ⟨w.heap.size + 1, 1, none⟩ = some (.int .u64 (wd m 0))) (first | (go_keep; done) | (simp [go_sem]; done) | ((try dsimp only); (repeat' apply And.intro) <;> (first | (with_reducible assumption) | ((rw [World.cell?_alloc_lt _ _ _ (by show _ < _; omega)]); go_split_ands; (first | with_reducible assumption | (refine (World.cell?_alloc_lt _ _ _ (by show _ < _; omega)).symm.trans ?_; with_reducible assumption))) | ((rw [World.cell?_setCell_other _ _ _ _ (by intro e; injection e; omega)]); with_reducible assumption) | (go_keep; done) | (simp [go_sem]; done) | (simp (disch := go_size) [*, World.cell?_alloc_some, World.cell?_setCell_far]; done)))) (fail)
  · go_wp2_with fail
    clear a0 a1 b0 b1 c0 c1 d0 d1
    go_loopg [24] 2 (fun k i wr => ∃ t : Nat, k + t = 2 ∧ i = .int .i64 t ∧ Bk wr (w.heap.size + 1 + 1 + 1) 52 (lcells (n % 2 ^ (64 * t) * m)) ∧ Bk wr (w.heap.size + 1 + 1 + 1 + 1) 106 [.int .u64 (wd n 0), .int .u64 (wd n 1)] ∧ Bk wr (w.heap.size + 1 + 1 + 1 + 1 + 1) 106 [.int .u64 (wd m 0), .int .u64 (wd m 1)] ∧
      Bk wr (w.heap.size + 1 + 1) 52 [.int .u64 0, .int .u64 0, .int .u64 0, .int .u64 0] ∧ w.heap.size + 6 ≤ wr.heap.size ∧ Below w.heap.size w wr)
    case atStart =>
      refine ⟨0, rfl, rfl, ?_, by (repeat (first | (with_reducible assumption) | ((with_reducible refine Bk.new_ ?_); (first | rfl | (simp only [World.size_alloc, World.size_setCell, World.size_drew, World.heap_drewN]; done))) | (with_reducible refine Bk.alloc ?_ _) | (with_reducible refine Bk.drew ?_) | (with_reducible refine Bk.drewN ?_ _) | ((with_reducible refine Bk.far ?_ ?_ _); rotate_left; focus (simp only []; omega)) | ((with_reducible refine Bk.below ?_ (by with_reducible assumption) ?_); rotate_left; focus (go_size; done)))), by (repeat (first | (with_reducible assumption) | ((with_reducible refine Bk.new_ ?_); (first | rfl | (simp only [World.size_alloc, World.size_setCell, World.size_drew, World.heap_drewN]; done))) | (with_reducible refine Bk.alloc ?_ _) | (with_reducible refine Bk.drew ?_) | (with_reducible refine Bk.drewN ?_ _) | ((with_reducible refine Bk.far ?_ ?_ _); rotate_left; focus (simp only []; omega)) | ((with_reducible refine Bk.below ?_ (by with_reducible assumption) ?_); rotate_left; focus (go_size; done)))), by (repeat (first | (with_reducible assumption) | ((with_reducible refine Bk.new_ ?_); (first | rfl | (simp only [World.size_alloc, World.size_setCell, World.size_drew, World.heap_drewN]; done))) | (with_reducible refine Bk.alloc ?_ _) | (with_reducible refine Bk.drew ?_) | (with_reducible refine Bk.drewN ?_ _) | ((with_reducible refine Bk.far ?_ ?_ _); rotate_left; focus (simp only []; omega)) | ((with_reducible refine Bk.below ?_ (by with_reducible assumption) ?_); rotate_left; focus (go_size; done)))), by go_size, by (repeat' (first | (with_reducible exact Below.refl _ _) | (with_reducible assumption) | (with_reducible refine Below.drew ?_) | (with_reducible refine below_drewN ?_ _) | ((with_reducible refine Below.alloc ?_ ?_ _); rotate_left; focus (go_size; done)) | ((with_reducible refine Below.setCell ?_ ?_ _); rotate_left; focus (go_size; done)) | ((with_reducible refine Below.trans ?_ (Below.mono (by with_reducible assumption) ?_)); rotate_left; focus (go_size; done))))⟩
      rw [Nat.mul_zero, Nat.pow_zero, Nat.mod_one, Nat.zero_mul]
      show Bk _ _ _ [.int .u64 0, .int .u64 0, .int .u64 0, .int .u64 0]
      (repeat (first | (with_reducible assumption) | ((with_reducible refine Bk.new_ ?_); (first | rfl | (simp only [World.size_alloc, World.size_setCell, World.size_drew, World.heap_drewN]; done))) | (with_reducible refine Bk.alloc ?_ _) | (with_reducible refine Bk.drew ?_) | (with_reducible refine Bk.drewN ?_ _) | ((with_reducible refine Bk.far ?_ ?_ _); rotate_left; focus (simp only []; omega)) | ((with_reducible refine Bk.below ?_ (by with_reducible assumption) ?_); rotate_left; focus (go_size; done))))
    case round =>
      obtain ⟨t, hk, rfl, bo, bx, by_, b4, hsz, hbel⟩ := hrel
      have HK := Lib.hid hk
      have BO := Lib.hid bo
      have BX := Lib.hid bx
      have BY := Lib.hid by_
      have B4 := Lib.hid b4
      have t2 : t ≤ 2 := by omega
      clear hk bo bx by_ b4
      (try have : w.heap.size < wr.heap.size := by omega); (try have : w.heap.size + 1 < wr.heap.size := by omega); (try have : w.heap.size + 1 + 1 < wr.heap.size := by omega); (try have : w.heap.size + 1 + 1 + 1 < wr.heap.size := by omega)
      by_cases hlt : t < 2
      · go_wp2_with fail
        obtain ⟨wo, hwo⟩ : ∃ wo : World, wo = wr := ⟨_, rfl⟩
        clear hwo
        obtain ⟨go, hgo⟩ : ∃ go : Nat, go = gk := ⟨_, rfl⟩
        rw [← hgo] at HK
        have HGO := Lib.hid hgo
        clear hgo
        have hO : n % 2 ^ (64 * t) * m < 2 ^ (64 * (t + 2)) := mul_low HM.out
        have hO2 : n % 2 ^ (64 * t) * m < 2 ^ 256 := Nat.lt_of_lt_of_le hO (Nat.pow_le_pow_right (by decide) (by omega))
        obtain ⟨O, eO⟩ : ∃ O, O = n % 2 ^ (64 * t) * m := ⟨_, rfl⟩
        rw [← eO] at hO hO2 BO
        have EO := Far.mk eO
        have H1 := Far.mk hO
        have H2 := Far.mk hO2
        clear eO hO hO2
        go_loopg [9, 27] 2 (fun k c j wr => ∃ (s : Nat) (cc : Int) (V : Nat), k + s = 2 ∧ j = .int .i64 s ∧ c = .int .u64 cc ∧ 0 ≤ cc ∧ cc < 18446744073709551616 ∧ V < 2 ^ 256 ∧
          (V : Int) + cc * ((2 ^ (64 * (t + s)) : Nat) : Int) = O + wd n t * ((m % 2 ^ (64 * s) : Nat) : Int) * ((2 ^ (64 * t) : Nat) : Int) ∧ (∀ j, t + 2 ≤ j → j < 4 → wd V j = 0) ∧
          Bk wr (w.heap.size + 1 + 1 + 1) 52 (lcells V) ∧ Bk wr (w.heap.size + 1 + 1 + 1 + 1) 106 [.int .u64 (wd n 0), .int .u64 (wd n 1)] ∧ Bk wr (w.heap.size + 1 + 1 + 1 + 1 + 1) 106 [.int .u64 (wd m 0), .int .u64 (wd m 1)] ∧
          Bk wr (w.heap.size + 1 + 1) 52 [.int .u64 0, .int .u64 0, .int .u64 0, .int .u64 0] ∧ w.heap.size + 6 ≤ wr.heap.size ∧ Below w.heap.size w wr)
        case atStart =>
          refine ⟨0, 0, O, rfl, rfl, rfl, by omega, by omega, H2.out, ?_, ?_, BO.out, BX.out, BY.out, B4.out, hsz, hbel⟩
          · rw [Nat.mul_zero, Nat.pow_zero, Nat.mod_one, Int.zero_mul, Int.natCast_zero, Int.mul_zero, Int.zero_mul]
          · intro j hj _
            exact wd_past H1.out hj
        case round =>
          obtain ⟨s, cc, V, hk, rfl, rfl, hc0, hc1, hV, heq, hz, bo, bx, by_, b4, hsz, hbel⟩ := hrel
          have HK2 := Lib.hid hk
          have HV := Far.mk hV
          have HE := Far.mk heq
          have HZ := Lib.hid hz
          have BO := Lib.hid bo
          have BX := Lib.hid bx
          have BY := Lib.hid by_
          have B4 := Lib.hid b4
          have s2 : s ≤ 2 := by omega
          clear hk hV heq hz bo bx by_ b4
          (try have : w.heap.size < wr.heap.size := by omega); (try have : w.heap.size + 1 < wr.heap.size := by omega); (try have : w.heap.size + 1 + 1 < wr.heap.size := by omega); (try have : w.heap.size + 1 + 1 + 1 < wr.heap.size := by omega)
          by_cases hls : s < 2
          · have cx : wr.cell? ⟨(w.heap.size + 1 + 1 + 1 + 1), t, none⟩ = some (.int .u64 (wd n t)) := BX.out.cell t (two_at n t hlt)
            have cy : wr.cell? ⟨(w.heap.size + 1 + 1 + 1 + 1 + 1), s, none⟩ = some (.int .u64 (wd m s)) := BY.out.cell s (two_at m s hls)
            have co : wr.cell? ⟨w.heap.size + 1 + 1 + 1, t + s, none⟩ = some (.int .u64 (wd V (t + s))) := BO.out.cell _ (lcells_at V _ (by omega))
            have fo := BO.out.frozen (t + s)
            obtain ⟨h, l, s1, k1, s3, k3, f, g, e, HS, p1, p2, p3, p4, p5, p6, p7⟩ := mul_step (wd n t) (wd m s) (wd V (t + s)) cc (wd_nn n t) (wd_lt n t) (wd_nn m s) (wd_lt m s) (wd_nn V _) (wd_lt V _) hc0 hc1
            obtain ⟨V', v1, v2, v3, v4, v5⟩ := lcells_set V (t + s) (by omega) HV.out s3 p5 p6
            have L1 := Far.mk v1
            have L2 := Far.mk v2
            have L3 := Lib.hid v3
            have L4 := Lib.hid v4
            clear v1 v2 v3 v4 v5
            obtain ⟨X, hX⟩ : ∃ X, X = wd n t := ⟨_, rfl⟩
            obtain ⟨Y, hY⟩ : ∃ Y, Y = wd m s := ⟨_, rfl⟩
            obtain ⟨Z, hZ⟩ : ∃ Z, Z = wd V (t + s) := ⟨_, rfl⟩
            rw [← hX] at cx f HS HE
            rw [← hY] at cy f HS
            rw [← hZ] at co g HS L2
            have EX := Lib.hid hX
            have EY := Lib.hid hY
            clear hX hY hZ
            go_wp2_with fail
            go_quiet ((go_at_call 68; (first | exact Calls.quiet_of (f.out _) | exact quiet_add (f.out _))))
            go_wp2_with fail
            go_roundg (gk - 1)
            case measure => have := HK2.out; omega
            case rel =>
              have bx := BX.out
              have by_ := BY.out
              have b4 := B4.out
              refine ⟨s + 1, h + k1 + k3, V', by have := HK2.out; omega, by go_num, rfl, by omega, p7, L1.out, ?_, ?_, ?_, by (repeat (first | (with_reducible assumption) | ((with_reducible refine Bk.new_ ?_); (first | rfl | (simp only [World.size_alloc, World.size_setCell, World.size_drew, World.heap_drewN]; done))) | (with_reducible refine Bk.alloc ?_ _) | (with_reducible refine Bk.drew ?_) | (with_reducible refine Bk.drewN ?_ _) | ((with_reducible refine Bk.far ?_ ?_ _); rotate_left; focus (simp only []; omega)) | ((with_reducible refine Bk.below ?_ (by with_reducible assumption) ?_); rotate_left; focus (go_size; done)))), by (repeat (first | (with_reducible assumption) | ((with_reducible refine Bk.new_ ?_); (first | rfl | (simp only [World.size_alloc, World.size_setCell, World.size_drew, World.heap_drewN]; done))) | (with_reducible refine Bk.alloc ?_ _) | (with_reducible refine Bk.drew ?_) | (with_reducible refine Bk.drewN ?_ _) | ((with_reducible refine Bk.far ?_ ?_ _); rotate_left; focus (simp only []; omega)) | ((with_reducible refine Bk.below ?_ (by with_reducible assumption) ?_); rotate_left; focus (go_size; done)))), by (repeat (first | (with_reducible assumption) | ((with_reducible refine Bk.new_ ?_); (first | rfl | (simp only [World.size_alloc, World.size_setCell, World.size_drew, World.heap_drewN]; done))) | (with_reducible refine Bk.alloc ?_ _) | (with_reducible refine Bk.drew ?_) | (with_reducible refine Bk.drewN ?_ _) | ((with_reducible refine Bk.far ?_ ?_ _); rotate_left; focus (simp only []; omega)) | ((with_reducible refine Bk.below ?_ (by with_reducible assumption) ?_); rotate_left; focus (go_size; done)))), by go_size, by (repeat' (first | (with_reducible exact Below.refl _ _) | (with_reducible assumption) | (with_reducible refine Below.drew ?_) | (with_reducible refine below_drewN ?_ _) | ((with_reducible refine Below.alloc ?_ ?_ _); rotate_left; focus (go_size; done)) | ((with_reducible refine Below.setCell ?_ ?_ _); rotate_left; focus (go_size; done)) | ((with_reducible refine Below.trans ?_ (Below.mono (by with_reducible assumption) ?_)); rotate_left; focus (go_size; done))))⟩
              · have i1 := HE.out
                have i2 := L2.out
                have i3 := HS.out
                have i4 := wd_mod_succ m s
                rw [← EY.out] at i4
                rw [← EX.out]
                exact mul_inv i1 i2 i3 i4
              · intro j hj h4
                rw [L4.out j h4 (by omega)]
                exact HZ.out j hj h4
              · rw [← L3.out]
                exact (BO.out.drewN _).set_ _ _
          · obtain rfl : s = 2 := by omega
            have co : wr.cell? ⟨w.heap.size + 1 + 1 + 1, t + 2, none⟩ = some (.int .u64 (wd V (t + 2))) := BO.out.cell _ (lcells_at V _ (by omega))
            have fo := BO.out.frozen (t + 2)
            obtain ⟨V', v1, v2, v3, v4, v5⟩ := lcells_set V (t + 2) (by omega) HV.out cc hc0 hc1
            have L2 := Far.mk v2
            have L3 := Lib.hid v3
            clear v1 v2 v3 v4 v5
            go_wp2_with fail
            go_roundg (go - 1)
            case measure => have := HK.out; have := HGO.out; omega
            case rel =>
              have bx := BX.out
              have by_ := BY.out
              have b4 := B4.out
              refine ⟨t + 1, by have := HK.out; omega, by go_num, ?_, by (repeat (first | (with_reducible assumption) | ((with_reducible refine Bk.new_ ?_); (first | rfl | (simp only [World.size_alloc, World.size_setCell, World.size_drew, World.heap_drewN]; done))) | (with_reducible refine Bk.alloc ?_ _) | (with_reducible refine Bk.drew ?_) | (with_reducible refine Bk.drewN ?_ _) | ((with_reducible refine Bk.far ?_ ?_ _); rotate_left; focus (simp only []; omega)) | ((with_reducible refine Bk.below ?_ (by with_reducible assumption) ?_); rotate_left; focus (go_size; done)))), by (repeat (first | (with_reducible assumption) | ((with_reducible refine Bk.new_ ?_); (first | rfl | (simp only [World.size_alloc, World.size_setCell, World.size_drew, World.heap_drewN]; done))) | (with_reducible refine Bk.alloc ?_ _) | (with_reducible refine Bk.drew ?_) | (with_reducible refine Bk.drewN ?_ _) | ((with_reducible refine Bk.far ?_ ?_ _); rotate_left; focus (simp only []; omega)) | ((with_reducible refine Bk.below ?_ (by with_reducible assumption) ?_); rotate_left; focus (go_size; done)))), by (repeat (first | (with_reducible assumption) | ((with_reducible refine Bk.new_ ?_); (first | rfl | (simp only [World.size_alloc, World.size_setCell, World.size_drew, World.heap_drewN]; done))) | (with_reducible refine Bk.alloc ?_ _) | (with_reducible refine Bk.drew ?_) | (with_reducible refine Bk.drewN ?_ _) | ((with_reducible refine Bk.far ?_ ?_ _); rotate_left; focus (simp only []; omega)) | ((with_reducible refine Bk.below ?_ (by with_reducible assumption) ?_); rotate_left; focus (go_size; done)))), by go_size, by (repeat' (first | (with_reducible exact Below.refl _ _) | (with_reducible assumption) | (with_reducible refine Below.drew ?_) | (with_reducible refine below_drewN ?_ _) | ((with_reducible refine Below.alloc ?_ ?_ _); rotate_left; focus (go_size; done)) | ((with_reducible refine Below.setCell ?_ ?_ _); rotate_left; focus (go_size; done)) | ((with_reducible refine Below.trans ?_ (Below.mono (by with_reducible assumption) ?_)); rotate_left; focus (go_size; done))))⟩
              have i1 := HE.out
              have i2 := L2.out
              have i3 := HZ.out (t + 2) (Nat.le_refl _) (by omega)
              have e : n % 2 ^ (64 * (t + 1)) * m = V' := mul_end HM.out EO.out i1 i2 i3
              rw [e, ← L3.out]
              exact BO.out.set_ _ _
      · obtain rfl : t = 2 := by omega
        have e : n % 2 ^ (64 * 2) * m = n * m := by rw [Nat.mod_eq_of_lt HN.out]
        rw [e] at BO
        obtain ⟨z, hz⟩ : ∃ z, z = n * m := ⟨_, rfl⟩
        rw [← hz] at BO
        have EZ := Lib.hid hz
        clear hz
        have bo := BO.out
        rw [lcells_eq] at bo
        have c0 := bo.cell 0 rfl
        have c1 := bo.cell 1 rfl
        have c2 := bo.cell 2 rfl
        have c3 := bo.cell 3 rfl
        have d0 := B4.out.cell 0 rfl
        have d1 := B4.out.cell 1 rfl
        have d2 := B4.out.cell 2 rfl
        have d3 := B4.out.cell 3 rfl
        have f0 := B4.out.frozen 0
        have f1 := B4.out.frozen 1
        have f2 := B4.out.frozen 2
        have f3 := B4.out.frozen 3
        clear bo e
        go_wp2_with fail
        refine bodyPost_ret (by simp [results, Tryd.results42, go_sem, *]; try rfl) rfl ?_
        exact ⟨by rw [EZ.out], by (repeat' (first | (with_reducible exact Below.refl _ _) | (with_reducible assumption) | (with_reducible refine Below.drew ?_) | (with_reducible refine below_drewN ?_ _) | ((with_reducible refine Below.alloc ?_ ?_ _); rotate_left; focus (go_size; done)) | ((with_reducible refine Below.setCell ?_ ?_ _); rotate_left; focus (go_size; done)) | ((with_reducible refine Below.trans ?_ (Below.mono (by with_reducible assumption) ?_)); rotate_left; focus (go_size; done))))⟩
  · go_wp2_with fail
    clear a0 a1 b0 b1 c0 c1 d0 d1
    go_loopg [24] 2 (fun k i wr => ∃ t : Nat, k + t = 2 ∧ i = .int .i64 t ∧ Bk wr (w.heap.size + 1 + 1 + 1) 52 (lcells (n % 2 ^ (64 * t) * m)) ∧ Bk wr (w.heap.size + 1 + 1 + 1 + 1 + 1) 106 [.int .u64 (wd n 0), .int .u64 (wd n 1)] ∧ Bk wr (w.heap.size + 1 + 1 + 1 + 1) 106 [.int .u64 (wd m 0), .int .u64 (wd m 1)] ∧
      Bk wr (w.heap.size + 1 + 1) 52 [.int .u64 0, .int .u64 0, .int .u64 0, .int .u64 0] ∧ w.heap.size + 6 ≤ wr.heap.size ∧ Below w.heap.size w wr)
    case atStart =>
      refine ⟨0, rfl, rfl, ?_, by (repeat (first | (with_reducible assumption) | ((with_reducible refine Bk.new_ ?_); (first | rfl | (simp only [World.size_alloc, World.size_setCell, World.size_drew, World.heap_drewN]; done))) | (with_reducible refine Bk.alloc ?_ _) | (with_reducible refine Bk.drew ?_) | (with_reducible refine Bk.drewN ?_ _) | ((with_reducible refine Bk.far ?_ ?_ _); rotate_left; focus (simp only []; omega)) | ((with_reducible refine Bk.below ?_ (by with_reducible assumption) ?_); rotate_left; focus (go_size; done)))), by (repeat (first | (with_reducible assumption) | ((with_reducible refine Bk.new_ ?_); (first | rfl | (simp only [World.size_alloc, World.size_setCell, World.size_drew, World.heap_drewN]; done))) | (with_reducible refine Bk.alloc ?_ _) | (with_reducible refine Bk.drew ?_) | (with_reducible refine Bk.drewN ?_ _) | ((with_reducible refine Bk.far ?_ ?_ _); rotate_left; focus (simp only []; omega)) | ((with_reducible refine Bk.below ?_ (by with_reducible assumption) ?_); rotate_left; focus (go_size; done)))), by (repeat (first | (with_reducible assumption) | ((with_reducible refine Bk.new_ ?_); (first | rfl | (simp only [World.size_alloc, World.size_setCell, World.size_drew, World.heap_drewN]; done))) | (with_reducible refine Bk.alloc ?_ _) | (with_reducible refine Bk.drew ?_) | (with_reducible refine Bk.drewN ?_ _) | ((with_reducible refine Bk.far ?_ ?_ _); rotate_left; focus (simp only []; omega)) | ((with_reducible refine Bk.below ?_ (by with_reducible assumption) ?_); rotate_left; focus (go_size; done)))), by go_size, by (repeat' (first | (with_reducible exact Below.refl _ _) | (with_reducible assumption) | (with_reducible refine Below.drew ?_) | (with_reducible refine below_drewN ?_ _) | ((with_reducible refine Below.alloc ?_ ?_ _); rotate_left; focus (go_size; done)) | ((with_reducible refine Below.setCell ?_ ?_ _); rotate_left; focus (go_size; done)) | ((with_reducible refine Below.trans ?_ (Below.mono (by with_reducible assumption) ?_)); rotate_left; focus (go_size; done))))⟩
      rw [Nat.mul_zero, Nat.pow_zero, Nat.mod_one, Nat.zero_mul]
      show Bk _ _ _ [.int .u64 0, .int .u64 0, .int .u64 0, .int .u64 0]
      (repeat (first | (with_reducible assumption) | ((with_reducible refine Bk.new_ ?_); (first | rfl | (simp only [World.size_alloc, World.size_setCell, World.size_drew, World.heap_drewN]; done))) | (with_reducible refine Bk.alloc ?_ _) | (with_reducible refine Bk.drew ?_) | (with_reducible refine Bk.drewN ?_ _) | ((with_reducible refine Bk.far ?_ ?_ _); rotate_left; focus (simp only []; omega)) | ((with_reducible refine Bk.below ?_ (by with_reducible assumption) ?_); rotate_left; focus (go_size; done))))
    case round =>
      obtain ⟨t, hk, rfl, bo, bx, by_, b4, hsz, hbel⟩ := hrel
      have HK := Lib.hid hk
      have BO := Lib.hid bo
      have BX := Lib.hid bx
      have BY := Lib.hid by_
      have B4 := Lib.hid b4
      have t2 : t ≤ 2 := by omega
      clear hk bo bx by_ b4
      (try have : w.heap.size < wr.heap.size := by omega); (try have : w.heap.size + 1 < wr.heap.size := by omega); (try have : w.heap.size + 1 + 1 < wr.heap.size := by omega); (try have : w.heap.size + 1 + 1 + 1 < wr.heap.size := by omega)
      by_cases hlt : t < 2
      · go_wp2_with fail
        obtain ⟨wo, hwo⟩ : ∃ wo : World, wo = wr := ⟨_, rfl⟩
        clear hwo
        obtain ⟨go, hgo⟩ : ∃ go : Nat, go = gk := ⟨_, rfl⟩
        rw [← hgo] at HK
        have HGO := Lib.hid hgo
        clear hgo
        have hO : n % 2 ^ (64 * t) * m < 2 ^ (64 * (t + 2)) := mul_low HM.out
        have hO2 : n % 2 ^ (64 * t) * m < 2 ^ 256 := Nat.lt_of_lt_of_le hO (Nat.pow_le_pow_right (by decide) (by omega))
        obtain ⟨O, eO⟩ : ∃ O, O = n % 2 ^ (64 * t) * m := ⟨_, rfl⟩
        rw [← eO] at hO hO2 BO
        have EO := Far.mk eO
        have H1 := Far.mk hO
        have H2 := Far.mk hO2
        clear eO hO hO2
        go_loopg [9, 27] 2 (fun k c j wr => ∃ (s : Nat) (cc : Int) (V : Nat), k + s = 2 ∧ j = .int .i64 s ∧ c = .int .u64 cc ∧ 0 ≤ cc ∧ cc < 18446744073709551616 ∧ V < 2 ^ 256 ∧
          (V : Int) + cc * ((2 ^ (64 * (t + s)) : Nat) : Int) = O + wd n t * ((m % 2 ^ (64 * s) : Nat) : Int) * ((2 ^ (64 * t) : Nat) : Int) ∧ (∀ j, t + 2 ≤ j → j < 4 → wd V j = 0) ∧
          Bk wr (w.heap.size + 1 + 1 + 1) 52 (lcells V) ∧ Bk wr (w.heap.size + 1 + 1 + 1 + 1 + 1) 106 [.int .u64 (wd n 0), .int .u64 (wd n 1)] ∧ Bk wr (w.heap.size + 1 + 1 + 1 + 1) 106 [.int .u64 (wd m 0), .int .u64 (wd m 1)] ∧
          Bk wr (w.heap.size + 1 + 1) 52 [.int .u64 0, .int .u64 0, .int .u64 0, .int .u64 0] ∧ w.heap.size + 6 ≤ wr.heap.size ∧ Below w.heap.size w wr)
        case atStart =>
          refine ⟨0, 0, O, rfl, rfl, rfl, by omega, by omega, H2.out, ?_, ?_, BO.out, BX.out, BY.out, B4.out, hsz, hbel⟩
          · rw [Nat.mul_zero, Nat.pow_zero, Nat.mod_one, Int.zero_mul, Int.natCast_zero, Int.mul_zero, Int.zero_mul]
          · intro j hj _
            exact wd_past H1.out hj
        case round =>
          obtain ⟨s, cc, V, hk, rfl, rfl, hc0, hc1, hV, heq, hz, bo, bx, by_, b4, hsz, hbel⟩ := hrel
          have HK2 := Lib.hid hk
          have HV := Far.mk hV
          have HE := Far.mk heq
          have HZ := Lib.hid hz
          have BO := Lib.hid bo
          have BX := Lib.hid bx
          have BY := Lib.hid by_
          have B4 := Lib.hid b4
          have s2 : s ≤ 2 := by omega
          clear hk hV heq hz bo bx by_ b4
          (try have : w.heap.size < wr.heap.size := by omega); (try have : w.heap.size + 1 < wr.heap.size := by omega); (try have : w.heap.size + 1 + 1 < wr.heap.size := by omega); (try have : w.heap.size + 1 + 1 + 1 < wr.heap.size := by omega)
          by_cases hls : s < 2
          · have cx : wr.cell? ⟨(w.heap.size + 1 + 1 + 1 + 1 + 1), t, none⟩ = some (.int .u64 (wd n t)) := BX.out.cell t (two_at n t hlt)
            have cy : wr.cell? ⟨(w.heap.size + 1 + 1 + 1 + 1), s, none⟩ = some (.int .u64 (wd m s)) := BY.out.cell s (two_at m s hls)
            have co : wr.cell? ⟨w.heap.size + 1 + 1 + 1, t + s, none⟩ = some (.int .u64 (wd V (t + s))) := BO.out.cell _ (lcells_at V _ (by omega))
            have fo := BO.out.frozen (t + s)
            obtain ⟨h, l, s1, k1, s3, k3, f, g, e, HS, p1, p2, p3, p4, p5, p6, p7⟩ := mul_step (wd n t) (wd m s) (wd V (t + s)) cc (wd_nn n t) (wd_lt n t) (wd_nn m s) (wd_lt m s) (wd_nn V _) (wd_lt V _) hc0 hc1
            obtain ⟨V', v1, v2, v3, v4, v5⟩ := lcells_set V (t + s) (by omega) HV.out s3 p5 p6
            have L1 := Far.mk v1
            have L2 := Far.mk v2
            have L3 := Lib.hid v3
            have L4 := Lib.hid v4
            clear v1 v2 v3 v4 v5
            obtain ⟨X, hX⟩ : ∃ X, X = wd n t := ⟨_, rfl⟩
            obtain ⟨Y, hY⟩ : ∃ Y, Y = wd m s := ⟨_, rfl⟩
            obtain ⟨Z, hZ⟩ : ∃ Z, Z = wd V (t + s) := ⟨_, rfl⟩
            rw [← hX] at cx f HS HE
            rw [← hY] at cy f HS
            rw [← hZ] at co g HS L2
            have EX := Lib.hid hX
            have EY := Lib.hid hY
            clear hX hY hZ
            go_wp2_with fail
            go_quiet ((go_at_call 68; (first | exact Calls.quiet_of (f.out _) | exact quiet_add (f.out _))))
            go_wp2_with fail
            go_roundg (gk - 1)
            case measure => have := HK2.out; omega
            case rel =>
              have bx := BX.out
              have by_ := BY.out
              have b4 := B4.out
              refine ⟨s + 1, h + k1 + k3, V', by have := HK2.out; omega, by go_num, rfl, by omega, p7, L1.out, ?_, ?_, ?_, by (repeat (first | (with_reducible assumption) | ((with_reducible refine Bk.new_ ?_); (first | rfl | (simp only [World.size_alloc, World.size_setCell, World.size_drew, World.heap_drewN]; done))) | (with_reducible refine Bk.alloc ?_ _) | (with_reducible refine Bk.drew ?_) | (with_reducible refine Bk.drewN ?_ _) | ((with_reducible refine Bk.far ?_ ?_ _); rotate_left; focus (simp only []; omega)) | ((with_reducible refine Bk.below ?_ (by with_reducible assumption) ?_); rotate_left; focus (go_size; done)))), by (repeat (first | (with_reducible assumption) | ((with_reducible refine Bk.new_ ?_); (first | rfl | (simp only [World.size_alloc, World.size_setCell, World.size_drew, World.heap_drewN]; done))) | (with_reducible refine Bk.alloc ?_ _) | (with_reducible refine Bk.drew ?_) | (with_reducible refine Bk.drewN ?_ _) | ((with_reducible refine Bk.far ?_ ?_ _); rotate_left; focus (simp only []; omega)) | ((with_reducible refine Bk.below ?_ (by with_reducible assumption) ?_); rotate_left; focus (go_size; done)))), by (repeat (first | (with_reducible assumption) | ((with_reducible refine Bk.new_ ?_); (first | rfl | (simp only [World.size_alloc, World.size_setCell, World.size_drew, World.heap_drewN]; done))) | (with_reducible refine Bk.alloc ?_ _) | (with_reducible refine Bk.drew ?_) | (with_reducible refine Bk.drewN ?_ _) | ((with_reducible refine Bk.far ?_ ?_ _); rotate_left; focus (simp only []; omega)) | ((with_reducible refine Bk.below ?_ (by with_reducible assumption) ?_); rotate_left; focus (go_size; done)))), by go_size, by (repeat' (first | (with_reducible exact Below.refl _ _) | (with_reducible assumption) | (with_reducible refine Below.drew ?_) | (with_reducible refine below_drewN ?_ _) | ((with_reducible refine Below.alloc ?_ ?_ _); rotate_left; focus (go_size; done)) | ((with_reducible refine Below.setCell ?_ ?_ _); rotate_left; focus (go_size; done)) | ((with_reducible refine Below.trans ?_ (Below.mono (by with_reducible assumption) ?_)); rotate_left; focus (go_size; done))))⟩
              · have i1 := HE.out
                have i2 := L2.out
                have i3 := HS.out
                have i4 := wd_mod_succ m s
                rw [← EY.out] at i4
                rw [← EX.out]
                exact mul_inv i1 i2 i3 i4
              · intro j hj h4
                rw [L4.out j h4 (by omega)]
                exact HZ.out j hj h4
              · rw [← L3.out]
                exact (BO.out.drewN _).set_ _ _
          · obtain rfl : s = 2 := by omega
            have co : wr.cell? ⟨w.heap.size + 1 + 1 + 1, t + 2, none⟩ = some (.int .u64 (wd V (t + 2))) := BO.out.cell _ (lcells_at V _ (by omega))
            have fo := BO.out.frozen (t + 2)
            obtain ⟨V', v1, v2, v3, v4, v5⟩ := lcells_set V (t + 2) (by omega) HV.out cc hc0 hc1
            have L2 := Far.mk v2
            have L3 := Lib.hid v3
            clear v1 v2 v3 v4 v5
            go_wp2_with fail
            go_roundg (go - 1)
            case measure => have := HK.out; have := HGO.out; omega
            case rel =>
              have bx := BX.out
              have by_ := BY.out
              have b4 := B4.out
              refine ⟨t + 1, by have := HK.out; omega, by go_num, ?_, by (repeat (first | (with_reducible assumption) | ((with_reducible refine Bk.new_ ?_); (first | rfl | (simp only [World.size_alloc, World.size_setCell, World.size_drew, World.heap_drewN]; done))) | (with_reducible refine Bk.alloc ?_ _) | (with_reducible refine Bk.drew ?_) | (with_reducible refine Bk.drewN ?_ _) | ((with_reducible refine Bk.far ?_ ?_ _); rotate_left; focus (simp only []; omega)) | ((with_reducible refine Bk.below ?_ (by with_reducible assumption) ?_); rotate_left; focus (go_size; done)))), by (repeat (first | (with_reducible assumption) | ((with_reducible refine Bk.new_ ?_); (first | rfl | (simp only [World.size_alloc, World.size_setCell, World.size_drew, World.heap_drewN]; done))) | (with_reducible refine Bk.alloc ?_ _) | (with_reducible refine Bk.drew ?_) | (with_reducible refine Bk.drewN ?_ _) | ((with_reducible refine Bk.far ?_ ?_ _); rotate_left; focus (simp only []; omega)) | ((with_reducible refine Bk.below ?_ (by with_reducible assumption) ?_); rotate_left; focus (go_size; done)))), by (repeat (first | (with_reducible assumption) | ((with_reducible refine Bk.new_ ?_); (first | rfl | (simp only [World.size_alloc, World.size_setCell, World.size_drew, World.heap_drewN]; done))) | (with_reducible refine Bk.alloc ?_ _) | (with_reducible refine Bk.drew ?_) | (with_reducible refine Bk.drewN ?_ _) | ((with_reducible refine Bk.far ?_ ?_ _); rotate_left; focus (simp only []; omega)) | ((with_reducible refine Bk.below ?_ (by with_reducible assumption) ?_); rotate_left; focus (go_size; done)))), by go_size, by (repeat' (first | (with_reducible exact Below.refl _ _) | (with_reducible assumption) | (with_reducible refine Below.drew ?_) | (with_reducible refine below_drewN ?_ _) | ((with_reducible refine Below.alloc ?_ ?_ _); rotate_left; focus (go_size; done)) | ((with_reducible refine Below.setCell ?_ ?_ _); rotate_left; focus (go_size; done)) | ((with_reducible refine Below.trans ?_ (Below.mono (by with_reducible assumption) ?_)); rotate_left; focus (go_size; done))))⟩
              have i1 := HE.out
              have i2 := L2.out
              have i3 := HZ.out (t + 2) (Nat.le_refl _) (by omega)
              have e : n % 2 ^ (64 * (t + 1)) * m = V' := mul_end HM.out EO.out i1 i2 i3
              rw [e, ← L3.out]
              exact BO.out.set_ _ _
      · obtain rfl : t = 2 := by omega
        have e : n % 2 ^ (64 * 2) * m = n * m := by rw [Nat.mod_eq_of_lt HN.out]
        rw [e] at BO
        obtain ⟨z, hz⟩ : ∃ z, z = n * m := ⟨_, rfl⟩
        rw [← hz] at BO
        have EZ := Lib.hid hz
        clear hz
        have bo := BO.out
        rw [lcells_eq] at bo
        have c0 := bo.cell 0 rfl
        have c1 := bo.cell 1 rfl
        have c2 := bo.cell 2 rfl
        have c3 := bo.cell 3 rfl
        have d0 := B4.out.cell 0 rfl
        have d1 := B4.out.cell 1 rfl
        have d2 := B4.out.cell 2 rfl
        have d3 := B4.out.cell 3 rfl
        have f0 := B4.out.frozen 0
        have f1 := B4.out.frozen 1
        have f2 := B4.out.frozen 2
        have f3 := B4.out.frozen 3
        clear bo e
        go_wp2_with fail
        refine bodyPost_ret (by simp [results, Tryd.results42, go_sem, *]; try rfl) rfl ?_
        exact ⟨by rw [EZ.out], by (repeat' (first | (with_reducible exact Below.refl _ _) | (with_reducible assumption) | (with_reducible refine Below.drew ?_) | (with_reducible refine below_drewN ?_ _) | ((with_reducible refine Below.alloc ?_ ?_ _); rotate_left; focus (go_size; done)) | ((with_reducible refine Below.setCell ?_ ?_ _); rotate_left; focus (go_size; done)) | ((with_reducible refine Below.trans ?_ (Below.mono (by with_reducible assumption) ?_)); rotate_left; focus (go_size; done))))⟩
end Go.Proofs.YtogpbcllbbpgbaaDoor

set_option linter.unusedSimpArgs false
set_option linter.unusedVariables false
namespace Go.Proofs.YtogpbcllbbpgbaaDoor
open Go.RowKit

theorem ten_38 {k : Nat} (h : k ≤ 38) : 10 ^ k < 2 ^ 128 := Nat.lt_of_le_of_lt (Nat.pow_le_pow_right (by decide) h) (by decide)
set_option maxHeartbeats 1000000 in
theorem ten_bad (k : Int) (hk : k < 0 ∨ 38 < k) (w : World) : Calls Tryd.prog 90 #[.int .i64 k] w fun e w' => e = .returned (.tuple #[.agg #[.int .u64 0, .int .u64 0], .int .i64 1]) ∧ Below w.heap.size w w' := by
  rcases hk with hk | hk
  · go_enter Tryd.func90, Tryd.ntmps90
    go_wp2_with fail
    refine bodyPost_ret (by simp [results, Tryd.results90, go_sem, *]; try rfl) rfl ?_
    exact ⟨rfl, by (repeat' (first | (with_reducible exact Below.refl _ _) | (with_reducible assumption) | (with_reducible refine Below.drew ?_) | (with_reducible refine below_drewN ?_ _) | ((with_reducible refine Below.alloc ?_ ?_ _); rotate_left; focus (go_size; done)) | ((with_reducible refine Below.setCell ?_ ?_ _); rotate_left; focus (go_size; done)) | ((with_reducible refine Below.trans ?_ (Below.mono (by with_reducible assumption) ?_)); rotate_left; focus (go_size; done))))⟩
  · have h0 : ¬ k < 0 := by omega
    go_enter Tryd.func90, Tryd.ntmps90
    go_wp2_with fail
    refine bodyPost_ret (by simp [results, Tryd.results90, go_sem, *]; try rfl) rfl ?_
    exact ⟨rfl, by (repeat' (first | (with_reducible exact Below.refl _ _) | (with_reducible assumption) | (with_reducible refine Below.drew ?_) | (with_reducible refine below_drewN ?_ _) | ((with_reducible refine Below.alloc ?_ ?_ _); rotate_left; focus (go_size; done)) | ((with_reducible refine Below.setCell ?_ ?_ _); rotate_left; focus (go_size; done)) | ((with_reducible refine Below.trans ?_ (Below.mono (by with_reducible assumption) ?_)); rotate_left; focus (go_size; done))))⟩
theorem mul_ten (X : Nat) (hX : X < 2 ^ 128) (W : World) : Calls Tryd.prog 42 #[.agg #[.int .u64 (wd X 1), .int .u64 (wd X 0)], .agg #[.int .u64 0, .int .u64 10]] W fun e w' => e = .returned (.agg #[.int .u64 (wd (X * 10) 0), .int .u64 (wd (X * 10) 1), .int .u64 (wd (X * 10) 2), .int .u64 (wd (X * 10) 3)]) ∧ Below W.heap.size W w' := by
  have h := mul_any X 10 hX (by decide) W
  have b0 : wd 10 0 = 10 := by rw [wd0]; rfl
  have b1 : wd 10 1 = 0 := by rw [wd1]; rfl
  rw [b0, b1] at h
  exact h
theorem fit_id {X : Nat} (h : X < 2 ^ 128) : fitW X = X := by unfold fitW; rw [if_pos h]
theorem over_id {X : Nat} (h : X < 2 ^ 128) : over X = 0 := by unfold over; rw [if_pos h]
set_option maxHeartbeats 4000000 in
theorem ten_any (k : Nat) (hk : k ≤ 38) (w : World) : Calls Tryd.prog 90 #[.int .i64 k] w fun e w' => e = .returned (.tuple #[.agg #[.int .u64 (wd (10 ^ k) 1), .int .u64 (wd (10 ^ k) 0)], .int .i64 0]) ∧ Below w.heap.size w w' := by
  have k0 : (0 : Int) ≤ (k : Int) := by omega
  have k1 : (k : Int) ≤ 38 := by omega
  go_enter Tryd.func90, Tryd.ntmps90
  go_wp2_with fail
  go_loopg [14] k (fun kk i wr => ∃ t : Nat, kk + t = k ∧ i = .int .i64 t ∧ Bk wr (w.heap.size + 1) 24 [.int .u64 (wd (10 ^ t) 1), .int .u64 (wd (10 ^ t) 0)] ∧ Bk wr w.heap.size 24 [.int .u64 0, .int .u64 0] ∧ w.heap.size + 2 ≤ wr.heap.size ∧ Below w.heap.size w wr)
  case atStart =>
    refine ⟨0, by omega, rfl, ?_, by (repeat (first | (with_reducible assumption) | ((with_reducible refine Bk.new_ ?_); (first | rfl | (simp only [World.size_alloc, World.size_setCell, World.size_drew, World.heap_drewN]; done))) | (with_reducible refine Bk.alloc ?_ _) | (with_reducible refine Bk.drew ?_) | (with_reducible refine Bk.drewN ?_ _) | ((with_reducible refine Bk.far ?_ ?_ _); rotate_left; focus (simp only []; omega)) | ((with_reducible refine Bk.below ?_ (by with_reducible assumption) ?_); rotate_left; focus (go_size; done)))), by go_size, by (repeat' (first | (with_reducible exact Below.refl _ _) | (with_reducible assumption) | (with_reducible refine Below.drew ?_) | (with_reducible refine below_drewN ?_ _) | ((with_reducible refine Below.alloc ?_ ?_ _); rotate_left; focus (go_size; done)) | ((with_reducible refine Below.setCell ?_ ?_ _); rotate_left; focus (go_size; done)) | ((with_reducible refine Below.trans ?_ (Below.mono (by with_reducible assumption) ?_)); rotate_left; focus (go_size; done))))⟩
    have b0 : wd (10 ^ 0) 0 = 1 := by rw [wd0]; rfl
    have b1 : wd (10 ^ 0) 1 = 0 := by rw [wd1]; rfl
    rw [b0, b1]
    (repeat (first | (with_reducible assumption) | ((with_reducible refine Bk.new_ ?_); (first | rfl | (simp only [World.size_alloc, World.size_setCell, World.size_drew, World.heap_drewN]; done))) | (with_reducible refine Bk.alloc ?_ _) | (with_reducible refine Bk.drew ?_) | (with_reducible refine Bk.drewN ?_ _) | ((with_reducible refine Bk.far ?_ ?_ _); rotate_left; focus (simp only []; omega)) | ((with_reducible refine Bk.below ?_ (by with_reducible assumption) ?_); rotate_left; focus (go_size; done))))
  case round =>
    obtain ⟨t, hn, rfl, b1, b0, hsz, hbel⟩ := hrel
    have HK := Lib.hid hn
    have ht : t ≤ k := by omega
    have c0 := b1.cell 0 rfl
    have c1 := b1.cell 1 rfl
    have f0 := b1.frozen 0
    have f1 := b1.frozen 1
    have d0 := b0.cell 0 rfl
    have d1 := b0.cell 1 rfl
    have e0 := b0.frozen 0
    have e1 := b0.frozen 1
    have B0 := Lib.hid b0
    have B1 := Lib.hid b1
    (try have : w.heap.size < wr.heap.size := by omega); (try have : w.heap.size + 1 < wr.heap.size := by omega); (try have : w.heap.size + 1 + 1 < wr.heap.size := by omega); (try have : w.heap.size + 1 + 1 + 1 < wr.heap.size := by omega)
    clear hn b0 b1
    by_cases hlt : t < k
    · have hx : 10 ^ t < 2 ^ 128 := ten_38 (by omega)
      have hy : 10 ^ t * 10 < 2 ^ 128 := by rw [← Nat.pow_succ]; exact ten_38 (by omega)
      have HM := Lib.hid (fun W => mul_ten (10 ^ t) hx W)
      have HN := Lib.hid (fun W => narrow_any (10 ^ t * 10) (Nat.lt_trans hy (by decide)) W)
      rw [fit_id hy, over_id hy] at HN
      obtain ⟨X, hX⟩ : ∃ X, X = 10 ^ t := ⟨_, rfl⟩
      obtain ⟨Y, hY⟩ : ∃ Y, Y = X * 10 := ⟨_, rfl⟩
      rw [← hX] at c0 c1 HM HN
      rw [← hY] at HM HN
      have EX := Far.mk hX
      have EY := Far.mk hY
      clear hX hY hx hy
      go_wp2_with (first
        | ((go_at_call 42; with_reducible refine (HM.out _).mono ?_); rintro _ w1 ⟨rfl, hb1⟩; have hb1s := hb1.size; (try simp only [World.size_alloc, World.size_setCell, World.size_drew, World.heap_drewN] at hb1s); obtain ⟨hb1c, hb1f⟩ := bcell hb1; (try have : w.heap.size < w1.heap.size := by omega); (try have : w.heap.size + 1 < w1.heap.size := by omega); (try have : w.heap.size + 1 + 1 < w1.heap.size := by omega); (try have : w.heap.size + 1 + 1 + 1 < w1.heap.size := by omega))
        | ((go_at_call 41; with_reducible refine (HN.out _).mono ?_); rintro _ w2 ⟨rfl, hb2⟩; have hb2s := hb2.size; (try simp only [World.size_alloc, World.size_setCell, World.size_drew, World.heap_drewN] at hb2s); obtain ⟨hb2c, hb2f⟩ := bcell hb2; (try have : w.heap.size < w2.heap.size := by omega); (try have : w.heap.size + 1 < w2.heap.size := by omega); (try have : w.heap.size + 1 + 1 < w2.heap.size := by omega); (try have : w.heap.size + 1 + 1 + 1 < w2.heap.size := by omega); (try have : w1.heap.size < w2.heap.size := by omega); (try have : w1.heap.size + 1 < w2.heap.size := by omega); (try have : w1.heap.size + 1 + 1 < w2.heap.size := by omega); (try have : w1.heap.size + 1 + 1 + 1 < w2.heap.size := by omega)))
      go_roundg (gk - 1)
      case measure => have := HK.out; omega
      case rel =>
        have b0 := B0.out
        have b1 := B1.out
        refine ⟨t + 1, by have := HK.out; omega, by go_num, ?_, by (repeat (first | (with_reducible assumption) | ((with_reducible refine Bk.new_ ?_); (first | rfl | (simp only [World.size_alloc, World.size_setCell, World.size_drew, World.heap_drewN]; done))) | (with_reducible refine Bk.alloc ?_ _) | (with_reducible refine Bk.drew ?_) | (with_reducible refine Bk.drewN ?_ _) | ((with_reducible refine Bk.far ?_ ?_ _); rotate_left; focus (simp only []; omega)) | ((with_reducible refine Bk.below ?_ (by with_reducible assumption) ?_); rotate_left; focus (go_size; done)))), by go_size, by (repeat' (first | (with_reducible exact Below.refl _ _) | (with_reducible assumption) | (with_reducible refine Below.drew ?_) | (with_reducible refine below_drewN ?_ _) | ((with_reducible refine Below.alloc ?_ ?_ _); rotate_left; focus (go_size; done)) | ((with_reducible refine Below.setCell ?_ ?_ _); rotate_left; focus (go_size; done)) | ((with_reducible refine Below.trans ?_ (Below.mono (by with_reducible assumption) ?_)); rotate_left; focus (go_size; done))))⟩
        have e : 10 ^ (t + 1) = Y := by rw [EY.out, EX.out, Nat.pow_succ]
        rw [e]
        refine ((?_ : Bk w2 _ _ [.int .u64 (wd (10 ^ t) 1), .int .u64 (wd (10 ^ t) 0)]).set_ 0 _).set_ 1 _
        (repeat (first | (with_reducible assumption) | ((with_reducible refine Bk.new_ ?_); (first | rfl | (simp only [World.size_alloc, World.size_setCell, World.size_drew, World.heap_drewN]; done))) | (with_reducible refine Bk.alloc ?_ _) | (with_reducible refine Bk.drew ?_) | (with_reducible refine Bk.drewN ?_ _) | ((with_reducible refine Bk.far ?_ ?_ _); rotate_left; focus (simp only []; omega)) | ((with_reducible refine Bk.below ?_ (by with_reducible assumption) ?_); rotate_left; focus (go_size; done))))
    · obtain rfl : t = k := by omega
      obtain ⟨X, hX⟩ : ∃ X, X = 10 ^ t := ⟨_, rfl⟩
      rw [← hX] at c0 c1
      have EX := Far.mk hX
      clear hX
      go_wp2_with fail
      refine bodyPost_ret (by simp [results, Tryd.results90, go_sem, *]; try rfl) rfl ?_
      exact ⟨by rw [EX.out], by (repeat' (first | (with_reducible exact Below.refl _ _) | (with_reducible assumption) | (with_reducible refine Below.drew ?_) | (with_reducible refine below_drewN ?_ _) | ((with_reducible refine Below.alloc ?_ ?_ _); rotate_left; focus (go_size; done)) | ((with_reducible refine Below.setCell ?_ ?_ _); rotate_left; focus (go_size; done)) | ((with_reducible refine Below.trans ?_ (Below.mono (by with_reducible assumption) ?_)); rotate_left; focus (go_size; done))))⟩
end Go.Proofs.YtogpbcllbbpgbaaDoor

set_option linter.unusedSimpArgs false
set_option linter.unusedVariables false
namespace Go.Proofs.YtogpbcllbbpgbaaDoor
open Go.RowKit

set_option maxHeartbeats 1000000 in
theorem power_any (k : Nat) (hk : k ≤ 38) (w : World) : Calls Tryd.prog 77 #[.int .i64 k] w fun e w' => e = .returned (.agg #[.int .u64 (wd (10 ^ k) 1), .int .u64 (wd (10 ^ k) 0)]) ∧ Below w.heap.size w w' := by
  have HT := Lib.hid (fun W => ten_any k hk W)
  generalize wd (10 ^ k) 0 = x0 at *
  generalize wd (10 ^ k) 1 = x1 at *
  go_enter Tryd.func77, Tryd.ntmps77
  go_wp2_with ((go_at_call 90; with_reducible refine (HT.out _).mono ?_); rintro _ w1 ⟨rfl, hb1⟩; have hb1s := hb1.size; (try simp only [World.size_alloc, World.size_setCell, World.size_drew, World.heap_drewN] at hb1s); obtain ⟨hb1c, hb1f⟩ := bcell hb1; (try have : w.heap.size < w1.heap.size := by omega); (try have : w.heap.size + 1 < w1.heap.size := by omega); (try have : w.heap.size + 1 + 1 < w1.heap.size := by omega); (try have : w.heap.size + 1 + 1 + 1 < w1.heap.size := by omega))
  refine bodyPost_ret (by simp [results, Tryd.results77, go_sem, *]; try rfl) rfl ?_
  exact ⟨rfl, by (repeat' (first | (with_reducible exact Below.refl _ _) | (with_reducible assumption) | (with_reducible refine Below.drew ?_) | (with_reducible refine below_drewN ?_ _) | ((with_reducible refine Below.alloc ?_ ?_ _); rotate_left; focus (go_size; done)) | ((with_reducible refine Below.setCell ?_ ?_ _); rotate_left; focus (go_size; done)) | ((with_reducible refine Below.trans ?_ (Below.mono (by with_reducible assumption) ?_)); rotate_left; focus (go_size; done))))⟩
set_option maxHeartbeats 1000000 in
theorem bound_any (w : World) : Calls Tryd.prog 57 #[] w fun e w' => e = .returned (.agg #[.int .u64 (wd B34 1), .int .u64 (wd B34 0)]) ∧ Below w.heap.size w w' := by
  have HT : Hid (∀ W, Calls Tryd.prog 77 #[.int .i64 34] W fun e w' => e = .returned (.agg #[.int .u64 (wd B34 1), .int .u64 (wd B34 0)]) ∧ Below W.heap.size W w') := Lib.hid (fun W => power_any 34 (by decide) W)
  generalize wd B34 0 = x0 at *
  generalize wd B34 1 = x1 at *
  go_enter Tryd.func57, Tryd.ntmps57
  go_wp2_with ((go_at_call 77; with_reducible refine (HT.out _).mono ?_); rintro _ w1 ⟨rfl, hb1⟩; have hb1s := hb1.size; (try simp only [World.size_alloc, World.size_setCell, World.size_drew, World.heap_drewN] at hb1s); obtain ⟨hb1c, hb1f⟩ := bcell hb1; (try have : w.heap.size < w1.heap.size := by omega); (try have : w.heap.size + 1 < w1.heap.size := by omega); (try have : w.heap.size + 1 + 1 < w1.heap.size := by omega); (try have : w.heap.size + 1 + 1 + 1 < w1.heap.size := by omega))
  refine bodyPost_ret (by simp [results, Tryd.results57, go_sem, *]; try rfl) rfl ?_
  exact ⟨rfl, by (repeat' (first | (with_reducible exact Below.refl _ _) | (with_reducible assumption) | (with_reducible refine Below.drew ?_) | (with_reducible refine below_drewN ?_ _) | ((with_reducible refine Below.alloc ?_ ?_ _); rotate_left; focus (go_size; done)) | ((with_reducible refine Below.setCell ?_ ?_ _); rotate_left; focus (go_size; done)) | ((with_reducible refine Below.trans ?_ (Below.mono (by with_reducible assumption) ?_)); rotate_left; focus (go_size; done))))⟩
theorem wd_hi2 {n : Nat} (h : n < 2 ^ 128) : wd n 2 = 0 ∧ wd n 3 = 0 := (wd_low4 (Nat.lt_trans h (by decide))).2 h
set_option maxHeartbeats 1000000 in
theorem long_any (n : Nat) (h : n < 2 ^ 128) (w : World) : Calls Tryd.prog 76 #[.agg #[.int .u64 (wd n 1), .int .u64 (wd n 0)]] w fun e w' => e = .returned (.agg #[.int .u64 (wd n 0), .int .u64 (wd n 1), .int .u64 (wd n 2), .int .u64 (wd n 3)]) ∧ Below w.heap.size w w' := by
  obtain ⟨e2, e3⟩ := wd_hi2 h
  rw [e2, e3]
  clear e2 e3 h
  generalize wd n 0 = x0 at *
  generalize wd n 1 = x1 at *
  go_enter Tryd.func76, Tryd.ntmps76
  go_wp2_with fail
  refine bodyPost_ret (by simp [results, Tryd.results76, go_sem, *]; try rfl) rfl ?_
  exact ⟨rfl, by (repeat' (first | (with_reducible exact Below.refl _ _) | (with_reducible assumption) | (with_reducible refine Below.drew ?_) | (with_reducible refine below_drewN ?_ _) | ((with_reducible refine Below.alloc ?_ ?_ _); rotate_left; focus (go_size; done)) | ((with_reducible refine Below.setCell ?_ ?_ _); rotate_left; focus (go_size; done)) | ((with_reducible refine Below.trans ?_ (Below.mono (by with_reducible assumption) ?_)); rotate_left; focus (go_size; done))))⟩
theorem eq_nil {n : Nat} (h : n < 2 ^ 128) : ((wd n 1 == 0) && (wd n 0 == 0)) = decide (n = 0) := by
  have e := wd_eq_iff h (show 0 < 2 ^ 128 by decide)
  rwa [wd_zero, wd_zero] at e
set_option maxHeartbeats 1000000 in
theorem zero_any (b : Bool) (c : Nat) (s : Int) (h : c < 2 ^ 128) (w : World) : Calls Tryd.prog 70 #[.agg #[.bool b, .int .u64 (wd (c) 1), .int .u64 (wd (c) 0), .int .i64 s]] w fun e w' => e = .returned (.bool (decide (c = 0))) ∧ Below w.heap.size w w' := by
  have qz : ∀ W, (binOp .eql 24 (.agg #[.int .u64 (wd c 1), .int .u64 (wd c 0)]) (.agg #[.int .u64 0, .int .u64 0])).run Tryd.prog W = .ok (.bool (decide (c = 0))) W := fun W => by rw [eq_wide, eq_nil h]
  clear h
  generalize decide (c = 0) = z at *
  generalize wd c 0 = x0 at *
  generalize wd c 1 = x1 at *
  go_enter Tryd.func70, Tryd.ntmps70
  go_wp2_with fail
  refine bodyPost_ret (by simp [results, Tryd.results70, go_sem, *]; try rfl) rfl ?_
  exact ⟨rfl, by (repeat' (first | (with_reducible exact Below.refl _ _) | (with_reducible assumption) | (with_reducible refine Below.drew ?_) | (with_reducible refine below_drewN ?_ _) | ((with_reducible refine Below.alloc ?_ ?_ _); rotate_left; focus (go_size; done)) | ((with_reducible refine Below.setCell ?_ ?_ _); rotate_left; focus (go_size; done)) | ((with_reducible refine Below.trans ?_ (Below.mono (by with_reducible assumption) ?_)); rotate_left; focus (go_size; done))))⟩
end Go.Proofs.YtogpbcllbbpgbaaDoor

set_option linter.unusedSimpArgs false
set_option linter.unusedVariables false
namespace Go.Proofs.YtogpbcllbbpgbaaDoor
open Go.RowKit

theorem dform_hi {b : Bool} {c : Nat} {s : Int} (h : ¬ c < B34) : dform b c s = false := by unfold dform; rw [decide_eq_false h]; rfl
theorem dform_neg {b : Bool} {c : Nat} {s : Int} (h : s < 0) : dform b c s = false := by unfold dform; rw [decide_eq_false (show ¬ 0 ≤ s by omega)]; simp
theorem dform_deep {b : Bool} {c : Nat} {s : Int} (h : 18 < s) : dform b c s = false := by unfold dform; rw [decide_eq_false (show ¬ s ≤ 18 by omega)]; simp
theorem dform_in {b : Bool} {c : Nat} {s : Int} (h : c < B34) (h0 : 0 ≤ s) (h1 : s ≤ 18) : dform b c s = if c = 0 then !b && decide (s = 0) else decide (s = 0) || decide (c % 10 ≠ 0) := by
  unfold dform; rw [decide_eq_true h, decide_eq_true h0, decide_eq_true h1]; rfl
theorem cmp_bound {c : Nat} (h : c < B34) : cmpN c B34 < 0 := by unfold cmpN; rw [if_neg (by omega), if_pos h]; decide
theorem cmp_bound' {c : Nat} (h : ¬ c < B34) : 0 ≤ cmpN c B34 := by unfold cmpN; rw [if_neg h]; split <;> decide
set_option maxHeartbeats 4000000 in
theorem form_any (b : Bool) (c : Nat) (s : Int) (hc : c < 2 ^ 128) (w : World) : Calls Tryd.prog 46 #[.agg #[.bool b, .int .u64 (wd (c) 1), .int .u64 (wd (c) 0), .int .i64 s]] w fun e w' => e = .returned (.bool (dform b c s)) ∧ Below w.heap.size w w' := by
  have HC := Lib.hid (fun W => cmp_any c B34 hc B34_lt W)
  have HB := Lib.hid (fun W => bound_any W)
  have HZ := Lib.hid (fun W => zero_any b c s hc W)
  generalize wd B34 0 = p0 at *
  generalize wd B34 1 = p1 at *
  by_cases hb : c < B34
  · have g1 := cmp_bound hb
    have g1' : decide (0 ≤ cmpN c B34) = false := by simp; omega
    by_cases h0 : s < 0
    · rw [dform_neg h0]
      generalize cmpN c B34 = cc at *
      generalize wd c 0 = x0 at *
      generalize wd c 1 = x1 at *
      clear hc hb
      generalize decide (c = 0) = zz at *
      go_enter Tryd.func46, Tryd.ntmps46
      go_wp2_with fail
      first | (go_region_with (first | ((go_at_call 57; with_reducible refine (HB.out _).mono ?_); rintro _ w1 ⟨rfl, hb1⟩; have hb1s := hb1.size; (try simp only [World.size_alloc, World.size_setCell, World.size_drew, World.heap_drewN] at hb1s); obtain ⟨hb1c, hb1f⟩ := bcell hb1; (try have : w.heap.size < w1.heap.size := by omega); (try have : w.heap.size + 1 < w1.heap.size := by omega); (try have : w.heap.size + 1 + 1 < w1.heap.size := by omega); (try have : w.heap.size + 1 + 1 + 1 < w1.heap.size := by omega)) | ((go_at_call 56; with_reducible refine (HC.out _).mono ?_); rintro _ w2 ⟨rfl, hb2⟩; have hb2s := hb2.size; (try simp only [World.size_alloc, World.size_setCell, World.size_drew, World.heap_drewN] at hb2s); obtain ⟨hb2c, hb2f⟩ := bcell hb2; (try have : w.heap.size < w2.heap.size := by omega); (try have : w.heap.size + 1 < w2.heap.size := by omega); (try have : w.heap.size + 1 + 1 < w2.heap.size := by omega); (try have : w.heap.size + 1 + 1 + 1 < w2.heap.size := by omega); (try have : w1.heap.size < w2.heap.size := by omega); (try have : w1.heap.size + 1 < w2.heap.size := by omega); (try have : w1.heap.size + 1 + 1 < w2.heap.size := by omega); (try have : w1.heap.size + 1 + 1 + 1 < w2.heap.size := by omega)))) | fail
      all_goals
        go_wp2_with fail
        go_ret
        exact ⟨rfl, by (repeat' (first | (with_reducible exact Below.refl _ _) | (with_reducible assumption) | (with_reducible refine Below.drew ?_) | (with_reducible refine below_drewN ?_ _) | ((with_reducible refine Below.alloc ?_ ?_ _); rotate_left; focus (go_size; done)) | ((with_reducible refine Below.setCell ?_ ?_ _); rotate_left; focus (go_size; done)) | ((with_reducible refine Below.trans ?_ (Below.mono (by with_reducible assumption) ?_)); rotate_left; focus (go_size; done))))⟩
    · by_cases h1 : 18 < s
      · rw [dform_deep h1]
        have g3 : decide (s < 0) = false := by simp; omega
        generalize cmpN c B34 = cc at *
        generalize wd c 0 = x0 at *
        generalize wd c 1 = x1 at *
        clear hc hb
        generalize decide (c = 0) = zz at *
        go_enter Tryd.func46, Tryd.ntmps46
        go_wp2_with fail
        first | (go_region_held3 (fun w' => w'.cell? ⟨w.heap.size, 1, none⟩ = some (.int .u64 x1) ∧ w'.cell? ⟨w.heap.size, 2, none⟩ = some (.int .u64 x0) ∧ w'.cell? ⟨w.heap.size, 3, none⟩ = some (.int .i64 s)) (first | (first | (go_keep; done) | (simp [go_sem]; done) | ((try dsimp only); (repeat' apply And.intro) <;> (first | (with_reducible assumption) | ((rw [World.cell?_alloc_lt _ _ _ (by show _ < _; omega)]); go_split_ands; (first | with_reducible assumption | (refine (World.cell?_alloc_lt _ _ _ (by show _ < _; omega)).symm.trans ?_; with_reducible assumption))) | ((rw [World.cell?_setCell_other _ _ _ _ (by intro e; injection e; omega)]); with_reducible assumption) | (go_keep; done) | (simp [go_sem]; done) | (simp (disch := go_size) [*, World.cell?_alloc_some, World.cell?_setCell_far]; done))))) (first | ((go_at_call 57; with_reducible refine (HB.out _).mono ?_); rintro _ w1 ⟨rfl, hb1⟩; have hb1s := hb1.size; (try simp only [World.size_alloc, World.size_setCell, World.size_drew, World.heap_drewN] at hb1s); obtain ⟨hb1c, hb1f⟩ := bcell hb1; (try have : w.heap.size < w1.heap.size := by omega); (try have : w.heap.size + 1 < w1.heap.size := by omega); (try have : w.heap.size + 1 + 1 < w1.heap.size := by omega); (try have : w.heap.size + 1 + 1 + 1 < w1.heap.size := by omega)) | ((go_at_call 56; with_reducible refine (HC.out _).mono ?_); rintro _ w2 ⟨rfl, hb2⟩; have hb2s := hb2.size; (try simp only [World.size_alloc, World.size_setCell, World.size_drew, World.heap_drewN] at hb2s); obtain ⟨hb2c, hb2f⟩ := bcell hb2; (try have : w.heap.size < w2.heap.size := by omega); (try have : w.heap.size + 1 < w2.heap.size := by omega); (try have : w.heap.size + 1 + 1 < w2.heap.size := by omega); (try have : w.heap.size + 1 + 1 + 1 < w2.heap.size := by omega); (try have : w1.heap.size < w2.heap.size := by omega); (try have : w1.heap.size + 1 < w2.heap.size := by omega); (try have : w1.heap.size + 1 + 1 < w2.heap.size := by omega); (try have : w1.heap.size + 1 + 1 + 1 < w2.heap.size := by omega)))) | fail
        all_goals
          go_wp2_with fail
          go_ret
          exact ⟨rfl, by (repeat' (first | (with_reducible exact Below.refl _ _) | (with_reducible assumption) | (with_reducible refine Below.drew ?_) | (with_reducible refine below_drewN ?_ _) | ((with_reducible refine Below.alloc ?_ ?_ _); rotate_left; focus (go_size; done)) | ((with_reducible refine Below.setCell ?_ ?_ _); rotate_left; focus (go_size; done)) | ((with_reducible refine Below.trans ?_ (Below.mono (by with_reducible assumption) ?_)); rotate_left; focus (go_size; done))))⟩
      · rw [dform_in hb (by omega) (by omega)]
        have g3 : decide (s < 0) = false := by simp; omega
        have g4 : decide (18 < s) = false := by simp; omega
        by_cases hz : c = 0
        · rw [if_pos hz]
          rw [decide_eq_true hz] at HZ
          have g2 : (s == 0) = decide (s = 0) := by rw [Bool.eq_iff_iff]; simp
          generalize cmpN c B34 = cc at *
          generalize wd c 0 = x0 at *
          generalize wd c 1 = x1 at *
          clear hc hb
          generalize decide (s = 0) = sz at *
          clear hz
          cases b
          · go_enter Tryd.func46, Tryd.ntmps46
            go_wp2_with fail
            first | (go_region_held3 (fun w' => w'.cell? ⟨w.heap.size, 1, none⟩ = some (.int .u64 x1) ∧ w'.cell? ⟨w.heap.size, 2, none⟩ = some (.int .u64 x0) ∧ w'.cell? ⟨w.heap.size, 3, none⟩ = some (.int .i64 s)) (first | (first | (go_keep; done) | (simp [go_sem]; done) | ((try dsimp only); (repeat' apply And.intro) <;> (first | (with_reducible assumption) | ((rw [World.cell?_alloc_lt _ _ _ (by show _ < _; omega)]); go_split_ands; (first | with_reducible assumption | (refine (World.cell?_alloc_lt _ _ _ (by show _ < _; omega)).symm.trans ?_; with_reducible assumption))) | ((rw [World.cell?_setCell_other _ _ _ _ (by intro e; injection e; omega)]); with_reducible assumption) | (go_keep; done) | (simp [go_sem]; done) | (simp (disch := go_size) [*, World.cell?_alloc_some, World.cell?_setCell_far]; done))))) (first | ((go_at_call 57; with_reducible refine (HB.out _).mono ?_); rintro _ w1 ⟨rfl, hb1⟩; have hb1s := hb1.size; (try simp only [World.size_alloc, World.size_setCell, World.size_drew, World.heap_drewN] at hb1s); obtain ⟨hb1c, hb1f⟩ := bcell hb1; (try have : w.heap.size < w1.heap.size := by omega); (try have : w.heap.size + 1 < w1.heap.size := by omega); (try have : w.heap.size + 1 + 1 < w1.heap.size := by omega); (try have : w.heap.size + 1 + 1 + 1 < w1.heap.size := by omega)) | ((go_at_call 56; with_reducible refine (HC.out _).mono ?_); rintro _ w2 ⟨rfl, hb2⟩; have hb2s := hb2.size; (try simp only [World.size_alloc, World.size_setCell, World.size_drew, World.heap_drewN] at hb2s); obtain ⟨hb2c, hb2f⟩ := bcell hb2; (try have : w.heap.size < w2.heap.size := by omega); (try have : w.heap.size + 1 < w2.heap.size := by omega); (try have : w.heap.size + 1 + 1 < w2.heap.size := by omega); (try have : w.heap.size + 1 + 1 + 1 < w2.heap.size := by omega); (try have : w1.heap.size < w2.heap.size := by omega); (try have : w1.heap.size + 1 < w2.heap.size := by omega); (try have : w1.heap.size + 1 + 1 < w2.heap.size := by omega); (try have : w1.heap.size + 1 + 1 + 1 < w2.heap.size := by omega)))) | fail
            all_goals
              go_wp2_with ((go_at_call 70; with_reducible refine (HZ.out _).mono ?_); rintro _ w3 ⟨rfl, hb3⟩; have hb3s := hb3.size; (try simp only [World.size_alloc, World.size_setCell, World.size_drew, World.heap_drewN] at hb3s); obtain ⟨hb3c, hb3f⟩ := bcell hb3; (try have : w.heap.size < w3.heap.size := by omega); (try have : w.heap.size + 1 < w3.heap.size := by omega); (try have : w.heap.size + 1 + 1 < w3.heap.size := by omega); (try have : w.heap.size + 1 + 1 + 1 < w3.heap.size := by omega); (try have : w1.heap.size < w3.heap.size := by omega); (try have : w1.heap.size + 1 < w3.heap.size := by omega); (try have : w1.heap.size + 1 + 1 < w3.heap.size := by omega); (try have : w1.heap.size + 1 + 1 + 1 < w3.heap.size := by omega); (try have : w2.heap.size < w3.heap.size := by omega); (try have : w2.heap.size + 1 < w3.heap.size := by omega); (try have : w2.heap.size + 1 + 1 < w3.heap.size := by omega); (try have : w2.heap.size + 1 + 1 + 1 < w3.heap.size := by omega))
              go_ret
              exact ⟨by simp, by (repeat' (first | (with_reducible exact Below.refl _ _) | (with_reducible assumption) | (with_reducible refine Below.drew ?_) | (with_reducible refine below_drewN ?_ _) | ((with_reducible refine Below.alloc ?_ ?_ _); rotate_left; focus (go_size; done)) | ((with_reducible refine Below.setCell ?_ ?_ _); rotate_left; focus (go_size; done)) | ((with_reducible refine Below.trans ?_ (Below.mono (by with_reducible assumption) ?_)); rotate_left; focus (go_size; done))))⟩
          · go_enter Tryd.func46, Tryd.ntmps46
            go_wp2_with fail
            first | (go_region_held3 (fun w' => w'.cell? ⟨w.heap.size, 1, none⟩ = some (.int .u64 x1) ∧ w'.cell? ⟨w.heap.size, 2, none⟩ = some (.int .u64 x0) ∧ w'.cell? ⟨w.heap.size, 3, none⟩ = some (.int .i64 s)) (first | (first | (go_keep; done) | (simp [go_sem]; done) | ((try dsimp only); (repeat' apply And.intro) <;> (first | (with_reducible assumption) | ((rw [World.cell?_alloc_lt _ _ _ (by show _ < _; omega)]); go_split_ands; (first | with_reducible assumption | (refine (World.cell?_alloc_lt _ _ _ (by show _ < _; omega)).symm.trans ?_; with_reducible assumption))) | ((rw [World.cell?_setCell_other _ _ _ _ (by intro e; injection e; omega)]); with_reducible assumption) | (go_keep; done) | (simp [go_sem]; done) | (simp (disch := go_size) [*, World.cell?_alloc_some, World.cell?_setCell_far]; done))))) (first | ((go_at_call 57; with_reducible refine (HB.out _).mono ?_); rintro _ w1 ⟨rfl, hb1⟩; have hb1s := hb1.size; (try simp only [World.size_alloc, World.size_setCell, World.size_drew, World.heap_drewN] at hb1s); obtain ⟨hb1c, hb1f⟩ := bcell hb1; (try have : w.heap.size < w1.heap.size := by omega); (try have : w.heap.size + 1 < w1.heap.size := by omega); (try have : w.heap.size + 1 + 1 < w1.heap.size := by omega); (try have : w.heap.size + 1 + 1 + 1 < w1.heap.size := by omega)) | ((go_at_call 56; with_reducible refine (HC.out _).mono ?_); rintro _ w2 ⟨rfl, hb2⟩; have hb2s := hb2.size; (try simp only [World.size_alloc, World.size_setCell, World.size_drew, World.heap_drewN] at hb2s); obtain ⟨hb2c, hb2f⟩ := bcell hb2; (try have : w.heap.size < w2.heap.size := by omega); (try have : w.heap.size + 1 < w2.heap.size := by omega); (try have : w.heap.size + 1 + 1 < w2.heap.size := by omega); (try have : w.heap.size + 1 + 1 + 1 < w2.heap.size := by omega); (try have : w1.heap.size < w2.heap.size := by omega); (try have : w1.heap.size + 1 < w2.heap.size := by omega); (try have : w1.heap.size + 1 + 1 < w2.heap.size := by omega); (try have : w1.heap.size + 1 + 1 + 1 < w2.heap.size := by omega)))) | fail
            all_goals
              go_wp2_with ((go_at_call 70; with_reducible refine (HZ.out _).mono ?_); rintro _ w3 ⟨rfl, hb3⟩; have hb3s := hb3.size; (try simp only [World.size_alloc, World.size_setCell, World.size_drew, World.heap_drewN] at hb3s); obtain ⟨hb3c, hb3f⟩ := bcell hb3; (try have : w.heap.size < w3.heap.size := by omega); (try have : w.heap.size + 1 < w3.heap.size := by omega); (try have : w.heap.size + 1 + 1 < w3.heap.size := by omega); (try have : w.heap.size + 1 + 1 + 1 < w3.heap.size := by omega); (try have : w1.heap.size < w3.heap.size := by omega); (try have : w1.heap.size + 1 < w3.heap.size := by omega); (try have : w1.heap.size + 1 + 1 < w3.heap.size := by omega); (try have : w1.heap.size + 1 + 1 + 1 < w3.heap.size := by omega); (try have : w2.heap.size < w3.heap.size := by omega); (try have : w2.heap.size + 1 < w3.heap.size := by omega); (try have : w2.heap.size + 1 + 1 < w3.heap.size := by omega); (try have : w2.heap.size + 1 + 1 + 1 < w3.heap.size := by omega))
              go_ret
              exact ⟨by simp, by (repeat' (first | (with_reducible exact Below.refl _ _) | (with_reducible assumption) | (with_reducible refine Below.drew ?_) | (with_reducible refine below_drewN ?_ _) | ((with_reducible refine Below.alloc ?_ ?_ _); rotate_left; focus (go_size; done)) | ((with_reducible refine Below.setCell ?_ ?_ _); rotate_left; focus (go_size; done)) | ((with_reducible refine Below.trans ?_ (Below.mono (by with_reducible assumption) ?_)); rotate_left; focus (go_size; done))))⟩
        · rw [if_neg hz]
          rw [decide_eq_false hz] at HZ
          obtain ⟨T, k, ht⟩ := tz_upto c 34 hz hb
          have HT := Lib.hid (fun W => trim_any c T k hc ht W)
          have hk : decide (c % 10 ≠ 0) = decide ((k : Int) = 0) := by
            rw [Bool.eq_iff_iff]
            simp only [decide_eq_true_eq]
            constructor
            · intro h
              rcases Nat.eq_zero_or_pos k with h0 | h0
              · omega
              · exact absurd (by have := ht.mod_lt (t := 0) h0; rwa [Nat.pow_zero, Nat.div_one] at this) h
            · intro h
              obtain rfl : k = 0 := by omega
              have := ht.2
              have e := ht.1
              rw [Nat.pow_zero, Nat.mul_one] at e
              rw [e]; exact this
          rw [hk]
          have k0 : (0 : Int) ≤ (k : Int) := by omega
          generalize cmpN c B34 = cc at *
          generalize wd c 0 = x0 at *
          generalize wd c 1 = x1 at *
          clear hc hb
          generalize wd T 0 = y0 at *
          generalize wd T 1 = y1 at *
          clear hz ht hk
          by_cases hs : s = 0
          · have g2 : (s == 0) = true := by simpa using hs
            rw [decide_eq_true hs]
            have HS := Lib.hid hs
            clear hs
            go_enter Tryd.func46, Tryd.ntmps46
            go_wp2_with fail
            first | (go_region_held3 (fun w' => w'.cell? ⟨w.heap.size, 1, none⟩ = some (.int .u64 x1) ∧ w'.cell? ⟨w.heap.size, 2, none⟩ = some (.int .u64 x0) ∧ w'.cell? ⟨w.heap.size, 3, none⟩ = some (.int .i64 s)) (first | (first | (go_keep; done) | (simp [go_sem]; done) | ((try dsimp only); (repeat' apply And.intro) <;> (first | (with_reducible assumption) | ((rw [World.cell?_alloc_lt _ _ _ (by show _ < _; omega)]); go_split_ands; (first | with_reducible assumption | (refine (World.cell?_alloc_lt _ _ _ (by show _ < _; omega)).symm.trans ?_; with_reducible assumption))) | ((rw [World.cell?_setCell_other _ _ _ _ (by intro e; injection e; omega)]); with_reducible assumption) | (go_keep; done) | (simp [go_sem]; done) | (simp (disch := go_size) [*, World.cell?_alloc_some, World.cell?_setCell_far]; done))))) (first | ((go_at_call 57; with_reducible refine (HB.out _).mono ?_); rintro _ w1 ⟨rfl, hb1⟩; have hb1s := hb1.size; (try simp only [World.size_alloc, World.size_setCell, World.size_drew, World.heap_drewN] at hb1s); obtain ⟨hb1c, hb1f⟩ := bcell hb1; (try have : w.heap.size < w1.heap.size := by omega); (try have : w.heap.size + 1 < w1.heap.size := by omega); (try have : w.heap.size + 1 + 1 < w1.heap.size := by omega); (try have : w.heap.size + 1 + 1 + 1 < w1.heap.size := by omega)) | ((go_at_call 56; with_reducible refine (HC.out _).mono ?_); rintro _ w2 ⟨rfl, hb2⟩; have hb2s := hb2.size; (try simp only [World.size_alloc, World.size_setCell, World.size_drew, World.heap_drewN] at hb2s); obtain ⟨hb2c, hb2f⟩ := bcell hb2; (try have : w.heap.size < w2.heap.size := by omega); (try have : w.heap.size + 1 < w2.heap.size := by omega); (try have : w.heap.size + 1 + 1 < w2.heap.size := by omega); (try have : w.heap.size + 1 + 1 + 1 < w2.heap.size := by omega); (try have : w1.heap.size < w2.heap.size := by omega); (try have : w1.heap.size + 1 < w2.heap.size := by omega); (try have : w1.heap.size + 1 + 1 < w2.heap.size := by omega); (try have : w1.heap.size + 1 + 1 + 1 < w2.heap.size := by omega)))) | fail
            all_goals
              go_wp2_with (first | ((go_at_call 70; with_reducible refine (HZ.out _).mono ?_); rintro _ w3 ⟨rfl, hb3⟩; have hb3s := hb3.size; (try simp only [World.size_alloc, World.size_setCell, World.size_drew, World.heap_drewN] at hb3s); obtain ⟨hb3c, hb3f⟩ := bcell hb3; (try have : w.heap.size < w3.heap.size := by omega); (try have : w.heap.size + 1 < w3.heap.size := by omega); (try have : w.heap.size + 1 + 1 < w3.heap.size := by omega); (try have : w.heap.size + 1 + 1 + 1 < w3.heap.size := by omega); (try have : w1.heap.size < w3.heap.size := by omega); (try have : w1.heap.size + 1 < w3.heap.size := by omega); (try have : w1.heap.size + 1 + 1 < w3.heap.size := by omega); (try have : w1.heap.size + 1 + 1 + 1 < w3.heap.size := by omega); (try have : w2.heap.size < w3.heap.size := by omega); (try have : w2.heap.size + 1 < w3.heap.size := by omega); (try have : w2.heap.size + 1 + 1 < w3.heap.size := by omega); (try have : w2.heap.size + 1 + 1 + 1 < w3.heap.size := by omega)) | ((go_at_call 71; with_reducible refine (HT.out _).mono ?_); rintro _ w4 ⟨rfl, hb4⟩; have hb4s := hb4.size; (try simp only [World.size_alloc, World.size_setCell, World.size_drew, World.heap_drewN] at hb4s); obtain ⟨hb4c, hb4f⟩ := bcell hb4; (try have : w.heap.size < w4.heap.size := by omega); (try have : w.heap.size + 1 < w4.heap.size := by omega); (try have : w.heap.size + 1 + 1 < w4.heap.size := by omega); (try have : w.heap.size + 1 + 1 + 1 < w4.heap.size := by omega); (try have : w1.heap.size < w4.heap.size := by omega); (try have : w1.heap.size + 1 < w4.heap.size := by omega); (try have : w1.heap.size + 1 + 1 < w4.heap.size := by omega); (try have : w1.heap.size + 1 + 1 + 1 < w4.heap.size := by omega); (try have : w2.heap.size < w4.heap.size := by omega); (try have : w2.heap.size + 1 < w4.heap.size := by omega); (try have : w2.heap.size + 1 + 1 < w4.heap.size := by omega); (try have : w2.heap.size + 1 + 1 + 1 < w4.heap.size := by omega); (try have : w3.heap.size < w4.heap.size := by omega); (try have : w3.heap.size + 1 < w4.heap.size := by omega); (try have : w3.heap.size + 1 + 1 < w4.heap.size := by omega); (try have : w3.heap.size + 1 + 1 + 1 < w4.heap.size := by omega)))
              go_ret
              exact ⟨rfl, by (repeat' (first | (with_reducible exact Below.refl _ _) | (with_reducible assumption) | (with_reducible refine Below.drew ?_) | (with_reducible refine below_drewN ?_ _) | ((with_reducible refine Below.alloc ?_ ?_ _); rotate_left; focus (go_size; done)) | ((with_reducible refine Below.setCell ?_ ?_ _); rotate_left; focus (go_size; done)) | ((with_reducible refine Below.trans ?_ (Below.mono (by with_reducible assumption) ?_)); rotate_left; focus (go_size; done))))⟩
          · have g2 : (s == 0) = false := by simpa using hs
            rw [decide_eq_false hs]
            clear hs
            go_enter Tryd.func46, Tryd.ntmps46
            go_wp2_with fail
            first | (go_region_held3 (fun w' => w'.cell? ⟨w.heap.size, 1, none⟩ = some (.int .u64 x1) ∧ w'.cell? ⟨w.heap.size, 2, none⟩ = some (.int .u64 x0) ∧ w'.cell? ⟨w.heap.size, 3, none⟩ = some (.int .i64 s)) (first | (first | (go_keep; done) | (simp [go_sem]; done) | ((try dsimp only); (repeat' apply And.intro) <;> (first | (with_reducible assumption) | ((rw [World.cell?_alloc_lt _ _ _ (by show _ < _; omega)]); go_split_ands; (first | with_reducible assumption | (refine (World.cell?_alloc_lt _ _ _ (by show _ < _; omega)).symm.trans ?_; with_reducible assumption))) | ((rw [World.cell?_setCell_other _ _ _ _ (by intro e; injection e; omega)]); with_reducible assumption) | (go_keep; done) | (simp [go_sem]; done) | (simp (disch := go_size) [*, World.cell?_alloc_some, World.cell?_setCell_far]; done))))) (first | ((go_at_call 57; with_reducible refine (HB.out _).mono ?_); rintro _ w1 ⟨rfl, hb1⟩; have hb1s := hb1.size; (try simp only [World.size_alloc, World.size_setCell, World.size_drew, World.heap_drewN] at hb1s); obtain ⟨hb1c, hb1f⟩ := bcell hb1; (try have : w.heap.size < w1.heap.size := by omega); (try have : w.heap.size + 1 < w1.heap.size := by omega); (try have : w.heap.size + 1 + 1 < w1.heap.size := by omega); (try have : w.heap.size + 1 + 1 + 1 < w1.heap.size := by omega)) | ((go_at_call 56; with_reducible refine (HC.out _).mono ?_); rintro _ w2 ⟨rfl, hb2⟩; have hb2s := hb2.size; (try simp only [World.size_alloc, World.size_setCell, World.size_drew, World.heap_drewN] at hb2s); obtain ⟨hb2c, hb2f⟩ := bcell hb2; (try have : w.heap.size < w2.heap.size := by omega); (try have : w.heap.size + 1 < w2.heap.size := by omega); (try have : w.heap.size + 1 + 1 < w2.heap.size := by omega); (try have : w.heap.size + 1 + 1 + 1 < w2.heap.size := by omega); (try have : w1.heap.size < w2.heap.size := by omega); (try have : w1.heap.size + 1 < w2.heap.size := by omega); (try have : w1.heap.size + 1 + 1 < w2.heap.size := by omega); (try have : w1.heap.size + 1 + 1 + 1 < w2.heap.size := by omega)))) | fail
            all_goals
              go_wp2_with (first | ((go_at_call 70; with_reducible refine (HZ.out _).mono ?_); rintro _ w3 ⟨rfl, hb3⟩; have hb3s := hb3.size; (try simp only [World.size_alloc, World.size_setCell, World.size_drew, World.heap_drewN] at hb3s); obtain ⟨hb3c, hb3f⟩ := bcell hb3; (try have : w.heap.size < w3.heap.size := by omega); (try have : w.heap.size + 1 < w3.heap.size := by omega); (try have : w.heap.size + 1 + 1 < w3.heap.size := by omega); (try have : w.heap.size + 1 + 1 + 1 < w3.heap.size := by omega); (try have : w1.heap.size < w3.heap.size := by omega); (try have : w1.heap.size + 1 < w3.heap.size := by omega); (try have : w1.heap.size + 1 + 1 < w3.heap.size := by omega); (try have : w1.heap.size + 1 + 1 + 1 < w3.heap.size := by omega); (try have : w2.heap.size < w3.heap.size := by omega); (try have : w2.heap.size + 1 < w3.heap.size := by omega); (try have : w2.heap.size + 1 + 1 < w3.heap.size := by omega); (try have : w2.heap.size + 1 + 1 + 1 < w3.heap.size := by omega)) | ((go_at_call 71; with_reducible refine (HT.out _).mono ?_); rintro _ w4 ⟨rfl, hb4⟩; have hb4s := hb4.size; (try simp only [World.size_alloc, World.size_setCell, World.size_drew, World.heap_drewN] at hb4s); obtain ⟨hb4c, hb4f⟩ := bcell hb4; (try have : w.heap.size < w4.heap.size := by omega); (try have : w.heap.size + 1 < w4.heap.size := by omega); (try have : w.heap.size + 1 + 1 < w4.heap.size := by omega); (try have : w.heap.size + 1 + 1 + 1 < w4.heap.size := by omega); (try have : w1.heap.size < w4.heap.size := by omega); (try have : w1.heap.size + 1 < w4.heap.size := by omega); (try have : w1.heap.size + 1 + 1 < w4.heap.size := by omega); (try have : w1.heap.size + 1 + 1 + 1 < w4.heap.size := by omega); (try have : w2.heap.size < w4.heap.size := by omega); (try have : w2.heap.size + 1 < w4.heap.size := by omega); (try have : w2.heap.size + 1 + 1 < w4.heap.size := by omega); (try have : w2.heap.size + 1 + 1 + 1 < w4.heap.size := by omega); (try have : w3.heap.size < w4.heap.size := by omega); (try have : w3.heap.size + 1 < w4.heap.size := by omega); (try have : w3.heap.size + 1 + 1 < w4.heap.size := by omega); (try have : w3.heap.size + 1 + 1 + 1 < w4.heap.size := by omega)))
              go_ret
              exact ⟨ret_bool (by rw [Bool.eq_iff_iff]; simp), by (repeat' (first | (with_reducible exact Below.refl _ _) | (with_reducible assumption) | (with_reducible refine Below.drew ?_) | (with_reducible refine below_drewN ?_ _) | ((with_reducible refine Below.alloc ?_ ?_ _); rotate_left; focus (go_size; done)) | ((with_reducible refine Below.setCell ?_ ?_ _); rotate_left; focus (go_size; done)) | ((with_reducible refine Below.trans ?_ (Below.mono (by with_reducible assumption) ?_)); rotate_left; focus (go_size; done))))⟩
  · have g1 := cmp_bound' hb
    have g1' : decide (0 ≤ cmpN c B34) = true := by simp; omega
    rw [dform_hi hb]
    generalize cmpN c B34 = cc at *
    generalize wd c 0 = x0 at *
    generalize wd c 1 = x1 at *
    clear hc hb
    generalize decide (c = 0) = zz at *
    go_enter Tryd.func46, Tryd.ntmps46
    go_wp2_with fail
    first | (go_region_with (first | ((go_at_call 57; with_reducible refine (HB.out _).mono ?_); rintro _ w1 ⟨rfl, hb1⟩; have hb1s := hb1.size; (try simp only [World.size_alloc, World.size_setCell, World.size_drew, World.heap_drewN] at hb1s); obtain ⟨hb1c, hb1f⟩ := bcell hb1; (try have : w.heap.size < w1.heap.size := by omega); (try have : w.heap.size + 1 < w1.heap.size := by omega); (try have : w.heap.size + 1 + 1 < w1.heap.size := by omega); (try have : w.heap.size + 1 + 1 + 1 < w1.heap.size := by omega)) | ((go_at_call 56; with_reducible refine (HC.out _).mono ?_); rintro _ w2 ⟨rfl, hb2⟩; have hb2s := hb2.size; (try simp only [World.size_alloc, World.size_setCell, World.size_drew, World.heap_drewN] at hb2s); obtain ⟨hb2c, hb2f⟩ := bcell hb2; (try have : w.heap.size < w2.heap.size := by omega); (try have : w.heap.size + 1 < w2.heap.size := by omega); (try have : w.heap.size + 1 + 1 < w2.heap.size := by omega); (try have : w.heap.size + 1 + 1 + 1 < w2.heap.size := by omega); (try have : w1.heap.size < w2.heap.size := by omega); (try have : w1.heap.size + 1 < w2.heap.size := by omega); (try have : w1.heap.size + 1 + 1 < w2.heap.size := by omega); (try have : w1.heap.size + 1 + 1 + 1 < w2.heap.size := by omega)))) | fail
    all_goals
      go_wp2_with fail
      go_ret
      exact ⟨rfl, by (repeat' (first | (with_reducible exact Below.refl _ _) | (with_reducible assumption) | (with_reducible refine Below.drew ?_) | (with_reducible refine below_drewN ?_ _) | ((with_reducible refine Below.alloc ?_ ?_ _); rotate_left; focus (go_size; done)) | ((with_reducible refine Below.setCell ?_ ?_ _); rotate_left; focus (go_size; done)) | ((with_reducible refine Below.trans ?_ (Below.mono (by with_reducible assumption) ?_)); rotate_left; focus (go_size; done))))⟩
end Go.Proofs.YtogpbcllbbpgbaaDoor

set_option linter.unusedSimpArgs false
set_option linter.unusedVariables false
namespace Go.Proofs.YtogpbcllbbpgbaaDoor
open Go.RowKit

theorem len_34 {l : List Int} {n : Nat} (h : IsDg l n) : l.length ≤ 34 ↔ n < B34 := ⟨fun hl => h.lt_of_len hl, fun hn => h.len_le hn⟩
theorem B34_small {n : Nat} (h : n < B34) : Tiny n := lt_128_tiny (Nat.lt_trans h B34_lt)
set_option maxHeartbeats 4000000 in
theorem make1_any (neg : Bool) (n s : Nat) (v : Value) (w : World) (hv : Dg w v n) (hn : n < B34) (hs : s ≤ 1000) : Calls Tryd.prog 12 #[.bool neg, v, .int .i64 s] w fun e w' => e = .returned (.agg #[.bool (sg neg (stripC n s)), .int .u64 (wd ((stripC n s)) 1), .int .u64 (wd ((stripC n s)) 0), .int .i64 (stripS n s)]) ∧ Below w.heap.size w w' := by
  have HB := B34_small hn
  by_cases h0 : n = 0
  · have e1 : stripC n s = 0 := stripC_zero.2 h0
    have e2 : stripS n s = 0 := by rw [h0]; exact (strip_nil s).2
    rw [e1, e2, wd_zero, wd_zero, sg_zero]
    obtain ⟨A, k, c, rfl, hk, hkc⟩ := dg_len hv
    obtain rfl : k = 0 := hk.2 h0
    clear hk hv h0 hn HB e1 e2
    go_enter Tryd.func12, Tryd.ntmps12
    go_wp2_with fail
    refine bodyPost_ret (by simp [results, Tryd.results12, go_sem, *]; try rfl) rfl ?_
    exact ⟨rfl, by (repeat' (first | (with_reducible exact Below.refl _ _) | (with_reducible assumption) | (with_reducible refine Below.drew ?_) | (with_reducible refine below_drewN ?_ _) | ((with_reducible refine Below.alloc ?_ ?_ _); rotate_left; focus (go_size; done)) | ((with_reducible refine Below.setCell ?_ ?_ _); rotate_left; focus (go_size; done)) | ((with_reducible refine Below.trans ?_ (Below.mono (by with_reducible assumption) ?_)); rotate_left; focus (go_size; done))))⟩
  · have hne : sg neg (stripC n s) = neg := sg_pos (fun e => h0 (stripC_zero.1 e))
    rw [hne]
    obtain ⟨C, hC⟩ : ∃ C, C = stripC n s := ⟨_, rfl⟩
    obtain ⟨S, hS⟩ : ∃ S, S = stripS n s := ⟨_, rfl⟩
    rw [← hC, ← hS]
    have EC := Far.mk hC
    have ES := Far.mk hS
    obtain ⟨A, k, c, rfl, hk, hkc⟩ := dg_len hv
    have hk0 : ((k : Int) == 0) = false := by simp; omega
    have hkp : (0 : Int) < (k : Int) := by omega
    have HV := Lib.hid hv
    have HH0 := Lib.hid h0
    have HN := Far.mk hn
    clear hC hS hv hn hne h0 hk
    go_enter Tryd.func12, Tryd.ntmps12
    go_wp2_with fail
    clear hkp hk0
    go_loopg [1, 2] s (fun kk v sv wr => ∃ m : Nat, sv = .int .i64 (kk : Int) ∧ kk ≤ 1000 ∧ Hid (m ≠ 0) ∧ Far (m < B34) ∧ Far (C = stripC m kk ∧ S = stripS m kk) ∧ Dg wr v m ∧ Bk wr w.heap.size 26 [.bool false, .int .u64 0, .int .u64 0, .int .i64 0] ∧ Below w.heap.size w wr)
    case atStart => exact ⟨n, rfl, hs, HH0, HN, Far.mk ⟨EC.out, ES.out⟩, HV.out.below (by (repeat' (first | (with_reducible exact Below.refl _ _) | (with_reducible assumption) | (with_reducible refine Below.drew ?_) | (with_reducible refine below_drewN ?_ _) | ((with_reducible refine Below.alloc ?_ ?_ _); rotate_left; focus (go_size; done)) | ((with_reducible refine Below.setCell ?_ ?_ _); rotate_left; focus (go_size; done)) | ((with_reducible refine Below.trans ?_ (Below.mono (by with_reducible assumption) ?_)); rotate_left; focus (go_size; done))))), by (repeat (first | (with_reducible assumption) | ((with_reducible refine Bk.new_ ?_); (first | rfl | (simp only [World.size_alloc, World.size_setCell, World.size_drew, World.heap_drewN]; done))) | (with_reducible refine Bk.alloc ?_ _) | (with_reducible refine Bk.drew ?_) | (with_reducible refine Bk.drewN ?_ _) | ((with_reducible refine Bk.far ?_ ?_ _); rotate_left; focus (simp only []; omega)) | ((with_reducible refine Bk.below ?_ (by with_reducible assumption) ?_); rotate_left; focus (go_size; done)))), by (repeat' (first | (with_reducible exact Below.refl _ _) | (with_reducible assumption) | (with_reducible refine Below.drew ?_) | (with_reducible refine below_drewN ?_ _) | ((with_reducible refine Below.alloc ?_ ?_ _); rotate_left; focus (go_size; done)) | ((with_reducible refine Below.setCell ?_ ?_ _); rotate_left; focus (go_size; done)) | ((with_reducible refine Below.trans ?_ (Below.mono (by with_reducible assumption) ?_)); rotate_left; focus (go_size; done))))⟩
    case round =>
      obtain ⟨m, rfl, hk1, hm0, hmb, hcs, hdg, b0, hbel⟩ := hrel
      have HB0 := Lib.hid b0
      have l0 := b0.lt
      obtain ⟨xs, ⟨A, c, rfl, hc, hs⟩, hd⟩ := hdg
      have hlen : xs.length ≤ 34 := (len_34 hd).2 hmb.out
      have hpos : 0 < xs.length := Nat.pos_of_ne_zero (fun e => hm0.out (hd.zero_iff.1 e))
      obtain ⟨g, o, rfl, hg, hcell⟩ := hs.at_ (k := 0) hpos
      have hdig := dval_digit hd.1 0 hpos
      rw [hd.2.2, Int.pow_zero, Int.ediv_one] at hdig
      have hdig2 : xs.getD 0 0 = ((m % 10 : Nat) : Int) := by rw [hdig]; rfl
      rw [hdig2, Nat.add_zero] at hcell
      have hl0 : (0 : Int) < (xs.length : Int) := by omega
      have HS := Lib.hid hs
      have HD := Lib.hid hd
      have HC := Lib.hid hc
      clear hs hd hdig hdig2 b0 hc
      by_cases hz : gk = 0
      · subst hz
        have hm10 : Far (C = m ∧ S = 0) := hcs
        have ht := hm10.out
        have HT := Lib.hid (fun W h => to_any m (.slice (some ⟨g, o, none⟩) xs.length c) W h (B34_small hmb.out).small)
        unfold RetWide at HT
        rw [Nat.mod_eq_of_lt (Nat.lt_trans (Nat.lt_trans hmb.out B34_lt) (by decide))] at HT
        generalize decide (m < 2 ^ 128) = fr at *
        have HDG : Hid (Dg wr (.slice (some ⟨g, o, none⟩) xs.length c) m) := Lib.hid ⟨xs, ⟨_, c, rfl, HC.out, HS.out⟩, HD.out⟩
        have hng : ¬ (0 : Int) < ((0 : Nat) : Int) := by omega
        clear ht
        go_wp2_with fail
        refine (HT.out _ HDG.out).mono ?_
        rintro _ w2 ⟨rfl, hb2⟩; have hb2s := hb2.size; (try simp only [World.size_alloc, World.size_setCell, World.size_drew, World.heap_drewN] at hb2s); obtain ⟨hb2c, hb2f⟩ := bcell hb2; (try have : w.heap.size < w2.heap.size := by omega); (try have : w.heap.size + 1 < w2.heap.size := by omega); (try have : w.heap.size + 1 + 1 < w2.heap.size := by omega); (try have : w.heap.size + 1 + 1 + 1 < w2.heap.size := by omega)
        have b0 := HB0.out
        have k0 : Bk w2 w.heap.size 26 [.bool false, .int .u64 0, .int .u64 0, .int .i64 0] := by (repeat (first | (with_reducible assumption) | ((with_reducible refine Bk.new_ ?_); (first | rfl | (simp only [World.size_alloc, World.size_setCell, World.size_drew, World.heap_drewN]; done))) | (with_reducible refine Bk.alloc ?_ _) | (with_reducible refine Bk.drew ?_) | (with_reducible refine Bk.drewN ?_ _) | ((with_reducible refine Bk.far ?_ ?_ _); rotate_left; focus (simp only []; omega)) | ((with_reducible refine Bk.below ?_ (by with_reducible assumption) ?_); rotate_left; focus (go_size; done))))
        have k_0 := k0.cell 0 rfl
        have k_1 := k0.cell 1 rfl
        have k_2 := k0.cell 2 rfl
        have k_3 := k0.cell 3 rfl
        have k_4 := k0.frozen 0
        have k_5 := k0.frozen 1
        have k_6 := k0.frozen 2
        have k_7 := k0.frozen 3
        have k0l := k0.lt
        clear b0 k0 hb2c hb2f
        go_wp2_with fail
        refine bodyPost_ret (by simp [results, Tryd.results12, go_sem, *]; try rfl) rfl ?_
        obtain ⟨e1, e2⟩ := hm10.out
        exact ⟨by rw [e1, e2]; rfl, by (repeat' (first | (with_reducible exact Below.refl _ _) | (with_reducible assumption) | (with_reducible refine Below.drew ?_) | (with_reducible refine below_drewN ?_ _) | ((with_reducible refine Below.alloc ?_ ?_ _); rotate_left; focus (go_size; done)) | ((with_reducible refine Below.setCell ?_ ?_ _); rotate_left; focus (go_size; done)) | ((with_reducible refine Below.trans ?_ (Below.mono (by with_reducible assumption) ?_)); rotate_left; focus (go_size; done))))⟩
      · obtain ⟨j, rfl⟩ : ∃ j, gk = j + 1 := ⟨gk - 1, by omega⟩
        have hj : (0 : Int) < ((j + 1 : Nat) : Int) := by omega
        by_cases hd10 : m % 10 = 0
        · have hcs' : Far (C = stripC (m / 10) j ∧ S = stripS (m / 10) j) := Far.mk (by
            obtain ⟨e1, e2⟩ := hcs.out
            rw [e1, e2]; exact strip_yes hd10 j)
          rw [hd10] at hcell
          obtain ⟨hdd, _⟩ := HD.out.drop_zeros 1 hpos (by
            intro t ht
            obtain rfl : t = 0 := by omega
            have := dval_digit HD.out.1 0 hpos
            rw [HD.out.2.2, Int.pow_zero, Int.ediv_one] at this
            rw [this]; omega)
          have hm1 : m / 10 ≠ 0 := by have := hm0.out; omega
          have hlen2 : 1 < xs.length := by
            rcases Nat.lt_or_ge 1 xs.length with h | h
            · exact h
            · have := HD.out.lt_of_len (k := 1) h
              omega
          have hsl : IsSl wr (.slice (some ⟨g, o + 1, none⟩) (xs.length - 1) (c - 1)) (xs.drop 1) := sl_drop HS.out hlen2 HC.out
          have HDG : Hid (Dg wr (.slice (some ⟨g, o + 1, none⟩) (xs.length - 1) (c - 1)) (m / 10)) := Lib.hid ⟨_, hsl, by rw [Nat.pow_one] at hdd; exact hdd⟩
          have hc1 : (1 : Int) ≤ (c : Int) := by have := HC.out; omega
          have hcne : ¬ c = 1 := by have := HC.out; omega
          have hl1 : (1 : Int) ≤ (xs.length : Int) := by omega
          have hmb' : Far (m / 10 < B34) := Far.mk (by have := hmb.out; omega)
          have HM1 := Lib.hid hm1
          clear hdd hsl hm1 hd10 hcs hmb hm0
          go_wp2_with fail
          go_roundg j
          case measure => omega
          case rel =>
            refine ⟨m / 10, ?_, by omega, HM1, hmb', hcs', ?_, HB0.out, hbel⟩
            · congr 1
            · exact HDG.out
        · have hm10 : Far (C = m ∧ S = j + 1) := Far.mk (by
            obtain ⟨e1, e2⟩ := hcs.out
            rw [e1, e2]; exact strip_no hd10 (j + 1))
          have hne : ((((m % 10 : Nat) : Int)) == 0) = false := by simp; omega
          obtain ⟨d, hdd⟩ : ∃ d : Int, d = ((m % 10 : Nat) : Int) := ⟨_, rfl⟩
          rw [← hdd] at hcell hne
          have HT := Lib.hid (fun W h => to_any m (.slice (some ⟨g, o, none⟩) xs.length c) W h (B34_small hmb.out).small)
          unfold RetWide at HT
          rw [Nat.mod_eq_of_lt (Nat.lt_trans (Nat.lt_trans hmb.out B34_lt) (by decide))] at HT
          generalize decide (m < 2 ^ 128) = fr at *
          have HDG : Hid (Dg wr (.slice (some ⟨g, o, none⟩) xs.length c) m) := Lib.hid ⟨xs, ⟨_, c, rfl, HC.out, HS.out⟩, HD.out⟩
          clear hdd hd10 hcs
          go_wp2_with fail
          refine (HT.out _ HDG.out).mono ?_
          rintro _ w2 ⟨rfl, hb2⟩; have hb2s := hb2.size; (try simp only [World.size_alloc, World.size_setCell, World.size_drew, World.heap_drewN] at hb2s); obtain ⟨hb2c, hb2f⟩ := bcell hb2; (try have : w.heap.size < w2.heap.size := by omega); (try have : w.heap.size + 1 < w2.heap.size := by omega); (try have : w.heap.size + 1 + 1 < w2.heap.size := by omega); (try have : w.heap.size + 1 + 1 + 1 < w2.heap.size := by omega)
          have b0 := HB0.out
          have k0 : Bk w2 w.heap.size 26 [.bool false, .int .u64 0, .int .u64 0, .int .i64 0] := by (repeat (first | (with_reducible assumption) | ((with_reducible refine Bk.new_ ?_); (first | rfl | (simp only [World.size_alloc, World.size_setCell, World.size_drew, World.heap_drewN]; done))) | (with_reducible refine Bk.alloc ?_ _) | (with_reducible refine Bk.drew ?_) | (with_reducible refine Bk.drewN ?_ _) | ((with_reducible refine Bk.far ?_ ?_ _); rotate_left; focus (simp only []; omega)) | ((with_reducible refine Bk.below ?_ (by with_reducible assumption) ?_); rotate_left; focus (go_size; done))))
          have k_0 := k0.cell 0 rfl
          have k_1 := k0.cell 1 rfl
          have k_2 := k0.cell 2 rfl
          have k_3 := k0.cell 3 rfl
          have k_4 := k0.frozen 0
          have k_5 := k0.frozen 1
          have k_6 := k0.frozen 2
          have k_7 := k0.frozen 3
          have k0l := k0.lt
          clear b0 k0 hb2c hb2f
          go_wp2_with fail
          refine bodyPost_ret (by simp [results, Tryd.results12, go_sem, *]; try rfl) rfl ?_
          obtain ⟨e1, e2⟩ := hm10.out
          exact ⟨by rw [e1, e2]; first | rfl | (congr; omega), by (repeat' (first | (with_reducible exact Below.refl _ _) | (with_reducible assumption) | (with_reducible refine Below.drew ?_) | (with_reducible refine below_drewN ?_ _) | ((with_reducible refine Below.alloc ?_ ?_ _); rotate_left; focus (go_size; done)) | ((with_reducible refine Below.setCell ?_ ?_ _); rotate_left; focus (go_size; done)) | ((with_reducible refine Below.trans ?_ (Below.mono (by with_reducible assumption) ?_)); rotate_left; focus (go_size; done))))⟩
end Go.Proofs.YtogpbcllbbpgbaaDoor

set_option linter.unusedSimpArgs false
set_option linter.unusedVariables false
namespace Go.Proofs.YtogpbcllbbpgbaaDoor
open Go.RowKit

theorem nd_len {l : List Int} {N L : Nat} (h : IsDg l N) (hL : IsNd N L) : L = max l.length 1 := hL.uniq (nd_of_dg h)
theorem digit_slice (d : Int) (h0 : 0 ≤ d) (h9 : d ≤ 9) (W : World) :
    (Instr.slice 9 (.string ⟨#[48, 49, 50, 51, 52, 53, 54, 55, 56, 57]⟩) (some (.int .i64 d)) (some (.int .i64 (d + 1))) none).run Tryd.prog W = .ok (.string ⟨#[UInt8.ofNat (48 + d.toNat)]⟩) W := by
  have e0 : (Instr.slice 9 (.string ⟨#[48, 49, 50, 51, 52, 53, 54, 55, 56, 57]⟩) (some (.int .i64 0)) (some (.int .i64 1)) none).run Tryd.prog W = .ok (.string ⟨#[48]⟩) W := by kernel_rfl
  have e1 : (Instr.slice 9 (.string ⟨#[48, 49, 50, 51, 52, 53, 54, 55, 56, 57]⟩) (some (.int .i64 1)) (some (.int .i64 2)) none).run Tryd.prog W = .ok (.string ⟨#[49]⟩) W := by kernel_rfl
  have e2 : (Instr.slice 9 (.string ⟨#[48, 49, 50, 51, 52, 53, 54, 55, 56, 57]⟩) (some (.int .i64 2)) (some (.int .i64 3)) none).run Tryd.prog W = .ok (.string ⟨#[50]⟩) W := by kernel_rfl
  have e3 : (Instr.slice 9 (.string ⟨#[48, 49, 50, 51, 52, 53, 54, 55, 56, 57]⟩) (some (.int .i64 3)) (some (.int .i64 4)) none).run Tryd.prog W = .ok (.string ⟨#[51]⟩) W := by kernel_rfl
  have e4 : (Instr.slice 9 (.string ⟨#[48, 49, 50, 51, 52, 53, 54, 55, 56, 57]⟩) (some (.int .i64 4)) (some (.int .i64 5)) none).run Tryd.prog W = .ok (.string ⟨#[52]⟩) W := by kernel_rfl
  have e5 : (Instr.slice 9 (.string ⟨#[48, 49, 50, 51, 52, 53, 54, 55, 56, 57]⟩) (some (.int .i64 5)) (some (.int .i64 6)) none).run Tryd.prog W = .ok (.string ⟨#[53]⟩) W := by kernel_rfl
  have e6 : (Instr.slice 9 (.string ⟨#[48, 49, 50, 51, 52, 53, 54, 55, 56, 57]⟩) (some (.int .i64 6)) (some (.int .i64 7)) none).run Tryd.prog W = .ok (.string ⟨#[54]⟩) W := by kernel_rfl
  have e7 : (Instr.slice 9 (.string ⟨#[48, 49, 50, 51, 52, 53, 54, 55, 56, 57]⟩) (some (.int .i64 7)) (some (.int .i64 8)) none).run Tryd.prog W = .ok (.string ⟨#[55]⟩) W := by kernel_rfl
  have e8 : (Instr.slice 9 (.string ⟨#[48, 49, 50, 51, 52, 53, 54, 55, 56, 57]⟩) (some (.int .i64 8)) (some (.int .i64 9)) none).run Tryd.prog W = .ok (.string ⟨#[56]⟩) W := by kernel_rfl
  have e9 : (Instr.slice 9 (.string ⟨#[48, 49, 50, 51, 52, 53, 54, 55, 56, 57]⟩) (some (.int .i64 9)) (some (.int .i64 10)) none).run Tryd.prog W = .ok (.string ⟨#[57]⟩) W := by kernel_rfl
  have hc : d = 0 ∨ d = 1 ∨ d = 2 ∨ d = 3 ∨ d = 4 ∨ d = 5 ∨ d = 6 ∨ d = 7 ∨ d = 8 ∨ d = 9 := by omega
  rcases hc with rfl | rfl | rfl | rfl | rfl | rfl | rfl | rfl | rfl | rfl
  · exact e0
  · exact e1
  · exact e2
  · exact e3
  · exact e4
  · exact e5
  · exact e6
  · exact e7
  · exact e8
  · exact e9
theorem tx_snoc (N L m : Nat) (d : Int) (hm : m < L) (h0 : 0 ≤ d) (hd : d = (N : Int) / 10 ^ m % 10) :
    Value.string ((⟨((txl N L).take (L - (m + 1))).toArray⟩ : ByteArray) ++ (⟨#[48 + UInt8.ofNat d.toNat]⟩ : ByteArray)) = .string ⟨((txl N L).take (L - m)).toArray⟩ := by
  have hl : L - (m + 1) < (txl N L).length := by rw [txl_length]; omega
  have e1 : L - m = L - (m + 1) + 1 := by omega
  rw [e1, List.take_succ_eq_append_getElem hl]
  have e2 : (txl N L)[L - (m + 1)] = 48 + UInt8.ofNat d.toNat := by
    apply UInt8.toNat_inj.1
    rw [txl_get, show L - 1 - (L - (m + 1)) = m by omega]
    have e3 : d.toNat = N / 10 ^ m % 10 := by
      have : ((N / 10 ^ m % 10 : Nat) : Int) = d := by rw [hd, Int.natCast_emod, Int.natCast_ediv, Int.natCast_pow]; rfl
      omega
    rw [e3]
    unfold tch
    have h9 : N / 10 ^ m % 10 < 10 := Nat.mod_lt _ (by decide)
    generalize N / 10 ^ m % 10 = q at *
    rw [UInt8.toNat_add, UInt8.toNat_ofNat']
    show 48 + q = (48 + q % 2 ^ 8) % 2 ^ 8
    omega
  rw [e2]
  congr 1
set_option maxHeartbeats 1000000 in
theorem tx_any (N L : Nat) (hL : IsNd N L) (v : Value) (w : World) (hv : Dg w v N) (hN : Small N) : Calls Tryd.prog 45 #[v] w fun e w' => e = .returned (.string (txt N L)) ∧ Below w.heap.size w w' := by
  obtain ⟨xs, ⟨A, c, rfl, hc, hs⟩, hd⟩ := hv
  have hlen := pow_big hN hd
  have hLx := nd_len hd hL
  by_cases h0 : xs = []
  · subst h0
    have hz := hd.zero_iff.1 rfl
    subst hz
    obtain rfl : L = 1 := hLx
    have e : txt 0 1 = ⟨#[48]⟩ := rfl
    rw [e]
    clear e hL hN hs hd
    go_enter Tryd.func45, Tryd.ntmps45
    go_wp2_with fail
    go_ret
    exact ⟨rfl, by (repeat' (first | (with_reducible exact Below.refl _ _) | (with_reducible assumption) | (with_reducible refine Below.drew ?_) | (with_reducible refine below_drewN ?_ _) | ((with_reducible refine Below.alloc ?_ ?_ _); rotate_left; focus (go_size; done)) | ((with_reducible refine Below.setCell ?_ ?_ _); rotate_left; focus (go_size; done)) | ((with_reducible refine Below.trans ?_ (Below.mono (by with_reducible assumption) ?_)); rotate_left; focus (go_size; done))))⟩
  · have hpos : 0 < xs.length := List.length_pos_iff.2 h0
    have hLx' : L = xs.length := by rw [hLx, Nat.max_eq_left hpos]
    have g1 : ((xs.length : Int) == 0) = false := by simp; exact h0
    have HD := Lib.hid hd
    have HS := Lib.hid hs
    have HL := Lib.hid hLx'
    clear hd hs hN hL hLx hLx' h0
    go_enter Tryd.func45, Tryd.ntmps45
    go_wp2_with fail
    go_loopg [3, 4] xs.length (fun k s i wr => k ≤ xs.length ∧ i = .int .i64 ((k : Int) - 1) ∧ s = .string ⟨((txl N L).take (L - k)).toArray⟩ ∧ ∃ nn, wr = w.drewN nn)
    case atStart => exact ⟨Nat.le_refl _, rfl, by rw [HL.out, Nat.sub_self]; rfl, 0, rfl⟩
    case round =>
      obtain ⟨hk, rfl, rfl, nn, rfl⟩ := hrel
      by_cases h0 : gk = 0
      · subst h0
        have hm : ¬ (0 : Int) ≤ ((0 : Nat) : Int) - 1 := by omega
        go_wp2_with fail
        go_ret
        refine ⟨?_, by (repeat' (first | (with_reducible exact Below.refl _ _) | (with_reducible assumption) | (with_reducible refine Below.drew ?_) | (with_reducible refine below_drewN ?_ _) | ((with_reducible refine Below.alloc ?_ ?_ _); rotate_left; focus (go_size; done)) | ((with_reducible refine Below.setCell ?_ ?_ _); rotate_left; focus (go_size; done)) | ((with_reducible refine Below.trans ?_ (Below.mono (by with_reducible assumption) ?_)); rotate_left; focus (go_size; done))))⟩
        have e := List.take_of_length_le (l := txl N L) (i := L) (by rw [txl_length]; exact Nat.le_refl _)
        rw [e]
        rfl
      · obtain ⟨m, rfl⟩ : ∃ m, gk = m + 1 := ⟨gk - 1, by omega⟩
        obtain ⟨g, o, rfl, hg, hcell⟩ := HS.out.at_ (k := m) (by omega)
        obtain ⟨d0, d9⟩ := HD.out.get m
        have hdd := dval_digit HD.out.1 m (by omega)
        rw [HD.out.2.2] at hdd
        obtain ⟨d, hd⟩ : ∃ d, d = xs.getD m 0 := ⟨_, rfl⟩
        rw [← hd] at hcell d0 d9 hdd
        have HDD := Lib.hid hdd
        have hp : (0 : Int) < ((m + 1 : Nat) : Int) := by omega
        have hx : ((m + 1 : Nat) : Int) - 1 = (m : Int) := by omega
        have m0 : (0 : Int) ≤ (m : Int) := by omega
        have m1 : (m : Int) < (xs.length : Int) := by omega
        have hsl := digit_slice d d0 d9
        clear h0 hd hdd
        obtain ⟨s0, hs0⟩ : ∃ s0 : ByteArray, s0 = ⟨((txl N L).take (L - (m + 1))).toArray⟩ := ⟨_, rfl⟩
        rw [← hs0]
        have hsz : s0.size ≤ 1000 := by
          rw [hs0]
          show (List.take _ _).toArray.size ≤ _
          rw [List.size_toArray, List.length_take, txl_length]
          have := HL.out; omega
        have H0 := Lib.hid hs0
        clear hs0
        go_wp2_with fail
        go_quiet (fail)
        go_wp2_with fail
        go_roundg m
        case measure => omega
        case rel =>
          refine ⟨by omega, rfl, ?_, by (try simp only [World.drewN_drewN]); exact ⟨_, rfl⟩⟩
          rw [H0.out]
          exact tx_snoc N L m d (by have := HL.out; omega) d0 HDD.out
theorem dg_nd {w : World} {v : Value} {n : Nat} (h : Dg w v n) : ∃ (A : Option Addr) (k c : Nat), v = .slice A k c ∧ IsNd n (max k 1) ∧ k ≤ c := by
  obtain ⟨xs, ⟨A, c, rfl, hc, hs⟩, hd⟩ := h
  exact ⟨A, xs.length, c, rfl, nd_of_dg hd, hc⟩
end Go.Proofs.YtogpbcllbbpgbaaDoor

set_option linter.unusedSimpArgs false
set_option linter.unusedVariables false
namespace Go.Proofs.YtogpbcllbbpgbaaDoor
open Go.RowKit

/-- what reading a text answers -/
def rdN (l : List UInt8) : Nat := fitW (dvb l 0)
def rdE (l : List UInt8) : Int := over (dvb l 0)
theorem okB_ne {l : List UInt8} (h : okB l = true) : l ≠ [] := by
  unfold okB at h
  simp only [Bool.and_eq_true, decide_eq_true_eq] at h
  exact h.1.1
theorem okB_lead {l : List UInt8} (h : okB l = true) : l.length ≤ 1 ∨ (l.headD 0).toNat ≠ 48 := by
  unfold okB at h
  simp only [Bool.and_eq_true, Bool.or_eq_true, decide_eq_true_eq] at h
  exact h.1.2
theorem okB_dig {l : List UInt8} (h : okB l = true) {j : Nat} (hj : j < l.length) : 48 ≤ l[j].toNat ∧ l[j].toNat ≤ 57 := by
  unfold okB at h
  simp only [Bool.and_eq_true, List.all_eq_true] at h
  have := h.2 l[j] (List.getElem_mem hj)
  simpa [isD] using this
theorem okB_no {l : List UInt8} (h : okB l = false) : l = [] ∨ (1 < l.length ∧ (l.headD 0).toNat = 48) ∨ (¬ (1 < l.length ∧ (l.headD 0).toNat = 48) ∧ l ≠ [] ∧ ∃ j, ∃ hj : j < l.length, ¬ (48 ≤ l[j].toNat ∧ l[j].toNat ≤ 57)) := by
  by_cases h0 : l = []
  · exact .inl h0
  by_cases h1 : 1 < l.length ∧ (l.headD 0).toNat = 48
  · exact .inr (.inl h1)
  refine .inr (.inr ⟨h1, h0, ?_⟩)
  have ha : l.all isD = false := by
    unfold okB at h
    have e1 : decide (l ≠ []) = true := by simpa using h0
    have e2 : (decide (l.length ≤ 1) || decide ((l.headD 0).toNat ≠ 48)) = true := by
      rw [Bool.or_eq_true, decide_eq_true_eq, decide_eq_true_eq]
      by_cases h2 : l.length ≤ 1
      · exact .inl h2
      · exact .inr (fun e => h1 ⟨by omega, e⟩)
    rw [e1, e2, Bool.true_and, Bool.true_and] at h
    exact h
  rw [← Bool.not_eq_true, List.all_eq_true] at ha
  have ⟨c, hc⟩ := Classical.not_forall.1 ha
  have ⟨hm, hn⟩ := Classical.not_imp.1 hc
  obtain ⟨j, hj, rfl⟩ := List.getElem_of_mem hm
  exact ⟨j, hj, by simpa [isD] using hn⟩
/-- of more than 39 digits: too great -/
theorem rd_long {l : List UInt8} (h : okB l = true) (hl : 39 < l.length) : rdN l = 0 ∧ rdE l = 3 := by
  have hb : 10 ^ 39 ≤ dvb l 0 := by
    cases l with
    | nil => simp at hl
    | cons c r =>
      have h1 : 48 ≤ c.toNat ∧ c.toNat ≤ 57 := okB_dig h (j := 0) (by simp)
      have h2 := okB_lead h
      have h3 : c.toNat ≠ 48 := by
        rcases h2 with h2 | h2
        · simp only [List.length_cons] at hl h2; omega
        · exact h2
      have h4 := dvb_low r (0 * 10 + (c.toNat - 48)) 0 (by rw [Nat.pow_zero]; omega)
      rw [Nat.zero_add] at h4
      simp only [List.length_cons] at hl
      exact Nat.le_trans (pow_mono10 (by omega)) h4
  have h2 : ¬ dvb l 0 < 2 ^ 128 := by
    have h3 : (2 : Nat) ^ 128 < 10 ^ 39 := by decide
    omega
  unfold rdN rdE fitW over
  rw [if_neg h2, if_neg h2]
  exact ⟨rfl, rfl⟩
theorem dvb_lin (l : List UInt8) (a : Nat) : dvb l a = a * 10 ^ l.length + dvb l 0 := by
  induction l generalizing a with
  | nil => simp [dvb]
  | cons d r ih =>
    simp only [dvb, List.length_cons]
    rw [ih (a * 10 + (d.toNat - 48)), ih (0 * 10 + (d.toNat - 48)), Nat.pow_succ]
    grind
theorem at_data (s : ByteArray) (j : Nat) (h : j < s.size) (h' : j < s.data.toList.length) : s.data.toList[j] = s[j] := rfl
theorem head_data (s : ByteArray) (h : 0 < s.size) : s.data.toList.headD 0 = s[0] := by
  have h' : 0 < s.data.toList.length := by simpa using h
  have key : ∀ (l : List UInt8) (hl : 0 < l.length), l.headD 0 = l[0] := by
    intro l hl
    cases l with
    | nil => cases hl
    | cons a r => rfl
  rw [key _ h']; rfl
theorem Bk.grown {w w' : World} {g : Nat} {t : TypeId} {cs : List Value} {row : Option Nat} (h : Bk w g t cs) (hb : w.grownBy w' row) (hg : some g ≠ row) : Bk w' g t cs := (hb.block g h.lt hg).trans h
end Go.Proofs.YtogpbcllbbpgbaaDoor

set_option linter.unusedSimpArgs false
set_option linter.unusedVariables false
namespace Go.Proofs.YtogpbcllbbpgbaaDoor
open Go.RowKit

theorem dig_drop (l : List UInt8) (m : Nat) (hm : m < l.length) (ds : List Int) (hlen : ds.length = l.length - (m + 1)) (hv : dval ds = ((dvb (l.drop (m + 1)) 0 : Nat) : Int)) (h48 : 48 ≤ l[m].toNat) :
    dval (ds ++ [(l[m].toNat : Int) - 48]) = ((dvb (l.drop m) 0 : Nat) : Int) := by
  rw [dval_snoc, List.drop_eq_getElem_cons hm, hv, hlen]
  simp only [dvb]
  rw [dvb_lin (l.drop (m + 1)) (0 * 10 + (l[m].toNat - 48)), List.length_drop]
  have e : ((l[m].toNat : Int) - 48) = ((l[m].toNat - 48 : Nat) : Int) := by omega
  rw [e, Int.natCast_add, Int.natCast_mul, Int.natCast_pow, Nat.zero_mul, Nat.zero_add, Int.mul_comm]
  show _ + _ * (10 : Int) ^ _ = _ * (10 : Int) ^ _ + _
  omega
end Go.Proofs.YtogpbcllbbpgbaaDoor

set_option linter.unusedSimpArgs false
set_option linter.unusedVariables false
namespace Go.Proofs.YtogpbcllbbpgbaaDoor
open Go.RowKit

theorem isDs_iff (l : List UInt8) : isDs l = true ↔ l ≠ [] ∧ ∀ (j : Nat) (h : j < l.length), 48 ≤ l[j].toNat ∧ l[j].toNat ≤ 57 := by
  unfold isDs
  rw [Bool.and_eq_true, decide_eq_true_eq, List.all_eq_true]
  refine and_congr Iff.rfl ⟨fun h j hj => ?_, fun h c hc => ?_⟩
  · have := h _ (List.getElem_mem hj)
    unfold isD at this
    simpa using this
  · obtain ⟨j, hj, rfl⟩ := List.getElem_of_mem hc
    have := h j hj
    unfold isD
    simpa using this
set_option maxHeartbeats 1000000 in
theorem digits_any (s : ByteArray) (hs : s.size ≤ 9223372036854775807) (w : World) : Calls Tryd.prog 10 #[.string s] w fun e w' => e = .returned (.bool (isDs s.data.toList)) ∧ Below w.heap.size w w' := by
  have hl : s.data.toList.length = s.size := by simp
  have HL := Lib.hid hl
  have HI : Hid (isDs s.data.toList = true ↔ s.data.toList ≠ [] ∧ ∀ (j : Nat) (h : j < s.size), 48 ≤ s[j].toNat ∧ s[j].toNat ≤ 57) := Lib.hid (by
    rw [isDs_iff]
    refine and_congr Iff.rfl ⟨fun h j hj => ?_, fun h j hj => ?_⟩
    · exact h j (by rw [hl]; exact hj)
    · exact h j (by rw [hl] at hj; exact hj))
  obtain ⟨z, hz⟩ : ∃ z, z = isDs s.data.toList := ⟨_, rfl⟩
  rw [← hz] at HI
  rw [← hz]
  clear hl hz
  go_enter Tryd.func10, Tryd.ntmps10
  go_wp2_with fail
  go_loopg [3] s.size (fun k i wr => ∃ t : Nat, k + t = s.size ∧ i = .int .i64 t ∧ Hid (∀ (j : Nat) (h : j < s.size), j < t → 48 ≤ s[j].toNat ∧ s[j].toNat ≤ 57) ∧ Below w.heap.size w wr)
  case atStart => exact ⟨0, by omega, rfl, Lib.hid (fun j _ h => absurd h (Nat.not_lt_zero _)), Below.refl _ _⟩
  case round =>
    obtain ⟨t, hk, rfl, HA, hbel⟩ := hrel
    have HK := Lib.hid hk
    have htn : t ≤ s.size := by omega
    clear hk
    by_cases hlt : t < s.size
    · by_cases hd : 48 ≤ s[t].toNat ∧ s[t].toNat ≤ 57
      · have d1 : (48 : Int) ≤ (s[t].toNat : Int) := by omega
        have d2 : (s[t].toNat : Int) ≤ 57 := by omega
        have HD := Lib.hid hd
        clear hd
        go_wp2_with fail
        go_roundg (gk - 1)
        case measure => have := HK.out; omega
        case rel =>
          refine ⟨t + 1, by have := HK.out; omega, by go_num, Lib.hid (fun j hj h => ?_), by (repeat' (first | (with_reducible exact Below.refl _ _) | (with_reducible assumption) | (with_reducible refine Below.drew ?_) | (with_reducible refine below_drewN ?_ _) | ((with_reducible refine Below.alloc ?_ ?_ _); rotate_left; focus (go_size; done)) | ((with_reducible refine Below.setCell ?_ ?_ _); rotate_left; focus (go_size; done)) | ((with_reducible refine Below.trans ?_ (Below.mono (by with_reducible assumption) ?_)); rotate_left; focus (go_size; done))))⟩
          by_cases e : j = t
          · subst e; exact HD.out
          · exact HA.out j hj (by omega)
      · have hz : z = false := by
          cases z with
          | false => rfl
          | true => exact absurd ((HI.out.1 rfl).2 t hlt) hd
        subst hz
        by_cases hlow : s[t].toNat < 48
        · have d1 : (s[t].toNat : Int) < 48 := by omega
          clear hd hlow
          go_wp2_with fail
          go_ret
          exact ⟨rfl, by (repeat' (first | (with_reducible exact Below.refl _ _) | (with_reducible assumption) | (with_reducible refine Below.drew ?_) | (with_reducible refine below_drewN ?_ _) | ((with_reducible refine Below.alloc ?_ ?_ _); rotate_left; focus (go_size; done)) | ((with_reducible refine Below.setCell ?_ ?_ _); rotate_left; focus (go_size; done)) | ((with_reducible refine Below.trans ?_ (Below.mono (by with_reducible assumption) ?_)); rotate_left; focus (go_size; done))))⟩
        · have d1 : (48 : Int) ≤ (s[t].toNat : Int) := by omega
          have d2 : (57 : Int) < (s[t].toNat : Int) := by omega
          clear hd hlow
          go_wp2_with fail
          go_ret
          exact ⟨rfl, by (repeat' (first | (with_reducible exact Below.refl _ _) | (with_reducible assumption) | (with_reducible refine Below.drew ?_) | (with_reducible refine below_drewN ?_ _) | ((with_reducible refine Below.alloc ?_ ?_ _); rotate_left; focus (go_size; done)) | ((with_reducible refine Below.setCell ?_ ?_ _); rotate_left; focus (go_size; done)) | ((with_reducible refine Below.trans ?_ (Below.mono (by with_reducible assumption) ?_)); rotate_left; focus (go_size; done))))⟩
    · obtain rfl : t = s.size := by omega
      by_cases h0 : s.data.toList = []
      · have hz : z = false := by
          cases z with
          | false => rfl
          | true => exact absurd h0 (HI.out.1 rfl).1
        subst hz
        have e1 : s.toList = [] := by rw [ByteArray.toList_eq]; exact h0
        have e2 : s.toList.isEmpty = true := by rw [e1]; rfl
        clear hlt h0
        go_wp2_with fail
        go_ret
        exact ⟨rfl, by (repeat' (first | (with_reducible exact Below.refl _ _) | (with_reducible assumption) | (with_reducible refine Below.drew ?_) | (with_reducible refine below_drewN ?_ _) | ((with_reducible refine Below.alloc ?_ ?_ _); rotate_left; focus (go_size; done)) | ((with_reducible refine Below.setCell ?_ ?_ _); rotate_left; focus (go_size; done)) | ((with_reducible refine Below.trans ?_ (Below.mono (by with_reducible assumption) ?_)); rotate_left; focus (go_size; done))))⟩
      · have hz : z = true := HI.out.2 ⟨h0, fun j hj => HA.out j hj hj⟩
        subst hz
        have e1 : ¬ s.toList = [] := by rw [ByteArray.toList_eq]; exact h0
        have e2 : s.toList.isEmpty = false := by simpa using e1
        clear hlt h0
        go_wp2_with fail
        go_ret
        exact ⟨rfl, by (repeat' (first | (with_reducible exact Below.refl _ _) | (with_reducible assumption) | (with_reducible refine Below.drew ?_) | (with_reducible refine below_drewN ?_ _) | ((with_reducible refine Below.alloc ?_ ?_ _); rotate_left; focus (go_size; done)) | ((with_reducible refine Below.setCell ?_ ?_ _); rotate_left; focus (go_size; done)) | ((with_reducible refine Below.trans ?_ (Below.mono (by with_reducible assumption) ?_)); rotate_left; focus (go_size; done))))⟩
theorem cut_at2 (xs : List Int) (A : Option Addr) (c : Nat) (w : World) (hc : xs.length ≤ c) (hs : Sl w A xs) (hd : Digs xs) (hl : xs.length ≤ 2000000) :
    Calls Tryd.prog 29 #[.slice A xs.length c] w (RetCut A (dval xs).toNat w) := by
  have HD := Lib.hid hd
  have HS := Lib.hid hs
  clear hd hs
  go_enter Tryd.func29, Tryd.ntmps29
  go_wp2_with fail
  go_loopg [3] xs.length (fun k i wr => k ≤ xs.length ∧ i = .int .i64 k ∧ (∀ j, k ≤ j → j < xs.length → xs.getD j 0 = 0) ∧ ∃ nn, wr = w.drewN nn)
  case atStart => exact ⟨Nat.le_refl _, rfl, fun j h1 h2 => absurd h2 (by omega), 0, rfl⟩
  case round =>
    obtain ⟨hn, rfl, hz, nn, rfl⟩ := hrel
    have HZ := Lib.hid hz
    clear hz
    by_cases h0 : gk = 0
    · subst h0
      go_wp2_with fail
      go_ret
      refine ⟨0, c, rfl, ⟨xs.take 0, ⟨A, c, by simp, by simp, fun h => absurd rfl h⟩, ?_⟩, by (repeat' (first | (with_reducible exact Below.refl _ _) | (with_reducible assumption) | (with_reducible refine Below.drew ?_) | (with_reducible refine below_drewN ?_ _) | ((with_reducible refine Below.alloc ?_ ?_ _); rotate_left; focus (go_size; done)) | ((with_reducible refine Below.setCell ?_ ?_ _); rotate_left; focus (go_size; done)) | ((with_reducible refine Below.trans ?_ (Below.mono (by with_reducible assumption) ?_)); rotate_left; focus (go_size; done))))⟩
      have e := dval_take_zeros xs 0 HZ.out
      rw [← e]
      exact IsDg.nil
    · obtain ⟨m, rfl⟩ : ∃ m, gk = m + 1 := ⟨gk - 1, by omega⟩
      obtain ⟨g, o, rfl, hg, hcell⟩ := HS.out.at_ (k := m) (by omega)
      obtain ⟨d, hd⟩ : ∃ d, d = xs.getD m 0 := ⟨_, rfl⟩
      rw [← hd] at hcell
      have HE := Lib.hid hd
      have hp : (0 : Int) < ((m + 1 : Nat) : Int) := by omega
      have hx : ((m + 1 : Nat) : Int) - 1 = (m : Int) := by omega
      clear h0 hd
      go_wp2_with fail
      · go_roundg m
        case measure => omega
        case rel =>
          refine ⟨by omega, rfl, ?_, nn, rfl⟩
          intro j h1 h2
          by_cases hj : j = m
          · subst hj
            rw [← HE.out]
            simpa using (by assumption : (d == 0) = true)
          · exact HZ.out j (by omega) h2
      · have hne : d ≠ 0 := by simpa using (by assumption : (d == 0) = false)
        go_ret
        have hlen : (xs.take (m + 1)).length = m + 1 := by rw [List.length_take, Nat.min_eq_left hn]
        refine ⟨m + 1, c, rfl, ⟨xs.take (m + 1), ⟨some ⟨g, o, none⟩, c, by (first | (rw [hlen]; done) | (rw [hlen]; rfl)), by rw [hlen]; omega, (HS.out.take (m + 1)).below (by (repeat' (first | (with_reducible exact Below.refl _ _) | (with_reducible assumption) | (with_reducible refine Below.drew ?_) | (with_reducible refine below_drewN ?_ _) | ((with_reducible refine Below.alloc ?_ ?_ _); rotate_left; focus (go_size; done)) | ((with_reducible refine Below.setCell ?_ ?_ _); rotate_left; focus (go_size; done)) | ((with_reducible refine Below.trans ?_ (Below.mono (by with_reducible assumption) ?_)); rotate_left; focus (go_size; done)))))⟩, HD.out.take _, ?_, ?_⟩, by (repeat' (first | (with_reducible exact Below.refl _ _) | (with_reducible assumption) | (with_reducible refine Below.drew ?_) | (with_reducible refine below_drewN ?_ _) | ((with_reducible refine Below.alloc ?_ ?_ _); rotate_left; focus (go_size; done)) | ((with_reducible refine Below.setCell ?_ ?_ _); rotate_left; focus (go_size; done)) | ((with_reducible refine Below.trans ?_ (Below.mono (by with_reducible assumption) ?_)); rotate_left; focus (go_size; done))))⟩
        · exact top_take xs (m + 1) hn (.inr (by rw [Nat.add_sub_cancel, ← HE.out]; exact hne))
        · rw [dval_take_zeros xs (m + 1) HZ.out]
          have := (dval_bd HD.out).1
          omega
theorem cut_any2 (xs : List Int) (v : Value) (w : World) (hv : IsSl w v xs) (hd : Digs xs) (hl : xs.length ≤ 2000000) :
    Calls Tryd.prog 29 #[v] w (RetDg (dval xs).toNat w) := by
  obtain ⟨A, c, rfl, hc, hs⟩ := hv
  exact (cut_at2 xs A c w hc hs hd hl).mono fun e w' ⟨k, c', he, hdg, hb⟩ => ⟨_, he, hdg, hb⟩
theorem wpList_push2 {w : World} {ops : Array Oper} {rest : List Oper} {o : Oper} {a : Act} {Q : Exit → Act → World → Prop} (hgd : o.guard = none) (s x : Operand)
    (ho : o.op = .call { callee := .builtin .append, args := #[s, x], argTypes := #[36, 36] })
    (base : Nat) (v : Value) (ds : List Int) (hs : a.eval s = v) (hown : w.ownsRow base 3 1 v ds.length (ds.map (Value.int .i64)))
    (b : Nat) (d : Int) (hx : a.eval x = .slice (some ⟨b, 0, none⟩) 1 1) (hd : w.cell? ⟨b, 0, none⟩ = some (.int .i64 d)) (hlen : ds.length ≤ 3000000) (hbase : base ≤ w.heap.size)
    (h : ∀ v' w', w'.ownsRow base 3 1 v' (ds ++ [d]).length ((ds ++ [d]).map (Value.int .i64)) → w.grownBy w' v.ownBlock → wpList Tryd.prog ops Q rest (a.put o.dst v') w') : wpList Tryd.prog ops Q (o :: rest) a w := by
  obtain ⟨i0, hi0, hz0, hz1, hz2⟩ := info_parts info_int
  refine wpList_append_own w hgd s x 36 ho base 3 i0 (.int .i64 0) 1 8 Tryd.underlying36 hi0 hz0 hz1 hz2 rfl (by decide) v ds.length _ hs hown ⟨b, 0, none⟩ 1 1 [.int .i64 d] hx rfl ?_ ?_ (by unfold maxLen; omega) (by omega) hbase ?_
  · intro j u hj
    match j with
    | 0 => simp at hj; subst hj; exact hd
    | j + 1 => simp at hj
  · intro u hu
    rw [List.mem_singleton.1 hu]; rfl
  · intro v' w' h1 h2 _
    refine h v' w' ?_ h2
    rw [List.length_append, List.map_append]
    exact h1
set_option maxHeartbeats 2000000 in
theorem number_r (s : ByteArray) (hs : s.size ≤ 1100000) (hall : s.data.toList.all isD = true) (w : World) : Calls Tryd.prog 11 #[.string s] w (RetDg (dvb s.data.toList 0) w) := by
  have hl : s.data.toList.length = s.size := by simp
  have HL := Lib.hid hl
  have HD : Hid (∀ (j : Nat) (h : j < s.size), 48 ≤ s[j].toNat ∧ s[j].toNat ≤ 57) := Lib.hid (fun j hj => by
    rw [List.all_eq_true] at hall
    have := hall _ (List.getElem_mem (show j < s.data.toList.length by rw [hl]; exact hj))
    exact of_decide_eq_true this)
  clear hall hl
  go_enter Tryd.func11, Tryd.ntmps11
  go_wp2_with fail
  go_loopg [3, 4] s.size (fun k v i wr => ∃ ds : List Int, k ≤ s.size ∧ i = .int .i64 ((k : Int) - 1) ∧ wr.ownsRow w.heap.size 3 1 v ds.length (ds.map (Value.int .i64)) ∧ ds.length = s.size - k ∧ Hid (Digs ds) ∧ Hid (dval ds = ((dvb (s.data.toList.drop k) 0 : Nat) : Int)) ∧ Below w.heap.size w wr)
  case atStart =>
    refine ⟨[], Nat.le_refl _, rfl, World.ownsRow_nil _ _ _ _, by simp, Lib.hid Digs.nil, Lib.hid ?_, Below.refl _ _⟩
    rw [List.drop_of_length_le (by rw [HL.out]; exact Nat.le_refl _)]; rfl
  case round =>
    obtain ⟨ds, hk, rfl, hown, hdl, HDD, HV, hbel⟩ := hrel
    have hwr := hbel.size
    have HDL := Lib.hid hdl
    have hdl2 : ds.length ≤ 1100000 := by omega
    clear hdl
    by_cases hk0 : gk = 0
    · subst hk0
      have hm : ¬ (0 : Int) ≤ ((0 : Nat) : Int) - 1 := by omega
      go_wp2_with fail
      refine (cut_any2 ds _ _ (IsSl.of_own hown) HDD.out (by omega)).mono ?_
      rintro _ w2 ⟨v2, rfl, hdg, hb2⟩
      have hv : (dval ds).toNat = dvb s.data.toList 0 := by rw [HV.out, List.drop_zero]; exact Int.toNat_natCast _
      rw [hv] at hdg
      have HDG := Lib.hid hdg
      clear hv hdg
      go_wp2_with fail
      go_ret
      exact ⟨v2, rfl, HDG.out, by (repeat' (first | (with_reducible exact Below.refl _ _) | (with_reducible assumption) | (with_reducible refine Below.drew ?_) | (with_reducible refine below_drewN ?_ _) | ((with_reducible refine Below.alloc ?_ ?_ _); rotate_left; focus (go_size; done)) | ((with_reducible refine Below.setCell ?_ ?_ _); rotate_left; focus (go_size; done)) | ((with_reducible refine Below.trans ?_ (Below.mono (by with_reducible assumption) ?_)); rotate_left; focus (go_size; done))))⟩
    · obtain ⟨m, rfl⟩ : ∃ m, gk = m + 1 := ⟨gk - 1, by omega⟩
      have hms : m < s.size := by omega
      obtain ⟨p1, p2⟩ := HD.out m hms
      have d1 : (48 : Int) ≤ (s[m].toNat : Int) := by omega
      have d2 : (s[m].toNat : Int) ≤ 57 := by omega
      have hp : (0 : Int) < ((m + 1 : Nat) : Int) := by omega
      have hx : ((m + 1 : Nat) : Int) - 1 = (m : Int) := by omega
      have m0 : (0 : Int) ≤ (m : Int) := by omega
      have m1 : (m : Int) < (s.size : Int) := by omega
      have P1 := Lib.hid p1
      clear hk0 p1 p2
      go_wp2_with (at_builtin; refine wpList_push2 rfl (.tmp 12) (.tmp 18) rfl w.heap.size u3 ds rfl (hown.alloc _) wr.heap.size ((s[m].toNat : Int) - 48) rfl ?hc ?hl ?hb ?_; rotate_left 3; intro v1 w1 hown1 hg1)
      case hc => simp [go_sem]
      case hl => omega
      case hb => go_size
      go_roundg m
      case measure => omega
      case rel =>
        refine ⟨ds ++ [(s[m].toNat : Int) - 48], by omega, rfl, hown1, by rw [List.length_append, HDL.out]; simp only [List.length_cons, List.length_nil]; omega, Lib.hid (HDD.out.snoc (by omega) (by omega)), Lib.hid ?_, ?_⟩
        · have hml : m < s.data.toList.length := by rw [HL.out]; exact hms
          exact dig_drop s.data.toList m hml ds (by rw [HL.out]; exact HDL.out) HV.out P1.out
        · exact below_push (hbel.alloc (by go_size) _) (hown.alloc _) hg1 (by go_size)
end Go.Proofs.YtogpbcllbbpgbaaDoor
