/- math/bits.Div64 by ten: the library's own text, walked. -/
import Derived.Test.YthkgjodidkpaeaaWa
set_option linter.unusedSimpArgs false
set_option linter.unusedVariables false
namespace Go.Proofs.Ythkgjodidkpaeaa
open Go.RowKit

theorem lz10 (w : World) : Calls Try.prog 102 #[.int .u64 10] w fun e w' => e = .returned (.int .i64 60) ∧ ∃ nn, w' = w.drewN nn :=
  (Try.bits_LeadingZeros64 10 w (by decide) (by decide)).mono fun e w' h => ⟨by rw [h.1]; rfl, 0, h.2⟩

theorem or_gen (i a b : Nat) (hb : b < 2 ^ i) : a * 2 ^ i ||| b = a * 2 ^ i + b := by
  rw [Nat.mul_comm]; exact (Nat.two_pow_add_eq_or_of_lt hb a).symm
theorem or_sum (x b : Nat) (hx : x < 18446744073709551616) (hb : b < 18446744073709551616) (h : x ||| b = x + b) : bits .or .u64 (x : Int) (b : Int) = (x : Int) + b := by
  rw [bits_or_u64_nat x b hx hb, h]; omega
theorem or_top (h l : Int) (h0 : 0 ≤ h) (h9 : h ≤ 9) (l0 : 0 ≤ l) (l1 : l < 18446744073709551616) : bits .or .u64 (h * 1152921504606846976) (l / 16) = h * 1152921504606846976 + l / 16 := by
  obtain ⟨a, rfl⟩ := Int.eq_ofNat_of_zero_le h0
  obtain ⟨b, rfl⟩ := Int.eq_ofNat_of_zero_le l0
  obtain ⟨x, hx⟩ : ∃ x : Nat, (x : Int) = (a : Int) * 1152921504606846976 := ⟨((a : Int) * 1152921504606846976).toNat, by omega⟩
  have e : ((b / 16 : Nat) : Int) = (b : Int) / 16 := by omega
  have h2 : x ||| b / 16 = x + b / 16 := by
    have h3 := or_gen 60 a (b / 16) (by omega)
    have h4 : a * 2 ^ 60 = x := by omega
    rw [h4] at h3; exact h3
  rw [← hx, ← e]
  exact or_sum x (b / 16) (by omega) (by omega) h2
theorem and_low (z : Int) (k : Int) (hz : z = k * 1152921504606846976) (h0 : 0 ≤ k) (h1 : k < 16) : bits .and .u64 z 4294967295 = 0 := by
  rw [and_low32 z (by omega) (by omega)]; omega
/-- a number of two words by ten -/
def Ten (q r t : Int) : Prop := 10 * q + r = t ∧ 0 ≤ q ∧ q < 18446744073709551616 ∧ 0 ≤ r ∧ r ≤ 9
theorem ten_last (h l u q r s p t : Int) (hu : u = h * 1152921504606846976 + l / 16) (hq : u = q * 2684354560 + r) (hr0 : 0 ≤ r) (hr : r < 2684354560)
    (hs : s = r * 4294967296 + l % 16 * 268435456) (hp : s = p * 2684354560 + t) (ht0 : 0 ≤ t) (ht : t < 2684354560) (h9 : h ≤ 9) (h0 : 0 ≤ h) (l0 : 0 ≤ l) (l1 : l < 18446744073709551616) :
    Ten (q * 4294967296 + p) (t / 268435456) (h * 18446744073709551616 + l) := by
  unfold Ten; omega

set_option maxHeartbeats 1000000 in
theorem div10_big (h l : Int) (h0 : 1 ≤ h) (h9 : h ≤ 9) (l0 : 0 ≤ l) (l1 : l < 18446744073709551616) :
    ∃ q r : Int, (∀ w : World, Calls Try.prog 100 #[.int .u64 h, .int .u64 l, .int .u64 10] w fun e w' => e = .returned (.tuple #[.int .u64 q, .int .u64 r]) ∧ ∃ nn, w' = w.drewN nn) ∧ Ten q r (h * 18446744073709551616 + l) := by
  have g1 : (h == 0) = false := by simp; omega
  obtain ⟨u, hu⟩ : ∃ u, u = h * 1152921504606846976 + l / 16 := ⟨_, rfl⟩
  obtain ⟨q, hq⟩ : ∃ q, q = u / 2684354560 := ⟨_, rfl⟩
  obtain ⟨r, hr⟩ : ∃ r, r = u % 2684354560 := ⟨_, rfl⟩
  obtain ⟨s, hs⟩ : ∃ s, s = r * 4294967296 + l % 16 * 268435456 := ⟨_, rfl⟩
  obtain ⟨p, hp⟩ : ∃ p, p = s / 2684354560 := ⟨_, rfl⟩
  obtain ⟨t, ht⟩ : ∃ t, t = s % 2684354560 := ⟨_, rfl⟩
  refine ⟨q * 4294967296 + p, t / 268435456, fun w => ?_, ten_last h l u q r s p t hu (by omega) (by omega) (by omega) hs (by omega) (by omega) (by omega) h9 (by omega) l0 l1⟩
  have E10 : bits .and .u64 11529215046068469760 4294967295 = 0 := by decide
  have E11 := or_top h l (by omega) h9 l0 l1
  rw [← hu] at E11
  have E12 : IntKind.u64.wrap (l * 1152921504606846976) = l % 16 * 1152921504606846976 := by rw [IntKind.wrap_u64]; omega
  have E13 : l % 16 * 1152921504606846976 / 4294967296 = l % 16 * 268435456 := by omega
  have E14 : bits .and .u64 (l % 16 * 1152921504606846976) 4294967295 = 0 := and_low _ (l % 16) rfl (by omega) (by omega)
  have E15 : IntKind.u64.wrap (u.tdiv 2684354560) = q := by rw [IntKind.wrap_u64, Int.tdiv_eq_ediv_of_nonneg (by omega)]; omega
  have E16 : IntKind.u64.wrap (u - IntKind.u64.wrap (q * 2684354560)) = r := by rw [IntKind.wrap_u64, IntKind.wrap_u64]; omega
  have E21 : IntKind.u64.wrap (IntKind.u64.wrap (IntKind.u64.wrap (u * 4294967296) + l % 16 * 268435456) - IntKind.u64.wrap (q * 11529215046068469760)) = s := by simp only [IntKind.wrap_u64]; omega
  have E22 : IntKind.u64.wrap (s.tdiv 2684354560) = p := by rw [IntKind.wrap_u64, Int.tdiv_eq_ediv_of_nonneg (by omega)]; omega
  have E23 : IntKind.u64.wrap (s - IntKind.u64.wrap (p * 2684354560)) = t := by simp only [IntKind.wrap_u64]; omega
  have E24 : IntKind.u64.wrap (IntKind.u64.wrap (IntKind.u64.wrap (s * 4294967296)) - IntKind.u64.wrap (p * 11529215046068469760)) / 1152921504606846976 = t / 268435456 := by simp only [IntKind.wrap_u64]; omega
  have J4 := Lib.hid E24
  have J1 := Lib.hid E21
  have J2 := Lib.hid E22
  have J3 := Lib.hid E23
  clear E21 E22 E23 E24
  have q0 : 0 ≤ q := by omega
  have q1 : q < 4294967296 := by omega
  have r0 : 0 ≤ r := by omega
  have r1 : r < 2684354560 := by omega
  have s0 : 0 ≤ s := by omega
  have s1 : s < 11529215046068469760 := by omega
  have p0 : 0 ≤ p := by omega
  have p1 : p < 4294967296 := by omega
  have t0 : 0 ≤ t := by omega
  have t1 : t < 2684354560 := by omega
  have m0 : 0 ≤ l % 16 * 268435456 := by omega
  have m1 : l % 16 * 268435456 < 4294967296 := by omega
  have H1 := Lib.hid E10
  have H2 := Lib.hid E11
  have H3 := Lib.hid E12
  have H4 := Lib.hid E13
  have H5 := Lib.hid E14
  have H6 := Lib.hid E15
  have H7 := Lib.hid E16
  have G1 := Lib.hid hu
  have G2 := Lib.hid hq
  have G3 := Lib.hid hr
  have G4 := Lib.hid hs
  have G5 := Lib.hid hp
  have G6 := Lib.hid ht
  clear E10 E11 E12 E13 E14 E15 E16 hu hq hr hs hp ht
  go_enter Try.func100, Try.ntmps100
  go_wp2_with ((go_at_call 102; with_reducible refine (lz10 _).mono ?_); rintro _ _ ⟨rfl, n1, rfl⟩)
  rw [H1.out, H2.out, H3.out, H4.out, H5.out, H6.out, H7.out]
  refine wp_loop_rounds 1 ?_
  rw [rounds_succ]
  go_wp2
  rw [J1.out, J2.out, J3.out]
  refine wp_loop_rounds 1 ?_
  rw [rounds_succ]
  go_wp2
  go_ret2
  refine ⟨?_, _, rfl⟩
  show Ending.returned (.tuple #[.int .u64 _, .int .u64 _]) = _
  rw [J4.out]
set_option maxHeartbeats 1000000 in
theorem div10_small (l : Int) (l0 : 0 ≤ l) (l1 : l < 18446744073709551616) (w : World) :
    Calls Try.prog 100 #[.int .u64 0, .int .u64 l, .int .u64 10] w fun e w' => e = .returned (.tuple #[.int .u64 (l / 10), .int .u64 (l % 10)]) ∧ ∃ nn, w' = w.drewN nn := by
  go_enter Try.func100, Try.ntmps100
  go_wp2_with fail
  go_quiet (fail)
  go_wp2_with fail
  go_ret2
  exact ⟨rfl, _, rfl⟩
theorem div10_ex (h l : Int) (h0 : 0 ≤ h) (h9 : h ≤ 9) (l0 : 0 ≤ l) (l1 : l < 18446744073709551616) :
    ∃ q r : Int, (∀ w : World, Calls Try.prog 100 #[.int .u64 h, .int .u64 l, .int .u64 10] w fun e w' => e = .returned (.tuple #[.int .u64 q, .int .u64 r]) ∧ ∃ nn, w' = w.drewN nn) ∧ Ten q r (h * 18446744073709551616 + l) := by
  by_cases hz : h = 0
  · subst hz
    exact ⟨_, _, div10_small l l0 l1, by unfold Ten; omega⟩
  · exact div10_big h l (by omega) h9 l0 l1
end Go.Proofs.Ythkgjodidkpaeaa
