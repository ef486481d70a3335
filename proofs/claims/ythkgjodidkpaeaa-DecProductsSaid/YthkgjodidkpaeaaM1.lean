/- The contracts of the functions that the law reaches, part 1: what each returns and what becomes of memory. -/
import Derived.Test.YthkgjodidkpaeaaRows
import Derived.WalkKit
import Derived.WalkSpells
import Derived.WalkLawsBesides
import Derived.Handy
import Derived.Lib.Hide
import Derived.BigQuiet
import Derived.Deep.QuietTactic
import Derived.Deep.LoopGhost
import Derived.Deep.RegionHeld3
import Init.Omega
import Derived.Test.YthkgjodidkpaeaaSh
import Derived.Shelf.Spec.BitsCarry
import Derived.Deep.OwnRows
import Derived.RegionTactic
import Derived.ChangeAlike
import Derived.BigRegion
import Derived.ChangeKeysEq
set_option linter.unusedSimpArgs false
set_option linter.unusedVariables false
namespace Go.Proofs.Ythkgjodidkpaeaa
open Go.RowKit

theorem bcell {W w1 : World} (hb : Below W.heap.size W w1) : (∀ b o, b < W.heap.size → w1.cell? ⟨b, o, none⟩ = W.cell? ⟨b, o, none⟩) ∧ (∀ b o, b < W.heap.size → w1.frozen? ⟨b, o, none⟩ = W.frozen? ⟨b, o, none⟩) :=
  ⟨fun b o h => hb.cell (p := ⟨b, o, none⟩) h, fun b o h => hb.frozen (p := ⟨b, o, none⟩) h⟩
theorem ret_int {k : IntKind} {a b : Int} (h : a = b) : Ending.returned (.int k a) = .returned (.int k b) := by rw [h]
theorem ret_bool {a b : Bool} (h : a = b) : Ending.returned (.bool a) = .returned (.bool b) := by rw [h]
theorem below_drewN {B : Nat} {a w : World} (h : Below B a w) (n : Nat) : Below B a (w.drewN n) := ⟨h.os, h.tape, h.output, h.size, h.block⟩

theorem quiet_add {P : Program} {f : FuncId} {args : Array Value} {w : World} {a n : Nat} {v : Value}
    (h : Calls P f args (w.drewN (a + n)) fun e w' => e = .returned v ∧ ∃ m, w' = (w.drewN (a + n)).drewN m) :
    Calls P f args (w.drewN (a + n)) fun e w' => e = .returned v ∧ ∃ m, w' = w.drewN (a + m) :=
  h.mono fun _ _ ⟨he, m, hm⟩ => ⟨he, n + m, by rw [hm, World.drewN_drewN, Nat.add_assoc]⟩

/-- a fact that no tactic looks into: the walk's own 'contradiction' unfolds what 'Hid' hides (powers!), but not this -/
def Far (p : Prop) : Prop := True → p
theorem Far.mk {p : Prop} (h : p) : Far p := fun _ => h
theorem Far.out {p : Prop} (h : Far p) : p := h trivial

/-- Block g holds just the cells cs of type t, none of them frozen. -/
def Bk (w : World) (g : Nat) (t : TypeId) (cs : List Value) : Prop := w.heap[g]? = some (.cells cs.toArray t (0, 0))
section
variable {w w' : World} {g : Nat} {t : TypeId} {cs : List Value}
theorem Bk.lt (h : Bk w g t cs) : g < w.heap.size := by
  rcases Nat.lt_or_ge g w.heap.size with hlt | hge
  · exact hlt
  · unfold Bk at h; rw [Array.getElem?_eq_none hge] at h; cases h
theorem Bk.cell (h : Bk w g t cs) (i : Nat) {v : Value} (hv : cs[i]? = some v) : w.cell? ⟨g, i, none⟩ = some v := by
  rw [cell_of_row w g i cs.toArray t (0, 0) h, ← hv]; simp
theorem Bk.frozen (h : Bk w g t cs) (i : Nat) : w.frozen? ⟨g, i, none⟩ = false := by
  unfold Bk at h
  simp [World.frozen?, h]
theorem Bk.new (w : World) (t : TypeId) (cs : List Value) : Bk (w.alloc (.cells cs.toArray t)) w.heap.size t cs := heap_alloc_new w _
theorem Bk.new_ {w : World} {t : TypeId} {cs : List Value} {g : Nat} (hg : g = w.heap.size) : Bk (w.alloc (.cells cs.toArray t)) g t cs := by subst hg; exact Bk.new w t cs
theorem Bk.drew (h : Bk w g t cs) : Bk w.drew g t cs := h
theorem Bk.drewN (h : Bk w g t cs) (n : Nat) : Bk (w.drewN n) g t cs := h
theorem Bk.alloc (h : Bk w g t cs) (o : Obj) : Bk (w.alloc o) g t cs := (Below.heap_alloc w o g h.lt).trans h
theorem Bk.set_ (h : Bk w g t cs) (i : Nat) (u : Value) : Bk (w.setCell ⟨g, i, none⟩ u) g t (cs.set i u) := by
  unfold Bk at h ⊢
  simp [World.setCell, Array.getElem?_modify, h]
theorem Bk.far (h : Bk w g t cs) {p : Addr} (hp : g ≠ p.block) (u : Value) : Bk (w.setCell p u) g t cs := (Below.heap_setCell w p u g hp).trans h
theorem Bk.below {B : Nat} (h : Bk w g t cs) (hb : Below B w w') (hg : g < B) : Bk w' g t cs := (hb.block g hg).trans h
end
end Go.Proofs.Ythkgjodidkpaeaa

set_option linter.unusedSimpArgs false
set_option linter.unusedVariables false
namespace Go.Proofs.Ythkgjodidkpaeaa

/-- the i-th word of n -/
def wd (n : Nat) (i : Nat) : Int := ((n / 2 ^ (64 * i) % 2 ^ 64 : Nat) : Int)
theorem wd_nn (n i : Nat) : 0 ≤ wd n i := by unfold wd; omega
theorem wd_lt (n i : Nat) : wd n i < 18446744073709551616 := by
  unfold wd
  have := Nat.mod_lt (n / 2 ^ (64 * i)) (show 0 < 2 ^ 64 by decide)
  omega
theorem wd0 (n : Nat) : wd n 0 = ((n % 18446744073709551616 : Nat) : Int) := by unfold wd; simp
theorem wd1 (n : Nat) : wd n 1 = ((n / 18446744073709551616 % 18446744073709551616 : Nat) : Int) := by unfold wd; rfl
theorem wd2 (n : Nat) : wd n 2 = ((n / 340282366920938463463374607431768211456 % 18446744073709551616 : Nat) : Int) := by unfold wd; rfl
theorem wd3 (n : Nat) : wd n 3 = ((n / 6277101735386680763835789423207666416102355444464034512896 % 18446744073709551616 : Nat) : Int) := by unfold wd; rfl
/-- two words are a number below 2^128, and the other way round -/
theorem wd_two {n : Nat} (h : n < 2 ^ 128) : wd n 1 * 18446744073709551616 + wd n 0 = (n : Int) := by
  rw [wd0, wd1]; omega
theorem wd_make (x y : Int) (hx0 : 0 ≤ x) (hx : x < 18446744073709551616) (hy0 : 0 ≤ y) (hy : y < 18446744073709551616) :
    ∃ n : Nat, n < 2 ^ 128 ∧ (n : Int) = x * 18446744073709551616 + y ∧ x = wd n 1 ∧ y = wd n 0 := by
  refine ⟨(x * 18446744073709551616 + y).toNat, by omega, by omega, ?_, ?_⟩
  · rw [wd1]; omega
  · rw [wd0]; omega
theorem wd_of (n : Nat) (x y : Int) (hx0 : 0 ≤ x) (hx : x < 18446744073709551616) (hy0 : 0 ≤ y) (hy : y < 18446744073709551616) (h : (n : Int) = x * 18446744073709551616 + y) : x = wd n 1 ∧ y = wd n 0 := by
  refine ⟨?_, ?_⟩
  · rw [wd1]; omega
  · rw [wd0]; omega
theorem wd_four {n : Nat} (h : n < 2 ^ 256) : wd n 3 * 6277101735386680763835789423207666416102355444464034512896 + wd n 2 * 340282366920938463463374607431768211456 + wd n 1 * 18446744073709551616 + wd n 0 = (n : Int) := by
  rw [wd0, wd1, wd2, wd3]; omega
theorem wd_of4 (n : Nat) (a b c d : Int) (ha0 : 0 ≤ a) (ha : a < 18446744073709551616) (hb0 : 0 ≤ b) (hb : b < 18446744073709551616) (hc0 : 0 ≤ c) (hc : c < 18446744073709551616) (hd0 : 0 ≤ d) (hd : d < 18446744073709551616)
    (h : (n : Int) = d * 6277101735386680763835789423207666416102355444464034512896 + c * 340282366920938463463374607431768211456 + b * 18446744073709551616 + a) : a = wd n 0 ∧ b = wd n 1 ∧ c = wd n 2 ∧ d = wd n 3 := by
  refine ⟨?_, ?_, ?_, ?_⟩
  · rw [wd0]; omega
  · rw [wd1]; omega
  · rw [wd2]; omega
  · rw [wd3]; omega
theorem wd_make4 (a b c d : Int) (ha0 : 0 ≤ a) (ha : a < 18446744073709551616) (hb0 : 0 ≤ b) (hb : b < 18446744073709551616) (hc0 : 0 ≤ c) (hc : c < 18446744073709551616) (hd0 : 0 ≤ d) (hd : d < 18446744073709551616) :
    ∃ n : Nat, n < 2 ^ 256 ∧ a = wd n 0 ∧ b = wd n 1 ∧ c = wd n 2 ∧ d = wd n 3 :=
  ⟨(d * 6277101735386680763835789423207666416102355444464034512896 + c * 340282366920938463463374607431768211456 + b * 18446744073709551616 + a).toNat, by omega,
    wd_of4 _ a b c d ha0 ha hb0 hb hc0 hc hd0 hd (by omega)⟩
theorem wd_zero (i : Nat) : wd 0 i = 0 := by unfold wd; simp
/-- equal words, equal numbers -/
theorem wd_inj {n m : Nat} (hn : n < 2 ^ 128) (hm : m < 2 ^ 128) (h1 : wd n 1 = wd m 1) (h0 : wd n 0 = wd m 0) : n = m := by
  have := wd_two hn
  have := wd_two hm
  omega
theorem wd_eq_iff {n m : Nat} (hn : n < 2 ^ 128) (hm : m < 2 ^ 128) : ((wd n 1 == wd m 1) && (wd n 0 == wd m 0)) = decide (n = m) := by
  rw [Bool.eq_iff_iff]
  simp only [Bool.and_eq_true, beq_iff_eq, decide_eq_true_eq]
  constructor
  · rintro ⟨h1, h0⟩; exact wd_inj hn hm h1 h0
  · rintro rfl; exact ⟨rfl, rfl⟩
theorem wd_low4 {n : Nat} (hn : n < 2 ^ 256) : (wd n 2 = 0 ∧ wd n 3 = 0) ↔ n < 2 ^ 128 := by
  have h := wd_four hn
  have a0 := wd_nn n 0
  have a1 := wd_lt n 0
  have b0 := wd_nn n 1
  have b1 := wd_lt n 1
  have c0 := wd_nn n 2
  have d0 := wd_nn n 3
  constructor
  · rintro ⟨h2, h3⟩; rw [h2, h3] at h; omega
  · intro hlt; constructor <;> omega
end Go.Proofs.Ythkgjodidkpaeaa

set_option linter.unusedSimpArgs false
set_option linter.unusedVariables false
namespace Go.Proofs.Ythkgjodidkpaeaa
open Go.RowKit

/-- a word and a carry: s + 2^64 k is t -/
def Carry (s k t : Int) : Prop := s + 18446744073709551616 * k = t ∧ 0 ≤ s ∧ s < 18446744073709551616 ∧ 0 ≤ k ∧ k ≤ 1
theorem add64_ex (x y c : Int) (hx0 : 0 ≤ x) (hx : x < 18446744073709551616) (hy0 : 0 ≤ y) (hy : y < 18446744073709551616) (hc0 : 0 ≤ c) (hc : c ≤ 1) :
    ∃ s k : Int, (∀ W : World, (callFunc 86 #[.int .u64 x, .int .u64 y, .int .u64 c]).run Try.prog W = .ok (.value (.tuple #[.int .u64 s, .int .u64 k])) W) ∧ Carry s k (x + y + c) := by
  refine ⟨(x + y + c) % 18446744073709551616, (x + y + c) / 18446744073709551616, fun W => ?_, ?_⟩
  · rw [run_callFunc_extern Try.func86 (by kernel_rfl) (by kernel_rfl) (by kernel_rfl) (e := add64Entry) (by kernel_rfl), run_add64 x y c hx0 hy0 hc0 hc]
    rfl
  · unfold Carry; omega
/-- a difference and a borrow: s - 2^64 k is t -/
def Borrow (s k t : Int) : Prop := s - 18446744073709551616 * k = t ∧ 0 ≤ s ∧ s < 18446744073709551616 ∧ 0 ≤ k ∧ k ≤ 1
theorem sub64_ex (x y c : Int) (hx0 : 0 ≤ x) (hx : x < 18446744073709551616) (hy0 : 0 ≤ y) (hy : y < 18446744073709551616) (hc0 : 0 ≤ c) (hc : c ≤ 1) :
    ∃ s k : Int, (∀ W : World, (callFunc 87 #[.int .u64 x, .int .u64 y, .int .u64 c]).run Try.prog W = .ok (.value (.tuple #[.int .u64 s, .int .u64 k])) W) ∧ Borrow s k (x - y - c) := by
  obtain ⟨x, rfl⟩ := Int.eq_ofNat_of_zero_le hx0
  obtain ⟨y, rfl⟩ := Int.eq_ofNat_of_zero_le hy0
  obtain ⟨c, rfl⟩ := Int.eq_ofNat_of_zero_le hc0
  refine ⟨(((x + 18446744073709551616 - y - c) % 18446744073709551616 : Nat) : Int), ((if x < y + c then 1 else 0 : Nat) : Int), fun W => ?_, ?_⟩
  · rw [run_callFunc_extern Try.func87 (by kernel_rfl) (by kernel_rfl) (by kernel_rfl) (e := sub64Entry) (by kernel_rfl), run_sub64 x y c (by omega)]
    rfl
  · unfold Borrow; split <;> omega
/-- a product's two words -/
def Two (h l t : Int) : Prop := h * 18446744073709551616 + l = t ∧ 0 ≤ h ∧ h < 18446744073709551616 ∧ 0 ≤ l ∧ l < 18446744073709551616
theorem mul64_ex (x y : Int) (hx0 : 0 ≤ x) (hx : x < 18446744073709551616) (hy0 : 0 ≤ y) (hy : y < 18446744073709551616) :
    ∃ h l : Int, (∀ w : World, Calls Try.prog 96 #[.int .u64 x, .int .u64 y] w fun e w' => e = .returned (.tuple #[.int .u64 h, .int .u64 l]) ∧ ∃ nn, w' = w.drewN nn) ∧ Two h l (x * y) := by
  obtain ⟨x, rfl⟩ := Int.eq_ofNat_of_zero_le hx0
  obtain ⟨y, rfl⟩ := Int.eq_ofNat_of_zero_le hy0
  refine ⟨((x * y / 18446744073709551616 : Nat) : Int), ((x * y % 18446744073709551616 : Nat) : Int), fun w => (Try.bits_Mul64 x y (by omega) (by omega) w).mono fun e w' h => ⟨h.1, 0, h.2⟩, ?_⟩
  have hlt : x * y < 340282366920938463463374607431768211456 := by
    have h1 : x * y ≤ 18446744073709551615 * 18446744073709551615 := Nat.mul_le_mul (by omega) (by omega)
    omega
  unfold Two
  rw [← Int.natCast_mul]
  generalize x * y = p at *
  omega
end Go.Proofs.Ythkgjodidkpaeaa

set_option linter.unusedSimpArgs false
set_option linter.unusedVariables false
namespace Go.Proofs.Ythkgjodidkpaeaa
open Go.RowKit

theorem lz10 (w : World) : Calls Try.prog 102 #[.int .u64 10] w fun e w' => e = .returned (.int .i64 60) ∧ ∃ nn, w' = w.drewN nn :=
  (Try.bits_LeadingZeros64 10 w (by decide) (by decide)).mono fun e w' h => ⟨by rw [h.1]; rfl, 0, h.2⟩

theorem or_gen (i a b : Nat) (hb : b < 2 ^ i) : a * 2 ^ i ||| b = a * 2 ^ i + b := by
  rw [Nat.mul_comm]; exact (Nat.two_pow_add_eq_or_of_lt hb a).symm
theorem or_sum (x b : Nat) (hx : x < 18446744073709551616) (hb : b < 18446744073709551616) (h : x ||| b = x + b) : bits .or .u64 (x : Int) (b : Int) = (x : Int) + b := by
  rw [bits_or_u64_nat x b hx hb, h]; omega
theorem or_top (h l : Int) (h0 : 0 ≤ h) (h9 : h ≤ 9) (l0 : 0 ≤ l) (l1 : l < 18446744073709551616) : bits .or .u64 (h * 1152921504606846976) (l / 16) = h * 1152921504606846976 + l / 16 := by
  obtain ⟨a, rfl⟩ := Int.eq_ofNat_of_zero_le h0
  obtain ⟨b, rfl⟩ := Int.eq_ofNat_of_zero_le l0
  obtain ⟨x, hx⟩ : ∃ x : Nat, (x : Int) = (a : Int) * 1152921504606846976 := ⟨((a : Int) * 1152921504606846976).toNat, by omega⟩
  have e : ((b / 16 : Nat) : Int) = (b : Int) / 16 := by omega
  have h2 : x ||| b / 16 = x + b / 16 := by
    have h3 := or_gen 60 a (b / 16) (by omega)
    have h4 : a * 2 ^ 60 = x := by omega
    rw [h4] at h3; exact h3
  rw [← hx, ← e]
  exact or_sum x (b / 16) (by omega) (by omega) h2
theorem and_low (z : Int) (k : Int) (hz : z = k * 1152921504606846976) (h0 : 0 ≤ k) (h1 : k < 16) : bits .and .u64 z 4294967295 = 0 := by
  rw [and_low32 z (by omega) (by omega)]; omega
/-- a number of two words by ten -/
def Ten (q r t : Int) : Prop := 10 * q + r = t ∧ 0 ≤ q ∧ q < 18446744073709551616 ∧ 0 ≤ r ∧ r ≤ 9
theorem ten_last (h l u q r s p t : Int) (hu : u = h * 1152921504606846976 + l / 16) (hq : u = q * 2684354560 + r) (hr0 : 0 ≤ r) (hr : r < 2684354560)
    (hs : s = r * 4294967296 + l % 16 * 268435456) (hp : s = p * 2684354560 + t) (ht0 : 0 ≤ t) (ht : t < 2684354560) (h9 : h ≤ 9) (h0 : 0 ≤ h) (l0 : 0 ≤ l) (l1 : l < 18446744073709551616) :
    Ten (q * 4294967296 + p) (t / 268435456) (h * 18446744073709551616 + l) := by
  unfold Ten; omega

set_option maxHeartbeats 1000000 in
theorem div10_big (h l : Int) (h0 : 1 ≤ h) (h9 : h ≤ 9) (l0 : 0 ≤ l) (l1 : l < 18446744073709551616) :
    ∃ q r : Int, (∀ w : World, Calls Try.prog 100 #[.int .u64 h, .int .u64 l, .int .u64 10] w fun e w' => e = .returned (.tuple #[.int .u64 q, .int .u64 r]) ∧ ∃ nn, w' = w.drewN nn) ∧ Ten q r (h * 18446744073709551616 + l) := by
  have g1 : (h == 0) = false := by simp; omega
  obtain ⟨u, hu⟩ : ∃ u, u = h * 1152921504606846976 + l / 16 := ⟨_, rfl⟩
  obtain ⟨q, hq⟩ : ∃ q, q = u / 2684354560 := ⟨_, rfl⟩
  obtain ⟨r, hr⟩ : ∃ r, r = u % 2684354560 := ⟨_, rfl⟩
  obtain ⟨s, hs⟩ : ∃ s, s = r * 4294967296 + l % 16 * 268435456 := ⟨_, rfl⟩
  obtain ⟨p, hp⟩ : ∃ p, p = s / 2684354560 := ⟨_, rfl⟩
  obtain ⟨t, ht⟩ : ∃ t, t = s % 2684354560 := ⟨_, rfl⟩
  refine ⟨q * 4294967296 + p, t / 268435456, fun w => ?_, ten_last h l u q r s p t hu (by omega) (by omega) (by omega) hs (by omega) (by omega) (by omega) h9 (by omega) l0 l1⟩
  have E10 : bits .and .u64 11529215046068469760 4294967295 = 0 := by decide
  have E11 := or_top h l (by omega) h9 l0 l1
  rw [← hu] at E11
  have E12 : IntKind.u64.wrap (l * 1152921504606846976) = l % 16 * 1152921504606846976 := by rw [IntKind.wrap_u64]; omega
  have E13 : l % 16 * 1152921504606846976 / 4294967296 = l % 16 * 268435456 := by omega
  have E14 : bits .and .u64 (l % 16 * 1152921504606846976) 4294967295 = 0 := and_low _ (l % 16) rfl (by omega) (by omega)
  have E15 : IntKind.u64.wrap (u.tdiv 2684354560) = q := by rw [IntKind.wrap_u64, Int.tdiv_eq_ediv_of_nonneg (by omega)]; omega
  have E16 : IntKind.u64.wrap (u - IntKind.u64.wrap (q * 2684354560)) = r := by rw [IntKind.wrap_u64, IntKind.wrap_u64]; omega
  have E21 : IntKind.u64.wrap (IntKind.u64.wrap (IntKind.u64.wrap (u * 4294967296) + l % 16 * 268435456) - IntKind.u64.wrap (q * 11529215046068469760)) = s := by simp only [IntKind.wrap_u64]; omega
  have E22 : IntKind.u64.wrap (s.tdiv 2684354560) = p := by rw [IntKind.wrap_u64, Int.tdiv_eq_ediv_of_nonneg (by omega)]; omega
  have E23 : IntKind.u64.wrap (s - IntKind.u64.wrap (p * 2684354560)) = t := by simp only [IntKind.wrap_u64]; omega
  have E24 : IntKind.u64.wrap (IntKind.u64.wrap (IntKind.u64.wrap (s * 4294967296)) - IntKind.u64.wrap (p * 11529215046068469760)) / 1152921504606846976 = t / 268435456 := by simp only [IntKind.wrap_u64]; omega
  have J4 := Lib.hid E24
  have J1 := Lib.hid E21
  have J2 := Lib.hid E22
  have J3 := Lib.hid E23
  clear E21 E22 E23 E24
  have q0 : 0 ≤ q := by omega
  have q1 : q < 4294967296 := by omega
  have r0 : 0 ≤ r := by omega
  have r1 : r < 2684354560 := by omega
  have s0 : 0 ≤ s := by omega
  have s1 : s < 11529215046068469760 := by omega
  have p0 : 0 ≤ p := by omega
  have p1 : p < 4294967296 := by omega
  have t0 : 0 ≤ t := by omega
  have t1 : t < 2684354560 := by omega
  have m0 : 0 ≤ l % 16 * 268435456 := by omega
  have m1 : l % 16 * 268435456 < 4294967296 := by omega
  have H1 := Lib.hid E10
  have H2 := Lib.hid E11
  have H3 := Lib.hid E12
  have H4 := Lib.hid E13
  have H5 := Lib.hid E14
  have H6 := Lib.hid E15
  have H7 := Lib.hid E16
  have G1 := Lib.hid hu
  have G2 := Lib.hid hq
  have G3 := Lib.hid hr
  have G4 := Lib.hid hs
  have G5 := Lib.hid hp
  have G6 := Lib.hid ht
  clear E10 E11 E12 E13 E14 E15 E16 hu hq hr hs hp ht
  go_enter Try.func100, Try.ntmps100
  go_wp2_with ((go_at_call 102; with_reducible refine (lz10 _).mono ?_); rintro _ _ ⟨rfl, n1, rfl⟩)
  rw [H1.out, H2.out, H3.out, H4.out, H5.out, H6.out, H7.out]
  refine wp_loop_rounds 1 ?_
  rw [rounds_succ]
  go_wp2
  rw [J1.out, J2.out, J3.out]
  refine wp_loop_rounds 1 ?_
  rw [rounds_succ]
  go_wp2
  go_ret2
  refine ⟨?_, _, rfl⟩
  show Ending.returned (.tuple #[.int .u64 _, .int .u64 _]) = _
  rw [J4.out]
set_option maxHeartbeats 1000000 in
theorem div10_small (l : Int) (l0 : 0 ≤ l) (l1 : l < 18446744073709551616) (w : World) :
    Calls Try.prog 100 #[.int .u64 0, .int .u64 l, .int .u64 10] w fun e w' => e = .returned (.tuple #[.int .u64 (l / 10), .int .u64 (l % 10)]) ∧ ∃ nn, w' = w.drewN nn := by
  go_enter Try.func100, Try.ntmps100
  go_wp2_with fail
  go_quiet (fail)
  go_wp2_with fail
  go_ret2
  exact ⟨rfl, _, rfl⟩
theorem div10_ex (h l : Int) (h0 : 0 ≤ h) (h9 : h ≤ 9) (l0 : 0 ≤ l) (l1 : l < 18446744073709551616) :
    ∃ q r : Int, (∀ w : World, Calls Try.prog 100 #[.int .u64 h, .int .u64 l, .int .u64 10] w fun e w' => e = .returned (.tuple #[.int .u64 q, .int .u64 r]) ∧ ∃ nn, w' = w.drewN nn) ∧ Ten q r (h * 18446744073709551616 + l) := by
  by_cases hz : h = 0
  · subst hz
    exact ⟨_, _, div10_small l l0 l1, by unfold Ten; omega⟩
  · exact div10_big h l (by omega) h9 l0 l1
end Go.Proofs.Ythkgjodidkpaeaa

set_option linter.unusedSimpArgs false
set_option linter.unusedVariables false
namespace Go.Proofs.Ythkgjodidkpaeaa
open Go.RowKit

def cmpI (a b c d : Int) : Int := if a = c ∧ b = d then 0 else if a < c ∨ (a = c ∧ b < d) then -1 else 1
/-- -1, 0, 1: below, equal, above -/
def cmpN (n m : Nat) : Int := if n = m then 0 else if n < m then -1 else 1
theorem cmp_eq (n m : Nat) (hn : n < 2 ^ 128) (hm : m < 2 ^ 128) : cmpI (wd n 1) (wd n 0) (wd m 1) (wd m 0) = cmpN n m := by
  have h1 := wd_two hn
  have h2 := wd_two hm
  have h3 := wd_nn n 0
  have h4 := wd_lt n 0
  have h5 := wd_nn m 0
  have h6 := wd_lt m 0
  unfold cmpI cmpN
  split <;> split <;> (try split) <;> (try split) <;> omega
set_option maxHeartbeats 1000000 in
theorem cmp_int (a b c d : Int) (w : World) : Calls Try.prog 54 #[.agg #[.int .u64 a, .int .u64 b], .agg #[.int .u64 c, .int .u64 d]] w fun e w' => e = .returned (.int .i64 (cmpI a b c d)) ∧ Below w.heap.size w w' := by
  go_enter Try.func54, Try.ntmps54
  go_wp2
  all_goals go_ret
  all_goals refine ⟨?_, by (repeat' (first | (with_reducible exact Below.refl _ _) | (with_reducible assumption) | (with_reducible refine Below.drew ?_) | (with_reducible refine below_drewN ?_ _) | ((with_reducible refine Below.alloc ?_ ?_ _); rotate_left; focus (go_size; done)) | ((with_reducible refine Below.setCell ?_ ?_ _); rotate_left; focus (go_size; done)) | ((with_reducible refine Below.trans ?_ (Below.mono (by with_reducible assumption) ?_)); rotate_left; focus (go_size; done))))⟩
  all_goals simp [cmpI]
  all_goals (first | done | omega | (simp_all; done) | (simp_all; omega))
theorem cmp_any (n m : Nat) (hn : n < 2 ^ 128) (hm : m < 2 ^ 128) (w : World) : Calls Try.prog 54 #[.agg #[.int .u64 (wd n 1), .int .u64 (wd n 0)], .agg #[.int .u64 (wd m 1), .int .u64 (wd m 0)]] w fun e w' => e = .returned (.int .i64 (cmpN n m)) ∧ Below w.heap.size w w' := by
  rw [← cmp_eq n m hn hm]
  exact cmp_int _ _ _ _ w

def over (n : Nat) : Int := if n < 2 ^ 128 then 0 else 3
def fitW (n : Nat) : Nat := if n < 2 ^ 128 then n else 0
set_option maxHeartbeats 1000000 in
theorem add_any (n m : Nat) (hn : n < 2 ^ 128) (hm : m < 2 ^ 128) (w : World) : Calls Try.prog 95 #[.agg #[.int .u64 (wd n 1), .int .u64 (wd n 0)], .agg #[.int .u64 (wd m 1), .int .u64 (wd m 0)]] w fun e w' => e = .returned (.tuple #[.agg #[.int .u64 (wd (fitW (n + m)) 1), .int .u64 (wd (fitW (n + m)) 0)], .int .i64 (over (n + m))]) ∧ Below w.heap.size w w' := by
  have h1 := wd_two hn
  have h2 := wd_two hm
  have a0 := wd_nn n 0
  have a1 := wd_lt n 0
  have b0 := wd_nn n 1
  have b1 := wd_lt n 1
  have c0 := wd_nn m 0
  have c1 := wd_lt m 0
  have d0 := wd_nn m 1
  have d1 := wd_lt m 1
  obtain ⟨s, k, f1, H1⟩ := add64_ex (wd n 0) (wd m 0) 0 a0 a1 c0 c1 (by decide) (by decide)
  have H1' := H1
  unfold Carry at H1'
  obtain ⟨t, j, f2, H2⟩ := add64_ex (wd n 1) (wd m 1) k b0 b1 d0 d1 H1'.2.2.2.1 H1'.2.2.2.2
  have H2' := H2
  unfold Carry at H2'
  by_cases hj : j = 0
  · subst hj
    have e0 : n + m < 2 ^ 128 := by omega
    have e1 : over (n + m) = 0 := by unfold over; rw [if_pos e0]
    have e2 : fitW (n + m) = n + m := by unfold fitW; rw [if_pos e0]
    obtain ⟨e3, e4⟩ := wd_of (n + m) t s (by omega) (by omega) (by omega) (by omega) (by omega)
    rw [e1, e2, ← e3, ← e4]
    clear e0 e1 e2 e3 e4 H1 H2 H1' H2' h1 h2
    generalize wd n 0 = x0 at *
    generalize wd n 1 = x1 at *
    generalize wd m 0 = y0 at *
    generalize wd m 1 = y1 at *
    go_enter Try.func95, Try.ntmps95
    go_wp2
    refine bodyPost_ret (by simp [results, Try.results95, go_sem, *]; try rfl) rfl ?_
    exact ⟨rfl, by (repeat' (first | (with_reducible exact Below.refl _ _) | (with_reducible assumption) | (with_reducible refine Below.drew ?_) | (with_reducible refine below_drewN ?_ _) | ((with_reducible refine Below.alloc ?_ ?_ _); rotate_left; focus (go_size; done)) | ((with_reducible refine Below.setCell ?_ ?_ _); rotate_left; focus (go_size; done)) | ((with_reducible refine Below.trans ?_ (Below.mono (by with_reducible assumption) ?_)); rotate_left; focus (go_size; done))))⟩
  · have hj1 : j = 1 := by omega
    subst hj1
    have e0 : ¬ n + m < 2 ^ 128 := by omega
    have e1 : over (n + m) = 3 := by unfold over; rw [if_neg e0]
    have e2 : fitW (n + m) = 0 := by unfold fitW; rw [if_neg e0]
    rw [e1, e2, wd_zero, wd_zero]
    clear e0 e1 e2 H1 H2 H1' H2' h1 h2 hj
    generalize wd n 0 = x0 at *
    generalize wd n 1 = x1 at *
    generalize wd m 0 = y0 at *
    generalize wd m 1 = y1 at *
    go_enter Try.func95, Try.ntmps95
    go_wp2
    refine bodyPost_ret (by simp [results, Try.results95, go_sem, *]; try rfl) rfl ?_
    exact ⟨rfl, by (repeat' (first | (with_reducible exact Below.refl _ _) | (with_reducible assumption) | (with_reducible refine Below.drew ?_) | (with_reducible refine below_drewN ?_ _) | ((with_reducible refine Below.alloc ?_ ?_ _); rotate_left; focus (go_size; done)) | ((with_reducible refine Below.setCell ?_ ?_ _); rotate_left; focus (go_size; done)) | ((with_reducible refine Below.trans ?_ (Below.mono (by with_reducible assumption) ?_)); rotate_left; focus (go_size; done))))⟩

def under (n m : Nat) : Int := if n < m then 3 else 0
def lessW (n m : Nat) : Nat := if n < m then n + 2 ^ 128 - m else n - m
def borrowW (n m : Nat) : Int := if n < m then 1 else 0
set_option maxHeartbeats 1000000 in
theorem less_any (n m : Nat) (hn : n < 2 ^ 128) (hm : m < 2 ^ 128) (w : World) : Calls Try.prog 97 #[.agg #[.int .u64 (wd n 1), .int .u64 (wd n 0)], .agg #[.int .u64 (wd m 1), .int .u64 (wd m 0)]] w fun e w' => e = .returned (.tuple #[.agg #[.int .u64 (wd (lessW n m) 1), .int .u64 (wd (lessW n m) 0)], .int .u64 (borrowW n m)]) ∧ Below w.heap.size w w' := by
  have h1 := wd_two hn
  have h2 := wd_two hm
  have a0 := wd_nn n 0
  have a1 := wd_lt n 0
  have b0 := wd_nn n 1
  have b1 := wd_lt n 1
  have c0 := wd_nn m 0
  have c1 := wd_lt m 0
  have d0 := wd_nn m 1
  have d1 := wd_lt m 1
  obtain ⟨s, k, f1, H1⟩ := sub64_ex (wd n 0) (wd m 0) 0 a0 a1 c0 c1 (by decide) (by decide)
  have H1' := H1
  unfold Borrow at H1'
  obtain ⟨t, j, f2, H2⟩ := sub64_ex (wd n 1) (wd m 1) k b0 b1 d0 d1 H1'.2.2.2.1 H1'.2.2.2.2
  have H2' := H2
  unfold Borrow at H2'
  have e1 : borrowW n m = j := by unfold borrowW; split <;> omega
  have e2 : (lessW n m : Int) = t * 18446744073709551616 + s := by unfold lessW; split <;> omega
  obtain ⟨e3, e4⟩ := wd_of (lessW n m) t s (by omega) (by omega) (by omega) (by omega) e2
  rw [e1, ← e3, ← e4]
  clear e1 e2 e3 e4 H1 H2 H1' H2' h1 h2
  generalize wd n 0 = x0 at *
  generalize wd n 1 = x1 at *
  generalize wd m 0 = y0 at *
  generalize wd m 1 = y1 at *
  go_enter Try.func97, Try.ntmps97
  go_wp2
  refine bodyPost_ret (by simp [results, Try.results97, go_sem, *]; try rfl) rfl ?_
  exact ⟨rfl, by (repeat' (first | (with_reducible exact Below.refl _ _) | (with_reducible assumption) | (with_reducible refine Below.drew ?_) | (with_reducible refine below_drewN ?_ _) | ((with_reducible refine Below.alloc ?_ ?_ _); rotate_left; focus (go_size; done)) | ((with_reducible refine Below.setCell ?_ ?_ _); rotate_left; focus (go_size; done)) | ((with_reducible refine Below.trans ?_ (Below.mono (by with_reducible assumption) ?_)); rotate_left; focus (go_size; done))))⟩
def subW (n m : Nat) : Nat := if n < m then 0 else n - m
set_option maxHeartbeats 1000000 in
theorem sub_any (n m : Nat) (hn : n < 2 ^ 128) (hm : m < 2 ^ 128) (w : World) : Calls Try.prog 80 #[.agg #[.int .u64 (wd n 1), .int .u64 (wd n 0)], .agg #[.int .u64 (wd m 1), .int .u64 (wd m 0)]] w fun e w' => e = .returned (.tuple #[.agg #[.int .u64 (wd (subW n m) 1), .int .u64 (wd (subW n m) 0)], .int .i64 (under n m)]) ∧ Below w.heap.size w w' := by
  have HL := Lib.hid (fun W => less_any n m hn hm W)
  by_cases h : n < m
  · have e1 : under n m = 3 := by unfold under; rw [if_pos h]
    have e2 : subW n m = 0 := by unfold subW; rw [if_pos h]
    have e3 : borrowW n m = 1 := by unfold borrowW; rw [if_pos h]
    rw [e1, e2, wd_zero, wd_zero]
    rw [e3] at HL
    clear e1 e2 e3 h hn hm
    go_enter Try.func80, Try.ntmps80
    go_wp2_with ((go_at_call 97; with_reducible refine (HL.out _).mono ?_); rintro _ w1 ⟨rfl, hb1⟩; have hb1s := hb1.size; (try simp only [World.size_alloc, World.size_setCell, World.size_drew, World.heap_drewN] at hb1s); obtain ⟨hb1c, hb1f⟩ := bcell hb1; (try have : w.heap.size < w1.heap.size := by omega); (try have : w.heap.size + 1 < w1.heap.size := by omega); (try have : w.heap.size + 1 + 1 < w1.heap.size := by omega); (try have : w.heap.size + 1 + 1 + 1 < w1.heap.size := by omega))
    refine bodyPost_ret (by simp [results, Try.results80, go_sem, *]; try rfl) rfl ?_
    exact ⟨rfl, by (repeat' (first | (with_reducible exact Below.refl _ _) | (with_reducible assumption) | (with_reducible refine Below.drew ?_) | (with_reducible refine below_drewN ?_ _) | ((with_reducible refine Below.alloc ?_ ?_ _); rotate_left; focus (go_size; done)) | ((with_reducible refine Below.setCell ?_ ?_ _); rotate_left; focus (go_size; done)) | ((with_reducible refine Below.trans ?_ (Below.mono (by with_reducible assumption) ?_)); rotate_left; focus (go_size; done))))⟩
  · have e1 : under n m = 0 := by unfold under; rw [if_neg h]
    have e2 : subW n m = lessW n m := by unfold subW lessW; rw [if_neg h, if_neg h]
    have e3 : borrowW n m = 0 := by unfold borrowW; rw [if_neg h]
    rw [e1, e2]
    rw [e3] at HL
    clear e1 e2 e3 h hn hm
    go_enter Try.func80, Try.ntmps80
    go_wp2_with ((go_at_call 97; with_reducible refine (HL.out _).mono ?_); rintro _ w1 ⟨rfl, hb1⟩; have hb1s := hb1.size; (try simp only [World.size_alloc, World.size_setCell, World.size_drew, World.heap_drewN] at hb1s); obtain ⟨hb1c, hb1f⟩ := bcell hb1; (try have : w.heap.size < w1.heap.size := by omega); (try have : w.heap.size + 1 < w1.heap.size := by omega); (try have : w.heap.size + 1 + 1 < w1.heap.size := by omega); (try have : w.heap.size + 1 + 1 + 1 < w1.heap.size := by omega))
    refine bodyPost_ret (by simp [results, Try.results80, go_sem, *]; try rfl) rfl ?_
    exact ⟨rfl, by (repeat' (first | (with_reducible exact Below.refl _ _) | (with_reducible assumption) | (with_reducible refine Below.drew ?_) | (with_reducible refine below_drewN ?_ _) | ((with_reducible refine Below.alloc ?_ ?_ _); rotate_left; focus (go_size; done)) | ((with_reducible refine Below.setCell ?_ ?_ _); rotate_left; focus (go_size; done)) | ((with_reducible refine Below.trans ?_ (Below.mono (by with_reducible assumption) ?_)); rotate_left; focus (go_size; done))))⟩
set_option maxHeartbeats 1000000 in
theorem narrow_any (n : Nat) (hn : n < 2 ^ 256) (w : World) : Calls Try.prog 94 #[.agg #[.int .u64 (wd n 0), .int .u64 (wd n 1), .int .u64 (wd n 2), .int .u64 (wd n 3)]] w fun e w' => e = .returned (.tuple #[.agg #[.int .u64 (wd (fitW n) 1), .int .u64 (wd (fitW n) 0)], .int .i64 (over n)]) ∧ Below w.heap.size w w' := by
  have hi := wd_low4 hn
  by_cases h : n < 2 ^ 128
  · have e1 : over n = 0 := by unfold over; rw [if_pos h]
    have e2 : fitW n = n := by unfold fitW; rw [if_pos h]
    obtain ⟨e3, e4⟩ := hi.2 h
    rw [e1, e2]
    have g3 : (wd n 2 == 0) = true := by simp [e3]
    have g4 : (wd n 3 == 0) = true := by simp [e4]
    have g5 : (wd n 2 != 0) = false := by simp [e3]
    have g6 : (wd n 3 != 0) = false := by simp [e4]
    clear e1 e2 e3 e4 hi h hn
    generalize wd n 0 = x0 at *
    generalize wd n 1 = x1 at *
    generalize wd n 2 = x2 at *
    generalize wd n 3 = x3 at *
    go_enter Try.func94, Try.ntmps94
    go_wp2
    refine bodyPost_ret (by simp [results, Try.results94, go_sem, *]; try rfl) rfl ?_
    exact ⟨rfl, by (repeat' (first | (with_reducible exact Below.refl _ _) | (with_reducible assumption) | (with_reducible refine Below.drew ?_) | (with_reducible refine below_drewN ?_ _) | ((with_reducible refine Below.alloc ?_ ?_ _); rotate_left; focus (go_size; done)) | ((with_reducible refine Below.setCell ?_ ?_ _); rotate_left; focus (go_size; done)) | ((with_reducible refine Below.trans ?_ (Below.mono (by with_reducible assumption) ?_)); rotate_left; focus (go_size; done))))⟩
  · have e1 : over n = 3 := by unfold over; rw [if_neg h]
    have e2 : fitW n = 0 := by unfold fitW; rw [if_neg h]
    rw [e1, e2, wd_zero, wd_zero]
    have hi' : ¬ (wd n 2 = 0 ∧ wd n 3 = 0) := fun x => h (hi.1 x)
    have H := Lib.hid hi'
    clear e1 e2 hi hi' h hn
    generalize wd n 0 = x0 at *
    generalize wd n 1 = x1 at *
    generalize wd n 2 = x2 at *
    generalize wd n 3 = x3 at *
    go_enter Try.func94, Try.ntmps94
    go_wp2
    all_goals first
      | (exfalso; have := H.out; simp_all; done)
      | (refine bodyPost_ret (by simp [results, Try.results94, go_sem, *]; try rfl) rfl ?_
         exact ⟨rfl, by (repeat' (first | (with_reducible exact Below.refl _ _) | (with_reducible assumption) | (with_reducible refine Below.drew ?_) | (with_reducible refine below_drewN ?_ _) | ((with_reducible refine Below.alloc ?_ ?_ _); rotate_left; focus (go_size; done)) | ((with_reducible refine Below.setCell ?_ ?_ _); rotate_left; focus (go_size; done)) | ((with_reducible refine Below.trans ?_ (Below.mono (by with_reducible assumption) ?_)); rotate_left; focus (go_size; done))))⟩)
set_option maxHeartbeats 2000000 in
theorem tenth_any (n : Nat) (hn : n < 2 ^ 256) (w : World) : Calls Try.prog 89 #[.agg #[.int .u64 (wd n 0), .int .u64 (wd n 1), .int .u64 (wd n 2), .int .u64 (wd n 3)]] w fun e w' => e = .returned (.tuple #[.agg #[.int .u64 (wd (n / 10) 0), .int .u64 (wd (n / 10) 1), .int .u64 (wd (n / 10) 2), .int .u64 (wd (n / 10) 3)], .int .u64 ((n % 10 : Nat) : Int)]) ∧ Below w.heap.size w w' := by
  have h := wd_four hn
  have a0 := wd_nn n 0
  have a1 := wd_lt n 0
  have b0 := wd_nn n 1
  have b1 := wd_lt n 1
  have c0 := wd_nn n 2
  have c1 := wd_lt n 2
  have d0 := wd_nn n 3
  have d1 := wd_lt n 3
  obtain ⟨q3, r3, f3, H3⟩ := div10_ex 0 (wd n 3) (by decide) (by decide) d0 d1
  have G3 := H3
  unfold Ten at G3
  obtain ⟨q2, r2, f2, H2⟩ := div10_ex r3 (wd n 2) (by omega) (by omega) c0 c1
  have G2 := H2
  unfold Ten at G2
  obtain ⟨q1, r1, f1, H1⟩ := div10_ex r2 (wd n 1) (by omega) (by omega) b0 b1
  have G1 := H1
  unfold Ten at G1
  obtain ⟨q0, r0, f0, H0⟩ := div10_ex r1 (wd n 0) (by omega) (by omega) a0 a1
  have G0 := H0
  unfold Ten at G0
  have e := wd_of4 (n / 10) q0 q1 q2 q3 (by omega) (by omega) (by omega) (by omega) (by omega) (by omega) (by omega) (by omega) (by omega)
  obtain ⟨e0, e1, e2, e3⟩ := e
  have er : ((n % 10 : Nat) : Int) = r0 := by omega
  rw [er, ← e0, ← e1, ← e2, ← e3]
  have F0 := Lib.hid f0
  have F1 := Lib.hid f1
  have F2 := Lib.hid f2
  have F3 := Lib.hid f3
  clear f0 f1 f2 f3 e0 e1 e2 e3 er H0 H1 H2 H3 G0 G1 G2 G3 h a0 a1 b0 b1 c0 c1 d0 d1 hn
  generalize wd n 0 = x0 at *
  generalize wd n 1 = x1 at *
  generalize wd n 2 = x2 at *
  generalize wd n 3 = x3 at *
  go_enter Try.func89, Try.ntmps89
  go_wp2_with fail
  refine wp_loop_rounds 5 ?_
  rw [rounds_succ]
  go_wp2_with ((go_at_call 100; with_reducible refine (F3.out _).mono ?_); rintro _ _ ⟨rfl, n1, rfl⟩)
  rw [rounds_succ]
  go_wp2_with ((go_at_call 100; with_reducible refine (F2.out _).mono ?_); rintro _ _ ⟨rfl, n2, rfl⟩)
  rw [rounds_succ]
  go_wp2_with ((go_at_call 100; with_reducible refine (F1.out _).mono ?_); rintro _ _ ⟨rfl, n3, rfl⟩)
  rw [rounds_succ]
  go_wp2_with ((go_at_call 100; with_reducible refine (F0.out _).mono ?_); rintro _ _ ⟨rfl, n4, rfl⟩)
  rw [rounds_succ]
  go_wp2_with fail
  refine bodyPost_ret (by simp [results, Try.results89, go_sem, *]; try rfl) rfl ?_
  exact ⟨rfl, by (repeat' (first | (with_reducible exact Below.refl _ _) | (with_reducible assumption) | (with_reducible refine Below.drew ?_) | (with_reducible refine below_drewN ?_ _) | ((with_reducible refine Below.alloc ?_ ?_ _); rotate_left; focus (go_size; done)) | ((with_reducible refine Below.setCell ?_ ?_ _); rotate_left; focus (go_size; done)) | ((with_reducible refine Below.trans ?_ (Below.mono (by with_reducible assumption) ?_)); rotate_left; focus (go_size; done))))⟩
end Go.Proofs.Ythkgjodidkpaeaa

set_option linter.unusedSimpArgs false
set_option linter.unusedVariables false
namespace Go.Proofs.Ythkgjodidkpaeaa
open Go.RowKit

/-- N / d to the nearest, half to even -/
def near (N d : Nat) : Nat := N / d + if 2 * (N % d) > d ∨ (2 * (N % d) = d ∧ N / d % 2 = 1) then 1 else 0
def lastD (N n : Nat) : Int := if n = 0 then 0 else ((N / 10 ^ (n - 1) % 10 : Nat) : Int)
def belD (N n : Nat) : Bool := decide (n ≠ 0 ∧ N % 10 ^ (n - 1) ≠ 0)
theorem lastD_succ (N n : Nat) : lastD N (n + 1) = ((N / 10 ^ n % 10 : Nat) : Int) := by
  unfold lastD; rw [if_neg (by omega), Nat.add_sub_cancel]
theorem lastD_bd (N n : Nat) : 0 ≤ lastD N n ∧ lastD N n ≤ 9 := by
  unfold lastD; split <;> omega
theorem mod_step (N n : Nat) : N % 10 ^ (n + 1) = N % 10 ^ n + 10 ^ n * (N / 10 ^ n % 10) := by
  rw [Nat.pow_succ, Nat.mod_mul]
theorem belD_succ (N n : Nat) : belD N (n + 1) = (belD N n || (lastD N n != 0)) := by
  rw [Bool.eq_iff_iff]
  simp only [belD, Bool.or_eq_true, decide_eq_true_eq, bne_iff_ne, Nat.add_sub_cancel]
  cases n with
  | zero => simp [lastD]; omega
  | succ m =>
    rw [lastD_succ, mod_step]
    have hp : 0 < 10 ^ m := Nat.pow_pos (by decide)
    constructor
    · rintro ⟨_, h⟩
      by_cases h0 : N % 10 ^ m = 0
      · right; intro hz
        have hz' : N / 10 ^ m % 10 = 0 := by omega
        rw [h0, hz'] at h; exact h rfl
      · left; exact ⟨by omega, by simpa using h0⟩
    · rintro (⟨_, h⟩ | h)
      · refine ⟨by omega, ?_⟩
        simp only [Nat.add_sub_cancel] at h
        omega
      · refine ⟨by omega, fun hz => h ?_⟩
        have h1 : 10 ^ m * (N / 10 ^ m % 10) = 0 := by omega
        rcases Nat.mul_eq_zero.1 h1 with h2 | h2 <;> omega
theorem near_of (N n : Nat) (up : Prop) [Decidable up] (h : up ↔ (lastD N n > 5 ∨ (lastD N n = 5 ∧ (belD N n = true ∨ N / 10 ^ n % 2 = 1)))) :
    near N (10 ^ n) = N / 10 ^ n + if up then 1 else 0 := by
  unfold near
  congr 1
  have key : (2 * (N % 10 ^ n) > 10 ^ n ∨ (2 * (N % 10 ^ n) = 10 ^ n ∧ N / 10 ^ n % 2 = 1)) ↔ up := by
    rw [h]
    cases n with
    | zero => simp [lastD, Nat.mod_one]
    | succ m =>
      rw [lastD_succ, mod_step]
      simp only [belD, decide_eq_true_eq, Nat.add_sub_cancel]
      have hp : 0 < 10 ^ m := Nat.pow_pos (by decide)
      have hl : N % 10 ^ m < 10 ^ m := Nat.mod_lt _ hp
      have hd : N / 10 ^ m % 10 < 10 := Nat.mod_lt _ (by decide)
      generalize N / 10 ^ (m + 1) % 2 = par
      generalize N / 10 ^ m % 10 = d at *
      rw [Nat.pow_succ]
      generalize N % 10 ^ m = low at *
      generalize 10 ^ m = P at *
      have hc : d = 0 ∨ d = 1 ∨ d = 2 ∨ d = 3 ∨ d = 4 ∨ d = 5 ∨ d = 6 ∨ d = 7 ∨ d = 8 ∨ d = 9 := by omega
      rcases hc with rfl | rfl | rfl | rfl | rfl | rfl | rfl | rfl | rfl | rfl <;> simp <;> omega
  by_cases hu : up
  · rw [if_pos hu, if_pos (key.2 hu)]
  · rw [if_neg hu, if_neg (fun x => hu (key.1 x))]
theorem div_lt_256 {N : Nat} (hN : N < 2 ^ 256) (d : Nat) : N / d < 2 ^ 256 := Nat.lt_of_le_of_lt (Nat.div_le_self _ _) hN

theorem wd_odd (X : Nat) : bits .and .u64 (wd X 0) 1 = ((X % 2 : Nat) : Int) := by
  have h := bits_and_u64_nat (X % 18446744073709551616) 1 (by omega) (by omega)
  rw [Nat.and_one_is_mod] at h
  have e : ((1 : Nat) : Int) = 1 := rfl
  rw [e] at h
  rw [wd0, h]
  omega
set_option maxHeartbeats 2000000 in
theorem round_bad (N : Nat) (k : Int) (hk : k < 0 ∨ 76 < k) (w : World) : Calls Try.prog 74 #[.agg #[.int .u64 (wd N 0), .int .u64 (wd N 1), .int .u64 (wd N 2), .int .u64 (wd N 3)], .int .i64 k] w fun e w' => e = .returned (.tuple #[.agg #[.int .u64 0, .int .u64 0], .int .i64 1]) ∧ Below w.heap.size w w' := by
  generalize wd N 0 = x0 at *
  generalize wd N 1 = x1 at *
  generalize wd N 2 = x2 at *
  generalize wd N 3 = x3 at *
  rcases hk with hk | hk
  · go_enter Try.func74, Try.ntmps74
    go_wp2_with fail
    refine bodyPost_ret (by simp [results, Try.results74, go_sem, *]; try rfl) rfl ?_
    exact ⟨rfl, by (repeat' (first | (with_reducible exact Below.refl _ _) | (with_reducible assumption) | (with_reducible refine Below.drew ?_) | (with_reducible refine below_drewN ?_ _) | ((with_reducible refine Below.alloc ?_ ?_ _); rotate_left; focus (go_size; done)) | ((with_reducible refine Below.setCell ?_ ?_ _); rotate_left; focus (go_size; done)) | ((with_reducible refine Below.trans ?_ (Below.mono (by with_reducible assumption) ?_)); rotate_left; focus (go_size; done))))⟩
  · have h0 : ¬ k < 0 := by omega
    go_enter Try.func74, Try.ntmps74
    go_wp2_with fail
    refine bodyPost_ret (by simp [results, Try.results74, go_sem, *]; try rfl) rfl ?_
    exact ⟨rfl, by (repeat' (first | (with_reducible exact Below.refl _ _) | (with_reducible assumption) | (with_reducible refine Below.drew ?_) | (with_reducible refine below_drewN ?_ _) | ((with_reducible refine Below.alloc ?_ ?_ _); rotate_left; focus (go_size; done)) | ((with_reducible refine Below.setCell ?_ ?_ _); rotate_left; focus (go_size; done)) | ((with_reducible refine Below.trans ?_ (Below.mono (by with_reducible assumption) ?_)); rotate_left; focus (go_size; done))))⟩

set_option maxHeartbeats 4000000 in
theorem round_any (N : Nat) (hN : N < 2 ^ 256) (k : Nat) (hk : k ≤ 76) (w : World) : Calls Try.prog 74 #[.agg #[.int .u64 (wd N 0), .int .u64 (wd N 1), .int .u64 (wd N 2), .int .u64 (wd N 3)], .int .i64 k] w fun e w' => e = .returned (.tuple #[.agg #[.int .u64 (wd (fitW (near N (10 ^ k))) 1), .int .u64 (wd (fitW (near N (10 ^ k))) 0)], .int .i64 (over (near N (10 ^ k)))]) ∧ Below w.heap.size w w' := by
  have k0 : (0 : Int) ≤ (k : Int) := by omega
  have k1 : (k : Int) ≤ 76 := by omega
  have HN := Lib.hid hN
  clear hN
  go_enter Try.func74, Try.ntmps74
  go_wp2_with fail
  go_loopg [6, 7, 18] k (fun kk l b i wr => ∃ n : Nat, kk + n = k ∧ l = .int .u64 (lastD N n) ∧ b = .bool (belD N n) ∧ i = .int .i64 n ∧ w.heap.size + 2 ≤ wr.heap.size ∧ Below w.heap.size w wr ∧
    Bk wr w.heap.size 45 [.int .u64 (wd (N / 10 ^ n) 0), .int .u64 (wd (N / 10 ^ n) 1), .int .u64 (wd (N / 10 ^ n) 2), .int .u64 (wd (N / 10 ^ n) 3)] ∧ Bk wr (w.heap.size + 1) 24 [.int .u64 0, .int .u64 0])
  case atStart =>
    refine ⟨0, by omega, rfl, rfl, rfl, by go_size, by (repeat' (first | (with_reducible exact Below.refl _ _) | (with_reducible assumption) | (with_reducible refine Below.drew ?_) | (with_reducible refine below_drewN ?_ _) | ((with_reducible refine Below.alloc ?_ ?_ _); rotate_left; focus (go_size; done)) | ((with_reducible refine Below.setCell ?_ ?_ _); rotate_left; focus (go_size; done)) | ((with_reducible refine Below.trans ?_ (Below.mono (by with_reducible assumption) ?_)); rotate_left; focus (go_size; done)))), ?_, by (repeat (first | (with_reducible assumption) | ((with_reducible refine Bk.new_ ?_); (first | rfl | (simp only [World.size_alloc, World.size_setCell, World.size_drew, World.heap_drewN]; done))) | (with_reducible refine Bk.alloc ?_ _) | (with_reducible refine Bk.drew ?_) | (with_reducible refine Bk.drewN ?_ _) | ((with_reducible refine Bk.far ?_ ?_ _); rotate_left; focus (simp only []; omega)) | ((with_reducible refine Bk.below ?_ (by with_reducible assumption) ?_); rotate_left; focus (go_size; done))))⟩
    rw [Nat.pow_zero, Nat.div_one]
    (repeat (first | (with_reducible assumption) | ((with_reducible refine Bk.new_ ?_); (first | rfl | (simp only [World.size_alloc, World.size_setCell, World.size_drew, World.heap_drewN]; done))) | (with_reducible refine Bk.alloc ?_ _) | (with_reducible refine Bk.drew ?_) | (with_reducible refine Bk.drewN ?_ _) | ((with_reducible refine Bk.far ?_ ?_ _); rotate_left; focus (simp only []; omega)) | ((with_reducible refine Bk.below ?_ (by with_reducible assumption) ?_); rotate_left; focus (go_size; done))))
  case round =>
    obtain ⟨n, hn, rfl, rfl, rfl, hsz, hbel, b0, b1⟩ := hrel
    have HK := Lib.hid hn
    have hle : (n : Int) ≤ (k : Int) := by omega
    have HB := Lib.hid (belD_succ N n)
    have HL := Lib.hid (lastD_bd N n)
    have HX := Lib.hid (div_lt_256 HN.out (10 ^ n))
    have hlb := lastD_bd N n
    obtain ⟨l0, l9⟩ := hlb
    obtain ⟨X, hX⟩ : ∃ X, X = N / 10 ^ n := ⟨_, rfl⟩
    rw [← hX] at b0 HX
    obtain ⟨L, hL⟩ : ∃ L, L = lastD N n := ⟨_, rfl⟩
    obtain ⟨bb, hbb⟩ : ∃ bb, bb = belD N n := ⟨_, rfl⟩
    rw [← hL] at HL HB l0 l9 ⊢
    rw [← hbb] at HB ⊢
    have GX := Lib.hid hX
    have GL := Lib.hid hL
    have GB := Lib.hid hbb
    clear hX hL hbb hn
    have c00 := b0.cell 0 rfl
    have c01 := b0.cell 1 rfl
    have c02 := b0.cell 2 rfl
    have c03 := b0.cell 3 rfl
    have c10 := b1.cell 0 rfl
    have c11 := b1.cell 1 rfl
    have f00 := b0.frozen 0
    have f01 := b0.frozen 1
    have f02 := b0.frozen 2
    have f03 := b0.frozen 3
    have f10 := b1.frozen 0
    have f11 := b1.frozen 1
    (try have : w.heap.size < wr.heap.size := by omega); (try have : w.heap.size + 1 < wr.heap.size := by omega); (try have : w.heap.size + 1 + 1 < wr.heap.size := by omega); (try have : w.heap.size + 1 + 1 + 1 < wr.heap.size := by omega)
    have HT := Lib.hid (fun W => tenth_any X HX.out W)
    have HR := Lib.hid (fun W => narrow_any X HX.out W)
    by_cases hlt : (n : Int) < (k : Int)
    · cases bb
      · go_wp2_with ((go_at_call 89; with_reducible refine (HT.out _).mono ?_); rintro _ w1 ⟨rfl, hb1⟩; have hb1s := hb1.size; (try simp only [World.size_alloc, World.size_setCell, World.size_drew, World.heap_drewN] at hb1s); obtain ⟨hb1c, hb1f⟩ := bcell hb1; (try have : w.heap.size < w1.heap.size := by omega); (try have : w.heap.size + 1 < w1.heap.size := by omega); (try have : w.heap.size + 1 + 1 < w1.heap.size := by omega); (try have : w.heap.size + 1 + 1 + 1 < w1.heap.size := by omega))
        go_roundg (gk - 1)
        case measure => have := HK.out; omega
        case rel =>
          refine ⟨n + 1, by have := HK.out; omega, ?_, ?_, by go_num, by go_size, by (repeat' (first | (with_reducible exact Below.refl _ _) | (with_reducible assumption) | (with_reducible refine Below.drew ?_) | (with_reducible refine below_drewN ?_ _) | ((with_reducible refine Below.alloc ?_ ?_ _); rotate_left; focus (go_size; done)) | ((with_reducible refine Below.setCell ?_ ?_ _); rotate_left; focus (go_size; done)) | ((with_reducible refine Below.trans ?_ (Below.mono (by with_reducible assumption) ?_)); rotate_left; focus (go_size; done)))), ?_, by (repeat (first | (with_reducible assumption) | ((with_reducible refine Bk.new_ ?_); (first | rfl | (simp only [World.size_alloc, World.size_setCell, World.size_drew, World.heap_drewN]; done))) | (with_reducible refine Bk.alloc ?_ _) | (with_reducible refine Bk.drew ?_) | (with_reducible refine Bk.drewN ?_ _) | ((with_reducible refine Bk.far ?_ ?_ _); rotate_left; focus (simp only []; omega)) | ((with_reducible refine Bk.below ?_ (by with_reducible assumption) ?_); rotate_left; focus (go_size; done))))⟩
          · rw [lastD_succ, ← GX.out]; rfl
          · rw [HB.out]; rfl
          · rw [show N / 10 ^ (n + 1) = X / 10 from by rw [GX.out, Nat.div_div_eq_div_mul, Nat.pow_succ]]
            refine (((((?_ : Bk w1 _ _ [.int .u64 (wd X 0), .int .u64 (wd X 1), .int .u64 (wd X 2), .int .u64 (wd X 3)]).set_ 0 _).set_ 1 _).set_ 2 _).set_ 3 _)
            (repeat (first | (with_reducible assumption) | ((with_reducible refine Bk.new_ ?_); (first | rfl | (simp only [World.size_alloc, World.size_setCell, World.size_drew, World.heap_drewN]; done))) | (with_reducible refine Bk.alloc ?_ _) | (with_reducible refine Bk.drew ?_) | (with_reducible refine Bk.drewN ?_ _) | ((with_reducible refine Bk.far ?_ ?_ _); rotate_left; focus (simp only []; omega)) | ((with_reducible refine Bk.below ?_ (by with_reducible assumption) ?_); rotate_left; focus (go_size; done))))
      · go_wp2_with ((go_at_call 89; with_reducible refine (HT.out _).mono ?_); rintro _ w1 ⟨rfl, hb1⟩; have hb1s := hb1.size; (try simp only [World.size_alloc, World.size_setCell, World.size_drew, World.heap_drewN] at hb1s); obtain ⟨hb1c, hb1f⟩ := bcell hb1; (try have : w.heap.size < w1.heap.size := by omega); (try have : w.heap.size + 1 < w1.heap.size := by omega); (try have : w.heap.size + 1 + 1 < w1.heap.size := by omega); (try have : w.heap.size + 1 + 1 + 1 < w1.heap.size := by omega))
        go_roundg (gk - 1)
        case measure => have := HK.out; omega
        case rel =>
          refine ⟨n + 1, by have := HK.out; omega, ?_, ?_, by go_num, by go_size, by (repeat' (first | (with_reducible exact Below.refl _ _) | (with_reducible assumption) | (with_reducible refine Below.drew ?_) | (with_reducible refine below_drewN ?_ _) | ((with_reducible refine Below.alloc ?_ ?_ _); rotate_left; focus (go_size; done)) | ((with_reducible refine Below.setCell ?_ ?_ _); rotate_left; focus (go_size; done)) | ((with_reducible refine Below.trans ?_ (Below.mono (by with_reducible assumption) ?_)); rotate_left; focus (go_size; done)))), ?_, by (repeat (first | (with_reducible assumption) | ((with_reducible refine Bk.new_ ?_); (first | rfl | (simp only [World.size_alloc, World.size_setCell, World.size_drew, World.heap_drewN]; done))) | (with_reducible refine Bk.alloc ?_ _) | (with_reducible refine Bk.drew ?_) | (with_reducible refine Bk.drewN ?_ _) | ((with_reducible refine Bk.far ?_ ?_ _); rotate_left; focus (simp only []; omega)) | ((with_reducible refine Bk.below ?_ (by with_reducible assumption) ?_); rotate_left; focus (go_size; done))))⟩
          · rw [lastD_succ, ← GX.out]; rfl
          · rw [HB.out]; rfl
          · rw [show N / 10 ^ (n + 1) = X / 10 from by rw [GX.out, Nat.div_div_eq_div_mul, Nat.pow_succ]]
            refine (((((?_ : Bk w1 _ _ [.int .u64 (wd X 0), .int .u64 (wd X 1), .int .u64 (wd X 2), .int .u64 (wd X 3)]).set_ 0 _).set_ 1 _).set_ 2 _).set_ 3 _)
            (repeat (first | (with_reducible assumption) | ((with_reducible refine Bk.new_ ?_); (first | rfl | (simp only [World.size_alloc, World.size_setCell, World.size_drew, World.heap_drewN]; done))) | (with_reducible refine Bk.alloc ?_ _) | (with_reducible refine Bk.drew ?_) | (with_reducible refine Bk.drewN ?_ _) | ((with_reducible refine Bk.far ?_ ?_ _); rotate_left; focus (simp only []; omega)) | ((with_reducible refine Bk.below ?_ (by with_reducible assumption) ?_); rotate_left; focus (go_size; done))))
    · obtain rfl : n = k := by omega
      by_cases hx : X < 2 ^ 128
      · have e6 : fitW X = X := by unfold fitW; rw [if_pos hx]
        have e7 : over X = 0 := by unfold over; rw [if_pos hx]
        rw [e6, e7] at HR
        have w11 : wd 1 1 = 0 := by decide
        have w10 : wd 1 0 = 1 := by decide
        have HA := Lib.hid (fun W => add_any X 1 hx (by decide) W)
        rw [w11, w10] at HA
        have hodd := wd_odd X
        have HO := Lib.hid hodd
        clear hodd w11 w10 hx
        by_cases c1 : 5 < L
        · have E6 := Lib.hid e6
          have E7 := Lib.hid e7
          clear e6 e7
          have hf := near_of N n True (by rw [← GL.out, ← GB.out, ← GX.out]; simp; left; exact c1)
          rw [if_pos trivial, ← GX.out] at hf
          have HF := Lib.hid hf
          clear hf
          clear hlt
          go_wp2_with (first
            | ((go_at_call 94; with_reducible refine (HR.out _).mono ?_); rintro _ w1 ⟨rfl, hb1⟩; have hb1s := hb1.size; (try simp only [World.size_alloc, World.size_setCell, World.size_drew, World.heap_drewN] at hb1s); obtain ⟨hb1c, hb1f⟩ := bcell hb1; (try have : w.heap.size < w1.heap.size := by omega); (try have : w.heap.size + 1 < w1.heap.size := by omega); (try have : w.heap.size + 1 + 1 < w1.heap.size := by omega); (try have : w.heap.size + 1 + 1 + 1 < w1.heap.size := by omega))
            | ((go_at_call 95; with_reducible refine (HA.out _).mono ?_); rintro _ w2 ⟨rfl, hb2⟩; have hb2s := hb2.size; (try simp only [World.size_alloc, World.size_setCell, World.size_drew, World.heap_drewN] at hb2s); obtain ⟨hb2c, hb2f⟩ := bcell hb2; (try have : w.heap.size < w2.heap.size := by omega); (try have : w.heap.size + 1 < w2.heap.size := by omega); (try have : w.heap.size + 1 + 1 < w2.heap.size := by omega); (try have : w.heap.size + 1 + 1 + 1 < w2.heap.size := by omega)))
          refine bodyPost_ret (by simp [results, Try.results74, go_sem, *]; try rfl) rfl ?_
          rw [HF.out]
          exact ⟨rfl, by (repeat' (first | (with_reducible exact Below.refl _ _) | (with_reducible assumption) | (with_reducible refine Below.drew ?_) | (with_reducible refine below_drewN ?_ _) | ((with_reducible refine Below.alloc ?_ ?_ _); rotate_left; focus (go_size; done)) | ((with_reducible refine Below.setCell ?_ ?_ _); rotate_left; focus (go_size; done)) | ((with_reducible refine Below.trans ?_ (Below.mono (by with_reducible assumption) ?_)); rotate_left; focus (go_size; done))))⟩
        · by_cases c2 : L = 5
          · have g1 : (L == 5) = true := by simp [c2]
            have C2 := Lib.hid c2
            cases bb
            · by_cases c3 : X % 2 = 1
              · have g2 : (bits .and .u64 (wd X 0) 1 == 1) = true := by rw [HO.out, c3]; rfl
                have C3 := Lib.hid c3
                have E6 := Lib.hid e6
                have E7 := Lib.hid e7
                clear e6 e7 c2 c3
                have hf := near_of N n True (by rw [← GL.out, ← GB.out, ← GX.out]; simp; right; exact ⟨C2.out, C3.out⟩)
                rw [if_pos trivial, ← GX.out] at hf
                have HF := Lib.hid hf
                clear hf
                clear hlt
                go_wp2_with (first
                  | ((go_at_call 94; with_reducible refine (HR.out _).mono ?_); rintro _ w1 ⟨rfl, hb1⟩; have hb1s := hb1.size; (try simp only [World.size_alloc, World.size_setCell, World.size_drew, World.heap_drewN] at hb1s); obtain ⟨hb1c, hb1f⟩ := bcell hb1; (try have : w.heap.size < w1.heap.size := by omega); (try have : w.heap.size + 1 < w1.heap.size := by omega); (try have : w.heap.size + 1 + 1 < w1.heap.size := by omega); (try have : w.heap.size + 1 + 1 + 1 < w1.heap.size := by omega))
                  | ((go_at_call 95; with_reducible refine (HA.out _).mono ?_); rintro _ w2 ⟨rfl, hb2⟩; have hb2s := hb2.size; (try simp only [World.size_alloc, World.size_setCell, World.size_drew, World.heap_drewN] at hb2s); obtain ⟨hb2c, hb2f⟩ := bcell hb2; (try have : w.heap.size < w2.heap.size := by omega); (try have : w.heap.size + 1 < w2.heap.size := by omega); (try have : w.heap.size + 1 + 1 < w2.heap.size := by omega); (try have : w.heap.size + 1 + 1 + 1 < w2.heap.size := by omega)))
                refine bodyPost_ret (by simp [results, Try.results74, go_sem, *]; try rfl) rfl ?_
                rw [HF.out]
                exact ⟨rfl, by (repeat' (first | (with_reducible exact Below.refl _ _) | (with_reducible assumption) | (with_reducible refine Below.drew ?_) | (with_reducible refine below_drewN ?_ _) | ((with_reducible refine Below.alloc ?_ ?_ _); rotate_left; focus (go_size; done)) | ((with_reducible refine Below.setCell ?_ ?_ _); rotate_left; focus (go_size; done)) | ((with_reducible refine Below.trans ?_ (Below.mono (by with_reducible assumption) ?_)); rotate_left; focus (go_size; done))))⟩
              · have g2 : (bits .and .u64 (wd X 0) 1 == 1) = false := by rw [HO.out]; simp; omega
                have C3 := Lib.hid c3
                clear c2 c3
                have hf := near_of N n False (by rw [← GL.out, ← GB.out, ← GX.out]; simp; exact ⟨by omega, fun _ => by have := C3.out; omega⟩)
                rw [if_neg not_false, ← GX.out, Nat.add_zero] at hf
                have HF := Lib.hid hf
                clear hf
                clear hlt
                have E6 := Lib.hid e6
                have E7 := Lib.hid e7
                clear e6 e7
                go_wp2_with ((go_at_call 94; with_reducible refine (HR.out _).mono ?_); rintro _ w1 ⟨rfl, hb1⟩; have hb1s := hb1.size; (try simp only [World.size_alloc, World.size_setCell, World.size_drew, World.heap_drewN] at hb1s); obtain ⟨hb1c, hb1f⟩ := bcell hb1; (try have : w.heap.size < w1.heap.size := by omega); (try have : w.heap.size + 1 < w1.heap.size := by omega); (try have : w.heap.size + 1 + 1 < w1.heap.size := by omega); (try have : w.heap.size + 1 + 1 + 1 < w1.heap.size := by omega))
                refine bodyPost_ret (by simp [results, Try.results74, go_sem, *]; try rfl) rfl ?_
                rw [HF.out, E6.out, E7.out]
                exact ⟨rfl, by (repeat' (first | (with_reducible exact Below.refl _ _) | (with_reducible assumption) | (with_reducible refine Below.drew ?_) | (with_reducible refine below_drewN ?_ _) | ((with_reducible refine Below.alloc ?_ ?_ _); rotate_left; focus (go_size; done)) | ((with_reducible refine Below.setCell ?_ ?_ _); rotate_left; focus (go_size; done)) | ((with_reducible refine Below.trans ?_ (Below.mono (by with_reducible assumption) ?_)); rotate_left; focus (go_size; done))))⟩
            · have E6 := Lib.hid e6
              have E7 := Lib.hid e7
              clear e6 e7 c2
              have hf := near_of N n True (by rw [← GL.out, ← GB.out, ← GX.out]; simp; right; exact C2.out)
              rw [if_pos trivial, ← GX.out] at hf
              have HF := Lib.hid hf
              clear hf
              clear hlt
              go_wp2_with (first
                | ((go_at_call 94; with_reducible refine (HR.out _).mono ?_); rintro _ w1 ⟨rfl, hb1⟩; have hb1s := hb1.size; (try simp only [World.size_alloc, World.size_setCell, World.size_drew, World.heap_drewN] at hb1s); obtain ⟨hb1c, hb1f⟩ := bcell hb1; (try have : w.heap.size < w1.heap.size := by omega); (try have : w.heap.size + 1 < w1.heap.size := by omega); (try have : w.heap.size + 1 + 1 < w1.heap.size := by omega); (try have : w.heap.size + 1 + 1 + 1 < w1.heap.size := by omega))
                | ((go_at_call 95; with_reducible refine (HA.out _).mono ?_); rintro _ w2 ⟨rfl, hb2⟩; have hb2s := hb2.size; (try simp only [World.size_alloc, World.size_setCell, World.size_drew, World.heap_drewN] at hb2s); obtain ⟨hb2c, hb2f⟩ := bcell hb2; (try have : w.heap.size < w2.heap.size := by omega); (try have : w.heap.size + 1 < w2.heap.size := by omega); (try have : w.heap.size + 1 + 1 < w2.heap.size := by omega); (try have : w.heap.size + 1 + 1 + 1 < w2.heap.size := by omega)))
              refine bodyPost_ret (by simp [results, Try.results74, go_sem, *]; try rfl) rfl ?_
              rw [HF.out]
              exact ⟨rfl, by (repeat' (first | (with_reducible exact Below.refl _ _) | (with_reducible assumption) | (with_reducible refine Below.drew ?_) | (with_reducible refine below_drewN ?_ _) | ((with_reducible refine Below.alloc ?_ ?_ _); rotate_left; focus (go_size; done)) | ((with_reducible refine Below.setCell ?_ ?_ _); rotate_left; focus (go_size; done)) | ((with_reducible refine Below.trans ?_ (Below.mono (by with_reducible assumption) ?_)); rotate_left; focus (go_size; done))))⟩
          · have g1 : (L == 5) = false := by simp [c2]
            have C2 := Lib.hid c2
            clear c2
            have hf := near_of N n False (by rw [← GL.out, ← GB.out, ← GX.out]; simp; exact ⟨by omega, fun h => absurd h C2.out⟩)
            rw [if_neg not_false, ← GX.out, Nat.add_zero] at hf
            have HF := Lib.hid hf
            clear hf
            clear hlt
            have E6 := Lib.hid e6
            have E7 := Lib.hid e7
            clear e6 e7
            go_wp2_with ((go_at_call 94; with_reducible refine (HR.out _).mono ?_); rintro _ w1 ⟨rfl, hb1⟩; have hb1s := hb1.size; (try simp only [World.size_alloc, World.size_setCell, World.size_drew, World.heap_drewN] at hb1s); obtain ⟨hb1c, hb1f⟩ := bcell hb1; (try have : w.heap.size < w1.heap.size := by omega); (try have : w.heap.size + 1 < w1.heap.size := by omega); (try have : w.heap.size + 1 + 1 < w1.heap.size := by omega); (try have : w.heap.size + 1 + 1 + 1 < w1.heap.size := by omega))
            refine bodyPost_ret (by simp [results, Try.results74, go_sem, *]; try rfl) rfl ?_
            rw [HF.out, E6.out, E7.out]
            exact ⟨rfl, by (repeat' (first | (with_reducible exact Below.refl _ _) | (with_reducible assumption) | (with_reducible refine Below.drew ?_) | (with_reducible refine below_drewN ?_ _) | ((with_reducible refine Below.alloc ?_ ?_ _); rotate_left; focus (go_size; done)) | ((with_reducible refine Below.setCell ?_ ?_ _); rotate_left; focus (go_size; done)) | ((with_reducible refine Below.trans ?_ (Below.mono (by with_reducible assumption) ?_)); rotate_left; focus (go_size; done))))⟩
      · have e6 : fitW X = 0 := by unfold fitW; rw [if_neg hx]
        have e7 : over X = 3 := by unfold over; rw [if_neg hx]
        rw [e6, e7] at HR
        have hbig : ¬ near N (10 ^ n) < 2 ^ 128 := by
          have : N / 10 ^ n ≤ near N (10 ^ n) := Nat.le_add_right _ _
          rw [← GX.out] at this
          omega
        have e8 : fitW (near N (10 ^ n)) = 0 := by unfold fitW; rw [if_neg hbig]
        have e9 : over (near N (10 ^ n)) = 3 := by unfold over; rw [if_neg hbig]
        have E8 := Lib.hid e8
        have E9 := Lib.hid e9
        rw [wd_zero, wd_zero] at HR
        clear e6 e7 e8 e9 hbig hx hlt
        go_wp2_with ((go_at_call 94; with_reducible refine (HR.out _).mono ?_); rintro _ w1 ⟨rfl, hb1⟩; have hb1s := hb1.size; (try simp only [World.size_alloc, World.size_setCell, World.size_drew, World.heap_drewN] at hb1s); obtain ⟨hb1c, hb1f⟩ := bcell hb1; (try have : w.heap.size < w1.heap.size := by omega); (try have : w.heap.size + 1 < w1.heap.size := by omega); (try have : w.heap.size + 1 + 1 < w1.heap.size := by omega); (try have : w.heap.size + 1 + 1 + 1 < w1.heap.size := by omega))
        refine bodyPost_ret (by simp [results, Try.results74, go_sem, *]; try rfl) rfl ?_
        rw [E8.out, E9.out, wd_zero, wd_zero]
        exact ⟨rfl, by (repeat' (first | (with_reducible exact Below.refl _ _) | (with_reducible assumption) | (with_reducible refine Below.drew ?_) | (with_reducible refine below_drewN ?_ _) | ((with_reducible refine Below.alloc ?_ ?_ _); rotate_left; focus (go_size; done)) | ((with_reducible refine Below.setCell ?_ ?_ _); rotate_left; focus (go_size; done)) | ((with_reducible refine Below.trans ?_ (Below.mono (by with_reducible assumption) ?_)); rotate_left; focus (go_size; done))))⟩
end Go.Proofs.Ythkgjodidkpaeaa

set_option linter.unusedSimpArgs false
set_option linter.unusedVariables false
namespace Go.Proofs.Ythkgjodidkpaeaa
open Go.RowKit

def B34 : Nat := 10 ^ 34
theorem B34_lt : B34 < 2 ^ 128 := by unfold B34; decide
theorem B34_pos : 0 < B34 := by unfold B34; decide
/-- c / 10^s without the noughts behind the point: the coefficient, the scale -/
def stripC : Nat → Nat → Nat
  | c, 0 => c
  | c, s + 1 => if c % 10 = 0 then stripC (c / 10) s else c
def stripS : Nat → Nat → Nat
  | _, 0 => 0
  | c, s + 1 => if c % 10 = 0 then stripS (c / 10) s else s + 1
theorem strip_ten (c s : Nat) : stripC (c * 10) (s + 1) = stripC c s ∧ stripS (c * 10) (s + 1) = stripS c s := by
  unfold stripC stripS
  rw [if_pos (Nat.mul_mod_left _ _), if_pos (Nat.mul_mod_left _ _), Nat.mul_div_cancel _ (by decide)]
  exact ⟨by cases s <;> rfl, by cases s <;> rfl⟩
theorem strip_pow (c s j : Nat) : stripC (c * 10 ^ j) (s + j) = stripC c s ∧ stripS (c * 10 ^ j) (s + j) = stripS c s := by
  induction j with
  | zero => rw [Nat.pow_zero, Nat.mul_one]; exact ⟨rfl, rfl⟩
  | succ j ih =>
    have h := strip_ten (c * 10 ^ j) (s + j)
    rw [Nat.pow_succ, ← Nat.mul_assoc]
    exact ⟨h.1.trans ih.1, h.2.trans ih.2⟩
theorem strip_nil (s : Nat) : stripC 0 s = 0 ∧ stripS 0 s = 0 := by
  induction s with
  | zero => exact ⟨rfl, rfl⟩
  | succ s ih => have h := strip_ten 0 s; exact ⟨h.1.trans ih.1, h.2.trans ih.2⟩
theorem strip_yes {c : Nat} (h : c % 10 = 0) (s : Nat) : stripC c (s + 1) = stripC (c / 10) s ∧ stripS c (s + 1) = stripS (c / 10) s := by
  have e : c = c / 10 * 10 := by omega
  have := strip_ten (c / 10) s
  rwa [← e] at this
theorem strip_no {c : Nat} (h : c % 10 ≠ 0) (s : Nat) : stripC c s = c ∧ stripS c s = s := by
  cases s with
  | zero => exact ⟨rfl, rfl⟩
  | succ s => unfold stripC stripS; rw [if_neg h, if_neg h]; exact ⟨rfl, rfl⟩
theorem strip_val (c s : Nat) : stripC c s * 10 ^ (s - stripS c s) = c ∧ stripS c s ≤ s := by
  induction s generalizing c with
  | zero => exact ⟨Nat.mul_one _, Nat.le_refl _⟩
  | succ s ih =>
    by_cases h : c % 10 = 0
    · rw [(strip_yes h s).1, (strip_yes h s).2]
      obtain ⟨h1, h2⟩ := ih (c / 10)
      refine ⟨?_, by omega⟩
      rw [show s + 1 - stripS (c / 10) s = s - stripS (c / 10) s + 1 by omega, Nat.pow_succ, ← Nat.mul_assoc, h1]
      omega
    · rw [(strip_no h _).1, (strip_no h _).2, Nat.sub_self]
      exact ⟨Nat.mul_one _, Nat.le_refl _⟩
theorem stripC_le (c s : Nat) : stripC c s ≤ c := by
  have h := (strip_val c s).1
  have hp : 0 < 10 ^ (s - stripS c s) := Nat.pow_pos (by decide)
  calc stripC c s ≤ stripC c s * 10 ^ (s - stripS c s) := Nat.le_mul_of_pos_right _ hp
    _ = c := h
theorem stripC_zero {c s : Nat} : stripC c s = 0 ↔ c = 0 := by
  constructor
  · intro h; have := (strip_val c s).1; rw [h, Nat.zero_mul] at this; exact this.symm
  · rintro rfl; exact (strip_nil s).1
theorem strip_end (c s : Nat) : stripS c s = 0 ∨ stripC c s % 10 ≠ 0 := by
  induction s generalizing c with
  | zero => exact .inl rfl
  | succ s ih =>
    by_cases h : c % 10 = 0
    · rw [(strip_yes h s).1, (strip_yes h s).2]; exact ih _
    · rw [(strip_no h _).1, (strip_no h _).2]; exact .inr h
/-- what Trim cuts off tells it -/
theorem strip_trim (T k s : Nat) (hT : T % 10 ≠ 0) : (k ≤ s → stripC (T * 10 ^ k) s = T ∧ stripS (T * 10 ^ k) s = s - k) ∧ (s ≤ k → stripC (T * 10 ^ k) s = T * 10 ^ (k - s) ∧ stripS (T * 10 ^ k) s = 0) := by
  constructor
  · intro h
    have e := strip_pow T (s - k) k
    rw [show s - k + k = s by omega] at e
    rw [e.1, e.2]
    exact strip_no hT _
  · intro h
    have e := strip_pow (T * 10 ^ (k - s)) 0 s
    rw [Nat.mul_assoc, ← Nat.pow_add, show k - s + s = k by omega, Nat.zero_add] at e
    exact e
theorem strip_fix {c s : Nat} (h : s = 0 ∨ c % 10 ≠ 0) : stripC c s = c ∧ stripS c s = s := by
  rcases h with rfl | h
  · exact ⟨rfl, rfl⟩
  · exact strip_no h s

/-- the sign of what may be nought -/
def sg (neg : Bool) (c : Nat) : Bool := neg && decide (c ≠ 0)
theorem sg_zero (neg : Bool) : sg neg 0 = false := by unfold sg; simp
theorem sg_pos {neg : Bool} {c : Nat} (h : c ≠ 0) : sg neg c = neg := by unfold sg; simp [h]
/-- is it in form? -/
def dform (neg : Bool) (c : Nat) (s : Int) : Bool := decide (c < B34) && (decide (0 ≤ s) && (decide (s ≤ 18) && (if c = 0 then !neg && decide (s = 0) else decide (s = 0) || decide (c % 10 ≠ 0))))
def DForm (neg : Bool) (c s : Nat) : Prop := c < B34 ∧ s ≤ 18 ∧ (c = 0 → neg = false ∧ s = 0) ∧ (s = 0 ∨ c % 10 ≠ 0)
theorem dform_iff (neg : Bool) (c : Nat) (s : Int) : dform neg c s = true ↔ ∃ t : Nat, s = (t : Int) ∧ DForm neg c t := by
  unfold dform DForm
  by_cases h0 : c = 0
  · subst h0
    simp only [Bool.and_eq_true, decide_eq_true_eq, if_pos]
    constructor
    · rintro ⟨h1, h2, h3, h4, h5⟩
      refine ⟨0, by omega, h1, by omega, fun _ => ⟨by simpa using h4, rfl⟩, .inl rfl⟩
    · rintro ⟨t, rfl, h1, h2, h3, h4⟩
      obtain ⟨h5, h6⟩ := h3 trivial
      subst h6
      simp [h5, h1]
  · simp only [Bool.and_eq_true, decide_eq_true_eq, if_neg h0, Bool.or_eq_true]
    constructor
    · rintro ⟨h1, h2, h3, h4⟩
      refine ⟨s.toNat, by omega, h1, by omega, fun h => absurd h h0, ?_⟩
      rcases h4 with h4 | h4
      · left; omega
      · right; exact h4
    · rintro ⟨t, rfl, h1, h2, h3, h4⟩
      refine ⟨h1, by omega, by omega, ?_⟩
      rcases h4 with h4 | h4
      · left; omega
      · right; exact h4

/-- the nearest -/
theorem near_scale (a b k : Nat) (hk : 0 < k) : near (a * k) (b * k) = near a b := by
  unfold near
  rw [Nat.mul_div_mul_right _ _ hk, Nat.mul_mod_mul_right]
  have e1 : 2 * (a % b * k) > b * k ↔ 2 * (a % b) > b := by
    rw [← Nat.mul_assoc]; exact Nat.mul_lt_mul_right hk
  have e2 : 2 * (a % b * k) = b * k ↔ 2 * (a % b) = b := by
    rw [← Nat.mul_assoc]; exact Nat.mul_left_inj (Nat.ne_of_gt hk)
  simp only [e1, e2]
theorem near_exact (q d : Nat) (hd : 0 < d) : near (q * d) d = q := by
  unfold near
  rw [Nat.mul_div_cancel _ hd, Nat.mul_mod_left]
  simp; omega
theorem near_pow (n s t : Nat) (h : s ≤ t) : near (n * 10 ^ s) (10 ^ t) = near n (10 ^ (t - s)) := by
  rw [show 10 ^ t = 10 ^ (t - s) * 10 ^ s by rw [← Nat.pow_add]; congr 1; omega]
  exact near_scale _ _ _ (Nat.pow_pos (by decide))
theorem near_high (n t j : Nat) : near (n * 10 ^ (t + j)) (10 ^ t) = n * 10 ^ j := by
  rw [Nat.pow_add, Nat.mul_comm (10 ^ t), ← Nat.mul_assoc]
  exact near_exact _ _ (Nat.pow_pos (by decide))

/-- n / d fitted, trying the scales below k -/
def fitK (n d : Nat) : Nat → Nat × Nat × Int
  | 0 => (0, 0, 3)
  | s + 1 => if near (n * 10 ^ s) d < B34 then (near (n * 10 ^ s) d, s, 0) else fitK n d s
def fin (r : Nat × Nat × Int) : Nat × Nat × Int := (stripC r.1 r.2.1, stripS r.1 r.2.1, r.2.2)
/-- nineteen, and nothing that the kernel counts out -/
def K19 (n : Nat) : Nat := 19 + 0 * n
theorem K19_eq (n : Nat) : K19 n = 19 := by unfold K19; omega
def FitC (n d : Nat) : Nat := (fin (fitK n d (K19 n))).1
def FitS (n d : Nat) : Nat := (fin (fitK n d (K19 n))).2.1
def FitE (n d : Nat) : Int := (fin (fitK n d (K19 n))).2.2
theorem fitK_yes {n d s : Nat} (h : near (n * 10 ^ s) d < B34) : fitK n d (s + 1) = (near (n * 10 ^ s) d, s, 0) := by rw [fitK, if_pos h]
theorem fitK_no {n d s : Nat} (h : ¬ near (n * 10 ^ s) d < B34) : fitK n d (s + 1) = fitK n d s := by rw [fitK, if_neg h]
theorem fitK_up (n t j : Nat) : fin (fitK n (10 ^ t) (t + j + 1)) = fin (fitK n (10 ^ t) (t + 1)) := by
  induction j with
  | zero => rfl
  | succ j ih =>
    have e := near_high n t (j + 1)
    have e0 := near_high n t 0
    rw [Nat.pow_zero, Nat.mul_one, Nat.add_zero] at e0
    by_cases h : near (n * 10 ^ (t + (j + 1))) (10 ^ t) < B34
    · have h0 : near (n * 10 ^ t) (10 ^ t) < B34 := by
        rw [e0]; rw [e] at h
        exact Nat.lt_of_le_of_lt (Nat.le_mul_of_pos_right _ (Nat.pow_pos (by decide))) h
      rw [fitK_yes h, fitK_yes h0, e, e0]
      have hs := strip_pow n t (j + 1)
      unfold fin
      simp only [hs.1, hs.2]
    · rw [fitK_no h]; exact ih
theorem fit_top (n t : Nat) (h : t ≤ 18) : fin (fitK n (10 ^ t) (K19 n)) = fin (fitK n (10 ^ t) (t + 1)) := by
  have e := fitK_up n t (18 - t)
  rwa [show t + (18 - t) + 1 = K19 n by rw [K19_eq]; omega] at e
theorem fitK_scale (n d k : Nat) (hk : 0 < k) (s : Nat) : fitK (n * k) (d * k) s = fitK n d s := by
  induction s with
  | zero => rfl
  | succ s ih =>
    have e : near (n * k * 10 ^ s) (d * k) = near (n * 10 ^ s) d := by
      rw [Nat.mul_right_comm]; exact near_scale _ _ _ hk
    rw [fitK, fitK, e, ih]
theorem fit_scale (n d k : Nat) (hk : 0 < k) : FitC (n * k) (d * k) = FitC n d ∧ FitS (n * k) (d * k) = FitS n d ∧ FitE (n * k) (d * k) = FitE n d := by
  unfold FitC FitS FitE
  rw [fitK_scale n d k hk, show K19 (n * k) = K19 n by rw [K19_eq, K19_eq]]
  exact ⟨rfl, rfl, rfl⟩
theorem fitK_lt (n d k : Nat) : (fitK n d k).1 < B34 ∧ ((fitK n d k).2.1 < k ∨ (fitK n d k).2.1 = 0) ∧ ((fitK n d k).2.2 = 0 ∨ ((fitK n d k).2.2 = 3 ∧ (fitK n d k).1 = 0)) := by
  induction k with
  | zero => exact ⟨B34_pos, .inr rfl, .inr ⟨rfl, rfl⟩⟩
  | succ s ih =>
    by_cases h : near (n * 10 ^ s) d < B34
    · rw [fitK_yes h]; exact ⟨h, .inl (Nat.lt_succ_self _), .inl rfl⟩
    · rw [fitK_no h]; exact ⟨ih.1, by omega, ih.2.2⟩
theorem fit_form (neg : Bool) (n d : Nat) : DForm (sg neg (FitC n d)) (FitC n d) (FitS n d) := by
  obtain ⟨h1, h2, _⟩ := fitK_lt n d (K19 n)
  have h19 := K19_eq n
  refine ⟨Nat.lt_of_le_of_lt (stripC_le _ _) h1, Nat.le_trans (strip_val _ _).2 (by omega), ?_, strip_end _ _⟩
  intro h0
  refine ⟨by rw [h0]; exact sg_zero neg, ?_⟩
  have hz : (fitK n d (K19 n)).1 = 0 := stripC_zero.1 h0
  show stripS (fitK n d (K19 n)).1 _ = 0
  rw [hz]; exact (strip_nil _).2
theorem fit_err (n d : Nat) : FitE n d = 0 ∨ (FitE n d = 3 ∧ FitC n d = 0 ∧ FitS n d = 0) := by
  obtain ⟨h1, h2, h3⟩ := fitK_lt n d (K19 n)
  rcases h3 with h3 | ⟨h3, h4⟩
  · exact .inl h3
  · refine .inr ⟨h3, ?_, ?_⟩
    · show stripC (fitK n d (K19 n)).1 _ = 0; rw [h4]; exact (strip_nil _).1
    · show stripS (fitK n d (K19 n)).1 _ = 0; rw [h4]; exact (strip_nil _).2
end Go.Proofs.Ythkgjodidkpaeaa

set_option linter.unusedSimpArgs false
set_option linter.unusedVariables false
namespace Go.Proofs.Ythkgjodidkpaeaa
open Go.RowKit

/-- the size in units of 10^-18 -/
def unit (c s : Nat) : Nat := c * 10 ^ (18 - s)
def sgn (an : Bool) (x : Nat) (bn : Bool) (y : Nat) : Bool := if an = bn then an else if y ≤ x then an else bn
def sab (an : Bool) (x : Nat) (bn : Bool) (y : Nat) : Nat := if an = bn then x + y else if y ≤ x then x - y else y - x
theorem sgn_scale (an bn : Bool) (x y k : Nat) (hk : 0 < k) : sgn an (x * k) bn (y * k) = sgn an x bn y := by
  unfold sgn
  have e : y * k ≤ x * k ↔ y ≤ x := Nat.mul_le_mul_right_iff hk
  simp only [e]
theorem sab_scale (an bn : Bool) (x y k : Nat) (hk : 0 < k) : sab an (x * k) bn (y * k) = sab an x bn y * k := by
  unfold sab
  have e : y * k ≤ x * k ↔ y ≤ x := Nat.mul_le_mul_right_iff hk
  simp only [e]
  split
  · rw [Nat.add_mul]
  · split <;> rw [Nat.sub_mul]
theorem unit_split (c s m : Nat) (h : s ≤ m) (h18 : m ≤ 18) : unit c s = c * 10 ^ (m - s) * 10 ^ (18 - m) := by
  unfold unit
  rw [Nat.mul_assoc, ← Nat.pow_add]; congr 2; omega
theorem unit_lt {c s : Nat} (h : c < B34) : unit c s < 10 ^ 52 := by
  unfold unit
  have h1 : c * 10 ^ (18 - s) ≤ c * 10 ^ 18 := Nat.mul_le_mul_left _ (Nat.pow_le_pow_right (by decide) (by omega))
  have h2 : c * 10 ^ 18 < B34 * 10 ^ 18 := Nat.mul_lt_mul_of_pos_right h (by decide)
  have h3 : B34 * 10 ^ 18 = 10 ^ 52 := by unfold B34; decide
  omega
theorem scaled_lt {c s m : Nat} (h : c < B34) (hm : m ≤ 18) : c * 10 ^ (m - s) < 10 ^ 52 := by
  have h1 : c * 10 ^ (m - s) ≤ c * 10 ^ 18 := Nat.mul_le_mul_left _ (Nat.pow_le_pow_right (by decide) (by omega))
  have h2 : c * 10 ^ 18 < B34 * 10 ^ 18 := Nat.mul_lt_mul_of_pos_right h (by decide)
  have h3 : B34 * 10 ^ 18 = 10 ^ 52 := by unfold B34; decide
  omega
theorem sab_le (an bn : Bool) (x y : Nat) : sab an x bn y ≤ x + y := by unfold sab; split; omega; split <;> omega
/-- a fraction of a power of ten, in other units -/
theorem fit_units (u m : Nat) (h : m ≤ 18) : FitC (u * 10 ^ (18 - m)) (10 ^ 18) = FitC u (10 ^ m) ∧ FitS (u * 10 ^ (18 - m)) (10 ^ 18) = FitS u (10 ^ m) ∧ FitE (u * 10 ^ (18 - m)) (10 ^ 18) = FitE u (10 ^ m) := by
  have e : 10 ^ 18 = 10 ^ m * 10 ^ (18 - m) := by rw [← Nat.pow_add]; congr 1; omega
  rw [e]
  exact fit_scale u (10 ^ m) (10 ^ (18 - m)) (Nat.pow_pos (by decide))
theorem sum_units (an bn : Bool) (ca cb sa sb m : Nat) (ha : sa ≤ m) (hb : sb ≤ m) (h : m ≤ 18) :
    sgn an (unit ca sa) bn (unit cb sb) = sgn an (ca * 10 ^ (m - sa)) bn (cb * 10 ^ (m - sb)) ∧ sab an (unit ca sa) bn (unit cb sb) = sab an (ca * 10 ^ (m - sa)) bn (cb * 10 ^ (m - sb)) * 10 ^ (18 - m) := by
  rw [unit_split ca sa m ha h, unit_split cb sb m hb h]
  have hp : 0 < 10 ^ (18 - m) := Nat.pow_pos (by decide)
  exact ⟨sgn_scale _ _ _ _ _ hp, sab_scale _ _ _ _ _ hp⟩
/-- the order -/
def ordD (an : Bool) (x : Nat) (bn : Bool) (y : Nat) : Int := if an = bn then (if an = true then cmpN y x else cmpN x y) else if an = true then -1 else 1
theorem cmpN_scale (x y k : Nat) (hk : 0 < k) : cmpN (x * k) (y * k) = cmpN x y := by
  unfold cmpN
  have e1 : x * k = y * k ↔ x = y := Nat.mul_left_inj (Nat.ne_of_gt hk)
  have e2 : x * k < y * k ↔ x < y := Nat.mul_lt_mul_right hk
  simp only [e1, e2]
theorem ordD_scale (an bn : Bool) (x y k : Nat) (hk : 0 < k) : ordD an (x * k) bn (y * k) = ordD an x bn y := by
  unfold ordD; rw [cmpN_scale _ _ _ hk, cmpN_scale _ _ _ hk]
theorem ord_units (an bn : Bool) (ca cb sa sb m : Nat) (ha : sa ≤ m) (hb : sb ≤ m) (h : m ≤ 18) :
    ordD an (unit ca sa) bn (unit cb sb) = ordD an (ca * 10 ^ (m - sa)) bn (cb * 10 ^ (m - sb)) := by
  rw [unit_split ca sa m ha h, unit_split cb sb m hb h]
  exact ordD_scale _ _ _ _ _ (Nat.pow_pos (by decide))
/-- the difference's sign is the order -/
theorem ord_sum (an bn : Bool) (x y : Nat) (ha : x = 0 → an = false) (hb : y = 0 → bn = false) :
    ordD an x bn y = if sab an x (!bn) y = 0 then 0 else if sgn an x (!bn) y = true then -1 else 1 := by
  cases an <;> cases bn <;> simp [ordD, sab, sgn, cmpN] at * <;> (repeat' split) <;> omega
end Go.Proofs.Ythkgjodidkpaeaa

set_option linter.unusedSimpArgs false
set_option linter.unusedVariables false
namespace Go.Proofs.Ythkgjodidkpaeaa

/-- a bound that is far out -/
def Small (n : Nat) : Prop := True → n < 10 ^ 1000
theorem Small.of_le {n m : Nat} (h : Small n) (hm : m ≤ n) : Small m := fun t => Nat.lt_of_le_of_lt hm (h t)
def dval : List Int → Int
  | [] => 0
  | d :: r => d + 10 * dval r
def Digs (l : List Int) : Prop := ∀ d ∈ l, 0 ≤ d ∧ d ≤ 9
def Top (l : List Int) : Prop := l.getLast? ≠ some 0
/-- l is the list of the digits of n, the least first, without noughts at the top. -/
def IsDg (l : List Int) (n : Nat) : Prop := Digs l ∧ Top l ∧ dval l = (n : Int)

theorem getD_lt (l : List Int) (k : Nat) (h : k < l.length) : l.getD k 0 = l[k] := by
  rw [List.getD_eq_getElem?_getD, List.getElem?_eq_getElem h]; rfl
theorem ten_mono {a b : Nat} (h : a ≤ b) : (10 : Int) ^ a ≤ 10 ^ b := by
  have := Nat.pow_le_pow_right (n := 10) (by decide) h
  exact_mod_cast this
theorem dval_append (a b : List Int) : dval (a ++ b) = dval a + 10 ^ a.length * dval b := by
  induction a with
  | nil => simp [dval]
  | cons d r ih =>
    simp only [List.cons_append, dval, ih, List.length_cons, Int.pow_succ]
    rw [Int.mul_add, Int.mul_comm (10 ^ r.length) 10, Int.mul_assoc]; omega
theorem dval_snoc (a : List Int) (x : Int) : dval (a ++ [x]) = dval a + 10 ^ a.length * x := by
  rw [dval_append]; simp [dval]
theorem ten_pos (k : Nat) : (0 : Int) < 10 ^ k := Int.pow_pos (by decide)
theorem Digs.nil : Digs [] := by intro d h; cases h
theorem Digs.snoc {a : List Int} {x : Int} (h : Digs a) (h0 : 0 ≤ x) (h1 : x ≤ 9) : Digs (a ++ [x]) := by
  intro d hd
  rcases List.mem_append.1 hd with hd | hd
  · exact h d hd
  · rw [List.mem_singleton.1 hd]; exact ⟨h0, h1⟩
theorem Digs.take {a : List Int} (h : Digs a) (k : Nat) : Digs (a.take k) := fun d hd => h d (List.mem_of_mem_take hd)
theorem Digs.drop {a : List Int} (h : Digs a) (k : Nat) : Digs (a.drop k) := fun d hd => h d (List.mem_of_mem_drop hd)
theorem Digs.append {a b : List Int} (h : Digs a) (h' : Digs b) : Digs (a ++ b) := by
  intro d hd
  rcases List.mem_append.1 hd with hd | hd
  · exact h d hd
  · exact h' d hd
theorem Digs.get {a : List Int} (h : Digs a) (k : Nat) : 0 ≤ a.getD k 0 ∧ a.getD k 0 ≤ 9 := by
  rw [List.getD_eq_getElem?_getD]
  rcases hk : a[k]? with _ | x
  · simp
  · exact h x (List.mem_of_getElem? hk)
theorem dval_bd {a : List Int} (h : Digs a) : 0 ≤ dval a ∧ dval a < 10 ^ a.length := by
  induction a with
  | nil => simp [dval]
  | cons d r ih =>
    have h1 := ih fun x hx => h x (List.mem_cons_of_mem _ hx)
    have h2 := h d List.mem_cons_self
    simp only [dval, List.length_cons, Int.pow_succ]
    omega
theorem take_snoc_int (l : List Int) (k : Nat) (h : k < l.length) : l.take (k + 1) = l.take k ++ [l.getD k 0] := by
  rw [List.take_succ_eq_append_getElem h, getD_lt _ _ h]
theorem dval_take_succ (l : List Int) (k : Nat) (h : k < l.length) : dval (l.take (k + 1)) = dval (l.take k) + 10 ^ k * l.getD k 0 := by
  rw [take_snoc_int l k h, dval_snoc, List.length_take, Nat.min_eq_left (by omega)]
theorem dval_drop (l : List Int) (k : Nat) (h : k < l.length) : dval (l.drop k) = l.getD k 0 + 10 * dval (l.drop (k + 1)) := by
  rw [List.drop_eq_getElem_cons h, getD_lt _ _ h]; rfl
theorem dval_replicate (k : Nat) : dval (List.replicate k 0) = 0 := by
  induction k with
  | zero => rfl
  | succ k ih => simp [List.replicate_succ, dval, ih]
theorem dval_zeros {l : List Int} (h : ∀ d ∈ l, d = 0) : dval l = 0 := by
  induction l with
  | nil => rfl
  | cons d r ih => simp only [dval, ih fun x hx => h x (List.mem_cons_of_mem _ hx), h d List.mem_cons_self]; rfl

/-- What is cut off at the top are noughts: the value stays. -/
theorem dval_take_zeros (l : List Int) (n : Nat) (h : ∀ i, n ≤ i → i < l.length → l.getD i 0 = 0) : dval (l.take n) = dval l := by
  have e := dval_append (l.take n) (l.drop n)
  rw [List.take_append_drop] at e
  rw [e, dval_zeros (l := l.drop n), Int.mul_zero, Int.add_zero]
  intro d hd
  obtain ⟨i, hi, rfl⟩ := List.getElem_of_mem hd
  rw [List.length_drop] at hi
  have := h (n + i) (by omega) (by omega)
  rw [getD_lt _ _ (by omega)] at this
  rw [List.getElem_drop]; exact this
theorem top_take (l : List Int) (n : Nat) (hn : n ≤ l.length) (h : n = 0 ∨ l.getD (n - 1) 0 ≠ 0) : Top (l.take n) := by
  rcases h with rfl | h
  · simp [Top]
  · by_cases h0 : n = 0
    · subst h0; simp [Top]
    · unfold Top
      rw [List.getLast?_eq_getElem?, List.length_take, Nat.min_eq_left hn, List.getElem?_take_of_lt (by omega), List.getElem?_eq_getElem (by omega)]
      rw [getD_lt _ _ (by omega)] at h
      intro e; exact h (by injection e)

theorem IsDg.len_le {l : List Int} {n k : Nat} (h : IsDg l n) (hn : n < 10 ^ k) : l.length ≤ k := by
  obtain ⟨hd, ht, hv⟩ := h
  rcases Nat.lt_or_ge k l.length with hk | hk
  · exfalso
    have hne : l ≠ [] := by intro e; subst e; simp at hk
    obtain ⟨i, x, rfl⟩ : ∃ i x, l = i ++ [x] := ⟨l.dropLast, l.getLast hne, (List.dropLast_concat_getLast hne).symm⟩
    have hx := hd x (by simp)
    have hx0 : x ≠ 0 := by intro e; subst e; exact ht (by simp)
    have hb := dval_bd (a := i) fun d hd' => hd d (by simp [hd'])
    rw [dval_snoc] at hv
    simp only [List.length_append, List.length_cons, List.length_nil] at hk
    have hp : (10 : Int) ^ k ≤ 10 ^ i.length := ten_mono (by omega)
    have hm : (10 : Int) ^ i.length * 1 ≤ 10 ^ i.length * x := Int.mul_le_mul_of_nonneg_left (by omega) (Int.le_of_lt (ten_pos _))
    have hn' : (n : Int) < 10 ^ k := by exact_mod_cast hn
    omega
  · exact hk
theorem IsDg.lt_of_len {l : List Int} {n k : Nat} (h : IsDg l n) (hk : l.length ≤ k) : n < 10 ^ k := by
  obtain ⟨hd, _, hv⟩ := h
  have hb := dval_bd hd
  have hp : (10 : Int) ^ l.length ≤ 10 ^ k := ten_mono hk
  have : (n : Int) < 10 ^ k := by omega
  exact_mod_cast this
theorem IsDg.nil : IsDg [] 0 := ⟨Digs.nil, by simp [Top], rfl⟩
theorem IsDg.zero_iff {l : List Int} {n : Nat} (h : IsDg l n) : l.length = 0 ↔ n = 0 := by
  constructor
  · intro h0
    have := h.lt_of_len (k := 0) (by omega)
    simpa using this
  · intro h0; subst h0
    have := h.len_le (k := 0) (by simp)
    omega
theorem IsDg.get {l : List Int} {n : Nat} (h : IsDg l n) (k : Nat) : 0 ≤ l.getD k 0 ∧ l.getD k 0 ≤ 9 := h.1.get k
/-- The digit at a place, as a number. -/
theorem dval_digit {l : List Int} (h : Digs l) (k : Nat) (hk : k < l.length) : l.getD k 0 = dval l / 10 ^ k % 10 := by
  have e := dval_append (l.take k) (l.drop k)
  rw [List.take_append_drop, List.length_take, Nat.min_eq_left (by omega), dval_drop l k hk] at e
  have hb := dval_bd (h.take k)
  rw [List.length_take, Nat.min_eq_left (by omega)] at hb
  have hp := ten_pos k
  have hg := h.get k
  have : dval l / 10 ^ k = l.getD k 0 + 10 * dval (l.drop (k + 1)) := by
    rw [e, Int.add_mul_ediv_left _ _ (by omega), Int.ediv_eq_zero_of_lt hb.1 hb.2, Int.zero_add]
  rw [this]; omega
theorem IsDg.le_of_ne {l : List Int} {n : Nat} (h : IsDg l n) (hne : l ≠ []) : 10 ^ (l.length - 1) ≤ n := by
  rcases Nat.lt_or_ge n (10 ^ (l.length - 1)) with hlt | hge
  · have := h.len_le hlt
    have : l.length ≠ 0 := fun e => hne (List.length_eq_zero_iff.1 e)
    omega
  · exact hge
theorem top_of_val {l : List Int} (hd : Digs l) (h : l = [] ∨ (10 : Int) ^ (l.length - 1) ≤ dval l) : Top l := by
  rcases h with rfl | h
  · simp [Top]
  · by_cases hne : l = []
    · subst hne; simp [Top]
    · obtain ⟨i, x, rfl⟩ : ∃ i x, l = i ++ [x] := ⟨l.dropLast, l.getLast hne, (List.dropLast_concat_getLast hne).symm⟩
      have hb := dval_bd (a := i) fun d hd' => hd d (by simp [hd'])
      rw [dval_snoc] at h
      simp only [List.length_append, List.length_cons, List.length_nil, Nat.add_sub_cancel] at h
      unfold Top
      intro e
      have hx : x = 0 := by simpa using e
      subst hx
      omega
theorem Digs.set_ {l : List Int} (h : Digs l) (k : Nat) {x : Int} (h0 : 0 ≤ x) (h1 : x ≤ 9) : Digs (l.set k x) := by
  intro d hd
  rcases List.mem_or_eq_of_mem_set hd with hd | rfl
  · exact h d hd
  · exact ⟨h0, h1⟩
theorem Digs.zeros (n : Nat) : Digs (List.replicate n 0) := by
  intro d hd
  rw [List.eq_of_mem_replicate hd]
  decide
theorem drop_set (l : List Int) (k : Nat) (x : Int) (h : k < l.length) : (l.set k x).drop k = x :: l.drop (k + 1) := by
  rw [List.drop_eq_getElem_cons (by simpa using h), List.drop_set_of_lt (by omega)]
  simp
theorem carry_step (P s : Int) : P * (s % 10) + P * 10 * (s / 10) = P * s := by
  rw [Int.mul_assoc, ← Int.mul_add, Int.emod_add_mul_ediv]
/-- Digits of one number are one list. -/
theorem IsDg.uniq {a b : List Int} {n : Nat} (ha : IsDg a n) (hb : IsDg b n) : a = b := by
  induction a generalizing b n with
  | nil =>
    have : n = 0 := ha.zero_iff.1 rfl
    subst this
    exact (List.length_eq_zero_iff.1 (hb.zero_iff.2 rfl)).symm
  | cons d r ih =>
    cases b with
    | nil =>
      have : n = 0 := hb.zero_iff.1 rfl
      subst this
      exact List.length_eq_zero_iff.1 (ha.zero_iff.2 rfl)
    | cons e s =>
      have hd := ha.1 d List.mem_cons_self
      have he := hb.1 e List.mem_cons_self
      have h1 := ha.2.2
      have h2 := hb.2.2
      simp only [dval] at h1 h2
      have hr := dval_bd (a := r) fun x hx => ha.1 x (List.mem_cons_of_mem _ hx)
      have hs := dval_bd (a := s) fun x hx => hb.1 x (List.mem_cons_of_mem _ hx)
      have hde : d = e := by omega
      have hrs : dval r = dval s := by omega
      subst hde
      have key : ∀ q : List Int, Top (d :: q) → Top q := by
        intro q hq
        cases q with
        | nil => simp [Top]
        | cons x y => simpa [Top] using hq
      rw [ih (n := (dval r).toNat) ⟨fun x hx => ha.1 x (List.mem_cons_of_mem _ hx), key r ha.2.1, by omega⟩ ⟨fun x hx => hb.1 x (List.mem_cons_of_mem _ hx), key s hb.2.1, by omega⟩]
end Go.Proofs.Ythkgjodidkpaeaa

set_option linter.unusedSimpArgs false
set_option linter.unusedVariables false
namespace Go.Proofs.Ythkgjodidkpaeaa
open Go.RowKit

/-- from address A on lie, in a block of ints, the numbers xs (nothing is said where there are none) -/
def Sl (w : World) (A : Option Addr) (xs : List Int) : Prop :=
  xs ≠ [] → ∃ g o cs, A = some ⟨g, o, none⟩ ∧ Bk w g 3 cs ∧ ∀ j, j < xs.length → cs[o + j]? = some (.int .i64 (xs.getD j 0))
def IsSl (w : World) (v : Value) (xs : List Int) : Prop := ∃ A c, v = .slice A xs.length c ∧ xs.length ≤ c ∧ Sl w A xs
/-- v holds the digits of n, the least first -/
def Dg (w : World) (v : Value) (n : Nat) : Prop := ∃ xs, IsSl w v xs ∧ IsDg xs n
def RetDg (n : Nat) (w : World) (e : Ending) (w' : World) : Prop := ∃ v, e = .returned v ∧ Dg w' v n ∧ Below w.heap.size w w'

section
variable {w w' : World} {A : Option Addr} {xs : List Int} {v : Value} {n B : Nat}
theorem Sl.below (h : Sl w A xs) (hb : Below w.heap.size w w') : Sl w' A xs := fun hne => by
  obtain ⟨g, o, cs, e, hg, hc⟩ := h hne
  exact ⟨g, o, cs, e, hg.below hb hg.lt, hc⟩
theorem Sl.far (h : Sl w A xs) {b : Nat} {T : TypeId} {ds : List Value} (hb : Bk w b T ds) (hT : 3 ≠ T) (i : Nat) (u : Value) : Sl (w.setCell ⟨b, i, none⟩ u) A xs := fun hne => by
  obtain ⟨g, o, cs, e, hg, hc⟩ := h hne
  refine ⟨g, o, cs, e, hg.far ?_ u, hc⟩
  rintro rfl
  unfold Bk at hg hb
  rw [hg] at hb
  injection hb with hb
  injection hb with _ ht
  exact hT ht
theorem IsSl.below (h : IsSl w v xs) (hb : Below w.heap.size w w') : IsSl w' v xs := by
  obtain ⟨A, c, e, hc, hs⟩ := h
  exact ⟨A, c, e, hc, hs.below hb⟩
theorem Dg.below (h : Dg w v n) (hb : Below w.heap.size w w') : Dg w' v n := by
  obtain ⟨xs, hs, hd⟩ := h
  exact ⟨xs, hs.below hb, hd⟩
theorem Dg.far (h : Dg w v n) {b : Nat} {T : TypeId} {ds : List Value} (hb : Bk w b T ds) (hT : 3 ≠ T) (i : Nat) (u : Value) : Dg (w.setCell ⟨b, i, none⟩ u) v n := by
  obtain ⟨xs, ⟨A, c, e, hc, hs⟩, hd⟩ := h
  exact ⟨xs, ⟨A, c, e, hc, hs.far hb hT i u⟩, hd⟩
theorem Dg.drew (h : Dg w v n) : Dg w.drew v n := h
theorem Dg.drewN (h : Dg w v n) (k : Nat) : Dg (w.drewN k) v n := h
theorem Sl.take (h : Sl w A xs) (k : Nat) : Sl w A (xs.take k) := fun hne => by
  have hx : xs ≠ [] := fun e => hne (by rw [e]; simp)
  obtain ⟨g, o, cs, e, hg, hc⟩ := h hx
  refine ⟨g, o, cs, e, hg, fun j hj => ?_⟩
  rw [List.length_take] at hj
  rw [hc j (by omega), List.getD_eq_getElem?_getD, List.getD_eq_getElem?_getD, List.getElem?_take_of_lt (by omega)]
/-- the cell at a place -/
theorem Sl.at_ (h : Sl w A xs) {k : Nat} (hk : k < xs.length) : ∃ g o, A = some ⟨g, o, none⟩ ∧ g < w.heap.size ∧ w.cell? ⟨g, o + k, none⟩ = some (.int .i64 (xs.getD k 0)) := by
  obtain ⟨g, o, cs, e, hg, hc⟩ := h (by intro e; subst e; simp at hk)
  exact ⟨g, o, e, hg.lt, hg.cell _ (hc k hk)⟩
/-- a row of the call's own, read as a list of ints -/
theorem IsSl.of_own {base : Nat} (h : w.ownsRow base 3 1 v xs.length (xs.map (Value.int .i64))) : IsSl w v xs := by
  rcases h.2 with ⟨rfl, hn⟩ | ⟨g, cap, cur, rfl, hg, hh, r1, r2, r3, r4⟩
  · have : xs = [] := List.length_eq_zero_iff.1 hn
    subst this
    exact ⟨none, 0, rfl, Nat.le_refl _, fun hne => absurd rfl hne⟩
  · refine ⟨some ⟨g, 0, none⟩, cap, rfl, r1, fun hne => ⟨g, 0, cur.toList, rfl, by unfold Bk; simpa using hh, fun j hj => ?_⟩⟩
    have hu : (xs.map (Value.int .i64))[j]? = some (.int .i64 (xs.getD j 0)) := by
      rw [List.getElem?_map, List.getElem?_eq_getElem hj, getD_lt _ _ hj]; rfl
    rw [← r4, List.getElem?_take_of_lt (by omega)] at hu
    rw [Nat.zero_add]; exact hu
end

/-- where it has an address, it lies from block B on -/
def New (B : Nat) (v : Value) : Prop := ∀ g o p n c, v = .slice (some ⟨g, o, p⟩) n c → B ≤ g
theorem New.mono {B C : Nat} {v : Value} (h : New C v) (hb : B ≤ C) : New B v := fun g o p n c e => Nat.le_trans hb (h g o p n c e)
theorem New.nil (B n c : Nat) : New B (.slice none n c) := by intro g o p n c e; cases e
theorem New.same {B : Nat} {A : Option Addr} {n c : Nat} (h : New B (.slice A n c)) (k d : Nat) : New B (.slice A k d) := by
  intro g o p n' c' e; injection e with e1 e2 e3; subst e1; exact h g o p n c rfl
theorem New.at_ {B g : Nat} (h : B ≤ g) (o : Nat) (p : Option Nat) (n c : Nat) : New B (.slice (some ⟨g, o, p⟩) n c) := by
  intro g' o' p' n' c' e; injection e with e1 e2 e3; injection e1 with e1; injection e1 with e1; subst e1; exact h
theorem New.own {w : World} {B : Nat} {E : TypeId} {v : Value} {n : Nat} {xs : List Value} (h : w.ownsRow B E 1 v n xs) : New B v := by
  rcases h.2 with ⟨rfl, _⟩ | ⟨g, cap, cur, rfl, hg, _⟩
  · exact New.nil _ _ _
  · exact New.at_ hg _ _ _ _
theorem Dg.away {w : World} {v : Value} {n B b : Nat} (h : Dg w v n) (hn : New B v) (hb : b < B) (i : Nat) (u : Value) : Dg (w.setCell ⟨b, i, none⟩ u) v n := by
  obtain ⟨xs, ⟨A, c, e, hc, hs⟩, hd⟩ := h
  refine ⟨xs, ⟨A, c, e, hc, fun hne => ?_⟩, hd⟩
  obtain ⟨g, o, cs, e2, hg, hc2⟩ := hs hne
  have := hn g o none xs.length c (by rw [e, e2])
  exact ⟨g, o, cs, e2, hg.far (by show g ≠ b; omega) u, hc2⟩
/-- a block of ints, read as a list -/
theorem IsSl.of_bk {w : World} {g : Nat} {ds : List Int} {n c : Nat} (h : Bk w g 3 (ds.map (Value.int .i64))) (hn : ds.length = n) (hc : n ≤ c) : IsSl w (.slice (some ⟨g, 0, none⟩) n c) ds := by
  subst hn
  refine ⟨_, c, rfl, hc, fun hne => ⟨g, 0, _, rfl, h, fun j hj => ?_⟩⟩
  rw [Nat.zero_add, List.getElem?_map, List.getElem?_eq_getElem hj, getD_lt _ _ hj]; rfl
/-- a new row of noughts -/
def zrow (n : Nat) : List Value := (List.replicate n (0 : Int)).map (Value.int .i64)
theorem zrow_made (n : Nat) : madeCells #[.int .i64 0] n = (zrow n).toArray := by
  apply Array.ext
  · simp [madeCells, zrow]
  · intro i h1 h2
    simp [madeCells, zrow, Nat.mod_one]
theorem info_int : (Try.prog.info? 3).map (fun i => (i.zero, i.size, i.bytes)) = some (some (.int .i64 0), 1, 8) := by kernel_rfl
/-- one int is appended to a row of the call's own -/
theorem wpList_push {w : World} {ops : Array Oper} {rest : List Oper} {o : Oper} {a : Act} {Q : Exit → Act → World → Prop} (hgd : o.guard = none) (s x : Operand)
    (ho : o.op = .call { callee := .builtin .append, args := #[s, x], argTypes := #[49, 49] })
    (base : Nat) (v : Value) (ds : List Int) (hs : a.eval s = v) (hown : w.ownsRow base 3 1 v ds.length (ds.map (Value.int .i64)))
    (b : Nat) (d : Int) (hx : a.eval x = .slice (some ⟨b, 0, none⟩) 1 1) (hd : w.cell? ⟨b, 0, none⟩ = some (.int .i64 d)) (hlen : ds.length ≤ 1000000) (hbase : base ≤ w.heap.size)
    (h : ∀ v' w', w'.ownsRow base 3 1 v' (ds ++ [d]).length ((ds ++ [d]).map (Value.int .i64)) → w.grownBy w' v.ownBlock → wpList Try.prog ops Q rest (a.put o.dst v') w') : wpList Try.prog ops Q (o :: rest) a w := by
  obtain ⟨i0, hi0, hz0, hz1, hz2⟩ := info_parts info_int
  refine wpList_append_own w hgd s x 49 ho base 3 i0 (.int .i64 0) 1 8 Try.underlying49 hi0 hz0 hz1 hz2 rfl (by decide) v ds.length _ hs hown ⟨b, 0, none⟩ 1 1 [.int .i64 d] hx rfl ?_ ?_ (by unfold maxLen; omega) (by omega) hbase ?_
  · intro j u hj
    match j with
    | 0 => simp at hj; subst hj; exact hd
    | j + 1 => simp at hj
  · intro u hu
    rw [List.mem_singleton.1 hu]; rfl
  · intro v' w' h1 h2 _
    refine h v' w' ?_ h2
    rw [List.length_append, List.map_append]
    exact h1
theorem run_append_nil (w : World) (base : Nat) (i : TypeInfo) (hi : Try.prog.info? 3 = some i) (ty : TypeId)
    (v : Value) (n : Nat) (xs : List Value) (hown : w.ownsRow base 3 1 v n xs) (c : Nat) : (Builtin.append_ #[49, 49] ty #[v, .slice none 0 c]).run Try.prog w = .ok v w := by
  rcases hown.2 with ⟨rfl, rfl⟩ | ⟨g, cap, cur, rfl, _, _, hnc, _⟩
  · simp [Builtin.append_, run_underlying Try.underlying49, sizeOf, typeInfo, hi, Builtin.lenOf, Builtin.firstCells]
  · simp [Builtin.append_, run_underlying Try.underlying49, sizeOf, typeInfo, hi, Builtin.lenOf, Builtin.firstCells, hnc, storeCells]
set_option maxRecDepth 100000 in
/-- a list of ints is appended to a row of the call's own -/
theorem wpList_join {w : World} {ops : Array Oper} {rest : List Oper} {o : Oper} {a : Act} {Q : Exit → Act → World → Prop} (hgd : o.guard = none) (s x : Operand)
    (ho : o.op = .call { callee := .builtin .append, args := #[s, x], argTypes := #[49, 49] })
    (base : Nat) (v : Value) (ds : List Int) (hs : a.eval s = v) (hown : w.ownsRow base 3 1 v ds.length (ds.map (Value.int .i64)))
    (A : Option Addr) (c : Nat) (ys : List Int) (hx : a.eval x = .slice A ys.length c) (hd : Sl w A ys) (hlen : ds.length + ys.length ≤ 1000000) (hbase : base ≤ w.heap.size)
    (h : ∀ v' w', w'.ownsRow base 3 1 v' (ds ++ ys).length ((ds ++ ys).map (Value.int .i64)) → w.grownBy w' v.ownBlock → wpList Try.prog ops Q rest (a.put o.dst v') w') : wpList Try.prog ops Q (o :: rest) a w := by
  obtain ⟨i0, hi0, hz0, hz1, hz2⟩ := info_parts info_int
  rcases A with _ | ad
  · have hy : ys = [] := by
      by_cases hne : ys = []
      · exact hne
      · obtain ⟨g, o, cs, e, _⟩ := hd hne
        cases e
    subst hy
    refine wpList_plain hgd fun K hK => ?_
    have hrun := run_append_nil w base i0 hi0 o.type v ds.length _ hown c
    unfold Oper.wp execOp
    simp only [ho, resolve, invoke, builtin, Sem.run_bind, Sem.run_pure, Result.andThen_ok, List.map_toArray, List.map_cons, List.map_nil, hs, hx, List.length_nil, hrun]
    exact hK _ _ (h v w (by rw [List.append_nil]; exact hown) (World.grownBy.refl w _))
  · refine wpList_append_own w hgd s x 49 ho base 3 i0 (.int .i64 0) 1 8 Try.underlying49 hi0 hz0 hz1 hz2 rfl (by decide) v ds.length _ hs hown ad ys.length c (ys.map (Value.int .i64)) hx (by simp) ?_ ?_ (by unfold maxLen; omega) (by omega) hbase ?_
    · intro j u hj
      rw [List.getElem?_map] at hj
      by_cases hjl : j < ys.length
      · obtain ⟨g, o', e, _, hc⟩ := hd.at_ hjl
        injection e with e
        subst e
        rw [List.getElem?_eq_getElem hjl, ← getD_lt _ _ hjl] at hj
        simp only [Option.map_some, Option.some.injEq] at hj
        subst hj
        rw [← hc]
        congr 1
        unfold Addr.add
        split
        · subst_vars; rfl
        · rfl
      · rw [List.getElem?_eq_none (by omega)] at hj
        cases hj
    · intro u hu
      obtain ⟨x, _, rfl⟩ := List.mem_map.1 hu
      rfl
    · intro v' w' h1 h2 _
      refine h v' w' ?_ h2
      rw [List.length_append, List.map_append]
      exact h1
theorem make_ints (n : Nat) (hn : n ≤ 1000000) (W : World) : (Instr.makeSlice 49 (.int .i64 (n : Int)) (.int .i64 (n : Int))).run Try.prog W = .ok (.slice (some ⟨W.heap.size, 0, none⟩) n n) (W.alloc (.cells (zrow n).toArray 3)) := by
  rw [← zrow_made]
  exact run_make_row' 49 3 (.int .i64 0) 8 Try.underlying49 info_int rfl .i64 .i64 n (by omega) (by omega) W
theorem below_push {a w w' : World} {B : Nat} {E : TypeId} {v : Value} {n : Nat} {xs : List Value} (h : Below B a w) (hown : w.ownsRow B E 1 v n xs) (hg : w.grownBy w' v.ownBlock) (hB : B ≤ w.heap.size) : Below B a w' :=
  h.grown hg hB fun k hk => (hown.lt k hk).1
end Go.Proofs.Ythkgjodidkpaeaa

set_option linter.unusedSimpArgs false
set_option linter.unusedVariables false
namespace Go.Proofs.Ythkgjodidkpaeaa
open Go.RowKit

/-- the answer lies where the argument lay -/
def RetCut (A : Option Addr) (n : Nat) (w : World) (e : Ending) (w' : World) : Prop := ∃ k c, e = .returned (.slice A k c) ∧ Dg w' (.slice A k c) n ∧ Below w.heap.size w w'
set_option maxHeartbeats 1000000 in
theorem cut_at (xs : List Int) (A : Option Addr) (c : Nat) (w : World) (hc : xs.length ≤ c) (hs : Sl w A xs) (hd : Digs xs) (hl : xs.length ≤ 100000) :
    Calls Try.prog 93 #[.slice A xs.length c] w (RetCut A (dval xs).toNat w) := by
  have HD := Lib.hid hd
  have HS := Lib.hid hs
  clear hd hs
  go_enter Try.func93, Try.ntmps93
  go_wp2_with fail
  go_loopg [3] xs.length (fun k i wr => k ≤ xs.length ∧ i = .int .i64 k ∧ (∀ j, k ≤ j → j < xs.length → xs.getD j 0 = 0) ∧ ∃ nn, wr = w.drewN nn)
  case atStart => exact ⟨Nat.le_refl _, rfl, fun j h1 h2 => absurd h2 (by omega), 0, rfl⟩
  case round =>
    obtain ⟨hn, rfl, hz, nn, rfl⟩ := hrel
    have HZ := Lib.hid hz
    clear hz
    by_cases h0 : gk = 0
    · subst h0
      go_wp2_with fail
      go_ret
      refine ⟨0, c, rfl, ⟨xs.take 0, ⟨A, c, by simp, by simp, fun h => absurd rfl h⟩, ?_⟩, by (repeat' (first | (with_reducible exact Below.refl _ _) | (with_reducible assumption) | (with_reducible refine Below.drew ?_) | (with_reducible refine below_drewN ?_ _) | ((with_reducible refine Below.alloc ?_ ?_ _); rotate_left; focus (go_size; done)) | ((with_reducible refine Below.setCell ?_ ?_ _); rotate_left; focus (go_size; done)) | ((with_reducible refine Below.trans ?_ (Below.mono (by with_reducible assumption) ?_)); rotate_left; focus (go_size; done))))⟩
      have e := dval_take_zeros xs 0 HZ.out
      rw [← e]
      exact IsDg.nil
    · obtain ⟨m, rfl⟩ : ∃ m, gk = m + 1 := ⟨gk - 1, by omega⟩
      obtain ⟨g, o, rfl, hg, hcell⟩ := HS.out.at_ (k := m) (by omega)
      obtain ⟨d, hd⟩ : ∃ d, d = xs.getD m 0 := ⟨_, rfl⟩
      rw [← hd] at hcell
      have HE := Lib.hid hd
      have hp : (0 : Int) < ((m + 1 : Nat) : Int) := by omega
      have hx : ((m + 1 : Nat) : Int) - 1 = (m : Int) := by omega
      clear h0 hd
      go_wp2_with fail
      · go_roundg m
        case measure => omega
        case rel =>
          refine ⟨by omega, rfl, ?_, nn, rfl⟩
          intro j h1 h2
          by_cases hj : j = m
          · subst hj
            rw [← HE.out]
            simpa using (by assumption : (d == 0) = true)
          · exact HZ.out j (by omega) h2
      · have hne : d ≠ 0 := by simpa using (by assumption : (d == 0) = false)
        go_ret
        have hlen : (xs.take (m + 1)).length = m + 1 := by rw [List.length_take, Nat.min_eq_left hn]
        refine ⟨m + 1, c, rfl, ⟨xs.take (m + 1), ⟨some ⟨g, o, none⟩, c, by (first | (rw [hlen]; done) | (rw [hlen]; rfl)), by rw [hlen]; omega, (HS.out.take (m + 1)).below (by (repeat' (first | (with_reducible exact Below.refl _ _) | (with_reducible assumption) | (with_reducible refine Below.drew ?_) | (with_reducible refine below_drewN ?_ _) | ((with_reducible refine Below.alloc ?_ ?_ _); rotate_left; focus (go_size; done)) | ((with_reducible refine Below.setCell ?_ ?_ _); rotate_left; focus (go_size; done)) | ((with_reducible refine Below.trans ?_ (Below.mono (by with_reducible assumption) ?_)); rotate_left; focus (go_size; done)))))⟩, HD.out.take _, ?_, ?_⟩, by (repeat' (first | (with_reducible exact Below.refl _ _) | (with_reducible assumption) | (with_reducible refine Below.drew ?_) | (with_reducible refine below_drewN ?_ _) | ((with_reducible refine Below.alloc ?_ ?_ _); rotate_left; focus (go_size; done)) | ((with_reducible refine Below.setCell ?_ ?_ _); rotate_left; focus (go_size; done)) | ((with_reducible refine Below.trans ?_ (Below.mono (by with_reducible assumption) ?_)); rotate_left; focus (go_size; done))))⟩
        · exact top_take xs (m + 1) hn (.inr (by rw [Nat.add_sub_cancel, ← HE.out]; exact hne))
        · rw [dval_take_zeros xs (m + 1) HZ.out]
          have := (dval_bd HD.out).1
          omega
theorem cut_any (xs : List Int) (v : Value) (w : World) (hv : IsSl w v xs) (hd : Digs xs) (hl : xs.length ≤ 100000) :
    Calls Try.prog 93 #[v] w (RetDg (dval xs).toNat w) := by
  obtain ⟨A, c, rfl, hc, hs⟩ := hv
  exact (cut_at xs A c w hc hs hd hl).mono fun e w' ⟨k, c', he, hdg, hb⟩ => ⟨_, he, hdg, hb⟩

theorem cut_is (xs : List Int) (A : Option Addr) (n c : Nat) (w : World) (hv : IsSl w (.slice A n c) xs) (hd : Digs xs) (hl : xs.length ≤ 100000) :
    Calls Try.prog 93 #[.slice A n c] w (RetCut A (dval xs).toNat w) := by
  obtain ⟨A', c', e, hc, hs⟩ := hv
  injection e with e1 e2 e3
  subst e1 e2 e3
  exact cut_at xs A c w hc hs hd hl
theorem pow_big {n : Nat} (h : Small n) {l : List Int} (hl : IsDg l n) : l.length ≤ 1000 := hl.len_le (h trivial)
set_option maxHeartbeats 1000000 in
theorem twice_any (N : Nat) (b0 : Int) (hb0 : 0 ≤ b0) (hb1 : b0 ≤ 1) (v : Value) (w : World) (hv : Dg w v N) (hN : Small N) :
    Calls Try.prog 98 #[v, .int .i64 b0] w (RetDg (2 * N + b0.toNat) w) := by
  obtain ⟨xs, ⟨A, c, rfl, hc, hs⟩, hd⟩ := hv
  have hlen := pow_big hN hd
  have HD := Lib.hid hd
  have HS := Lib.hid hs
  clear hd hs hN
  go_enter Try.func98, Try.ntmps98
  go_wp2_with fail
  go_loopg [1, 5, 6] xs.length (fun k b out i wr => ∃ (n : Nat) (bb : Int) (ds : List Int), k + n = xs.length ∧ i = .int .i64 n ∧ b = .int .i64 bb ∧ 0 ≤ bb ∧ bb ≤ 1 ∧
    wr.ownsRow w.heap.size 3 1 out ds.length (ds.map (Value.int .i64)) ∧ ds.length = n ∧ Digs ds ∧ dval ds + 10 ^ n * bb = 2 * dval (xs.take n) + b0 ∧ Below w.heap.size w wr)
  case atStart =>
    exact ⟨0, b0, [], by omega, rfl, rfl, hb0, hb1, World.ownsRow_nil _ _ _ _, rfl, Digs.nil, by simp [dval], Below.refl _ _⟩
  case round =>
    obtain ⟨n, bb, ds, hk, rfl, rfl, hbb0, hbb1, hown, hdl, hdd, hval, hbel⟩ := hrel
    have HK := Lib.hid hk
    have HL := Lib.hid hdl
    have HDD := Lib.hid hdd
    have HV := Lib.hid hval
    have hn : n ≤ xs.length := by omega
    have hwr := hbel.size
    clear hk hdl hdd hval
    by_cases hlt : n < xs.length
    · obtain ⟨g, o, rfl, hg, hcell⟩ := HS.out.at_ hlt
      have hx := HD.out.get n
      have hcell2 := (hbel.cell (p := ⟨g, o + n, none⟩) hg).trans hcell
      obtain ⟨d, hd⟩ : ∃ d, d = xs.getD n 0 := ⟨_, rfl⟩
      rw [← hd] at hcell2 hx
      obtain ⟨hx0, hx9⟩ := hx
      have HE := Lib.hid hd
      clear hd hcell
      go_wp2_with (at_builtin; refine wpList_push rfl (.tmp 21) (.tmp 24) rfl w.heap.size u5 ds rfl (hown.alloc _) wr.heap.size ((2 * d + bb) % 10) rfl ?hc ?hl ?hb ?_; rotate_left 3; intro v1 w1 hown1 hg1)
      case hc => simp [go_sem]
      case hl => have := HL.out; omega
      case hb => go_size
      go_roundg (gk - 1)
      case measure => have := HK.out; omega
      case rel =>
        refine ⟨n + 1, (2 * d + bb) / 10, ds ++ [(2 * d + bb) % 10], by have := HK.out; omega, by go_num, rfl, by omega, by omega, hown1, by rw [List.length_append, HL.out]; rfl, HDD.out.snoc (by omega) (by omega), ?_, below_push (hbel.alloc (by go_size) _) (hown.alloc _) hg1 (by go_size)⟩
        rw [dval_snoc, HL.out, dval_take_succ xs n hlt, ← HE.out, Int.pow_succ]
        have e1 := carry_step (10 ^ n) (2 * d + bb)
        have e2 : (10 : Int) ^ n * (2 * d + bb) = 2 * (10 ^ n * d) + 10 ^ n * bb := by rw [Int.mul_add, Int.mul_left_comm]
        have e3 := HV.out
        omega
    · obtain rfl : n = xs.length := by omega
      have hbz : bb = 0 ∨ bb = 1 := by omega
      have hv : dval ds + 10 ^ ds.length * bb = 2 * N + b0.toNat := by
        have := HV.out
        rw [List.take_length, HD.out.2.2, ← HL.out] at this
        omega
      have HW := Lib.hid hv
      clear hv
      rcases hbz with rfl | rfl
      · go_wp2_with fail
        go_ret
        refine ⟨u5, rfl, ⟨ds, IsSl.of_own hown, HDD.out, ?_, ?_⟩, hbel⟩
        · refine top_of_val HDD.out ?_
          by_cases hne : xs = []
          · left
            have := HL.out
            subst hne
            exact List.length_eq_zero_iff.1 this
          · right
            have h1 := HD.out.le_of_ne hne
            have h2 := HW.out
            rw [Int.mul_zero, Int.add_zero] at h2
            rw [HL.out, h2]
            have h3 : ((10 ^ (xs.length - 1) : Nat) : Int) ≤ (N : Int) := by exact_mod_cast h1
            rw [Int.natCast_pow] at h3
            have h4 : ((10 : Nat) : Int) = 10 := rfl
            rw [h4] at h3
            omega
        · have h2 := HW.out
          rw [Int.mul_zero, Int.add_zero] at h2
          rw [h2]; omega
      · go_wp2_with (at_builtin; refine wpList_push rfl (.tmp 30) (.tmp 32) rfl w.heap.size u5 ds rfl (hown.alloc _) wr.heap.size 1 rfl ?hc ?hl ?hb ?_; rotate_left 3; intro v1 w1 hown1 hg1)
        case hc => simp [go_sem]
        case hl => have := HL.out; omega
        case hb => go_size
        go_ret
        have h2 := HW.out
        have h0 := (dval_bd HDD.out).1
        refine ⟨v1, rfl, ⟨ds ++ [1], IsSl.of_own hown1, HDD.out.snoc (by decide) (by decide), ?_, ?_⟩, below_push (hbel.alloc (by go_size) _) (hown.alloc _) hg1 (by go_size)⟩
        · simp [Top]
        · rw [dval_snoc, h2]; omega
end Go.Proofs.Ythkgjodidkpaeaa

set_option linter.unusedSimpArgs false
set_option linter.unusedVariables false
namespace Go.Proofs.Ythkgjodidkpaeaa
open Go.RowKit

def RetHalf (n : Nat) (w : World) (e : Ending) (w' : World) : Prop := ∃ v, e = .returned (.tuple #[v, .int .i64 ((n % 2 : Nat) : Int)]) ∧ Dg w' v (n / 2) ∧ Below w.heap.size w w'
set_option maxHeartbeats 1000000 in
theorem half_any (N : Nat) (v : Value) (w : World) (hv : Dg w v N) (hN : Small N) :
    Calls Try.prog 103 #[v] w (RetHalf N w) := by
  obtain ⟨xs, ⟨A, c, rfl, hc, hs⟩, hd⟩ := hv
  have hlen := pow_big hN hd
  have HD := Lib.hid hd
  have HS := Lib.hid hs
  have hmk := fun W => make_ints xs.length (by omega) W
  clear hd hs hN
  go_enter Try.func103, Try.ntmps103
  go_wp2_with fail
  clear hmk
  go_loopg [5, 6] xs.length (fun k l i wr => ∃ (ll : Int) (ds : List Int), k ≤ xs.length ∧ i = .int .i64 ((k : Int) - 1) ∧ l = .int .i64 ll ∧ 0 ≤ ll ∧ ll ≤ 1 ∧
    Bk wr w.heap.size 3 (ds.map (Value.int .i64)) ∧ ds.length = xs.length ∧ Digs ds ∧ 2 * dval (ds.drop k) + ll = dval (xs.drop k) ∧ w.heap.size < wr.heap.size ∧ Below w.heap.size w wr)
  case atStart =>
    refine ⟨0, List.replicate xs.length 0, Nat.le_refl _, rfl, rfl, by decide, by decide, Bk.new_ rfl, by simp, Digs.zeros _, ?_, by go_size, by (repeat' (first | (with_reducible exact Below.refl _ _) | (with_reducible assumption) | (with_reducible refine Below.drew ?_) | (with_reducible refine below_drewN ?_ _) | ((with_reducible refine Below.alloc ?_ ?_ _); rotate_left; focus (go_size; done)) | ((with_reducible refine Below.setCell ?_ ?_ _); rotate_left; focus (go_size; done)) | ((with_reducible refine Below.trans ?_ (Below.mono (by with_reducible assumption) ?_)); rotate_left; focus (go_size; done))))⟩
    rw [List.drop_of_length_le (by simp), List.drop_of_length_le (Nat.le_refl _)]
    rfl
  case round =>
    obtain ⟨ll, ds, hk, rfl, rfl, hl0, hl1, hbk, hdl, hdd, hval, hsz, hbel⟩ := hrel
    have HB := Lib.hid hbk
    have HL := Lib.hid hdl
    have HDD := Lib.hid hdd
    have HV := Lib.hid hval
    clear hbk hdl hdd hval
    by_cases h0 : gk = 0
    · subst h0
      have hm : ¬ (0 : Int) ≤ ((0 : Nat) : Int) - 1 := by omega
      go_wp2_with fail
      refine (cut_any ds _ _ (IsSl.of_bk HB.out HL.out (Nat.le_refl _)) HDD.out (by rw [HL.out]; omega)).mono ?_
      rintro _ w2 ⟨v2, rfl, hdg, hb2⟩
      go_wp2_with fail
      go_ret2
      have hv := HV.out
      rw [List.drop_zero, List.drop_zero, HD.out.2.2] at hv
      have h1 := (dval_bd HDD.out).1
      have e1 : (dval ds).toNat = N / 2 := by omega
      have e2 : ll = ((N % 2 : Nat) : Int) := by omega
      rw [e1] at hdg
      refine ⟨v2, ?_, hdg, by (repeat' (first | (with_reducible exact Below.refl _ _) | (with_reducible assumption) | (with_reducible refine Below.drew ?_) | (with_reducible refine below_drewN ?_ _) | ((with_reducible refine Below.alloc ?_ ?_ _); rotate_left; focus (go_size; done)) | ((with_reducible refine Below.setCell ?_ ?_ _); rotate_left; focus (go_size; done)) | ((with_reducible refine Below.trans ?_ (Below.mono (by with_reducible assumption) ?_)); rotate_left; focus (go_size; done))))⟩
      rw [← e2]
      rfl
    · obtain ⟨m, rfl⟩ : ∃ m, gk = m + 1 := ⟨gk - 1, by omega⟩
      obtain ⟨g, o, rfl, hg, hcell⟩ := HS.out.at_ (k := m) (by omega)
      have hcell2 := (hbel.cell (p := ⟨g, o + m, none⟩) hg).trans hcell
      have hx := HD.out.get m
      obtain ⟨d, hd⟩ : ∃ d, d = xs.getD m 0 := ⟨_, rfl⟩
      rw [← hd] at hcell2 hx
      obtain ⟨hx0, hx9⟩ := hx
      have HE := Lib.hid hd
      have hp : (0 : Int) < ((m + 1 : Nat) : Int) := by omega
      have hx : ((m + 1 : Nat) : Int) - 1 = (m : Int) := by omega
      have hmd : m < ds.length := by have := HL.out; omega
      have hst : wr.cell? ⟨w.heap.size, m, none⟩ = some (.int .i64 (ds.getD m 0)) := HB.out.cell _ (by rw [List.getElem?_map, List.getElem?_eq_getElem hmd, getD_lt _ _ hmd]; rfl)
      have hfz := HB.out.frozen m
      clear h0 hd hcell
      go_wp2_with fail
      go_roundg m
      case measure => omega
      case rel =>
        refine ⟨(10 * ll + d) % 2, ds.set m ((10 * ll + d) / 2), by omega, rfl, rfl, by omega, by omega, ?_, by rw [List.length_set]; exact HL.out, HDD.out.set_ m (by omega) (by omega), ?_, by go_size, by (repeat' (first | (with_reducible exact Below.refl _ _) | (with_reducible assumption) | (with_reducible refine Below.drew ?_) | (with_reducible refine below_drewN ?_ _) | ((with_reducible refine Below.alloc ?_ ?_ _); rotate_left; focus (go_size; done)) | ((with_reducible refine Below.setCell ?_ ?_ _); rotate_left; focus (go_size; done)) | ((with_reducible refine Below.trans ?_ (Below.mono (by with_reducible assumption) ?_)); rotate_left; focus (go_size; done))))⟩
        · have := HB.out.set_ m (.int .i64 ((10 * ll + d) / 2))
          rwa [← List.map_set] at this
        · rw [drop_set _ _ _ hmd, dval_drop xs m (by omega), ← HE.out]
          have hv := HV.out
          show 2 * ((10 * ll + d) / 2 + 10 * dval (ds.drop (m + 1))) + (10 * ll + d) % 2 = _
          omega
end Go.Proofs.Ythkgjodidkpaeaa

set_option linter.unusedSimpArgs false
set_option linter.unusedVariables false
namespace Go.Proofs.Ythkgjodidkpaeaa
open Go.RowKit

theorem bit_step (n m j : Nat) (hj : j < 64) : 2 * (n / 2 ^ (64 * m + (j + 1))) + (n / 2 ^ (64 * m) % 2 ^ 64 / 2 ^ j % 2) = n / 2 ^ (64 * m + j) := by
  have e1 : 2 ^ 64 = 2 ^ j * 2 ^ (64 - j) := by rw [← Nat.pow_add]; congr 1; omega
  have e2 : n / 2 ^ (64 * m) % 2 ^ 64 / 2 ^ j % 2 = n / 2 ^ (64 * m + j) % 2 := by
    rw [e1, Nat.mod_mul_right_div_self, Nat.div_div_eq_div_mul, ← Nat.pow_add]
    have hd : 2 ^ 1 ∣ 2 ^ (64 - j) := Nat.pow_dvd_pow 2 (by omega)
    exact Nat.mod_mod_of_dvd _ hd
  rw [e2, ← Nat.add_assoc, Nat.pow_succ, ← Nat.div_div_eq_div_mul]
  omega
theorem pow_le_gen (a b : Nat) (h : a ≤ b) : 2 ^ a ≤ 10 ^ b := Nat.le_trans (Nat.pow_le_pow_left (by decide) a) (Nat.pow_le_pow_right (by decide) h)
theorem lt_ten_1000 {n : Nat} (h : n < 2 ^ 256) : Small n := fun _ => Nat.lt_of_lt_of_le h (pow_le_gen 256 1000 (by decide))
theorem div_lt_1000 {n : Nat} (h : n < 2 ^ 256) (d : Nat) : Small (n / d) := lt_ten_1000 (Nat.lt_of_le_of_lt (Nat.div_le_self _ _) h)

theorem bit_val (n m j : Nat) : wrap64 (bits .and .u64 (wd n m / 2 ^ j) 1) = ((n / 2 ^ (64 * m) % 2 ^ 64 / 2 ^ j % 2 : Nat) : Int) := by
  unfold wd
  have hx : n / 2 ^ (64 * m) % 2 ^ 64 < 18446744073709551616 := Nat.mod_lt _ (by decide)
  generalize n / 2 ^ (64 * m) % 2 ^ 64 = x at *
  have e : ((x : Nat) : Int) / 2 ^ j = ((x / 2 ^ j : Nat) : Int) := by
    rw [Int.natCast_ediv, Int.natCast_pow]; rfl
  have hy : x / 2 ^ j ≤ x := Nat.div_le_self _ _
  rw [e]
  generalize x / 2 ^ j = y at *
  have h := bits_and_u64_nat y 1 (by omega) (by decide)
  rw [Nat.and_one_is_mod] at h
  have e1 : ((1 : Nat) : Int) = 1 := rfl
  rw [e1] at h
  rw [h]
  exact IntWalk.wrap64_in _ (by omega)

set_option maxHeartbeats 1000000 in
theorem words_any (n b L c : Nat) (w : World) (hn : n < 2 ^ 256) (hL : n < 2 ^ (64 * L)) (hL4 : L ≤ 4) (hb : b < w.heap.size) (hc : L ≤ c) (hw : ∀ i, i < L → w.cell? ⟨b, i, none⟩ = some (.int .u64 (wd n i))) :
    Calls Try.prog 85 #[.slice (some ⟨b, 0, none⟩) L c] w (RetDg n w) := by
  have HW := Lib.hid hw
  have HN := Lib.hid hn
  have HL := Lib.hid hL
  clear hw hn hL
  go_enter Try.func85, Try.ntmps85
  go_wp2_with fail
  go_loopg [3, 4] L (fun k v i wr => k ≤ L ∧ i = .int .i64 ((k : Int) - 1) ∧ Dg wr v (n / 2 ^ (64 * k)) ∧ Below w.heap.size w wr)
  case atStart =>
    refine ⟨Nat.le_refl _, rfl, ⟨[], ⟨none, 0, rfl, Nat.le_refl _, fun h => absurd rfl h⟩, ?_⟩, by (repeat' (first | (with_reducible exact Below.refl _ _) | (with_reducible assumption) | (with_reducible refine Below.drew ?_) | (with_reducible refine below_drewN ?_ _) | ((with_reducible refine Below.alloc ?_ ?_ _); rotate_left; focus (go_size; done)) | ((with_reducible refine Below.setCell ?_ ?_ _); rotate_left; focus (go_size; done)) | ((with_reducible refine Below.trans ?_ (Below.mono (by with_reducible assumption) ?_)); rotate_left; focus (go_size; done))))⟩
    rw [Nat.div_eq_of_lt HL.out]
    exact IsDg.nil
  case round =>
    obtain ⟨hk, rfl, hdg, hbel⟩ := hrel
    have HD := Lib.hid hdg
    clear hdg
    by_cases h0 : gk = 0
    · subst h0
      have hm : ¬ (0 : Int) ≤ ((0 : Nat) : Int) - 1 := by omega
      go_wp2_with fail
      go_ret
      refine ⟨u3, rfl, ?_, hbel⟩
      have := HD.out
      rwa [Nat.mul_zero, Nat.pow_zero, Nat.div_one] at this
    · obtain ⟨m, rfl⟩ : ∃ m, gk = m + 1 := ⟨gk - 1, by omega⟩
      have hp : (0 : Int) < ((m + 1 : Nat) : Int) := by omega
      have hx : ((m + 1 : Nat) : Int) - 1 = (m : Int) := by omega
      have hcw := HW.out m (by omega)
      clear h0
      go_wp2_with fail
      simp only [hx]
      clear hx hp
      obtain ⟨wo, rfl⟩ : ∃ wo : World, wo = wr := ⟨_, rfl⟩
      go_loopg [3, 5] 64 (fun k v i wr => k ≤ 64 ∧ i = .int .i64 ((k : Int) - 1) ∧ Dg wr v (n / 2 ^ (64 * m + k)) ∧ Below w.heap.size w wr)
      case atStart =>
        refine ⟨by decide, rfl, ?_, hbel⟩
        have := HD.out
        rwa [Nat.mul_add] at this
      case round =>
        obtain ⟨hk2, rfl, hdg2, hbel2⟩ := hrel
        have HD2 := Lib.hid hdg2
        clear hdg2
        by_cases h0 : gk = 0
        · subst h0
          have hm : ¬ (0 : Int) ≤ ((0 : Nat) : Int) - 1 := by omega
          go_wp2_with fail
          go_roundg m
          case measure => omega
          case rel =>
            refine ⟨by omega, rfl, ?_, hbel2⟩
            have := HD2.out
            rwa [Nat.add_zero] at this
        · obtain ⟨j, rfl⟩ : ∃ j, gk = j + 1 := ⟨gk - 1, by omega⟩
          have hp2 : (0 : Int) < ((j + 1 : Nat) : Int) := by omega
          have hx2 : ((j + 1 : Nat) : Int) - 1 = (j : Int) := by omega
          have hcw2 := (hbel2.cell (p := ⟨b, m, none⟩) hb).trans hcw
          go_wp2_with fail
          have hbv := bit_val n m j
          have hb2 : n / 2 ^ (64 * m) % 2 ^ 64 / 2 ^ j % 2 < 2 := Nat.mod_lt _ (by decide)
          have hst := bit_step n m j (by omega)
          obtain ⟨t, ht⟩ : ∃ t, t = n / 2 ^ (64 * m) % 2 ^ 64 / 2 ^ j % 2 := ⟨_, rfl⟩
          rw [← ht] at hbv hb2 hst
          rw [hbv]
          have HS := Lib.hid hst
          clear hbv hst ht
          refine (twice_any (n / 2 ^ (64 * m + (j + 1))) (t : Int) (by omega) (by omega) u3 _ HD2.out (div_lt_1000 HN.out _)).mono ?_
          rintro _ w2 ⟨v2, rfl, hdg3, hb3⟩
          have hb3s := hb3.size
          have hb2s := hbel2.size
          rw [Int.toNat_natCast, HS.out] at hdg3
          have HD3 := Lib.hid hdg3
          clear hdg3
          go_wp2_with fail
          go_roundg j
          case measure => omega
          case rel => exact ⟨by omega, rfl, HD3.out, by (repeat' (first | (with_reducible exact Below.refl _ _) | (with_reducible assumption) | (with_reducible refine Below.drew ?_) | (with_reducible refine below_drewN ?_ _) | ((with_reducible refine Below.alloc ?_ ?_ _); rotate_left; focus (go_size; done)) | ((with_reducible refine Below.setCell ?_ ?_ _); rotate_left; focus (go_size; done)) | ((with_reducible refine Below.trans ?_ (Below.mono (by with_reducible assumption) ?_)); rotate_left; focus (go_size; done))))⟩
end Go.Proofs.Ythkgjodidkpaeaa

set_option linter.unusedSimpArgs false
set_option linter.unusedVariables false
namespace Go.Proofs.Ythkgjodidkpaeaa
open Go.RowKit

def lcells (m : Nat) : List Value := (List.range 4).map fun j => .int .u64 (wd m j)
theorem lcells_eq (m : Nat) : lcells m = [.int .u64 (wd m 0), .int .u64 (wd m 1), .int .u64 (wd m 2), .int .u64 (wd m 3)] := rfl
theorem lcells_at (m j : Nat) (hj : j < 4) : (lcells m)[j]? = some (.int .u64 (wd m j)) := by
  unfold lcells
  rw [List.getElem?_map, List.getElem?_range hj]; rfl
theorem lcells_set (V j : Nat) (hj : j < 4) (hV : V < 2 ^ 256) (v : Int) (h0 : 0 ≤ v) (h1 : v < 18446744073709551616) :
    ∃ V' : Nat, V' < 2 ^ 256 ∧ (V' : Int) = V + (v - wd V j) * ((2 ^ (64 * j) : Nat) : Int) ∧ (lcells V).set j (.int .u64 v) = lcells V' ∧ (∀ i, i < 4 → i ≠ j → wd V' i = wd V i) ∧ wd V' j = v := by
  have hf := wd_four hV
  have a0 := wd_nn V 0
  have a1 := wd_lt V 0
  have b0 := wd_nn V 1
  have b1 := wd_lt V 1
  have c0 := wd_nn V 2
  have c1 := wd_lt V 2
  have d0 := wd_nn V 3
  have d1 := wd_lt V 3
  have key : ∀ (x0 x1 x2 x3 : Int), 0 ≤ x0 → x0 < 18446744073709551616 → 0 ≤ x1 → x1 < 18446744073709551616 → 0 ≤ x2 → x2 < 18446744073709551616 → 0 ≤ x3 → x3 < 18446744073709551616 →
      ∃ V' : Nat, V' < 2 ^ 256 ∧ (V' : Int) = x3 * 6277101735386680763835789423207666416102355444464034512896 + x2 * 340282366920938463463374607431768211456 + x1 * 18446744073709551616 + x0 ∧ x0 = wd V' 0 ∧ x1 = wd V' 1 ∧ x2 = wd V' 2 ∧ x3 = wd V' 3 := by
    intro x0 x1 x2 x3 e0 e1 e2 e3 e4 e5 e6 e7
    refine ⟨(x3 * 6277101735386680763835789423207666416102355444464034512896 + x2 * 340282366920938463463374607431768211456 + x1 * 18446744073709551616 + x0).toNat, by omega, by omega, ?_⟩
    exact wd_of4 _ x0 x1 x2 x3 e0 e1 e2 e3 e4 e5 e6 e7 (by omega)
  have hc : j = 0 ∨ j = 1 ∨ j = 2 ∨ j = 3 := by omega
  rcases hc with rfl | rfl | rfl | rfl
  · obtain ⟨V', g1, g2, e0, e1, e2, e3⟩ := key v (wd V 1) (wd V 2) (wd V 3) h0 h1 b0 b1 c0 c1 d0 d1
    refine ⟨V', g1, ?_, ?_, ?_, e0.symm⟩
    · rw [g2]; omega
    · rw [lcells_eq, lcells_eq, ← e0, ← e1, ← e2, ← e3]; rfl
    · intro i hi hne
      have hc : i = 1 ∨ i = 2 ∨ i = 3 := by omega
      rcases hc with rfl | rfl | rfl
      · exact e1.symm
      · exact e2.symm
      · exact e3.symm
  · obtain ⟨V', g1, g2, e0, e1, e2, e3⟩ := key (wd V 0) v (wd V 2) (wd V 3) a0 a1 h0 h1 c0 c1 d0 d1
    refine ⟨V', g1, ?_, ?_, ?_, e1.symm⟩
    · rw [g2]; omega
    · rw [lcells_eq, lcells_eq, ← e0, ← e1, ← e2, ← e3]; rfl
    · intro i hi hne
      have hc : i = 0 ∨ i = 2 ∨ i = 3 := by omega
      rcases hc with rfl | rfl | rfl
      · exact e0.symm
      · exact e2.symm
      · exact e3.symm
  · obtain ⟨V', g1, g2, e0, e1, e2, e3⟩ := key (wd V 0) (wd V 1) v (wd V 3) a0 a1 b0 b1 h0 h1 d0 d1
    refine ⟨V', g1, ?_, ?_, ?_, e2.symm⟩
    · rw [g2]; omega
    · rw [lcells_eq, lcells_eq, ← e0, ← e1, ← e2, ← e3]; rfl
    · intro i hi hne
      have hc : i = 0 ∨ i = 1 ∨ i = 3 := by omega
      rcases hc with rfl | rfl | rfl
      · exact e0.symm
      · exact e1.symm
      · exact e3.symm
  · obtain ⟨V', g1, g2, e0, e1, e2, e3⟩ := key (wd V 0) (wd V 1) (wd V 2) v a0 a1 b0 b1 c0 c1 h0 h1
    refine ⟨V', g1, ?_, ?_, ?_, e3.symm⟩
    · rw [g2]; omega
    · rw [lcells_eq, lcells_eq, ← e0, ← e1, ← e2, ← e3]; rfl
    · intro i hi hne
      have hc : i = 0 ∨ i = 1 ∨ i = 2 := by omega
      rcases hc with rfl | rfl | rfl
      · exact e0.symm
      · exact e1.symm
      · exact e2.symm
theorem wd_past {V k j : Nat} (h : V < 2 ^ (64 * k)) (hj : k ≤ j) : wd V j = 0 := by
  unfold wd
  rw [Nat.div_eq_of_lt (Nat.lt_of_lt_of_le h (Nat.pow_le_pow_right (by decide) (by omega)))]; rfl
/-- one word more of a number from below -/
theorem wd_mod_succ (n t : Nat) : ((n % 2 ^ (64 * (t + 1)) : Nat) : Int) = ((n % 2 ^ (64 * t) : Nat) : Int) + wd n t * ((2 ^ (64 * t) : Nat) : Int) := by
  unfold wd
  rw [show 64 * (t + 1) = 64 * t + 64 by omega, Nat.pow_add, Nat.mod_mul, Int.natCast_add, Int.natCast_mul, Int.mul_comm]
end Go.Proofs.Ythkgjodidkpaeaa

set_option linter.unusedSimpArgs false
set_option linter.unusedVariables false
namespace Go.Proofs.Ythkgjodidkpaeaa
open Go.RowKit

set_option maxHeartbeats 1000000 in
theorem of_any (n : Nat) (hn : n < 2 ^ 128) (w : World) : Calls Try.prog 49 #[.agg #[.int .u64 (wd n 1), .int .u64 (wd n 0)]] w (RetDg n w) := by
  have HN := Lib.hid hn
  clear hn
  have H := Lib.hid (fun (W : World) (b : Nat) (hb : b < W.heap.size) (hw : ∀ i, i < 2 → W.cell? ⟨b, i, none⟩ = some (.int .u64 (wd n i))) =>
    words_any n b 2 2 W (Nat.lt_of_lt_of_le HN.out (Nat.pow_le_pow_right (by decide) (by decide))) HN.out (by decide) hb (Nat.le_refl _) hw)
  go_enter Try.func49, Try.ntmps49
  go_wp2_with fail
  refine (H.out _ _ (by go_size) ?_).mono ?_
  · intro i hi
    match i, hi with
    | 0, _ => simp [go_sem]
    | 1, _ => simp [go_sem]
  rintro _ w1 ⟨v, rfl, hdg, hb⟩
  have HD := Lib.hid hdg
  clear hdg
  go_wp2_with fail
  go_ret
  exact ⟨v, rfl, HD.out, by (repeat' (first | (with_reducible exact Below.refl _ _) | (with_reducible assumption) | (with_reducible refine Below.drew ?_) | (with_reducible refine below_drewN ?_ _) | ((with_reducible refine Below.alloc ?_ ?_ _); rotate_left; focus (go_size; done)) | ((with_reducible refine Below.setCell ?_ ?_ _); rotate_left; focus (go_size; done)) | ((with_reducible refine Below.trans ?_ (Below.mono (by with_reducible assumption) ?_)); rotate_left; focus (go_size; done))))⟩
theorem bit_top (N n : Nat) : N % 2 ^ (n + 1) = N % 2 ^ n + 2 ^ n * (N / 2 ^ n % 2) := by
  rw [Nat.pow_succ, Nat.mod_mul]
theorem or_gen2 (i a b : Nat) (hb : b < 2 ^ i) : b ||| a * 2 ^ i = b + a * 2 ^ i := by
  rw [Nat.or_comm, Nat.mul_comm, Nat.add_comm b]; exact (Nat.two_pow_add_eq_or_of_lt hb a).symm
theorem word_here (N n t : Nat) (ht : t = N / 2 ^ n % 2) : bits .or .u64 (wd (N % 2 ^ n) (n / 64)) (IntKind.u64.wrap ((t : Int) * 2 ^ (n % 64))) = wd (N % 2 ^ (n + 1)) (n / 64) := by
  have ht2 : t < 2 := by omega
  have hr : n % 64 < 64 := Nat.mod_lt _ (by decide)
  have en : 2 ^ n = 2 ^ (64 * (n / 64)) * 2 ^ (n % 64) := by rw [← Nat.pow_add]; congr 1; omega
  have hM : N % 2 ^ n < 2 ^ n := Nat.mod_lt _ (Nat.two_pow_pos n)
  have e1 : (N % 2 ^ (n + 1)) / 2 ^ (64 * (n / 64)) = N % 2 ^ n / 2 ^ (64 * (n / 64)) + t * 2 ^ (n % 64) := by
    rw [bit_top N n, ← ht]
    generalize N % 2 ^ n = M
    rw [en, Nat.mul_assoc, Nat.add_mul_div_left _ _ (Nat.two_pow_pos _), Nat.mul_comm t]
  have hA : N % 2 ^ n / 2 ^ (64 * (n / 64)) < 2 ^ (n % 64) := Nat.div_lt_of_lt_mul (by rw [← en]; exact hM)
  unfold wd
  rw [e1]
  generalize N % 2 ^ n / 2 ^ (64 * (n / 64)) = A at *
  have h2 : 2 ^ (n % 64) ≤ 2 ^ 63 := Nat.pow_le_pow_right (by decide) (by omega)
  have hor := or_gen2 (n % 64) t A hA
  have e2 : (t : Int) * 2 ^ (n % 64) = ((t * 2 ^ (n % 64) : Nat) : Int) := by rw [Int.natCast_mul, Int.natCast_pow]; rfl
  rw [e2]
  have hle : t * 2 ^ (n % 64) ≤ 2 ^ (n % 64) := by
    have : t = 0 ∨ t = 1 := by omega
    rcases this with rfl | rfl <;> simp
  generalize t * 2 ^ (n % 64) = T at *
  generalize 2 ^ (n % 64) = P at *
  have e3 : IntKind.u64.wrap (T : Int) = (T : Int) := by rw [IntKind.wrap_u64]; omega
  rw [e3, Nat.mod_eq_of_lt (show A < 2 ^ 64 by omega), bits_or_u64_nat A T (by omega) (by omega), hor, Nat.mod_eq_of_lt (show A + T < 2 ^ 64 by omega)]
theorem word_else (N n j : Nat) (hj : j ≠ n / 64) : wd (N % 2 ^ (n + 1)) j = wd (N % 2 ^ n) j := by
  unfold wd
  congr 1
  rw [bit_top N n]
  have hM : N % 2 ^ n < 2 ^ n := Nat.mod_lt _ (Nat.two_pow_pos n)
  have ht : N / 2 ^ n % 2 < 2 := Nat.mod_lt _ (by decide)
  generalize N % 2 ^ n = M at *
  generalize N / 2 ^ n % 2 = t at *
  rcases Nat.lt_or_ge j (n / 64) with h | h
  · have en : 2 ^ n = 2 ^ (64 * j) * (2 ^ 64 * 2 ^ (n - 64 * j - 64)) := by rw [← Nat.pow_add, ← Nat.pow_add]; congr 1; omega
    rw [en, Nat.mul_assoc, Nat.add_mul_div_left _ _ (Nat.two_pow_pos _), Nat.mul_assoc, Nat.add_mul_mod_self_left]
  · have hp : 2 ^ (n + 1) ≤ 2 ^ (64 * j) := Nat.pow_le_pow_right (by decide) (by omega)
    rw [Nat.pow_succ] at hp
    have h1 : 2 ^ n * t ≤ 2 ^ n := by
      have : t = 0 ∨ t = 1 := by omega
      rcases this with rfl | rfl <;> simp
    rw [Nat.div_eq_of_lt (by omega), Nat.div_eq_of_lt (by omega)]
theorem lcells_step (N n : Nat) (x : Int) (hx : x = wd (N % 2 ^ (n + 1)) (n / 64)) : (lcells (N % 2 ^ n)).set (n / 64) (.int .u64 x) = lcells (N % 2 ^ (n + 1)) := by
  apply List.ext_getElem
  · simp [lcells]
  · intro j h1 h2
    simp only [lcells, List.getElem_set, List.getElem_map, List.getElem_range]
    by_cases hj : n / 64 = j
    · rw [if_pos hj, hx, hj]
    · rw [if_neg hj, word_else N n j (fun e => hj e.symm)]
def fitsL (N : Nat) : Bool := decide (N < 2 ^ 256)
def RetLong (N : Nat) (w : World) (e : Ending) (w' : World) : Prop := e = .returned (.tuple #[.agg #[.int .u64 (wd (N % 2 ^ 256) 0), .int .u64 (wd (N % 2 ^ 256) 1), .int .u64 (wd (N % 2 ^ 256) 2), .int .u64 (wd (N % 2 ^ 256) 3)], .bool (fitsL N)]) ∧ Below w.heap.size w w'
set_option maxHeartbeats 2000000 in
set_option maxRecDepth 100000 in
theorem tolong_any (N : Nat) (v : Value) (w : World) (hv : Dg w v N) (hN : Small N) :
    Calls Try.prog 101 #[v] w (RetLong N w) := by
  have HV := Lib.hid hv
  have HN := Lib.hid hN
  clear hv hN
  go_enter Try.func101, Try.ntmps101
  go_wp2_with fail
  go_loopg [0, 5] 256 (fun k v i wr => ∃ n : Nat, k + n = 256 ∧ i = .int .i64 n ∧ Dg wr v (N / 2 ^ n) ∧ Bk wr (w.heap.size + 1) 45 (lcells (N % 2 ^ n)) ∧
    Bk wr w.heap.size 45 [.int .u64 0, .int .u64 0, .int .u64 0, .int .u64 0] ∧ w.heap.size + 2 ≤ wr.heap.size ∧ Below w.heap.size w wr)
  case atStart =>
    refine ⟨0, rfl, rfl, ?_, ?_, by (repeat (first | (with_reducible assumption) | ((with_reducible refine Bk.new_ ?_); (first | rfl | (simp only [World.size_alloc, World.size_setCell, World.size_drew, World.heap_drewN]; done))) | (with_reducible refine Bk.alloc ?_ _) | (with_reducible refine Bk.drew ?_) | (with_reducible refine Bk.drewN ?_ _) | ((with_reducible refine Bk.far ?_ ?_ _); rotate_left; focus (simp only []; omega)) | ((with_reducible refine Bk.below ?_ (by with_reducible assumption) ?_); rotate_left; focus (go_size; done)))), by go_size, by (repeat' (first | (with_reducible exact Below.refl _ _) | (with_reducible assumption) | (with_reducible refine Below.drew ?_) | (with_reducible refine below_drewN ?_ _) | ((with_reducible refine Below.alloc ?_ ?_ _); rotate_left; focus (go_size; done)) | ((with_reducible refine Below.setCell ?_ ?_ _); rotate_left; focus (go_size; done)) | ((with_reducible refine Below.trans ?_ (Below.mono (by with_reducible assumption) ?_)); rotate_left; focus (go_size; done))))⟩
    · rw [Nat.pow_zero, Nat.div_one]
      exact HV.out.below (by (repeat' (first | (with_reducible exact Below.refl _ _) | (with_reducible assumption) | (with_reducible refine Below.drew ?_) | (with_reducible refine below_drewN ?_ _) | ((with_reducible refine Below.alloc ?_ ?_ _); rotate_left; focus (go_size; done)) | ((with_reducible refine Below.setCell ?_ ?_ _); rotate_left; focus (go_size; done)) | ((with_reducible refine Below.trans ?_ (Below.mono (by with_reducible assumption) ?_)); rotate_left; focus (go_size; done)))))
    · rw [Nat.pow_zero, Nat.mod_one]
      show Bk _ _ _ [.int .u64 0, .int .u64 0, .int .u64 0, .int .u64 0]
      (repeat (first | (with_reducible assumption) | ((with_reducible refine Bk.new_ ?_); (first | rfl | (simp only [World.size_alloc, World.size_setCell, World.size_drew, World.heap_drewN]; done))) | (with_reducible refine Bk.alloc ?_ _) | (with_reducible refine Bk.drew ?_) | (with_reducible refine Bk.drewN ?_ _) | ((with_reducible refine Bk.far ?_ ?_ _); rotate_left; focus (simp only []; omega)) | ((with_reducible refine Bk.below ?_ (by with_reducible assumption) ?_); rotate_left; focus (go_size; done))))
  case round =>
    obtain ⟨n, hk, rfl, hdg, b1, b0, hsz, hbel⟩ := hrel
    have HK := Lib.hid hk
    have HD := Lib.hid hdg
    have H1 := Lib.hid b1
    have hn : n ≤ 256 := by omega
    have hlt0 : Small (N / 2 ^ n) := HN.out.of_le (Nat.div_le_self _ _)
    have HT := Lib.hid hlt0
    clear hk hdg b1 hlt0
    (try have : w.heap.size < wr.heap.size := by omega); (try have : w.heap.size + 1 < wr.heap.size := by omega); (try have : w.heap.size + 1 + 1 < wr.heap.size := by omega); (try have : w.heap.size + 1 + 1 + 1 < wr.heap.size := by omega)
    by_cases hlt : n < 256
    · go_wp2_with fail
      refine (half_any _ _ _ HD.out HT.out).mono ?_
      rintro _ w1 ⟨v1, rfl, hdg1, hb1⟩
      have hb1s := hb1.size
      have HD1 := Lib.hid hdg1
      obtain ⟨t, ht⟩ : ∃ t, t = N / 2 ^ n % 2 := ⟨_, rfl⟩
      rw [← ht]
      have ht2 : t < 2 := by omega
      have GT := Lib.hid ht
      have hq : n / 64 < 4 := by omega
      have hc1 : w1.cell? ⟨w.heap.size + 1, n / 64, none⟩ = some (.int .u64 (wd (N % 2 ^ n) (n / 64))) := by
        refine (hb1.cell (p := ⟨w.heap.size + 1, n / 64, none⟩) (by show w.heap.size + 1 < _; omega)).trans (H1.out.cell _ ?_)
        unfold lcells
        rw [List.getElem?_map, List.getElem?_range hq]; rfl
      have hf1 : w1.frozen? ⟨w.heap.size + 1, n / 64, none⟩ = false := (hb1.frozen (p := ⟨w.heap.size + 1, n / 64, none⟩) (by show w.heap.size + 1 < _; omega)).trans (H1.out.frozen _)
      clear hdg1 ht
      go_wp2_with fail
      go_region
      go_wp2_with fail
      go_roundg (gk - 1)
      case measure => have := HK.out; omega
      case rel =>
        refine ⟨n + 1, by have := HK.out; omega, by go_num, ?_, ?_, by (repeat (first | (with_reducible assumption) | ((with_reducible refine Bk.new_ ?_); (first | rfl | (simp only [World.size_alloc, World.size_setCell, World.size_drew, World.heap_drewN]; done))) | (with_reducible refine Bk.alloc ?_ _) | (with_reducible refine Bk.drew ?_) | (with_reducible refine Bk.drewN ?_ _) | ((with_reducible refine Bk.far ?_ ?_ _); rotate_left; focus (simp only []; omega)) | ((with_reducible refine Bk.below ?_ (by with_reducible assumption) ?_); rotate_left; focus (go_size; done)))), by go_size, by (repeat' (first | (with_reducible exact Below.refl _ _) | (with_reducible assumption) | (with_reducible refine Below.drew ?_) | (with_reducible refine below_drewN ?_ _) | ((with_reducible refine Below.alloc ?_ ?_ _); rotate_left; focus (go_size; done)) | ((with_reducible refine Below.setCell ?_ ?_ _); rotate_left; focus (go_size; done)) | ((with_reducible refine Below.trans ?_ (Below.mono (by with_reducible assumption) ?_)); rotate_left; focus (go_size; done))))⟩
        · have := HD1.out
          rw [Nat.div_div_eq_div_mul, ← Nat.pow_succ] at this
          exact (this.far (H1.out.below hb1 (by go_size)) (by decide) _ _).drew
        · rw [← lcells_step N n _ (word_here N n t GT.out)]
          refine (Bk.set_ ?_ _ _).drew
          exact H1.out.below hb1 (by go_size)
    · obtain rfl : n = 256 := by omega
      have c0 : wr.cell? ⟨w.heap.size + 1, 0, none⟩ = some (.int .u64 (wd (N % 2 ^ 256) 0)) := H1.out.cell 0 rfl
      have c1 : wr.cell? ⟨w.heap.size + 1, 1, none⟩ = some (.int .u64 (wd (N % 2 ^ 256) 1)) := H1.out.cell 1 rfl
      have c2 : wr.cell? ⟨w.heap.size + 1, 2, none⟩ = some (.int .u64 (wd (N % 2 ^ 256) 2)) := H1.out.cell 2 rfl
      have c3 : wr.cell? ⟨w.heap.size + 1, 3, none⟩ = some (.int .u64 (wd (N % 2 ^ 256) 3)) := H1.out.cell 3 rfl
      have d0 := b0.cell 0 rfl
      have d1 := b0.cell 1 rfl
      have d2 := b0.cell 2 rfl
      have d3 := b0.cell 3 rfl
      have e0 := b0.frozen 0
      have e1 := b0.frozen 1
      have e2 := b0.frozen 2
      have e3 := b0.frozen 3
      obtain ⟨ys, ⟨A2, c2', rfl, hc2, hs2⟩, hd2⟩ := HD.out
      have hz := hd2.zero_iff
      have hb : ((ys.length : Int) == 0) = decide (N < 2 ^ 256) := by
        rw [Bool.eq_iff_iff]
        simp only [beq_iff_eq, decide_eq_true_eq]
        constructor
        · intro h
          have h0 := hz.1 (by omega)
          exact Nat.lt_of_div_eq_zero (Nat.two_pow_pos _) h0
        · intro h
          have := hz.2 (Nat.div_eq_of_lt h)
          omega
      have HB : Hid (((ys.length : Int) == 0) = fitsL N) := Lib.hid hb
      clear hb hz hd2 hs2
      obtain ⟨M, hM⟩ : ∃ M, M = N % 2 ^ 256 := ⟨_, rfl⟩
      rw [← hM] at c0 c1 c2 c3
      have HM := Lib.hid hM
      clear hM H1
      go_wp2_with fail
      refine bodyPost_ret (by simp [results, Try.results101, go_sem, *]; try rfl) rfl ?_
      unfold RetLong
      rw [HB.out, HM.out]
      exact ⟨rfl, by (repeat' (first | (with_reducible exact Below.refl _ _) | (with_reducible assumption) | (with_reducible refine Below.drew ?_) | (with_reducible refine below_drewN ?_ _) | ((with_reducible refine Below.alloc ?_ ?_ _); rotate_left; focus (go_size; done)) | ((with_reducible refine Below.setCell ?_ ?_ _); rotate_left; focus (go_size; done)) | ((with_reducible refine Below.trans ?_ (Below.mono (by with_reducible assumption) ?_)); rotate_left; focus (go_size; done))))⟩

def RetWide (N : Nat) (w : World) (e : Ending) (w' : World) : Prop := e = .returned (.tuple #[.agg #[.int .u64 (wd (N % 2 ^ 256) 1), .int .u64 (wd (N % 2 ^ 256) 0)], .bool (decide (N < 2 ^ 128))]) ∧ Below w.heap.size w w'
theorem wide_flag (N : Nat) : (fitsL N && ((wd (N % 2 ^ 256) 2 == 0) && (wd (N % 2 ^ 256) 3 == 0))) = decide (N < 2 ^ 128) := by
  unfold fitsL
  rw [Bool.eq_iff_iff]
  simp only [Bool.and_eq_true, beq_iff_eq, decide_eq_true_eq]
  have h := wd_low4 (n := N % 2 ^ 256) (Nat.mod_lt _ (by decide))
  constructor
  · rintro ⟨h1, h2⟩
    have := h.1 h2
    rwa [Nat.mod_eq_of_lt h1] at this
  · intro h1
    have h2 : N < 2 ^ 256 := Nat.lt_trans h1 (by decide)
    refine ⟨h2, h.2 ?_⟩
    rwa [Nat.mod_eq_of_lt h2]
set_option maxHeartbeats 2000000 in
set_option maxRecDepth 100000 in
theorem to_any (N : Nat) (v : Value) (w : World) (hv : Dg w v N) (hN : Small N) :
    Calls Try.prog 90 #[v] w (RetWide N w) := by
  have HV := Lib.hid hv
  have HN := Lib.hid hN
  have HF := Lib.hid (wide_flag N)
  clear hv hN
  go_enter Try.func90, Try.ntmps90
  go_wp2_with fail
  refine (tolong_any N v _ (HV.out.below (by (repeat' (first | (with_reducible exact Below.refl _ _) | (with_reducible assumption) | (with_reducible refine Below.drew ?_) | (with_reducible refine below_drewN ?_ _) | ((with_reducible refine Below.alloc ?_ ?_ _); rotate_left; focus (go_size; done)) | ((with_reducible refine Below.setCell ?_ ?_ _); rotate_left; focus (go_size; done)) | ((with_reducible refine Below.trans ?_ (Below.mono (by with_reducible assumption) ?_)); rotate_left; focus (go_size; done)))))) HN.out).mono ?_
  rintro _ w1 ⟨rfl, hb⟩
  have hbs := hb.size
  simp only [World.size_alloc] at hbs
  obtain ⟨hbc, hbf⟩ := bcell hb
  obtain ⟨M, hM⟩ : ∃ M, M = N % 2 ^ 256 := ⟨_, rfl⟩
  rw [← hM] at HF ⊢
  have HM := Lib.hid hM
  clear hM
  (try have : w.heap.size < w1.heap.size := by omega); (try have : w.heap.size + 1 < w1.heap.size := by omega); (try have : w.heap.size + 1 + 1 < w1.heap.size := by omega); (try have : w.heap.size + 1 + 1 + 1 < w1.heap.size := by omega)
  generalize fitsL N = fl at *
  cases fl
  · go_wp2_with fail
    go_region
    all_goals
      go_wp2_with fail
      refine bodyPost_ret (by simp [results, Try.results90, go_sem, *]; try rfl) rfl ?_
      exact ⟨by rw [← HF.out, HM.out]; rfl, by (repeat' (first | (with_reducible exact Below.refl _ _) | (with_reducible assumption) | (with_reducible refine Below.drew ?_) | (with_reducible refine below_drewN ?_ _) | ((with_reducible refine Below.alloc ?_ ?_ _); rotate_left; focus (go_size; done)) | ((with_reducible refine Below.setCell ?_ ?_ _); rotate_left; focus (go_size; done)) | ((with_reducible refine Below.trans ?_ (Below.mono (by with_reducible assumption) ?_)); rotate_left; focus (go_size; done))))⟩
  · cases h2 : (wd M 2 == 0)
    · rw [h2] at HF
      go_wp2_with fail
      go_region
      all_goals
        go_wp2_with fail
        refine bodyPost_ret (by simp [results, Try.results90, go_sem, *]; try rfl) rfl ?_
        exact ⟨by rw [← HF.out, HM.out]; rfl, by (repeat' (first | (with_reducible exact Below.refl _ _) | (with_reducible assumption) | (with_reducible refine Below.drew ?_) | (with_reducible refine below_drewN ?_ _) | ((with_reducible refine Below.alloc ?_ ?_ _); rotate_left; focus (go_size; done)) | ((with_reducible refine Below.setCell ?_ ?_ _); rotate_left; focus (go_size; done)) | ((with_reducible refine Below.trans ?_ (Below.mono (by with_reducible assumption) ?_)); rotate_left; focus (go_size; done))))⟩
    · cases h3 : (wd M 3 == 0)
      all_goals
        rw [h2, h3] at HF
        go_wp2_with fail
        go_region
        all_goals
          go_wp2_with fail
          refine bodyPost_ret (by simp [results, Try.results90, go_sem, *]; try rfl) rfl ?_
          exact ⟨by rw [← HF.out, HM.out]; rfl, by (repeat' (first | (with_reducible exact Below.refl _ _) | (with_reducible assumption) | (with_reducible refine Below.drew ?_) | (with_reducible refine below_drewN ?_ _) | ((with_reducible refine Below.alloc ?_ ?_ _); rotate_left; focus (go_size; done)) | ((with_reducible refine Below.setCell ?_ ?_ _); rotate_left; focus (go_size; done)) | ((with_reducible refine Below.trans ?_ (Below.mono (by with_reducible assumption) ?_)); rotate_left; focus (go_size; done))))⟩
end Go.Proofs.Ythkgjodidkpaeaa

set_option linter.unusedSimpArgs false
set_option linter.unusedVariables false
namespace Go.Proofs.Ythkgjodidkpaeaa
open Go.RowKit

theorem mod_fit {N : Nat} (h : N < 2 ^ 128) : N % 2 ^ 256 = N := Nat.mod_eq_of_lt (Nat.lt_trans h (by decide))
theorem cmp_top {xs ys : List Int} (hx : Digs xs) (hy : Digs ys) (k : Nat) (h1 : k < xs.length) (h2 : k < ys.length) (he : xs.length = ys.length) (heq : xs.drop (k + 1) = ys.drop (k + 1)) (hlt : xs.getD k 0 < ys.getD k 0) : dval xs < dval ys := by
  have a := dval_append (xs.take k) (xs.drop k)
  have b := dval_append (ys.take k) (ys.drop k)
  rw [List.take_append_drop, List.length_take, Nat.min_eq_left (by omega), dval_drop xs k h1] at a
  rw [List.take_append_drop, List.length_take, Nat.min_eq_left (by omega), dval_drop ys k h2, ← heq] at b
  have ba := dval_bd (hx.take k)
  have bb := dval_bd (hy.take k)
  rw [List.length_take, Nat.min_eq_left (by omega)] at ba bb
  have hp := ten_pos k
  generalize dval (xs.drop (k + 1)) = T at *
  have hm : (10 : Int) ^ k * (xs.getD k 0 + 10 * T) + 10 ^ k ≤ 10 ^ k * (ys.getD k 0 + 10 * T) := by
    have : (10 : Int) ^ k * (xs.getD k 0 + 10 * T + 1) ≤ 10 ^ k * (ys.getD k 0 + 10 * T) := Int.mul_le_mul_of_nonneg_left (by omega) (by omega)
    rw [Int.mul_add, Int.mul_one] at this
    exact this
  omega
theorem cmp_long {xs ys : List Int} {n m : Nat} (hx : IsDg xs n) (hy : IsDg ys m) (h : xs.length < ys.length) : n < m := by
  have h1 := hx.lt_of_len (k := ys.length - 1) (by omega)
  have h2 := hy.le_of_ne (by intro e; subst e; simp at h)
  omega
set_option maxHeartbeats 1000000 in
theorem rcmp_any (n m : Nat) (u v : Value) (w : World) (hu : Dg w u n) (hv : Dg w v m) (hn : Small n) (hm : Small m) :
    Calls Try.prog 92 #[u, v] w fun e w' => e = .returned (.int .i64 (cmpN n m)) ∧ ∃ nn, w' = w.drewN nn := by
  obtain ⟨xs, ⟨A, c, rfl, hc, hs⟩, hd⟩ := hu
  obtain ⟨ys, ⟨B, d, rfl, hc2, hs2⟩, hd2⟩ := hv
  have hlx := pow_big hn hd
  have hly := pow_big hm hd2
  have HX := Lib.hid hd
  have HY := Lib.hid hd2
  have HS := Lib.hid hs
  have HT := Lib.hid hs2
  clear hd hd2 hs hs2 hn hm
  by_cases h1 : xs.length < ys.length
  · have e : cmpN n m = -1 := by have := cmp_long HX.out HY.out h1; unfold cmpN; rw [if_neg (by omega), if_pos this]
    rw [e]
    have g1 : ((xs.length : Int) == (ys.length : Int)) = false := by simp; omega
    clear e
    go_enter Try.func92, Try.ntmps92
    go_wp2_with fail
    go_ret
    exact ⟨rfl, 0, rfl⟩
  by_cases h2 : ys.length < xs.length
  · have e : cmpN n m = 1 := by have := cmp_long HY.out HX.out h2; unfold cmpN; rw [if_neg (by omega), if_neg (by omega)]
    rw [e]
    have g1 : ((xs.length : Int) == (ys.length : Int)) = false := by simp; omega
    clear e
    go_enter Try.func92, Try.ntmps92
    go_wp2_with fail
    go_ret
    exact ⟨rfl, 0, rfl⟩
  have hle : xs.length = ys.length := by omega
  have g1 : ((xs.length : Int) == (ys.length : Int)) = true := by simp; omega
  have HL := Lib.hid hle
  have hl1 : xs.length ≤ ys.length := by omega
  have hl2 : ys.length ≤ xs.length := by omega
  clear hle h1 h2
  go_enter Try.func92, Try.ntmps92
  go_wp2_with fail
  go_loopg [5] xs.length (fun k i wr => k ≤ xs.length ∧ i = .int .i64 ((k : Int) - 1) ∧ xs.drop k = ys.drop k ∧ ∃ nn, wr = w.drewN nn)
  case atStart =>
    exact ⟨Nat.le_refl _, rfl, by rw [List.drop_of_length_le (Nat.le_refl _), List.drop_of_length_le (by omega)], 0, rfl⟩
  case round =>
    obtain ⟨hk, rfl, heq, nn, rfl⟩ := hrel
    have HE := Lib.hid heq
    clear heq
    by_cases h0 : gk = 0
    · subst h0
      have hm : ¬ (0 : Int) ≤ ((0 : Nat) : Int) - 1 := by omega
      go_wp2_with fail
      go_ret
      refine ⟨?_, nn, rfl⟩
      have e := HE.out
      rw [List.drop_zero, List.drop_zero] at e
      have h1 := HX.out.2.2
      have h2 := HY.out.2.2
      rw [e] at h1
      have : n = m := by omega
      unfold cmpN
      rw [if_pos this]; rfl
    · obtain ⟨k, rfl⟩ : ∃ k, gk = k + 1 := ⟨gk - 1, by omega⟩
      obtain ⟨g, o, rfl, hg, hcell⟩ := HS.out.at_ (k := k) (by omega)
      obtain ⟨g2, o2, rfl, hg2, hcell2⟩ := HT.out.at_ (k := k) (by omega)
      obtain ⟨a, ha⟩ : ∃ a, a = xs.getD k 0 := ⟨_, rfl⟩
      obtain ⟨b, hb⟩ : ∃ b, b = ys.getD k 0 := ⟨_, rfl⟩
      rw [← ha] at hcell
      rw [← hb] at hcell2
      have HA := Lib.hid ha
      have HB := Lib.hid hb
      have hp : (0 : Int) < ((k + 1 : Nat) : Int) := by omega
      have hx : ((k + 1 : Nat) : Int) - 1 = (k : Int) := by omega
      have k0 : (0 : Int) ≤ (k : Int) := by omega
      have k1 : (k : Int) < (xs.length : Int) := by omega
      have k2 : (k : Int) < (ys.length : Int) := by omega
      clear h0 ha hb
      go_wp2_with fail
      go_quiet (fail)
      go_wp2_with fail
      · have hlt : a < b := by assumption
        go_ret
        refine ⟨?_, by (try simp only [World.drewN_drewN]); exact ⟨_, rfl⟩⟩
        have := cmp_top HX.out.1 HY.out.1 k (by omega) (by omega) HL.out HE.out (by rw [← HA.out, ← HB.out]; exact hlt)
        rw [HX.out.2.2, HY.out.2.2] at this
        unfold cmpN
        rw [if_neg (by omega), if_pos (by omega)]; rfl
      · go_quiet (fail)
        go_wp2_with fail
        · have hlt : b < a := by assumption
          go_ret
          refine ⟨?_, by (try simp only [World.drewN_drewN]); exact ⟨_, rfl⟩⟩
          have := cmp_top HY.out.1 HX.out.1 k (by omega) (by omega) HL.out.symm HE.out.symm (by rw [← HA.out, ← HB.out]; exact hlt)
          rw [HX.out.2.2, HY.out.2.2] at this
          unfold cmpN
          rw [if_neg (by omega), if_neg (by omega)]; rfl
        · go_roundg k
          case measure => omega
          case rel =>
            refine ⟨by omega, rfl, ?_, by (try simp only [World.drewN_drewN]); exact ⟨_, rfl⟩⟩
            have hab : a = b := by omega
            rw [List.drop_eq_getElem_cons (by omega), List.drop_eq_getElem_cons (l := ys) (by omega), HE.out, ← getD_lt _ _ (by omega), ← getD_lt _ _ (by omega), ← HA.out, ← HB.out, hab]
end Go.Proofs.Ythkgjodidkpaeaa

set_option linter.unusedSimpArgs false
set_option linter.unusedVariables false
namespace Go.Proofs.Ythkgjodidkpaeaa
open Go.RowKit

theorem zrow_own (w : World) (n : Nat) (hn : n ≤ 1000000) : (w.alloc (.cells (zrow n).toArray 3)).ownsRow w.heap.size 3 1 (.slice (some ⟨w.heap.size, 0, none⟩) n n) (List.replicate n (0 : Int)).length ((List.replicate n (0 : Int)).map (Value.int .i64)) := by
  refine ⟨by simp, .inr ⟨w.heap.size, n, (zrow n).toArray, by simp, Nat.le_refl _, heap_alloc_new w _, by simp, by unfold maxLen; omega, by simp [zrow], by simp [zrow]⟩⟩
theorem IsDg.shift {l : List Int} {n : Nat} (h : IsDg l n) (hne : l ≠ []) (k : Nat) : IsDg (List.replicate k 0 ++ l) (n * 10 ^ k) := by
  refine ⟨(Digs.zeros k).append h.1, ?_, ?_⟩
  · have ht := h.2.1
    obtain ⟨i, x, rfl⟩ : ∃ i x, l = i ++ [x] := ⟨l.dropLast, l.getLast hne, (List.dropLast_concat_getLast hne).symm⟩
    unfold Top at *
    rw [← List.append_assoc]
    simpa using ht
  · rw [dval_append, dval_replicate, List.length_replicate, h.2.2, Int.zero_add, Int.natCast_mul, Int.natCast_pow, Int.mul_comm]; rfl
set_option maxHeartbeats 1000000 in
theorem shift_any (N k : Nat) (hk : k ≤ 1000) (v : Value) (w : World) (hv : Dg w v N) (hN : Small N) :
    Calls Try.prog 91 #[v, .int .i64 k] w (RetDg (N * 10 ^ k) w) := by
  obtain ⟨xs, ⟨A, c, rfl, hc, hs⟩, hd⟩ := hv
  have hlen := pow_big hN hd
  by_cases hx : xs = []
  · subst hx
    have hz : N = 0 := hd.zero_iff.1 rfl
    subst hz
    go_enter Try.func91, Try.ntmps91
    go_wp2_with fail
    go_ret
    exact ⟨_, rfl, ⟨[], ⟨none, 0, rfl, Nat.le_refl _, fun h => absurd rfl h⟩, by rw [Nat.zero_mul]; exact IsDg.nil⟩, by (repeat' (first | (with_reducible exact Below.refl _ _) | (with_reducible assumption) | (with_reducible refine Below.drew ?_) | (with_reducible refine below_drewN ?_ _) | ((with_reducible refine Below.alloc ?_ ?_ _); rotate_left; focus (go_size; done)) | ((with_reducible refine Below.setCell ?_ ?_ _); rotate_left; focus (go_size; done)) | ((with_reducible refine Below.trans ?_ (Below.mono (by with_reducible assumption) ?_)); rotate_left; focus (go_size; done))))⟩
  · have hpos : 0 < xs.length := List.length_pos_iff.2 hx
    have g1 : ((xs.length : Int) == 0) = false := by simp; exact hx
    have HD := Lib.hid (hd.shift hx k)
    have HS := Lib.hid hs
    have hmk := fun W => make_ints k (by omega) W
    have k0 : (0 : Int) ≤ (k : Int) := by omega
    clear hd hs hN hx
    go_enter Try.func91, Try.ntmps91
    go_wp2_with (at_builtin; refine wpList_join rfl (.tmp 9) (.tmp 10) rfl w.heap.size (.slice (some ⟨w.heap.size, 0, none⟩) k k) (List.replicate k 0) rfl (zrow_own w k (by omega)) A c xs rfl ?hs ?hl ?hb ?_; rotate_left 3; intro v1 w1 hown1 hg1)
    case hs => exact HS.out.below (by (repeat' (first | (with_reducible exact Below.refl _ _) | (with_reducible assumption) | (with_reducible refine Below.drew ?_) | (with_reducible refine below_drewN ?_ _) | ((with_reducible refine Below.alloc ?_ ?_ _); rotate_left; focus (go_size; done)) | ((with_reducible refine Below.setCell ?_ ?_ _); rotate_left; focus (go_size; done)) | ((with_reducible refine Below.trans ?_ (Below.mono (by with_reducible assumption) ?_)); rotate_left; focus (go_size; done)))))
    case hl => rw [List.length_replicate]; omega
    case hb => go_size
    go_ret
    exact ⟨v1, rfl, ⟨_, IsSl.of_own hown1, HD.out⟩, below_push ((Below.refl _ _).alloc (Nat.le_refl _) _) (zrow_own w k (by omega)) hg1 (by go_size)⟩

theorem dval_take_any (l : List Int) (n : Nat) : dval (l.take (n + 1)) = dval (l.take n) + 10 ^ n * l.getD n 0 := by
  by_cases h : n < l.length
  · exact dval_take_succ l n h
  · rw [List.take_of_length_le (by omega), List.take_of_length_le (by omega), List.getD_eq_getElem?_getD, List.getElem?_eq_none (by omega)]
    simp
theorem getD_past (l : List Int) (n : Nat) (h : l.length ≤ n) : l.getD n 0 = 0 := by
  rw [List.getD_eq_getElem?_getD, List.getElem?_eq_none h]; rfl
theorem plus_step (ds : List Int) (cc s : Int) (n : Nat) (xs ys : List Int) (hv : dval ds + 10 ^ n * cc = dval (xs.take n) + dval (ys.take n)) (hs : s = cc + xs.getD n 0 + ys.getD n 0) (hl : ds.length = n) :
    dval (ds ++ [s % 10]) + 10 ^ (n + 1) * (s / 10) = dval (xs.take (n + 1)) + dval (ys.take (n + 1)) := by
  rw [dval_snoc, hl, dval_take_any, dval_take_any, Int.pow_succ]
  have e1 := carry_step (10 ^ n) s
  have e2 : (10 : Int) ^ n * s = 10 ^ n * cc + 10 ^ n * xs.getD n 0 + 10 ^ n * ys.getD n 0 := by rw [hs, Int.mul_add, Int.mul_add]
  omega
set_option maxHeartbeats 2000000 in
theorem plus_any (N M : Nat) (u v : Value) (w : World) (hu : Dg w u N) (hv : Dg w v M) (hN : Small N) (hM : Small M) :
    Calls Try.prog 71 #[u, v] w (RetDg (N + M) w) := by
  obtain ⟨xs, ⟨A, c, rfl, hc, hs⟩, hd⟩ := hu
  obtain ⟨ys, ⟨B, d, rfl, hc2, hs2⟩, hd2⟩ := hv
  have hlx := pow_big hN hd
  have hly := pow_big hM hd2
  have HX := Lib.hid hd
  have HY := Lib.hid hd2
  have HS := Lib.hid hs
  have HT := Lib.hid hs2
  obtain ⟨m, hm1, hm2, hm3⟩ : ∃ m, xs.length ≤ m ∧ ys.length ≤ m ∧ m ≤ 1000 := ⟨max xs.length ys.length, Nat.le_max_left _ _, Nat.le_max_right _ _, Nat.max_le.2 ⟨hlx, hly⟩⟩
  obtain ⟨m', hm4⟩ : ∃ m', m' = max xs.length ys.length := ⟨_, rfl⟩
  clear hd hd2 hs hs2 hN hM m hm1 hm2 hm3
  have hm1 : xs.length ≤ m' := by rw [hm4]; exact Nat.le_max_left _ _
  have hm2 : ys.length ≤ m' := by rw [hm4]; exact Nat.le_max_right _ _
  have hm3 : m' ≤ 1000 := by rw [hm4]; exact Nat.max_le.2 ⟨hlx, hly⟩
  clear hm4
  go_enter Try.func71, Try.ntmps71
  go_wp2_with fail
  go_loopg [5, 6, 7] (m' + 1) (fun k out cv i wr => ∃ (n : Nat) (cc : Int) (ds : List Int), k + n = m' + 1 ∧ i = .int .i64 n ∧ cv = .int .i64 cc ∧ 0 ≤ cc ∧ cc ≤ 1 ∧ (n ≤ m' ∨ cc = 0) ∧
    wr.ownsRow w.heap.size 3 1 out ds.length (ds.map (Value.int .i64)) ∧ ds.length = n ∧ Digs ds ∧ dval ds + 10 ^ n * cc = dval (xs.take n) + dval (ys.take n) ∧ Below w.heap.size w wr)
  case atStart =>
    exact ⟨0, 0, [], by omega, rfl, rfl, by decide, by decide, .inl (by omega), World.ownsRow_nil _ _ _ _, rfl, Digs.nil, by simp [dval], Below.refl _ _⟩
  case round =>
    obtain ⟨n, cc, ds, hk, rfl, rfl, hc0, hc1, hnm, hown, hdl, hdd, hval, hbel⟩ := hrel
    have HK := Lib.hid hk
    have HL := Lib.hid hdl
    have HDD := Lib.hid hdd
    have HV := Lib.hid hval
    have HNM := Lib.hid hnm
    have hn : n ≤ m' + 1 := by omega
    have hwr := hbel.size
    clear hk hdl hdd hval hnm
    obtain ⟨p, hp⟩ : ∃ p, p = xs.getD n 0 := ⟨_, rfl⟩
    obtain ⟨q, hq⟩ : ∃ q, q = ys.getD n 0 := ⟨_, rfl⟩
    have hpb := HX.out.get n
    have hqb := HY.out.get n
    rw [← hp] at hpb
    rw [← hq] at hqb
    obtain ⟨p0, p9⟩ := hpb
    obtain ⟨q0, q9⟩ := hqb
    have HA := Lib.hid hp
    have HB := Lib.hid hq
    by_cases h1 : n < xs.length
    · obtain ⟨g, o, rfl, hg, hcell⟩ := HS.out.at_ h1
      have hcella := (hbel.cell (p := ⟨g, o + n, none⟩) hg).trans hcell
      rw [← hp] at hcella
      by_cases h2 : n < ys.length
      · obtain ⟨g2, o2, rfl, hg2, hcell2⟩ := HT.out.at_ h2
        have hcellb := (hbel.cell (p := ⟨g2, o2 + n, none⟩) hg2).trans hcell2
        rw [← hq] at hcellb
        clear hp hq hcell hcell2
        go_wp2_with (at_builtin; refine wpList_push rfl (.tmp 46) (.tmp 49) rfl w.heap.size u5 ds rfl (hown.alloc _) wr.heap.size ((cc + p + q) % 10) rfl ?hc ?hl ?hb ?_; rotate_left 3; intro v1 w1 hown1 hg1)
        case hc => simp [go_sem]
        case hl => have := HL.out; omega
        case hb => go_size
        go_roundg (gk - 1)
        case measure => have := HK.out; omega
        case rel =>
          refine ⟨n + 1, (cc + p + q) / 10, ds ++ [(cc + p + q) % 10], by have := HK.out; omega, by go_num, rfl, by omega, by omega, .inl (by omega), hown1, by rw [List.length_append, HL.out]; rfl, HDD.out.snoc (by omega) (by omega), ?_, below_push (hbel.alloc (by go_size) _) (hown.alloc _) hg1 (by go_size)⟩
          exact plus_step ds cc ((cc + p + q)) n xs ys HV.out (by have h1 := HA.out; have h2 := HB.out; omega) HL.out
      · have HQ : Hid (q = 0) := Lib.hid (by rw [hq]; exact getD_past ys n (by omega))
        clear hp hq hcell
        go_wp2_with (at_builtin; refine wpList_push rfl (.tmp 46) (.tmp 49) rfl w.heap.size u5 ds rfl (hown.alloc _) wr.heap.size ((cc + p) % 10) rfl ?hc ?hl ?hb ?_; rotate_left 3; intro v1 w1 hown1 hg1)
        case hc => simp [go_sem]
        case hl => have := HL.out; omega
        case hb => go_size
        go_roundg (gk - 1)
        case measure => have := HK.out; omega
        case rel =>
          refine ⟨n + 1, (cc + p) / 10, ds ++ [(cc + p) % 10], by have := HK.out; omega, by go_num, rfl, by omega, by omega, .inl (by omega), hown1, by rw [List.length_append, HL.out]; rfl, HDD.out.snoc (by omega) (by omega), ?_, below_push (hbel.alloc (by go_size) _) (hown.alloc _) hg1 (by go_size)⟩
          exact plus_step ds cc ((cc + p)) n xs ys HV.out (by have h1 := HA.out; have h2 := HB.out; have h3 := HQ.out; omega) HL.out
    · have HP : Hid (p = 0) := Lib.hid (by rw [hp]; exact getD_past xs n (by omega))
      by_cases h2 : n < ys.length
      · obtain ⟨g2, o2, rfl, hg2, hcell2⟩ := HT.out.at_ h2
        have hcellb := (hbel.cell (p := ⟨g2, o2 + n, none⟩) hg2).trans hcell2
        rw [← hq] at hcellb
        clear hp hq hcell2
        go_wp2_with (at_builtin; refine wpList_push rfl (.tmp 46) (.tmp 49) rfl w.heap.size u5 ds rfl (hown.alloc _) wr.heap.size ((cc + q) % 10) rfl ?hc ?hl ?hb ?_; rotate_left 3; intro v1 w1 hown1 hg1)
        case hc => simp [go_sem]
        case hl => have := HL.out; omega
        case hb => go_size
        go_roundg (gk - 1)
        case measure => have := HK.out; omega
        case rel =>
          refine ⟨n + 1, (cc + q) / 10, ds ++ [(cc + q) % 10], by have := HK.out; omega, by go_num, rfl, by omega, by omega, .inl (by omega), hown1, by rw [List.length_append, HL.out]; rfl, HDD.out.snoc (by omega) (by omega), ?_, below_push (hbel.alloc (by go_size) _) (hown.alloc _) hg1 (by go_size)⟩
          exact plus_step ds cc ((cc + q)) n xs ys HV.out (by have h1 := HA.out; have h2 := HB.out; have h3 := HP.out; omega) HL.out
      · have HQ : Hid (q = 0) := Lib.hid (by rw [hq]; exact getD_past ys n (by omega))
        clear hp hq
        have hcc : cc = 0 ∨ cc = 1 := by omega
        rcases hcc with rfl | rfl
        · go_wp2_with fail
          refine (cut_any ds _ _ (IsSl.of_own hown) HDD.out (by have := HL.out; omega)).mono ?_
          rintro _ w2 ⟨v2, rfl, hdg, hb2⟩
          have HD := Lib.hid hdg
          clear hdg
          go_wp2_with fail
          go_ret
          refine ⟨v2, rfl, ?_, by (repeat' (first | (with_reducible exact Below.refl _ _) | (with_reducible assumption) | (with_reducible refine Below.drew ?_) | (with_reducible refine below_drewN ?_ _) | ((with_reducible refine Below.alloc ?_ ?_ _); rotate_left; focus (go_size; done)) | ((with_reducible refine Below.setCell ?_ ?_ _); rotate_left; focus (go_size; done)) | ((with_reducible refine Below.trans ?_ (Below.mono (by with_reducible assumption) ?_)); rotate_left; focus (go_size; done))))⟩
          have e := HV.out
          rw [List.take_of_length_le (by omega), List.take_of_length_le (by omega), HX.out.2.2, HY.out.2.2] at e
          have e2 : (dval ds).toNat = N + M := by omega
          rw [← e2]
          exact HD.out
        · have hnm : n = m' ∨ n < m' := by have := HNM.out; omega
          go_wp2_with (at_builtin; refine wpList_push rfl (.tmp 46) (.tmp 49) rfl w.heap.size u5 ds rfl (hown.alloc _) wr.heap.size 1 rfl ?hc ?hl ?hb ?_; rotate_left 3; intro v1 w1 hown1 hg1)
          case hc => simp [go_sem]
          case hl => have := HL.out; omega
          case hb => go_size
          go_roundg (gk - 1)
          case measure => have := HK.out; omega
          case rel =>
            refine ⟨n + 1, 0, ds ++ [1], by have := HK.out; omega, by go_num, rfl, by decide, by decide, .inr rfl, hown1, by rw [List.length_append, HL.out]; rfl, HDD.out.snoc (by decide) (by decide), ?_, below_push (hbel.alloc (by go_size) _) (hown.alloc _) hg1 (by go_size)⟩
            exact plus_step ds 1 1 n xs ys HV.out (by have h1 := HA.out; have h2 := HB.out; have h3 := HQ.out; have h4 := HP.out; omega) HL.out
end Go.Proofs.Ythkgjodidkpaeaa

set_option linter.unusedSimpArgs false
set_option linter.unusedVariables false
namespace Go.Proofs.Ythkgjodidkpaeaa
open Go.RowKit

theorem own_bk {w : World} {base : Nat} {v : Value} {xs : List Int} (h : w.ownsRow base 3 1 v xs.length (xs.map (Value.int .i64))) (hne : xs ≠ []) :
    ∃ g cap rest, v = .slice (some ⟨g, 0, none⟩) xs.length cap ∧ base ≤ g ∧ Bk w g 3 (xs.map (Value.int .i64) ++ rest) ∧ xs.length ≤ cap := by
  rcases h.2 with ⟨_, hn⟩ | ⟨g, cap, cur, rfl, hg, hh, r1, r2, r3, r4⟩
  · exact absurd (List.length_eq_zero_iff.1 hn) hne
  · refine ⟨g, cap, cur.toList.drop xs.length, rfl, hg, ?_, r1⟩
    unfold Bk
    rw [Nat.mul_one] at r4
    rw [← r4, List.take_append_drop]
    simpa using hh
theorem bk_at {w : World} {g : Nat} {zs : List Int} {rest : List Value} (h : Bk w g 3 (zs.map (Value.int .i64) ++ rest)) {k : Nat} (hk : k < zs.length) : w.cell? ⟨g, k, none⟩ = some (.int .i64 (zs.getD k 0)) := by
  refine h.cell _ ?_
  rw [List.getElem?_append_left (by simpa using hk), List.getElem?_map, List.getElem?_eq_getElem hk, getD_lt _ _ hk]; rfl
theorem bk_set {w : World} {g : Nat} {zs : List Int} {rest : List Value} (h : Bk w g 3 (zs.map (Value.int .i64) ++ rest)) {k : Nat} (hk : k < zs.length) (x : Int) : Bk (w.setCell ⟨g, k, none⟩ (.int .i64 x)) g 3 ((zs.set k x).map (Value.int .i64) ++ rest) := by
  have := h.set_ k (.int .i64 x)
  rwa [List.set_append_left _ _ (by simpa using hk), ← List.map_set] at this
theorem IsSl.of_bk2 {w : World} {g : Nat} {ds : List Int} {rest : List Value} {n c : Nat} (h : Bk w g 3 (ds.map (Value.int .i64) ++ rest)) (hn : ds.length = n) (hc : n ≤ c) : IsSl w (.slice (some ⟨g, 0, none⟩) n c) ds := by
  subst hn
  refine ⟨_, c, rfl, hc, fun hne => ⟨g, 0, _, rfl, h, fun j hj => ?_⟩⟩
  rw [Nat.zero_add, List.getElem?_append_left (by simpa using hj), List.getElem?_map, List.getElem?_eq_getElem hj, getD_lt _ _ hj]; rfl
theorem getD_set (l : List Int) (k j : Nat) (x : Int) (hk : k < l.length) : (l.set k x).getD j 0 = if j = k then x else l.getD j 0 := by
  rw [List.getD_eq_getElem?_getD, List.getElem?_set]
  by_cases h : j = k
  · subst h; rw [if_pos rfl, if_pos rfl, if_pos hk]; rfl
  · rw [if_neg (fun e => h e.symm), if_neg h, List.getD_eq_getElem?_getD]
theorem dval_set (l : List Int) (k : Nat) (x : Int) (hk : k < l.length) : dval (l.set k x) = dval l + 10 ^ k * (x - l.getD k 0) := by
  have a := dval_append (l.take k) (l.drop k)
  rw [List.take_append_drop, List.length_take, Nat.min_eq_left (by omega), dval_drop l k hk] at a
  have b := dval_append ((l.set k x).take k) ((l.set k x).drop k)
  rw [List.take_append_drop, List.length_take, List.length_set, Nat.min_eq_left (by omega), drop_set _ _ _ hk, List.take_set_of_le (by omega)] at b
  rw [a, b]
  show _ + 10 ^ k * (x + 10 * dval (l.drop (k + 1))) = _
  rw [Int.mul_add, Int.mul_add, Int.mul_sub]
  omega
theorem len_mono {xs ys : List Int} {n m : Nat} (hx : IsDg xs n) (hy : IsDg ys m) (h : m ≤ n) : ys.length ≤ xs.length := by
  rcases Nat.lt_or_ge xs.length ys.length with hlt | hge
  · have := cmp_long hx hy hlt; omega
  · exact hge
/-- behind the second loop all are digits: the value is not below nought -/
theorem digs_end (zs : List Int) (L : Nat) (hL : zs.length = L + 1) (h0 : ∀ j, j < L → 0 ≤ zs.getD j 0) (h9 : ∀ j, zs.getD j 0 ≤ 9) (hv : 0 ≤ dval zs) : Digs zs := by
  have hd : Digs (zs.take L) := by
    intro d hd
    obtain ⟨i, hi, rfl⟩ := List.getElem_of_mem hd
    rw [List.length_take] at hi
    rw [List.getElem_take, ← getD_lt _ _ (by omega)]
    exact ⟨h0 i (by omega), h9 i⟩
  have e := dval_take_succ zs L (by omega)
  rw [List.take_of_length_le (by omega)] at e
  have hb := dval_bd hd
  rw [List.length_take, Nat.min_eq_left (by omega)] at hb
  have htop : 0 ≤ zs.getD L 0 := by
    rcases Int.lt_or_le (zs.getD L 0) 0 with hlt | hge
    · have hm : (10 : Int) ^ L * zs.getD L 0 ≤ 10 ^ L * (-1) := Int.mul_le_mul_of_nonneg_left (by omega) (Int.le_of_lt (ten_pos L))
      omega
    · exact hge
  intro d hd'
  obtain ⟨i, hi, rfl⟩ := List.getElem_of_mem hd'
  rw [← getD_lt _ _ hi]
  by_cases hi2 : i < L
  · exact ⟨h0 i hi2, h9 i⟩
  · have : i = L := by omega
    subst this
    exact ⟨htop, h9 i⟩
end Go.Proofs.Ythkgjodidkpaeaa

set_option linter.unusedSimpArgs false
set_option linter.unusedVariables false
namespace Go.Proofs.Ythkgjodidkpaeaa
open Go.RowKit

theorem empty_own (w : World) : (w.alloc (.cells #[] 3)).ownsRow w.heap.size 3 1 (.slice (some ⟨w.heap.size, 0, none⟩) 0 0) ([] : List Int).length (([] : List Int).map (Value.int .i64)) :=
  World.ownsRow_made w #[] 0 (Nat.le_refl _) (by unfold maxLen; omega) (by simp)
/-- the digits of n, in memory of its own -/
def RetNew (n : Nat) (w : World) (e : Ending) (w' : World) : Prop := ∃ v, e = .returned v ∧ New w.heap.size v ∧ Dg w' v n ∧ Below w.heap.size w w'
set_option maxHeartbeats 4000000 in
theorem rless_new (N M : Nat) (hle : M ≤ N) (u v : Value) (w : World) (hu : Dg w u N) (hv : Dg w v M) (hN : Small N) (hM : Small M) :
    Calls Try.prog 83 #[u, v] w (RetNew (N - M) w) := by
  obtain ⟨xs, ⟨A, c, rfl, hc, hs⟩, hd⟩ := hu
  obtain ⟨ys, ⟨B, d, rfl, hc2, hs2⟩, hd2⟩ := hv
  have hlx := pow_big hN hd
  have hly := len_mono hd hd2 hle
  have HX := Lib.hid hd
  have HY := Lib.hid hd2
  have HS := Lib.hid hs
  have HT := Lib.hid hs2
  have HLE := Lib.hid hle
  clear hd hd2 hs hs2 hN hM hle
  go_enter Try.func83, Try.ntmps83
  go_wp2_with (at_builtin; refine wpList_join rfl (.tmp 8) (.tmp 9) rfl w.heap.size (.slice (some ⟨w.heap.size, 0, none⟩) 0 0) [] rfl (empty_own w) A c xs rfl ?hs ?hl ?hb ?_; rotate_left 3; intro v1 w1 hown1 hg1)
  case hs => exact HS.out.below (by (repeat' (first | (with_reducible exact Below.refl _ _) | (with_reducible assumption) | (with_reducible refine Below.drew ?_) | (with_reducible refine below_drewN ?_ _) | ((with_reducible refine Below.alloc ?_ ?_ _); rotate_left; focus (go_size; done)) | ((with_reducible refine Below.setCell ?_ ?_ _); rotate_left; focus (go_size; done)) | ((with_reducible refine Below.trans ?_ (Below.mono (by with_reducible assumption) ?_)); rotate_left; focus (go_size; done)))))
  case hl => simp; omega
  case hb => go_size
  have hbel1 : Below w.heap.size w w1 := below_push ((Below.refl _ _).alloc (Nat.le_refl _) _) (empty_own w) hg1 (by go_size)
  clear hg1
  rw [List.nil_append] at hown1
  by_cases hx : xs = []
  · subst hx
    have hy : ys = [] := List.length_eq_zero_iff.1 (by simpa using hly)
    subst hy
    have h1 := HX.out.zero_iff.1 rfl
    have hnew := New.own hown1
    have hsl := IsSl.of_own hown1
    obtain ⟨A1, c1, rfl, hc1, hs1⟩ := hsl
    have HNW := Lib.hid hnew
    clear hnew
    have HS1 := Lib.hid hs1
    refine wp_loop_rounds 1 ?_
    rw [rounds_succ]
    go_wp2_with fail
    refine wp_loop_rounds 1 ?_
    rw [rounds_succ]
    go_wp2_with fail
    refine (cut_at [] A1 c1 _ hc1 HS1.out Digs.nil (by simp)).mono ?_
    rintro _ w2 ⟨k2, c2, rfl, hdg, hb2⟩
    have HD := Lib.hid hdg
    have hbs := hbel1.size
    clear hdg
    go_wp2_with fail
    go_ret
    refine ⟨_, rfl, HNW.out.same _ _, ?_, by (repeat' (first | (with_reducible exact Below.refl _ _) | (with_reducible assumption) | (with_reducible refine Below.drew ?_) | (with_reducible refine below_drewN ?_ _) | ((with_reducible refine Below.alloc ?_ ?_ _); rotate_left; focus (go_size; done)) | ((with_reducible refine Below.setCell ?_ ?_ _); rotate_left; focus (go_size; done)) | ((with_reducible refine Below.trans ?_ (Below.mono (by with_reducible assumption) ?_)); rotate_left; focus (go_size; done))))⟩
    have e : N - M = (dval []).toNat := by rw [h1, Nat.zero_sub]; rfl
    rw [e]
    exact HD.out
  · obtain ⟨g, cap, rest, rfl, hg, hbk, hcap⟩ := own_bk hown1 hx
    have HB := Lib.hid hbk
    have hglt := hbk.lt
    have hpos : 0 < xs.length := List.length_pos_iff.2 hx
    clear hown1 hbk hx
    go_loopg [6] ys.length (fun k i wr => ∃ (n : Nat) (zs : List Int), k + n = ys.length ∧ i = .int .i64 n ∧ zs.length = xs.length ∧ Bk wr g 3 (zs.map (Value.int .i64) ++ rest) ∧
      (∀ j, -9 ≤ zs.getD j 0 ∧ zs.getD j 0 ≤ 9) ∧ zs.drop n = xs.drop n ∧ dval zs = dval xs - dval (ys.take n) ∧ w1.heap.size ≤ wr.heap.size ∧ Below w.heap.size w wr)
    case atStart =>
      refine ⟨0, xs, by omega, rfl, rfl, HB.out, fun j => ?_, rfl, by simp [dval], Nat.le_refl _, hbel1⟩
      have := HX.out.get j
      omega
    case round =>
      obtain ⟨n, zs, hk, rfl, hzl, hbk, hbd, hdr, hval, hsz, hbel⟩ := hrel
      have HK := Lib.hid hk
      have HZ := Lib.hid hzl
      have HB2 := Lib.hid hbk
      have HBD := Lib.hid hbd
      have HDR := Lib.hid hdr
      have HV := Lib.hid hval
      have hn : n ≤ ys.length := by omega
      clear hk hzl hbk hbd hdr hval
      by_cases hlt : n < ys.length
      · obtain ⟨g2, o2, rfl, hg2, hcell⟩ := HT.out.at_ hlt
        have hcell2 := (hbel.cell (p := ⟨g2, o2 + n, none⟩) hg2).trans hcell
        have hnz : n < zs.length := by have := HZ.out; omega
        have hcz := bk_at HB2.out hnz
        have hfz := HB2.out.frozen n
        have hzx : zs.getD n 0 = xs.getD n 0 := by
          have e := HDR.out
          rw [List.drop_eq_getElem_cons hnz, List.drop_eq_getElem_cons (l := xs) (by omega)] at e
          injection e with e _
          rw [getD_lt _ _ hnz, getD_lt _ _ (by omega), e]
        obtain ⟨p, hp⟩ : ∃ p, p = zs.getD n 0 := ⟨_, rfl⟩
        obtain ⟨q, hq⟩ : ∃ q, q = ys.getD n 0 := ⟨_, rfl⟩
        have hpb := HX.out.get n
        have hqb := HY.out.get n
        rw [← hzx, ← hp] at hpb
        rw [← hq] at hqb
        rw [← hp] at hcz
        rw [← hq] at hcell2
        obtain ⟨p0, p9⟩ := hpb
        obtain ⟨q0, q9⟩ := hqb
        have HP := Lib.hid hp
        have HQ := Lib.hid hq
        have n0 : (0 : Int) ≤ (n : Int) := by omega
        have n1 : (n : Int) < (xs.length : Int) := by omega
        have n2 : (n : Int) < (ys.length : Int) := by omega
        clear hp hq hcell hzx hnz
        go_wp2_with fail
        go_region
        go_wp2_with fail
        go_roundg (gk - 1)
        case measure => have := HK.out; omega
        case rel =>
          have hnz : n < zs.length := by have := HZ.out; omega
          refine ⟨n + 1, zs.set n (p - q), by have := HK.out; omega, by go_num, by rw [List.length_set]; exact HZ.out, (bk_set HB2.out hnz _).drew, ?_, ?_, ?_, by go_size, by (repeat' (first | (with_reducible exact Below.refl _ _) | (with_reducible assumption) | (with_reducible refine Below.drew ?_) | (with_reducible refine below_drewN ?_ _) | ((with_reducible refine Below.alloc ?_ ?_ _); rotate_left; focus (go_size; done)) | ((with_reducible refine Below.setCell ?_ ?_ _); rotate_left; focus (go_size; done)) | ((with_reducible refine Below.trans ?_ (Below.mono (by with_reducible assumption) ?_)); rotate_left; focus (go_size; done))))⟩
          · intro j
            rw [getD_set _ _ _ _ hnz]
            split
            · omega
            · exact HBD.out j
          · rw [List.drop_set_of_lt (by omega)]
            have e := HDR.out
            rw [List.drop_eq_getElem_cons hnz, List.drop_eq_getElem_cons (l := xs) (by have := HZ.out; omega)] at e
            injection e
          · rw [dval_set _ _ _ hnz, dval_take_any, ← HP.out, ← HQ.out, HV.out]
            have e : (10 : Int) ^ n * (p - q - p) = - (10 ^ n * q) := by rw [show p - q - p = -q by omega, Int.mul_neg]
            omega
      · obtain rfl : n = ys.length := by omega
        go_wp2_with fail
        obtain ⟨wo, hwo⟩ : ∃ wo : World, wo = wr := ⟨_, rfl⟩
        go_loopg [7] (xs.length - 1) (fun k i wr => ∃ (n : Nat) (zs : List Int), k + n = xs.length - 1 ∧ i = .int .i64 n ∧ zs.length = xs.length ∧ Bk wr g 3 (zs.map (Value.int .i64) ++ rest) ∧
          (∀ j, zs.getD j 0 ≤ 9) ∧ (∀ j, j < n → 0 ≤ zs.getD j 0) ∧ -10 ≤ zs.getD n 0 ∧ (∀ j, n < j → -9 ≤ zs.getD j 0) ∧ dval zs = (N : Int) - M ∧ w1.heap.size ≤ wr.heap.size ∧ Below w.heap.size w wr)
        case atStart =>
          refine ⟨0, zs, by omega, rfl, HZ.out, HB2.out, fun j => (HBD.out j).2, fun j hj => absurd hj (by omega), by have := HBD.out 0; omega, fun j _ => (HBD.out j).1, ?_, hsz, hbel⟩
          have := HV.out
          rw [List.take_length, HX.out.2.2, HY.out.2.2] at this
          exact this
        case round =>
          obtain ⟨n, zs, hk, rfl, hzl, hbk, h9, h0, hm10, hm9, hval, hsz, hbel⟩ := hrel
          have HK := Lib.hid hk
          have HZ := Lib.hid hzl
          have HB2 := Lib.hid hbk
          have H9 := Lib.hid h9
          have H0 := Lib.hid h0
          have HM9 := Lib.hid hm9
          have HV := Lib.hid hval
          have hn : n ≤ xs.length - 1 := by omega
          clear hk hzl hbk h9 h0 hm9 hval
          by_cases hlt : n + 1 < xs.length
          · have hnz : n < zs.length := by have := HZ.out; omega
            have hnz2 : n + 1 < zs.length := by have := HZ.out; omega
            have hcz := bk_at HB2.out hnz
            have hcz2 := bk_at HB2.out hnz2
            have hfz := HB2.out.frozen n
            have hfz2 := HB2.out.frozen (n + 1)
            obtain ⟨p, hp⟩ : ∃ p, p = zs.getD n 0 := ⟨_, rfl⟩
            obtain ⟨q, hq⟩ : ∃ q, q = zs.getD (n + 1) 0 := ⟨_, rfl⟩
            have p9 := H9.out n
            have q9 := H9.out (n + 1)
            have qm := HM9.out (n + 1) (by omega)
            rw [← hp] at hcz p9 hm10
            rw [← hq] at hcz2 q9 qm
            have HP := Lib.hid hp
            have HQ := Lib.hid hq
            have n0 : (0 : Int) ≤ (n : Int) := by omega
            have n1 : (n : Int) < (xs.length : Int) := by omega
            have n2 : (n : Int) + 1 < (xs.length : Int) := by omega
            clear hp hq hnz hnz2
            by_cases hneg : p < 0
            · go_wp2_with fail
              go_roundg (gk - 1)
              case measure => have := HK.out; omega
              case rel =>
                have hnz : n < zs.length := by have := HZ.out; omega
                have hnz2 : n + 1 < zs.length := by have := HZ.out; omega
                have hnz3 : n + 1 < (zs.set n (p + 10)).length := by rw [List.length_set]; exact hnz2
                refine ⟨n + 1, (zs.set n (p + 10)).set (n + 1) (q - 1), by have := HK.out; omega, by go_num, by rw [List.length_set, List.length_set]; exact HZ.out, bk_set (bk_set HB2.out hnz _) hnz3 _, ?_, ?_, ?_, ?_, ?_, by go_size, by (repeat' (first | (with_reducible exact Below.refl _ _) | (with_reducible assumption) | (with_reducible refine Below.drew ?_) | (with_reducible refine below_drewN ?_ _) | ((with_reducible refine Below.alloc ?_ ?_ _); rotate_left; focus (go_size; done)) | ((with_reducible refine Below.setCell ?_ ?_ _); rotate_left; focus (go_size; done)) | ((with_reducible refine Below.trans ?_ (Below.mono (by with_reducible assumption) ?_)); rotate_left; focus (go_size; done))))⟩
                · intro j
                  rw [getD_set _ _ _ _ hnz3, getD_set _ _ _ _ hnz]
                  split
                  · omega
                  · split
                    · omega
                    · exact H9.out j
                · intro j hj
                  rw [getD_set _ _ _ _ hnz3, getD_set _ _ _ _ hnz, if_neg (by omega)]
                  split
                  · omega
                  · exact H0.out j (by omega)
                · rw [getD_set _ _ _ _ hnz3, if_pos rfl]; omega
                · intro j hj
                  rw [getD_set _ _ _ _ hnz3, getD_set _ _ _ _ hnz, if_neg (by omega), if_neg (by omega)]
                  exact HM9.out j (by omega)
                · rw [dval_set _ _ _ hnz3, dval_set _ _ _ hnz, getD_set _ _ _ _ hnz, if_neg (by omega), ← HP.out, ← HQ.out, HV.out, Int.pow_succ]
                  have e1 : (10 : Int) ^ n * (p + 10 - p) = 10 ^ n * 10 := by rw [show p + 10 - p = 10 by omega]
                  have e2 : (10 : Int) ^ n * 10 * (q - 1 - q) = - (10 ^ n * 10) := by rw [show q - 1 - q = -1 by omega, Int.mul_neg, Int.mul_one]
                  omega
            · go_wp2_with fail
              go_roundg (gk - 1)
              case measure => have := HK.out; omega
              case rel =>
                refine ⟨n + 1, zs, by have := HK.out; omega, by go_num, HZ.out, HB2.out, H9.out, ?_, by rw [← HQ.out]; omega, fun j hj => HM9.out j (by omega), HV.out, hsz, hbel⟩
                intro j hj
                by_cases hj2 : j = n
                · rw [hj2, ← HP.out]; omega
                · exact H0.out j (by omega)
          · have hn2 : n = xs.length - 1 := by omega
            have hle := HLE.out
            have hdig : Digs zs := digs_end zs n (by have := HZ.out; omega) H0.out H9.out (by rw [HV.out]; omega)
            have hnn : ¬ (n : Int) + 1 < (xs.length : Int) := by omega
            have HD := Lib.hid hdig
            clear hdig hn2 hle
            go_wp2_with fail
            refine (cut_is zs (some ⟨g, 0, none⟩) _ _ _ (IsSl.of_bk2 HB2.out HZ.out hcap) HD.out (by have := HZ.out; omega)).mono ?_
            rintro _ w2 ⟨k2, c2, rfl, hdg, hb2⟩
            have HDG := Lib.hid hdg
            clear hdg
            go_wp2_with fail
            go_ret
            refine ⟨_, rfl, New.at_ hg _ _ _ _, ?_, by (repeat' (first | (with_reducible exact Below.refl _ _) | (with_reducible assumption) | (with_reducible refine Below.drew ?_) | (with_reducible refine below_drewN ?_ _) | ((with_reducible refine Below.alloc ?_ ?_ _); rotate_left; focus (go_size; done)) | ((with_reducible refine Below.setCell ?_ ?_ _); rotate_left; focus (go_size; done)) | ((with_reducible refine Below.trans ?_ (Below.mono (by with_reducible assumption) ?_)); rotate_left; focus (go_size; done))))⟩
            have e : N - M = (dval zs).toNat := by rw [HV.out]; omega
            rw [e]
            exact HDG.out
theorem rless_any (N M : Nat) (hle : M ≤ N) (u v : Value) (w : World) (hu : Dg w u N) (hv : Dg w v M) (hN : Small N) (hM : Small M) :
    Calls Try.prog 83 #[u, v] w (RetDg (N - M) w) :=
  (rless_new N M hle u v w hu hv hN hM).mono fun e w' ⟨v, he, _, hdg, hb⟩ => ⟨v, he, hdg, hb⟩
end Go.Proofs.Ythkgjodidkpaeaa

set_option linter.unusedSimpArgs false
set_option linter.unusedVariables false
namespace Go.Proofs.Ythkgjodidkpaeaa
open Go.RowKit

/-- the digits n of xs lie above place k: what they are -/
theorem quo_head {xs : List Int} {N : Nat} (h : IsDg xs N) (k : Nat) (hk : k < xs.length) : N / 10 ^ k = 10 * (N / 10 ^ (k + 1)) + (xs.getD k 0).toNat := by
  have hd := dval_digit h.1 k hk
  have hg := h.get k
  rw [h.2.2] at hd
  have e : ((N / 10 ^ k % 10 : Nat) : Int) = xs.getD k 0 := by
    rw [hd, Int.natCast_emod, Int.natCast_ediv, Int.natCast_pow]; rfl
  have e2 : (xs.getD k 0).toNat = N / 10 ^ k % 10 := by rw [← e]; rfl
  rw [e2, Nat.pow_succ, ← Nat.div_div_eq_div_mul]
  omega
theorem quo_top {xs : List Int} {N : Nat} (h : IsDg xs N) : N / 10 ^ xs.length = 0 := Nat.div_eq_of_lt (h.lt_of_len (Nat.le_refl _))
/-- one digit more of the quotient -/
theorem quo_step (P M d t r : Nat) (hM : 0 < M) (hr : r < M) (h : 10 * (P % M) + d = t * M + r) : (10 * P + d) / M = 10 * (P / M) + t ∧ (10 * P + d) % M = r := by
  have e : 10 * P + d = r + M * (10 * (P / M) + t) := by
    have h1 := Nat.div_add_mod P M
    rw [Nat.mul_add, Nat.mul_comm M t, Nat.mul_left_comm]
    omega
  rw [e, Nat.add_mul_div_left _ _ hM, Nat.div_eq_of_lt hr, Nat.zero_add, Nat.add_mul_mod_self_left, Nat.mod_eq_of_lt hr]
  exact ⟨rfl, rfl⟩
theorem cons_dg {l : List Int} {n : Nat} (h : IsDg l n) (d : Int) (h0 : 0 ≤ d) (h9 : d ≤ 9) : Digs (d :: l) ∧ dval (d :: l) = ((10 * n + d.toNat : Nat) : Int) := by
  refine ⟨fun x hx => ?_, ?_⟩
  · rcases List.mem_cons.1 hx with rfl | hx
    · exact ⟨h0, h9⟩
    · exact h.1 x hx
  · simp only [dval, h.2.2]; omega
theorem below_trans_drewN {w w' : World} {n : Nat} (h : Below (w.drewN n).heap.size (w.drewN n) w') : Below w.heap.size w w' := (below_drewN (Below.refl _ w) n).trans h
theorem one_own (w : World) (d : Int) (hb : Bk w w.heap.size 3 [.int .i64 d]) : True := trivial
def RetTwo (n m : Nat) (w : World) (e : Ending) (w' : World) : Prop := ∃ u v, e = .returned (.tuple #[u, v]) ∧ Dg w' u n ∧ Dg w' v m ∧ Below w.heap.size w w'
theorem own_of_bk1 {w : World} {g B : Nat} {d : Int} (hg : B ≤ g) (h : Bk w g 3 [.int .i64 d]) : w.ownsRow B 3 1 (.slice (some ⟨g, 0, none⟩) 1 1) ([d] : List Int).length (([d] : List Int).map (Value.int .i64)) := by
  refine ⟨by simp, .inr ⟨g, 1, #[.int .i64 d], by simp, hg, h, by simp, by unfold maxLen; omega, by simp, by simp⟩⟩
set_option maxHeartbeats 4000000 in
theorem quo_any (N M : Nat) (hM : 0 < M) (u v : Value) (w : World) (hu : Dg w u N) (hv : Dg w v M) (hN : Small N) (hMs : Small M) :
    Calls Try.prog 82 #[u, v] w (RetTwo (N / M) (N % M) w) := by
  obtain ⟨xs, ⟨A, c, rfl, hc, hs⟩, hd⟩ := hu
  have hlen := pow_big hN hd
  have HD := Lib.hid hd
  have HS := Lib.hid hs
  have HV := Lib.hid hv
  have HN := Lib.hid hN
  have HM := Lib.hid hMs
  have HP := Lib.hid hM
  have hmk := fun W => make_ints xs.length (by omega) W
  clear hd hs hN hv hMs hM
  go_enter Try.func82, Try.ntmps82
  go_wp2_with fail
  clear hmk
  go_loopg [7, 8] xs.length (fun k l i wr => ∃ (ds : List Int), k ≤ xs.length ∧ i = .int .i64 ((k : Int) - 1) ∧ Dg wr l (N / 10 ^ k % M) ∧ New (w.heap.size + 1) l ∧
    Bk wr w.heap.size 3 (ds.map (Value.int .i64)) ∧ ds.length = xs.length ∧ Digs ds ∧ (∀ j, j < k → ds.getD j 0 = 0) ∧ dval (ds.drop k) = ((N / 10 ^ k / M : Nat) : Int) ∧ w.heap.size < wr.heap.size ∧ Below w.heap.size w wr)
  case atStart =>
    refine ⟨List.replicate xs.length 0, Nat.le_refl _, rfl, ⟨[], ⟨none, 0, rfl, Nat.le_refl _, fun h => absurd rfl h⟩, ?_⟩, New.nil _ _ _, Bk.new_ rfl, by simp, Digs.zeros _, ?_, ?_, by go_size, by (repeat' (first | (with_reducible exact Below.refl _ _) | (with_reducible assumption) | (with_reducible refine Below.drew ?_) | (with_reducible refine below_drewN ?_ _) | ((with_reducible refine Below.alloc ?_ ?_ _); rotate_left; focus (go_size; done)) | ((with_reducible refine Below.setCell ?_ ?_ _); rotate_left; focus (go_size; done)) | ((with_reducible refine Below.trans ?_ (Below.mono (by with_reducible assumption) ?_)); rotate_left; focus (go_size; done))))⟩
    · rw [quo_top HD.out, Nat.zero_mod]; exact IsDg.nil
    · intro j hj
      rw [getD_lt _ _ (by simpa using hj)]; simp
    · rw [List.drop_of_length_le (by simp), quo_top HD.out, Nat.zero_div]; rfl
  case round =>
    obtain ⟨ds, hk, rfl, hl, hnew, hbk, hdl, hdd, hz, hval, hsz, hbel⟩ := hrel
    have HB := Lib.hid hbk
    have HL := Lib.hid hdl
    have HDD := Lib.hid hdd
    have HZ := Lib.hid hz
    have HVL := Lib.hid hval
    have HDL := Lib.hid hl
    have HNW := Lib.hid hnew
    clear hbk hdl hdd hz hval hl hnew
    by_cases h0 : gk = 0
    · subst h0
      have hm : ¬ (0 : Int) ≤ ((0 : Nat) : Int) - 1 := by omega
      go_wp2_with fail
      refine (cut_any ds _ _ (IsSl.of_bk HB.out HL.out (Nat.le_refl _)) HDD.out (by rw [HL.out]; omega)).mono ?_
      rintro _ w2 ⟨v2, rfl, hdg, hb2⟩
      have HDG := Lib.hid hdg
      clear hdg
      go_wp2_with fail
      go_ret2
      have hv := HVL.out
      rw [List.drop_zero, Nat.pow_zero, Nat.div_one] at hv
      have e1 : (dval ds).toNat = N / M := by rw [hv]; exact Int.toNat_natCast _
      have hdg := HDG.out
      have hl := HDL.out
      rw [e1] at hdg
      rw [Nat.pow_zero, Nat.div_one] at hl
      exact ⟨v2, _, rfl, hdg, hl.below (by (repeat' (first | (with_reducible exact Below.refl _ _) | (with_reducible assumption) | (with_reducible refine Below.drew ?_) | (with_reducible refine below_drewN ?_ _) | ((with_reducible refine Below.alloc ?_ ?_ _); rotate_left; focus (go_size; done)) | ((with_reducible refine Below.setCell ?_ ?_ _); rotate_left; focus (go_size; done)) | ((with_reducible refine Below.trans ?_ (Below.mono (by with_reducible assumption) ?_)); rotate_left; focus (go_size; done))))), by (repeat' (first | (with_reducible exact Below.refl _ _) | (with_reducible assumption) | (with_reducible refine Below.drew ?_) | (with_reducible refine below_drewN ?_ _) | ((with_reducible refine Below.alloc ?_ ?_ _); rotate_left; focus (go_size; done)) | ((with_reducible refine Below.setCell ?_ ?_ _); rotate_left; focus (go_size; done)) | ((with_reducible refine Below.trans ?_ (Below.mono (by with_reducible assumption) ?_)); rotate_left; focus (go_size; done))))⟩
    · obtain ⟨m, rfl⟩ : ∃ m, gk = m + 1 := ⟨gk - 1, by omega⟩
      obtain ⟨g, o, rfl, hg, hcell⟩ := HS.out.at_ (k := m) (by omega)
      have hcell2 := (hbel.cell (p := ⟨g, o + m, none⟩) hg).trans hcell
      obtain ⟨d0, d9⟩ := HD.out.get m
      have hqh := quo_head HD.out m (by omega)
      obtain ⟨d, hd⟩ : ∃ d, d = xs.getD m 0 := ⟨_, rfl⟩
      rw [← hd] at hcell2 d0 d9 hqh
      obtain ⟨P, hP⟩ : ∃ P, P = N / 10 ^ (m + 1) := ⟨_, rfl⟩
      rw [← hP] at hqh HDL HVL
      obtain ⟨ls, ⟨A2, c2, rfl, hc2, hs2⟩, hld⟩ := HDL.out
      have hll := pow_big (HN.out.of_le (Nat.le_trans (Nat.mod_le _ _) (by rw [hP]; exact Nat.div_le_self _ _))) hld
      have HS2 := Lib.hid hs2
      have HLD := Lib.hid hld
      have HQH := Lib.hid hqh
      have HPP := Lib.hid hP
      have hp : (0 : Int) < ((m + 1 : Nat) : Int) := by omega
      have hx : ((m + 1 : Nat) : Int) - 1 = (m : Int) := by omega
      have m0 : (0 : Int) ≤ (m : Int) := by omega
      have m1 : (m : Int) < (xs.length : Int) := by omega
      clear h0 hd hcell hqh hP hs2 hld
      go_wp2_with (at_builtin; refine wpList_join rfl (.tmp 23) (.tmp 24) rfl wr.heap.size (.slice (some ⟨wr.heap.size, 0, none⟩) 1 1) [d] rfl (own_of_bk1 (Nat.le_refl _) (Bk.new_ rfl)) A2 c2 ls rfl ?hs ?hl ?hb ?_; rotate_left 3; intro v1 w1 hown1 hg1)
      case hs => exact HS2.out.below (by (repeat' (first | (with_reducible exact Below.refl _ _) | (with_reducible assumption) | (with_reducible refine Below.drew ?_) | (with_reducible refine below_drewN ?_ _) | ((with_reducible refine Below.alloc ?_ ?_ _); rotate_left; focus (go_size; done)) | ((with_reducible refine Below.setCell ?_ ?_ _); rotate_left; focus (go_size; done)) | ((with_reducible refine Below.trans ?_ (Below.mono (by with_reducible assumption) ?_)); rotate_left; focus (go_size; done)))))
      case hl => simp only [List.length_cons, List.length_nil]; omega
      case hb => go_size
      have hbel1 : Below wr.heap.size wr w1 := below_push ((Below.refl _ _).alloc (Nat.le_refl _) _) (own_of_bk1 (Nat.le_refl _) (Bk.new_ rfl)) hg1 (by go_size)
      have hnw1 := New.own hown1
      have hb1s := hbel1.size
      obtain ⟨hcd, hcv⟩ := cons_dg HLD.out d d0 d9
      have hsl := IsSl.of_own hown1
      obtain ⟨A1, c1, rfl, hc1, hs1⟩ := hsl
      have HNW1 := Lib.hid hnw1
      have HS1 := Lib.hid hs1
      have HCD := Lib.hid hcd
      have HCV := Lib.hid hcv
      clear hnw1 hs1 hcd hcv hown1 hg1
      go_wp2_with fail
      refine (cut_at ([d] ++ ls) A1 c1 _ hc1 HS1.out HCD.out (by simp only [List.length_append, List.length_cons, List.length_nil]; omega)).mono ?_
      rintro _ w2 ⟨k2, c2', rfl, hdg2, hb2⟩
      have hb2s := hb2.size
      obtain ⟨X, hX⟩ : ∃ X, X = 10 * (P % M) + d.toNat := ⟨_, rfl⟩
      have hdg2' : Dg w2 (.slice A1 k2 c2') X := by
        have e : (dval ([d] ++ ls)).toNat = X := by
          rw [show [d] ++ ls = d :: ls from rfl, HCV.out, hX]; omega
        rw [← e]; exact hdg2
      have hXM : X / M ≤ 9 := by
        have h1 := Nat.mod_lt P HP.out
        have h2 : X < M * 10 := by omega
        have := Nat.div_lt_of_lt_mul h2
        omega
      have HDG2 := Lib.hid hdg2'
      have HX := Lib.hid hX
      have hw2 : w.heap.size < w2.heap.size := by omega
      have hbel2 : Below w.heap.size w w2 := by (repeat' (first | (with_reducible exact Below.refl _ _) | (with_reducible assumption) | (with_reducible refine Below.drew ?_) | (with_reducible refine below_drewN ?_ _) | ((with_reducible refine Below.alloc ?_ ?_ _); rotate_left; focus (go_size; done)) | ((with_reducible refine Below.setCell ?_ ?_ _); rotate_left; focus (go_size; done)) | ((with_reducible refine Below.trans ?_ (Below.mono (by with_reducible assumption) ?_)); rotate_left; focus (go_size; done))))
      have hbk2 : Bk w2 w.heap.size 3 (ds.map (Value.int .i64)) := by
        have : Bk w1 w.heap.size 3 (ds.map (Value.int .i64)) := HB.out.below hbel1 hsz
        exact this.below hb2 (by omega)
      have HBK2 := Lib.hid hbk2
      clear hdg2 hdg2' hX hbk2
      have hnew2 : New (w.heap.size + 1) (.slice A1 k2 c2') := (HNW1.out.same _ _).mono (by omega)
      have HN2 := Lib.hid hnew2
      clear hnew2
      go_wp2_with fail
      obtain ⟨wo, hwo⟩ : ∃ wo : World, wo = wr := ⟨_, rfl⟩
      clear hwo
      go_loopg [7] (X / M) (fun k l wr => ∃ (t : Nat), k + t = X / M ∧ Dg wr l (X - t * M) ∧ New (w.heap.size + 1) l ∧ Bk wr w.heap.size 3 ((ds.set m (t : Int)).map (Value.int .i64)) ∧ w.heap.size < wr.heap.size ∧ Below w.heap.size w wr)
      case atStart =>
        refine ⟨0, by omega, by rw [Nat.zero_mul]; exact HDG2.out, HN2.out, ?_, hw2, hbel2⟩
        have e : ds.set m ((0 : Nat) : Int) = ds := by
          have hz := HZ.out m (by omega)
          have hl := HL.out
          apply List.ext_getElem
          · simp
          · intro j h1 h2
            rw [List.getElem_set]
            split
            · next e => subst e; rw [← getD_lt _ _ h2, hz]; rfl
            · rfl
        rw [e]; exact HBK2.out
      case round =>
        obtain ⟨t, hk2, hdl, hnl, hbki, hwi, hbeli⟩ := hrel
        have HK2 := Lib.hid hk2
        have HDL2 := Lib.hid hdl
        have HNL := Lib.hid hnl
        have HBKI := Lib.hid hbki
        have ht9 : t ≤ 9 := by omega
        have HSX : Hid (Small (X - t * M)) := Lib.hid (by
          intro _
          have h1 := HN.out trivial
          have h2 : X ≤ N := by
            rw [HX.out]
            have h3 := HQH.out
            have h4 : 10 * (P % M) ≤ 10 * P := Nat.mul_le_mul_left _ (Nat.mod_le _ _)
            have h5 : N / 10 ^ m ≤ N := Nat.div_le_self _ _
            omega
          exact Nat.lt_of_le_of_lt (Nat.le_trans (Nat.sub_le _ _) h2) h1)
        have hdsl : m < ds.length := by rw [HL.out]; omega
        have hci : wr.cell? ⟨w.heap.size, m, none⟩ = some (.int .i64 (t : Int)) := by
          refine HBKI.out.cell _ ?_
          rw [List.getElem?_map, List.getElem?_set_self hdsl]; rfl
        have HCI := Lib.hid hci
        have HDSL := Lib.hid hdsl
        clear hk2 hdl hnl hbki hci hdsl
        go_wp2_with fail
        refine (rcmp_any (X - t * M) M _ _ _ HDL2.out (HV.out.below hbeli) HSX.out HM.out).mono ?_
        rintro _ w3 ⟨rfl, nn, rfl⟩
        by_cases hge : M ≤ X - t * M
        · have hcc : (0 : Int) ≤ cmpN (X - t * M) M := by unfold cmpN; split; omega; split; omega; omega
          generalize cmpN (X - t * M) M = cc at *
          have HGE := Lib.hid hge
          clear hge
          go_wp2_with fail
          refine (rless_new (X - t * M) M HGE.out _ _ _ (HDL2.out.drewN nn) ((HV.out.below hbeli).drewN nn) HSX.out HM.out).mono ?_
          rintro _ w4 ⟨v4, rfl, hnw4, hdg4, hb4⟩
          have hb4s : wr.heap.size ≤ w4.heap.size := hb4.size
          have hb4' : Below wr.heap.size wr w4 := below_trans_drewN hb4
          have HNW4 := Lib.hid hnw4
          have HDG4 := Lib.hid hdg4
          have hc4 : w4.cell? ⟨w.heap.size, m, none⟩ = some (.int .i64 (t : Int)) := (hb4'.cell (p := ⟨w.heap.size, m, none⟩) hwi).trans HCI.out
          have hf4 : w4.frozen? ⟨w.heap.size, m, none⟩ = false := (hb4'.frozen (p := ⟨w.heap.size, m, none⟩) hwi).trans (HBKI.out.frozen m)
          clear hnw4 hdg4 hb4
          go_wp2_with fail
          go_roundg (gk - 1)
          case measure =>
            have h1 := HK2.out
            have h2 := HGE.out
            have h3 := HP.out
            have h4 : (t + 1) * M ≤ X := by rw [Nat.add_mul, Nat.one_mul]; omega
            have h5 := (Nat.le_div_iff_mul_le h3).2 h4
            omega
          case rel =>
            have h1 := HK2.out
            have h2 := HGE.out
            have h3 := HP.out
            have h4 : (t + 1) * M ≤ X := by rw [Nat.add_mul, Nat.one_mul]; omega
            have h5 := (Nat.le_div_iff_mul_le h3).2 h4
            refine ⟨t + 1, by omega, ?_, ?_, ?_, by go_size, ?_⟩
            · have h6 := HDG4.out
              rw [Nat.sub_sub, ← Nat.succ_mul] at h6
              exact h6.away (HNW4.out.mono (Nat.le_refl _)) hwi _ _
            · exact HNW4.out.mono hwi
            · have h6 := (HBKI.out.below hb4' hwi).set_ m (.int .i64 ((t : Int) + 1))
              rw [← List.map_set, List.set_set] at h6
              exact h6
            · exact (hbeli.trans (hb4'.mono (Nat.le_of_lt hwi))).setCell (Nat.le_refl _) _
        · have hcc : ¬ (0 : Int) ≤ cmpN (X - t * M) M := by unfold cmpN; split; omega; split; omega; omega
          generalize cmpN (X - t * M) M = cc at *
          have HGE := Lib.hid hge
          clear hge
          go_wp2_with fail
          go_roundg m
          case measure => omega
          case rel =>
            have h0 : X = t * M + (X - t * M) := by
              have h1 : t * M ≤ X := by
                have h2 := HK2.out
                have h3 : t * M ≤ X / M * M := Nat.mul_le_mul_right _ (by omega)
                have h4 := Nat.div_mul_le_self X M
                omega
              omega
            have hq := quo_step P M d.toNat t (X - t * M) HP.out (by have := HGE.out; omega) (by rw [← HX.out]; exact h0)
            rw [← HQH.out] at hq
            obtain ⟨hq1, hq2⟩ := hq
            have hdsl := HDSL.out
            refine ⟨ds.set m (t : Int), by omega, rfl, ?_, HNL.out, HBKI.out.drewN nn, by rw [List.length_set]; exact HL.out, HDD.out.set_ m (by omega) (by omega), ?_, ?_, hwi, by (repeat' (first | (with_reducible exact Below.refl _ _) | (with_reducible assumption) | (with_reducible refine Below.drew ?_) | (with_reducible refine below_drewN ?_ _) | ((with_reducible refine Below.alloc ?_ ?_ _); rotate_left; focus (go_size; done)) | ((with_reducible refine Below.setCell ?_ ?_ _); rotate_left; focus (go_size; done)) | ((with_reducible refine Below.trans ?_ (Below.mono (by with_reducible assumption) ?_)); rotate_left; focus (go_size; done))))⟩
            · rw [hq2]; exact HDL2.out.drewN nn
            · intro j hj
              rw [getD_set _ _ _ _ hdsl, if_neg (by omega)]
              exact HZ.out j (by omega)
            · rw [drop_set _ _ _ hdsl, hq1]
              have h5 := HVL.out
              show (t : Int) + 10 * dval (ds.drop (m + 1)) = _
              rw [h5]
              generalize P / M = Y
              omega
end Go.Proofs.Ythkgjodidkpaeaa

set_option linter.unusedSimpArgs false
set_option linter.unusedVariables false
namespace Go.Proofs.Ythkgjodidkpaeaa
open Go.RowKit

theorem IsDg.one : IsDg [1] 1 := ⟨by intro d hd; rw [List.mem_singleton.1 hd]; decide, by simp [Top], rfl⟩
theorem dg_one {w : World} {g : Nat} (h : Bk w g 3 [.int .i64 1]) : Dg w (.slice (some ⟨g, 0, none⟩) 1 1) 1 :=
  ⟨[1], IsSl.of_bk (ds := [1]) h rfl (Nat.le_refl _), IsDg.one⟩
theorem near_up (N M : Nat) (h : M < N % M + N % M ∨ (N % M + N % M = M ∧ N / M % 2 = 1)) : near N M = N / M + 1 := by
  unfold near; rw [if_pos (by omega)]
theorem near_stay (N M : Nat) (h : N % M + N % M < M ∨ (N % M + N % M = M ∧ N / M % 2 = 0)) : near N M = N / M := by
  unfold near; rw [if_neg (by omega)]; rfl
theorem dg_first {w : World} {v : Value} {n : Nat} (h : Dg w v n) (hn : n ≠ 0) : ∃ g o k c, v = .slice (some ⟨g, o, none⟩) (k + 1) c ∧ k + 1 ≤ c ∧ w.cell? ⟨g, o, none⟩ = some (.int .i64 ((n % 10 : Nat) : Int)) ∧ g < w.heap.size := by
  obtain ⟨xs, ⟨A, c, rfl, hc, hs⟩, hd⟩ := h
  have hz := hd.zero_iff
  obtain ⟨k, hk⟩ : ∃ k, xs.length = k + 1 := ⟨xs.length - 1, by omega⟩
  obtain ⟨g, o, rfl, hg, hcell⟩ := hs.at_ (k := 0) (by omega)
  refine ⟨g, o, k, c, by rw [hk], by omega, ?_, hg⟩
  rw [Nat.add_zero] at hcell
  rw [hcell, dval_digit hd.1 0 (by omega), hd.2.2, Int.pow_zero, Int.ediv_one]
  rfl
/-- a bound that is a little nearer -/
def Tiny (n : Nat) : Prop := True → n < 10 ^ 999
theorem ten_lt (a b : Nat) (h : a < b) : (10 : Nat) ^ a < 10 ^ b := Nat.pow_lt_pow_right (by decide) h
theorem one_lt_ten (a : Nat) (h : 0 < a) : 1 < (10 : Nat) ^ a := Nat.one_lt_pow (by omega) (by decide)
theorem ten_next (a b : Nat) (h : b = a + 1) : (10 : Nat) ^ b = 10 * 10 ^ a := by rw [h, Nat.pow_succ, Nat.mul_comm]
theorem small_add {n m : Nat} (hn : Tiny n) (hm : Tiny m) : Small (n + m) := by
  intro _
  have e := ten_next 999 1000 rfl
  have h1 := hn trivial
  have h2 := hm trivial
  rw [e]
  generalize (10 : Nat) ^ 999 = T at *
  omega
theorem Tiny.of_le {n m : Nat} (h : Tiny n) (hm : m ≤ n) : Tiny m := fun t => Nat.lt_of_le_of_lt hm (h t)
theorem Tiny.small {n : Nat} (h : Tiny n) : Small n := fun t => Nat.lt_trans (h t) (ten_lt 999 1000 (by decide))
theorem near_le (N M : Nat) : near N M ≤ N + 1 := by
  unfold near
  have := Nat.div_le_self N M
  split <;> omega
set_option maxHeartbeats 2000000 in
theorem near_any (N M : Nat) (hM : 0 < M) (u v : Value) (w : World) (hu : Dg w u N) (hv : Dg w v M) (hN : Tiny N) (hMs : Tiny M) :
    Calls Try.prog 73 #[u, v] w (RetDg (near N M) w) := by
  have HU := Lib.hid hu
  have HV := Lib.hid hv
  have HN := Lib.hid hN
  have HM := Lib.hid hMs
  have HP := Lib.hid hM
  have HR : Hid (Tiny (N % M)) := Lib.hid (hN.of_le (Nat.mod_le _ _))
  have HQ : Hid (Tiny (N / M)) := Lib.hid (hN.of_le (Nat.div_le_self _ _))
  have HO : Hid (Small (N / M + 1)) := Lib.hid (small_add HQ.out (fun _ => one_lt_ten 999 (by decide)))
  have hup := near_up N M
  have hst := near_stay N M
  clear hu hv hN hMs hM
  obtain ⟨q, hq⟩ : ∃ q, q = N / M := ⟨_, rfl⟩
  obtain ⟨r, hr⟩ : ∃ r, r = N % M := ⟨_, rfl⟩
  obtain ⟨z, hz⟩ : ∃ z, z = near N M := ⟨_, rfl⟩
  rw [← hz, ← hq, ← hr] at hup hst
  rw [← hr] at HR
  rw [← hq] at HQ HO
  rw [← hz]
  have H1 := Lib.hid hq
  have H2 := Lib.hid hr
  have H3 := Lib.hid hup
  have H4 := Lib.hid hst
  clear hq hr hz hup hst
  go_enter Try.func73, Try.ntmps73
  go_wp2_with fail
  refine (quo_any N M HP.out _ _ _ HU.out HV.out HN.out.small HM.out.small).mono ?_
  rw [← H1.out, ← H2.out]
  rintro _ w1 ⟨v1, v2, rfl, hq1, hr1, hb1⟩
  have HQ1 := Lib.hid hq1
  have HR1 := Lib.hid hr1
  have HV1 := Lib.hid (HV.out.below hb1)
  have hb1s := hb1.size
  clear hq1 hr1
  go_wp2_with fail
  refine (plus_any r r _ _ _ HR1.out HR1.out HR.out.small HR.out.small).mono ?_
  rintro _ w2 ⟨v3, rfl, hd3, hb2⟩
  have HD3 := Lib.hid hd3
  have HV2 := Lib.hid (HV1.out.below hb2)
  have HQ2 := Lib.hid (HQ1.out.below hb2)
  have hb2s := hb2.size
  clear hd3
  go_wp2_with fail
  refine (rcmp_any (r + r) M _ _ _ HD3.out HV2.out (small_add HR.out HR.out) HM.out.small).mono ?_
  rcases Nat.lt_trichotomy (r + r) M with hlt | heq | hgt
  · have hc : cmpN (r + r) M = -1 := by unfold cmpN; rw [if_neg (by omega), if_pos hlt]
    have hz := H4.out (.inl hlt)
    rw [hc]
    have HZ := Lib.hid hz
    clear hc hz hlt
    rintro _ w3 ⟨rfl, nn, rfl⟩
    go_wp2_with fail
    go_ret
    exact ⟨_, rfl, by rw [HZ.out]; exact HQ2.out.drewN nn, by (repeat' (first | (with_reducible exact Below.refl _ _) | (with_reducible assumption) | (with_reducible refine Below.drew ?_) | (with_reducible refine below_drewN ?_ _) | ((with_reducible refine Below.alloc ?_ ?_ _); rotate_left; focus (go_size; done)) | ((with_reducible refine Below.setCell ?_ ?_ _); rotate_left; focus (go_size; done)) | ((with_reducible refine Below.trans ?_ (Below.mono (by with_reducible assumption) ?_)); rotate_left; focus (go_size; done))))⟩
  · have hc : cmpN (r + r) M = 0 := by unfold cmpN; rw [if_pos heq]
    rw [hc]
    have HE := Lib.hid heq
    clear hc heq
    rintro _ w3 ⟨rfl, nn, rfl⟩
    by_cases h0 : q = 0
    · have hz := H4.out (.inr ⟨HE.out, by rw [h0]⟩)
      have HZ := Lib.hid hz
      clear hz
      subst h0
      obtain ⟨xs, ⟨A, c, rfl, hc, hs⟩, hd⟩ := HQ2.out
      have hx0 := hd.zero_iff.2 rfl
      obtain rfl : xs = [] := List.length_eq_zero_iff.1 hx0
      have HS := Lib.hid hs
      have HD := Lib.hid hd
      clear hs hd hx0
      go_wp2_with fail
      go_ret
      exact ⟨_, rfl, by rw [HZ.out]; exact HQ2.out.drewN nn, by (repeat' (first | (with_reducible exact Below.refl _ _) | (with_reducible assumption) | (with_reducible refine Below.drew ?_) | (with_reducible refine below_drewN ?_ _) | ((with_reducible refine Below.alloc ?_ ?_ _); rotate_left; focus (go_size; done)) | ((with_reducible refine Below.setCell ?_ ?_ _); rotate_left; focus (go_size; done)) | ((with_reducible refine Below.trans ?_ (Below.mono (by with_reducible assumption) ?_)); rotate_left; focus (go_size; done))))⟩
    · obtain ⟨g, o, k, c, rfl, hkc, hcell, hg⟩ := dg_first HQ2.out h0
      have k0 : (0 : Int) < (k : Int) + 1 := by omega
      have e1 : ((k + 1 : Nat) : Int) = (k : Int) + 1 := by omega
      rcases Nat.mod_two_eq_zero_or_one q with hp | hp
      · have hz := H4.out (.inr ⟨HE.out, hp⟩)
        have HZ := Lib.hid hz
        have g1 : (((q % 10 : Nat) : Int) % 2 == 1) = false := by simp; omega
        have d0 : (0 : Int) ≤ ((q % 10 : Nat) : Int) := by omega
        obtain ⟨d, hd⟩ : ∃ d : Int, d = ((q % 10 : Nat) : Int) := ⟨_, rfl⟩
        rw [← hd] at g1 hcell d0
        clear hz hp h0 hd
        go_wp2_with fail
        go_ret
        exact ⟨_, rfl, by rw [HZ.out]; exact HQ2.out.drewN nn, by (repeat' (first | (with_reducible exact Below.refl _ _) | (with_reducible assumption) | (with_reducible refine Below.drew ?_) | (with_reducible refine below_drewN ?_ _) | ((with_reducible refine Below.alloc ?_ ?_ _); rotate_left; focus (go_size; done)) | ((with_reducible refine Below.setCell ?_ ?_ _); rotate_left; focus (go_size; done)) | ((with_reducible refine Below.trans ?_ (Below.mono (by with_reducible assumption) ?_)); rotate_left; focus (go_size; done))))⟩
      · have hz := H3.out (.inr ⟨HE.out, hp⟩)
        have HZ := Lib.hid hz
        have g1 : (((q % 10 : Nat) : Int) % 2 == 1) = true := by simp; omega
        have d0 : (0 : Int) ≤ ((q % 10 : Nat) : Int) := by omega
        obtain ⟨d, hd⟩ : ∃ d : Int, d = ((q % 10 : Nat) : Int) := ⟨_, rfl⟩
        rw [← hd] at g1 hcell d0
        clear hz hp h0 hd
        go_wp2_with fail
        refine (plus_any q 1 _ _ _ (HQ2.out.below (by (repeat' (first | (with_reducible exact Below.refl _ _) | (with_reducible assumption) | (with_reducible refine Below.drew ?_) | (with_reducible refine below_drewN ?_ _) | ((with_reducible refine Below.alloc ?_ ?_ _); rotate_left; focus (go_size; done)) | ((with_reducible refine Below.setCell ?_ ?_ _); rotate_left; focus (go_size; done)) | ((with_reducible refine Below.trans ?_ (Below.mono (by with_reducible assumption) ?_)); rotate_left; focus (go_size; done)))))) (dg_one (Bk.new_ rfl)) HQ.out.small (Small.of_le HO.out (by omega))).mono ?_
        rintro _ w4 ⟨v4, rfl, hd4, hb4⟩
        have HD4 := Lib.hid hd4
        clear hd4
        go_wp2_with fail
        go_ret
        exact ⟨_, rfl, by rw [HZ.out]; exact HD4.out, by (repeat' (first | (with_reducible exact Below.refl _ _) | (with_reducible assumption) | (with_reducible refine Below.drew ?_) | (with_reducible refine below_drewN ?_ _) | ((with_reducible refine Below.alloc ?_ ?_ _); rotate_left; focus (go_size; done)) | ((with_reducible refine Below.setCell ?_ ?_ _); rotate_left; focus (go_size; done)) | ((with_reducible refine Below.trans ?_ (Below.mono (by with_reducible assumption) ?_)); rotate_left; focus (go_size; done))))⟩
  · have hc : cmpN (r + r) M = 1 := by unfold cmpN; rw [if_neg (by omega), if_neg (by omega)]
    have hz := H3.out (.inl hgt)
    rw [hc]
    have HZ := Lib.hid hz
    clear hc hz hgt
    rintro _ w3 ⟨rfl, nn, rfl⟩
    go_wp2_with fail
    refine (plus_any q 1 _ _ _ (HQ2.out.below (by (repeat' (first | (with_reducible exact Below.refl _ _) | (with_reducible assumption) | (with_reducible refine Below.drew ?_) | (with_reducible refine below_drewN ?_ _) | ((with_reducible refine Below.alloc ?_ ?_ _); rotate_left; focus (go_size; done)) | ((with_reducible refine Below.setCell ?_ ?_ _); rotate_left; focus (go_size; done)) | ((with_reducible refine Below.trans ?_ (Below.mono (by with_reducible assumption) ?_)); rotate_left; focus (go_size; done)))))) (dg_one (Bk.new_ rfl)) HQ.out.small (Small.of_le HO.out (by omega))).mono ?_
    rintro _ w4 ⟨v4, rfl, hd4, hb4⟩
    have HD4 := Lib.hid hd4
    clear hd4
    go_wp2_with fail
    go_ret
    exact ⟨_, rfl, by rw [HZ.out]; exact HD4.out, by (repeat' (first | (with_reducible exact Below.refl _ _) | (with_reducible assumption) | (with_reducible refine Below.drew ?_) | (with_reducible refine below_drewN ?_ _) | ((with_reducible refine Below.alloc ?_ ?_ _); rotate_left; focus (go_size; done)) | ((with_reducible refine Below.setCell ?_ ?_ _); rotate_left; focus (go_size; done)) | ((with_reducible refine Below.trans ?_ (Below.mono (by with_reducible assumption) ?_)); rotate_left; focus (go_size; done))))⟩
end Go.Proofs.Ythkgjodidkpaeaa

set_option linter.unusedSimpArgs false
set_option linter.unusedVariables false
namespace Go.Proofs.Ythkgjodidkpaeaa
open Go.RowKit

theorem ten_le (a b : Nat) (h : a ≤ b) : (10 : Nat) ^ a ≤ 10 ^ b := Nat.pow_le_pow_right (by decide) h
theorem lt_256_tiny {N : Nat} (h : N < 2 ^ 256) : Tiny N := fun _ => by
  have h1 : (2 : Nat) ^ 256 ≤ 10 ^ 78 := by decide
  exact Nat.lt_of_lt_of_le h (Nat.le_trans h1 (ten_le 78 999 (by decide)))
theorem ten_tiny {k : Nat} (h : k < 999) : Tiny (10 ^ k) := fun _ => ten_lt k 999 h
theorem small_one : Small 1 := fun _ => one_lt_ten 1000 (by decide)
theorem near_small {N : Nat} (h : Tiny N) (M : Nat) : Small (near N M) := (small_add h (fun _ => one_lt_ten 999 (by decide))).of_le (near_le N M)
end Go.Proofs.Ythkgjodidkpaeaa

set_option linter.unusedSimpArgs false
set_option linter.unusedVariables false
namespace Go.Proofs.Ythkgjodidkpaeaa
open Go.RowKit

theorem mul_bd {d e : Int} (d0 : 0 ≤ d) (d9 : d ≤ 9) (e0 : 0 ≤ e) (e9 : e ≤ 9) : 0 ≤ d * e ∧ d * e ≤ 81 :=
  ⟨Int.mul_nonneg d0 e0, by have h := Int.mul_le_mul d9 e9 e0 (by omega : (0 : Int) ≤ 9); omega⟩
/-- where no place is below nought, the top place times its weight is not above the value -/
theorem dval_top_le (zs : List Int) (L : Nat) (hL : zs.length = L + 1) (h0 : ∀ j, 0 ≤ zs.getD j 0) : 10 ^ L * zs.getD L 0 ≤ dval zs := by
  have a := dval_append (zs.take L) (zs.drop L)
  rw [List.take_append_drop, List.length_take, Nat.min_eq_left (by omega), dval_drop zs L (by omega), List.drop_of_length_le (by omega)] at a
  have hb : 0 ≤ dval (zs.take L) := by
    have key : ∀ l : List Int, (∀ d ∈ l, 0 ≤ d) → 0 ≤ dval l := by
      intro l
      induction l with
      | nil => intro _; simp [dval]
      | cons d r ih =>
        intro h
        have h1 := h d List.mem_cons_self
        have h2 := ih fun x hx => h x (List.mem_cons_of_mem _ hx)
        simp only [dval]; omega
    refine key _ fun d hd => ?_
    obtain ⟨i, hi, rfl⟩ := List.getElem_of_mem hd
    rw [List.length_take] at hi
    rw [List.getElem_take, ← getD_lt _ _ (by omega)]
    exact h0 i
  rw [a]
  show _ ≤ dval (zs.take L) + 10 ^ L * (zs.getD L 0 + 10 * dval [])
  simp only [dval]
  have e : zs.getD L 0 + 10 * 0 = zs.getD L 0 := by omega
  rw [e]; omega
theorem digs_of (zs : List Int) (h : ∀ j, j < zs.length → 0 ≤ zs.getD j 0 ∧ zs.getD j 0 ≤ 9) : Digs zs := by
  intro d hd
  obtain ⟨i, hi, rfl⟩ := List.getElem_of_mem hd
  rw [← getD_lt _ _ hi]
  exact h i hi
theorem IsDg.getD_zero {l : List Int} {n : Nat} (h : IsDg l n) (j : Nat) : 0 ≤ l.getD j 0 ∧ l.getD j 0 ≤ 9 := h.get j
theorem rep_getD (n j : Nat) : (List.replicate n (0 : Int)).getD j 0 = 0 := by
  rw [List.getD_eq_getElem?_getD, List.getElem?_replicate]
  split <;> rfl
set_option maxHeartbeats 4000000 in
theorem times_any (N M : Nat) (u v : Value) (w : World) (hu : Dg w u N) (hv : Dg w v M) (hN : Small N) (hM : Small M) :
    Calls Try.prog 76 #[u, v] w (RetDg (N * M) w) := by
  obtain ⟨xs, ⟨A, c, rfl, hc, hs⟩, hd⟩ := hu
  obtain ⟨ys, ⟨B, d, rfl, hc2, hs2⟩, hd2⟩ := hv
  have hlx := pow_big hN hd
  have hly := pow_big hM hd2
  have HX := Lib.hid hd
  have HY := Lib.hid hd2
  have HS := Lib.hid hs
  have HT := Lib.hid hs2
  obtain ⟨lx, ex⟩ : ∃ n, n = xs.length := ⟨_, rfl⟩
  obtain ⟨ly, ey⟩ : ∃ n, n = ys.length := ⟨_, rfl⟩
  rw [← ex] at hc hlx ⊢
  rw [← ey] at hc2 hly ⊢
  have hmk := fun W => make_ints (lx + ly + 1) (by omega) W
  have e1 : ((lx + ly + 1 : Nat) : Int) = (lx : Int) + (ly : Int) + 1 := by omega
  rw [e1] at hmk
  have EX := Lib.hid ex
  have EY := Lib.hid ey
  clear hd hd2 hs hs2 hN hM ex ey e1
  go_enter Try.func76, Try.ntmps76
  go_wp2_with fail
  clear hmk
  go_loopg [6] lx (fun k i wr => ∃ (t : Nat) (zs : List Int), k + t = lx ∧ i = .int .i64 t ∧ zs.length = lx + ly + 1 ∧ Bk wr w.heap.size 3 (zs.map (Value.int .i64)) ∧ (∀ j, 0 ≤ zs.getD j 0 ∧ zs.getD j 0 ≤ 81 * t) ∧
    dval zs = dval (xs.take t) * dval ys ∧ w.heap.size < wr.heap.size ∧ Below w.heap.size w wr)
  case atStart =>
    refine ⟨0, List.replicate (lx + ly + 1) 0, by omega, rfl, by simp, Bk.new_ rfl, fun j => by rw [rep_getD]; omega, ?_, by go_size, by (repeat' (first | (with_reducible exact Below.refl _ _) | (with_reducible assumption) | (with_reducible refine Below.drew ?_) | (with_reducible refine below_drewN ?_ _) | ((with_reducible refine Below.alloc ?_ ?_ _); rotate_left; focus (go_size; done)) | ((with_reducible refine Below.setCell ?_ ?_ _); rotate_left; focus (go_size; done)) | ((with_reducible refine Below.trans ?_ (Below.mono (by with_reducible assumption) ?_)); rotate_left; focus (go_size; done))))⟩
    rw [dval_replicate]; simp [dval]
  case round =>
    obtain ⟨t, zs, hk, rfl, hzl, hbk, hbd, hval, hsz, hbel⟩ := hrel
    have HK := Lib.hid hk
    have HZ := Lib.hid hzl
    have HB := Lib.hid hbk
    have HBD := Lib.hid hbd
    have HV := Lib.hid hval
    have ht : t ≤ lx := by omega
    clear hk hzl hbk hbd hval
    by_cases hlt : t < lx
    · obtain ⟨g, o, rfl, hg, hcell⟩ := HS.out.at_ (k := t) (by have := EX.out; omega)
      have hgx := HX.out.get t
      obtain ⟨p, hp⟩ : ∃ p, p = xs.getD t 0 := ⟨_, rfl⟩
      rw [← hp] at hcell hgx
      obtain ⟨p0, p9⟩ := hgx
      have HP := Lib.hid hp
      clear hp
      go_wp2_with fail
      obtain ⟨wo, hwo⟩ : ∃ wo : World, wo = wr := ⟨_, rfl⟩
      clear hwo
      obtain ⟨go, hgo⟩ : ∃ go : Nat, go = gk := ⟨_, rfl⟩
      rw [← hgo] at HK
      have HGO := Lib.hid hgo
      clear hgo
      go_loopg [7] ly (fun k i wr => ∃ (s : Nat) (zs : List Int), k + s = ly ∧ i = .int .i64 s ∧ zs.length = lx + ly + 1 ∧ Bk wr w.heap.size 3 (zs.map (Value.int .i64)) ∧ (∀ j, 0 ≤ zs.getD j 0 ∧ zs.getD j 0 ≤ 81 * t + if j < t + s then 81 else 0) ∧
        dval zs = dval (xs.take t) * dval ys + 10 ^ t * (p * dval (ys.take s)) ∧ w.heap.size < wr.heap.size ∧ Below w.heap.size w wr)
      case atStart =>
        refine ⟨0, zs, by omega, rfl, HZ.out, HB.out, fun j => ?_, ?_, hsz, hbel⟩
        · have := HBD.out j
          split <;> omega
        · rw [HV.out]; simp [dval]
      case round =>
        obtain ⟨s, zs2, hk2, rfl, hzl2, hbk2, hbd2, hval2, hsz2, hbel2⟩ := hrel
        have HK2 := Lib.hid hk2
        have HZ2 := Lib.hid hzl2
        have HB2 := Lib.hid hbk2
        have HBD2 := Lib.hid hbd2
        have HV2 := Lib.hid hval2
        have hs' : s ≤ ly := by omega
        clear hk2 hzl2 hbk2 hbd2 hval2
        by_cases hls : s < ly
        · obtain ⟨g2, o2, rfl, hg2, hcell2⟩ := HT.out.at_ (k := s) (by have := EY.out; omega)
          have hgy := HY.out.get s
          obtain ⟨q, hq⟩ : ∃ q, q = ys.getD s 0 := ⟨_, rfl⟩
          rw [← hq] at hcell2 hgy
          obtain ⟨q0, q9⟩ := hgy
          have HQ := Lib.hid hq
          have ca := (hbel2.cell (p := ⟨g, o + t, none⟩) hg).trans hcell
          have cb := (hbel2.cell (p := ⟨g2, o2 + s, none⟩) hg2).trans hcell2
          have hzi : t + s < zs2.length := by have := HZ2.out; omega
          have cz : wr.cell? ⟨w.heap.size, t + s, none⟩ = some (.int .i64 (zs2.getD (t + s) 0)) := by
            refine HB2.out.cell _ ?_
            rw [List.getElem?_map, List.getElem?_eq_getElem hzi, getD_lt _ _ hzi]; rfl
          have fz := HB2.out.frozen (t + s)
          have hzb := HBD2.out (t + s)
          rw [if_neg (by omega)] at hzb
          obtain ⟨z, hz⟩ : ∃ z, z = zs2.getD (t + s) 0 := ⟨_, rfl⟩
          rw [← hz] at cz hzb
          obtain ⟨z0, z9⟩ := hzb
          obtain ⟨m0, m9⟩ := mul_bd p0 p9 q0 q9
          have HZZ := Lib.hid hz
          have HZI := Lib.hid hzi
          have i0 : (t : Int) + (s : Int) < (lx : Int) + (ly : Int) + 1 := by omega
          clear hq hz hcell2 hzi
          go_wp2_with fail
          go_region
          go_wp2_with fail
          go_roundg (gk - 1)
          case measure => have := HK2.out; omega
          case rel =>
            have hzi := HZI.out
            refine ⟨s + 1, zs2.set (t + s) (z + p * q), by have := HK2.out; omega, by go_num, by rw [List.length_set]; exact HZ2.out, ?_, ?_, ?_, by go_size, by (repeat' (first | (with_reducible exact Below.refl _ _) | (with_reducible assumption) | (with_reducible refine Below.drew ?_) | (with_reducible refine below_drewN ?_ _) | ((with_reducible refine Below.alloc ?_ ?_ _); rotate_left; focus (go_size; done)) | ((with_reducible refine Below.setCell ?_ ?_ _); rotate_left; focus (go_size; done)) | ((with_reducible refine Below.trans ?_ (Below.mono (by with_reducible assumption) ?_)); rotate_left; focus (go_size; done))))⟩
            · have h6 := (HB2.out.set_ (t + s) (.int .i64 (z + p * q))).drew
              rw [← List.map_set] at h6
              exact h6
            · intro j
              rw [getD_set _ _ _ _ hzi]
              by_cases hj : j = t + s
              · rw [if_pos hj, if_pos (by omega)]; omega
              · rw [if_neg hj]
                have := HBD2.out j
                by_cases hj2 : j < t + s
                · rw [if_pos hj2] at this; rw [if_pos (by omega)]; exact this
                · rw [if_neg hj2] at this; rw [if_neg (by omega)]; exact this
            · rw [dval_set _ _ _ hzi, ← HZZ.out, HV2.out, dval_take_succ ys s (by have := EY.out; omega), ← HQ.out, Int.pow_add]
              have e : z + p * q - z = p * q := by omega
              rw [e]
              generalize dval (ys.take s) = Y
              generalize dval (xs.take t) * dval ys = XY
              grind
        · obtain rfl : s = ly := by omega
          go_wp2_with fail
          go_roundg (go - 1)
          case measure => have := HK.out; have := HGO.out; omega
          case rel =>
            refine ⟨t + 1, zs2, by have := HK.out; omega, by go_num, HZ2.out, HB2.out, fun j => ?_, ?_, hsz2, hbel2⟩
            · have := HBD2.out j
              split at this <;> omega
            · rw [HV2.out, dval_take_succ xs t (by have := EX.out; omega), ← HP.out, EY.out, List.take_length, Int.add_mul, Int.mul_assoc]
    · obtain rfl : t = lx := by omega
      have hval : dval zs = ((N * M : Nat) : Int) := by
        rw [HV.out, EX.out, List.take_length, HX.out.2.2, HY.out.2.2, Int.natCast_mul]
      have HV := Far.mk hval
      clear hval
      go_wp2_with fail
      obtain ⟨wo, hwo⟩ : ∃ wo : World, wo = wr := ⟨_, rfl⟩
      clear hwo
      go_loopg [8] (t + ly) (fun k i wr => ∃ (s : Nat) (zs : List Int), k + s = t + ly ∧ i = .int .i64 s ∧ zs.length = t + ly + 1 ∧ Bk wr w.heap.size 3 (zs.map (Value.int .i64)) ∧ (∀ j, 0 ≤ zs.getD j 0) ∧ (∀ j, j < s → zs.getD j 0 ≤ 9) ∧ zs.getD s 0 ≤ 100000 ∧
        (∀ j, s < j → zs.getD j 0 ≤ 81000) ∧ dval zs = ((N * M : Nat) : Int) ∧ w.heap.size < wr.heap.size ∧ Below w.heap.size w wr)
      case atStart =>
        refine ⟨0, zs, by omega, rfl, HZ.out, HB.out, fun j => (HBD.out j).1, fun j hj => absurd hj (by omega), ?_, fun j _ => ?_, HV.out, hsz, hbel⟩
        · have := HBD.out 0; omega
        · have := HBD.out j; omega
      case round =>
        obtain ⟨s, zs2, hk2, rfl, hzl2, hbk2, hnn, h9, hs9, hgt, hval2, hsz2, hbel2⟩ := hrel
        have HK2 := Lib.hid hk2
        have HZ2 := Lib.hid hzl2
        have HB2 := Lib.hid hbk2
        have HNN := Lib.hid hnn
        have H9 := Lib.hid h9
        have HGT := Lib.hid hgt
        have HV2 := Far.mk hval2
        have hs' : s ≤ t + ly := by omega
        clear hk2 hzl2 hbk2 hnn h9 hgt hval2
        by_cases hls : s < t + ly
        · have hzi : s < zs2.length := by have := HZ2.out; omega
          have hzi2 : s + 1 < zs2.length := by have := HZ2.out; omega
          have cz : wr.cell? ⟨w.heap.size, s, none⟩ = some (.int .i64 (zs2.getD s 0)) := by
            refine HB2.out.cell _ ?_
            rw [List.getElem?_map, List.getElem?_eq_getElem hzi, getD_lt _ _ hzi]; rfl
          have cz2 : wr.cell? ⟨w.heap.size, s + 1, none⟩ = some (.int .i64 (zs2.getD (s + 1) 0)) := by
            refine HB2.out.cell _ ?_
            rw [List.getElem?_map, List.getElem?_eq_getElem hzi2, getD_lt _ _ hzi2]; rfl
          have fz := HB2.out.frozen s
          have fz2 := HB2.out.frozen (s + 1)
          have a0 := HNN.out s
          have b0 := HNN.out (s + 1)
          have b9 := HGT.out (s + 1) (by omega)
          obtain ⟨a, ha⟩ : ∃ z, z = zs2.getD s 0 := ⟨_, rfl⟩
          obtain ⟨b, hb⟩ : ∃ z, z = zs2.getD (s + 1) 0 := ⟨_, rfl⟩
          rw [← ha] at cz a0 hs9
          rw [← hb] at cz2 b0 b9
          have HA := Lib.hid ha
          have HBB := Lib.hid hb
          have HZI := Lib.hid hzi
          have HZI2 := Lib.hid hzi2
          have i0 : (s : Int) + 1 < (t : Int) + (ly : Int) + 1 := by omega
          clear ha hb hzi hzi2
          go_wp2_with fail
          go_region
          go_wp2_with fail
          go_roundg (gk - 1)
          case measure => have := HK2.out; omega
          case rel =>
            have hzi := HZI.out
            have hzi2 := HZI2.out
            have hzi3 : s < (zs2.set (s + 1) (b + a / 10)).length := by rw [List.length_set]; exact hzi
            refine ⟨s + 1, (zs2.set (s + 1) (b + a / 10)).set s (a % 10), by have := HK2.out; omega, by go_num, by rw [List.length_set, List.length_set]; exact HZ2.out, ?_, ?_, ?_, ?_, ?_, ?_, by go_size, by (repeat' (first | (with_reducible exact Below.refl _ _) | (with_reducible assumption) | (with_reducible refine Below.drew ?_) | (with_reducible refine below_drewN ?_ _) | ((with_reducible refine Below.alloc ?_ ?_ _); rotate_left; focus (go_size; done)) | ((with_reducible refine Below.setCell ?_ ?_ _); rotate_left; focus (go_size; done)) | ((with_reducible refine Below.trans ?_ (Below.mono (by with_reducible assumption) ?_)); rotate_left; focus (go_size; done))))⟩
            · have h6 := ((HB2.out.set_ (s + 1) (.int .i64 (b + a / 10))).drew).set_ s (.int .i64 (a % 10))
              rw [← List.map_set, ← List.map_set] at h6
              exact h6
            · intro j
              rw [getD_set _ _ _ _ hzi3, getD_set _ _ _ _ hzi2]
              split
              · omega
              · split
                · omega
                · exact HNN.out j
            · intro j hj
              rw [getD_set _ _ _ _ hzi3, getD_set _ _ _ _ hzi2]
              split
              · omega
              · rw [if_neg (by omega)]
                exact H9.out j (by omega)
            · rw [getD_set _ _ _ _ hzi3, getD_set _ _ _ _ hzi2, if_neg (by omega), if_pos rfl]; omega
            · intro j hj
              rw [getD_set _ _ _ _ hzi3, getD_set _ _ _ _ hzi2, if_neg (by omega), if_neg (by omega)]
              exact HGT.out j (by omega)
            · rw [dval_set _ _ _ hzi3, getD_set _ _ _ _ hzi2, if_neg (by omega), dval_set _ _ _ hzi2, ← HA.out, ← HBB.out, HV2.out, Int.pow_succ]
              have e1 := carry_step (10 ^ s) a
              have e2 : (10 : Int) ^ s * 10 * (b + a / 10 - b) = 10 ^ s * 10 * (a / 10) := by congr 1; omega
              have e3 : (10 : Int) ^ s * (a % 10 - a) = 10 ^ s * (a % 10) - 10 ^ s * a := Int.mul_sub _ _ _
              rw [e2, e3]; omega
        · have hs2 : s = t + ly := by omega
          have hnn' : ¬ (s : Int) + 1 < (t : Int) + (ly : Int) + 1 := by omega
          have hdig : Digs zs2 := by
            refine digs_of zs2 fun j hj => ⟨HNN.out j, ?_⟩
            have hl := HZ2.out
            by_cases hj2 : j < s
            · exact H9.out j hj2
            · have hj3 : j = t + ly := by omega
              rw [hj3]
              have h1 := dval_top_le zs2 (t + ly) hl HNN.out
              have h2 : dval zs2 < 10 ^ (t + ly) := by
                rw [HV2.out, Int.natCast_mul, Int.pow_add]
                have a1 := (dval_bd HX.out.1)
                have b1 := (dval_bd HY.out.1)
                rw [HX.out.2.2, ← EX.out] at a1
                rw [HY.out.2.2, ← EY.out] at b1
                have c1 : (N : Int) * M ≤ 10 ^ t * M := Int.mul_le_mul_of_nonneg_right (Int.le_of_lt a1.2) b1.1
                have c2 : (10 : Int) ^ t * M < 10 ^ t * 10 ^ ly := Int.mul_lt_mul_of_pos_left b1.2 (ten_pos t)
                omega
              have h3 : zs2.getD (t + ly) 0 < 1 := by
                have h4 : (10 : Int) ^ (t + ly) * zs2.getD (t + ly) 0 < 10 ^ (t + ly) * 1 := by omega
                exact Int.lt_of_mul_lt_mul_left h4 (Int.le_of_lt (ten_pos _))
              omega
          have HD := Lib.hid hdig
          clear hdig hs2
          go_wp2_with fail
          refine (cut_any zs2 _ _ (IsSl.of_bk HB2.out HZ2.out (Nat.le_refl _)) HD.out (by rw [HZ2.out]; omega)).mono ?_
          rintro _ w2 ⟨v2, rfl, hdg, hb2⟩
          have HDG := Lib.hid hdg
          clear hdg
          go_wp2_with fail
          go_ret
          refine ⟨_, rfl, ?_, by (repeat' (first | (with_reducible exact Below.refl _ _) | (with_reducible assumption) | (with_reducible refine Below.drew ?_) | (with_reducible refine below_drewN ?_ _) | ((with_reducible refine Below.alloc ?_ ?_ _); rotate_left; focus (go_size; done)) | ((with_reducible refine Below.setCell ?_ ?_ _); rotate_left; focus (go_size; done)) | ((with_reducible refine Below.trans ?_ (Below.mono (by with_reducible assumption) ?_)); rotate_left; focus (go_size; done))))⟩
          have e : N * M = (dval zs2).toNat := by rw [HV2.out]; rfl
          rw [e]
          exact HDG.out
end Go.Proofs.Ythkgjodidkpaeaa

set_option linter.unusedSimpArgs false
set_option linter.unusedVariables false
namespace Go.Proofs.Ythkgjodidkpaeaa
open Go.RowKit

theorem rcmp_bel (n m : Nat) (u v : Value) (w : World) (hu : Dg w u n) (hv : Dg w v m) (hn : Small n) (hm : Small m) :
    Calls Try.prog 92 #[u, v] w fun e w' => e = .returned (.int .i64 (cmpN n m)) ∧ Below w.heap.size w w' :=
  (rcmp_any n m u v w hu hv hn hm).mono fun _ _ ⟨he, nn, hw⟩ => ⟨he, by rw [hw]; exact below_drewN (Below.refl _ _) nn⟩
theorem lt_128_tiny {N : Nat} (h : N < 2 ^ 128) : Tiny N := lt_256_tiny (Nat.lt_of_lt_of_le h (Nat.pow_le_pow_right (by decide) (by decide)))
theorem mul_lt_256 {n m : Nat} (hn : n < 2 ^ 128) (hm : m < 2 ^ 128) : n * m < 2 ^ 256 := by
  have h := Nat.mul_lt_mul'' hn hm
  rwa [← Nat.pow_add] at h
end Go.Proofs.Ythkgjodidkpaeaa

set_option linter.unusedSimpArgs false
set_option linter.unusedVariables false
namespace Go.Proofs.Ythkgjodidkpaeaa
open Go.RowKit

/-- the digits' slice: empty at nought alone -/
theorem dg_len {w : World} {v : Value} {n : Nat} (h : Dg w v n) : ∃ (A : Option Addr) (k c : Nat), v = .slice A k c ∧ (k = 0 ↔ n = 0) ∧ k ≤ c := by
  obtain ⟨xs, ⟨A, c, rfl, hc, hs⟩, hd⟩ := h
  exact ⟨A, xs.length, c, rfl, hd.zero_iff, hc⟩
end Go.Proofs.Ythkgjodidkpaeaa

set_option linter.unusedSimpArgs false
set_option linter.unusedVariables false
namespace Go.Proofs.Ythkgjodidkpaeaa
open Go.RowKit
theorem eq_wide (a b c d : Int) (W : World) : (binOp .eql 24 (.agg #[.int .u64 a, .int .u64 b]) (.agg #[.int .u64 c, .int .u64 d])).run Try.prog W = .ok (.bool ((a == c) && (b == d))) W := by
  go_simp
  by_cases h0 : a = c <;> by_cases h1 : b = d <;> simp [h0, h1]
set_option maxRecDepth 100000 in
theorem eq_long (a b c d e f g h : Int) (W : World) : (binOp .eql 45 (.agg #[.int .u64 a, .int .u64 b, .int .u64 c, .int .u64 d]) (.agg #[.int .u64 e, .int .u64 f, .int .u64 g, .int .u64 h])).run Try.prog W = .ok (.bool ((a == e) && ((b == f) && ((c == g) && (d == h))))) W := by
  obtain ⟨i0, hi⟩ : ∃ i, Try.prog.info? 22 = some i := ⟨_, rfl⟩
  have hc : Try.prog.cellsOf 22 = 1 := by kernel_rfl
  have hr : List.range 4 = [0, 1, 2, 3] := rfl
  go_simp
  rw [Go.run_equalIn_array W 9999 _ _ Try.underlying45 hi, hc, hr]
  simp [Op.eqItems, go_sem]
  by_cases h0 : a = e <;> by_cases h1 : b = f <;> by_cases h2 : c = g <;> by_cases h3 : d = h <;> simp [h0, h1, h2, h3]
theorem neq_wide (a b c d : Int) (W : World) : (binOp .neq 24 (.agg #[.int .u64 a, .int .u64 b]) (.agg #[.int .u64 c, .int .u64 d])).run Try.prog W = .ok (.bool (!((a == c) && (b == d)))) W := by
  go_simp
  by_cases h0 : a = c <;> by_cases h1 : b = d <;> simp [h0, h1]
set_option maxRecDepth 100000 in
theorem neq_long (a b c d e f g h : Int) (W : World) : (binOp .neq 45 (.agg #[.int .u64 a, .int .u64 b, .int .u64 c, .int .u64 d]) (.agg #[.int .u64 e, .int .u64 f, .int .u64 g, .int .u64 h])).run Try.prog W = .ok (.bool (!((a == e) && ((b == f) && ((c == g) && (d == h)))))) W := by
  obtain ⟨i0, hi⟩ : ∃ i, Try.prog.info? 22 = some i := ⟨_, rfl⟩
  have hc : Try.prog.cellsOf 22 = 1 := by kernel_rfl
  have hr : List.range 4 = [0, 1, 2, 3] := rfl
  go_simp
  rw [Go.run_equalIn_array W 9999 _ _ Try.underlying45 hi, hc, hr]
  simp [Op.eqItems, go_sem]
  by_cases h0 : a = e <;> by_cases h1 : b = f <;> by_cases h2 : c = g <;> by_cases h3 : d = h <;> simp [h0, h1, h2, h3]
theorem wd_eq0 {n : Nat} (hn : n < 2 ^ 256) : ((wd n 0 == 0) && ((wd n 1 == 0) && ((wd n 2 == 0) && (wd n 3 == 0)))) = decide (n = 0) := by
  have h := wd_four hn
  rw [Bool.eq_iff_iff]
  simp only [Bool.and_eq_true, beq_iff_eq, decide_eq_true_eq]
  constructor
  · rintro ⟨h0, h1, h2, h3⟩
    rw [h0, h1, h2, h3] at h
    omega
  · rintro rfl
    exact ⟨wd_zero 0, wd_zero 1, wd_zero 2, wd_zero 3⟩
end Go.Proofs.Ythkgjodidkpaeaa

set_option linter.unusedSimpArgs false
set_option linter.unusedVariables false
namespace Go.Proofs.Ythkgjodidkpaeaa

def tch (N k : Nat) : Nat := 48 + N / 10 ^ k % 10
def txl (N L : Nat) : List UInt8 := (List.range L).map fun i => UInt8.ofNat (tch N (L - 1 - i))
def txt (N L : Nat) : ByteArray := ⟨(txl N L).toArray⟩
/-- L is how many digits N has, one at least -/
def IsNd (N L : Nat) : Prop := 1 ≤ L ∧ N < 10 ^ L ∧ (L = 1 ∨ 10 ^ (L - 1) ≤ N)
theorem tch_lt (N k : Nat) : tch N k < 58 := by unfold tch; omega
theorem tch_ge (N k : Nat) : 48 ≤ tch N k := by unfold tch; omega
theorem txl_length (N L : Nat) : (txl N L).length = L := by simp [txl]
theorem txl_get (N L j : Nat) (h : j < (txl N L).length) : (txl N L)[j].toNat = tch N (L - 1 - j) := by
  have := tch_lt N (L - 1 - j)
  simp only [txl, List.getElem_map, List.getElem_range]
  rw [UInt8.toNat_ofNat']
  omega
theorem pow_mono10 {a b : Nat} (h : a ≤ b) : (10 : Nat) ^ a ≤ 10 ^ b := Nat.pow_le_pow_right (by decide) h
theorem pow_lt10 {a b : Nat} (h : (10 : Nat) ^ a < 10 ^ b) : a < b := (Nat.pow_lt_pow_iff_right (by decide)).1 h
theorem IsNd.le {N L M : Nat} (h : IsNd N L) (hM : 1 ≤ M) (hN : N < 10 ^ M) : L ≤ M := by
  obtain ⟨h1, h2, h3⟩ := h
  rcases h3 with h3 | h3
  · omega
  · have := pow_lt10 (Nat.lt_of_le_of_lt h3 hN)
    omega
theorem IsNd.uniq {N L M : Nat} (h : IsNd N L) (h' : IsNd N M) : L = M :=
  Nat.le_antisymm (h.le h'.1 h'.2.1) (h'.le h.1 h.2.1)
theorem nd_upto (N k : Nat) (h : N < 10 ^ k) : ∃ L, IsNd N L := by
  induction k with
  | zero => exact ⟨1, by omega, by simp at h; omega, .inl rfl⟩
  | succ k ih =>
    by_cases hk : N < 10 ^ k
    · exact ih hk
    · exact ⟨k + 1, by omega, h, .inr (by rw [Nat.add_sub_cancel]; omega)⟩
theorem nd_128 {N : Nat} (h : N < 2 ^ 128) : ∃ L, IsNd N L ∧ L ≤ 39 := by
  have h1 : N < 10 ^ 39 := Nat.lt_trans h (by decide)
  obtain ⟨L, hL⟩ := nd_upto N 39 h1
  exact ⟨L, hL, hL.le (by decide) h1⟩
theorem nd_of_dg {l : List Int} {N : Nat} (h : IsDg l N) : IsNd N (max l.length 1) := by
  have h1 := h.lt_of_len (Nat.le_refl _)
  by_cases h0 : l = []
  · subst h0
    have := h.zero_iff.1 rfl
    subst this
    exact ⟨by decide, by decide, .inl rfl⟩
  · have h2 := h.le_of_ne h0
    have h3 : 0 < l.length := List.length_pos_iff.2 h0
    rw [Nat.max_eq_left (by omega)]
    exact ⟨by omega, h1, .inr h2⟩
/-- when the quotient comes to nought -/
theorem nd_stop {N L t : Nat} (h : IsNd N L) (ht : t < L) : N / 10 ^ (t + 1) = 0 ↔ t + 1 = L := by
  obtain ⟨h1, h2, h3⟩ := h
  constructor
  · intro h0
    by_cases hlt : t + 1 < L
    · rcases h3 with h3 | h3
      · omega
      · exfalso
        have h4 : 10 ^ (t + 1) ≤ N := Nat.le_trans (pow_mono10 (by omega)) h3
        have h5 := Nat.div_pos h4 (Nat.pow_pos (by decide))
        omega
    · omega
  · rintro rfl
    exact Nat.div_eq_of_lt h2
/-- the number that bytes tell -/
def dvb : List UInt8 → Nat → Nat
  | [], a => a
  | c :: r, a => dvb r (a * 10 + (c.toNat - 48))
theorem dvb_append (l : List UInt8) (c : UInt8) (a : Nat) : dvb (l ++ [c]) a = dvb l a * 10 + (c.toNat - 48) := by
  induction l generalizing a with
  | nil => rfl
  | cons d r ih => exact ih _
theorem dvb_ge (l : List UInt8) (a b : Nat) (h : a ≤ b) : dvb l a ≤ dvb l b := by
  induction l generalizing a b with
  | nil => exact h
  | cons d r ih => exact ih _ _ (by omega)
theorem dvb_from (l : List UInt8) (a : Nat) : a ≤ dvb l a := by
  induction l generalizing a with
  | nil => exact Nat.le_refl _
  | cons d r ih => exact Nat.le_trans (by omega) (ih (a * 10 + (d.toNat - 48)))
theorem dvb_split (l m : List UInt8) (a : Nat) : dvb (l ++ m) a = dvb m (dvb l a) := by
  induction l generalizing a with
  | nil => rfl
  | cons d r ih => exact ih _
theorem dvb_low (l : List UInt8) (a k : Nat) (ha : 10 ^ k ≤ a) : 10 ^ (k + l.length) ≤ dvb l a := by
  induction l generalizing a k with
  | nil => simpa [dvb] using ha
  | cons d r ih =>
    have := ih (a * 10 + (d.toNat - 48)) (k + 1) (by rw [Nat.pow_succ]; omega)
    rw [List.length_cons, show k + (r.length + 1) = k + 1 + r.length by omega]
    exact this
theorem dvb_txl (N L : Nat) (h : N < 10 ^ L) : dvb (txl N L) 0 = N := by
  have key : ∀ k, k ≤ L → dvb ((txl N L).take k) 0 = N / 10 ^ (L - k) := by
    intro k
    induction k with
    | zero => intro _; rw [List.take_zero, Nat.sub_zero, Nat.div_eq_of_lt h]; rfl
    | succ k ih =>
      intro hk
      have hl : k < (txl N L).length := by rw [txl_length]; omega
      rw [List.take_succ_eq_append_getElem hl, dvb_append, ih (by omega), txl_get]
      unfold tch
      have e1 : L - k = L - 1 - k + 1 := by omega
      have e2 : L - (k + 1) = L - 1 - k := by omega
      rw [e1, e2, Nat.pow_succ, ← Nat.div_div_eq_div_mul]
      omega
  have := key L (Nat.le_refl _)
  rw [Nat.sub_self, Nat.pow_zero, Nat.div_one] at this
  rwa [List.take_of_length_le (by rw [txl_length]; exact Nat.le_refl _)] at this
def isD (c : UInt8) : Bool := decide (48 ≤ c.toNat ∧ c.toNat ≤ 57)
/-- a text of a number: digits alone, one at least, no nought ahead of others -/
def okB (l : List UInt8) : Bool := decide (l ≠ []) && (decide (l.length ≤ 1) || decide ((l.headD 0).toNat ≠ 48)) && l.all isD
theorem txl_digits (N L : Nat) : (txl N L).all isD = true := by
  rw [List.all_eq_true]
  intro c hc
  obtain ⟨j, hj, rfl⟩ := List.getElem_of_mem hc
  have := txl_get N L j hj
  have h1 := tch_lt N (L - 1 - j)
  have h2 := tch_ge N (L - 1 - j)
  unfold isD
  simp; omega
theorem txl_ok {N L : Nat} (h : IsNd N L) : okB (txl N L) = true := by
  have hl := txl_length N L
  obtain ⟨h1, h2, h3⟩ := h
  have hne : txl N L ≠ [] := by intro e; rw [e] at hl; simp at hl; omega
  unfold okB
  rw [txl_digits, Bool.and_true, Bool.and_eq_true]
  refine ⟨by simpa using hne, ?_⟩
  rw [Bool.or_eq_true, hl]
  rcases h3 with h3 | h3
  · left; simp; omega
  · by_cases hL : L ≤ 1
    · left; simpa using hL
    · right
      have e : (txl N L).headD 0 = (txl N L)[0]'(by rw [hl]; omega) := by
        have key : ∀ (l : List UInt8) (hl : 0 < l.length), l.headD 0 = l[0] := by
          intro l hl
          cases l with
          | nil => cases hl
          | cons a r => rfl
        exact key _ _
      rw [e, txl_get, Nat.sub_zero]
      have h4 : 1 ≤ N / 10 ^ (L - 1) := Nat.div_pos h3 (Nat.pow_pos (by decide))
      have h5 : N / 10 ^ (L - 1) < 10 := by
        refine Nat.div_lt_of_lt_mul ?_
        rw [← Nat.pow_succ, show (L - 1).succ = L by omega]; exact h2
      unfold tch
      simp; omega
end Go.Proofs.Ythkgjodidkpaeaa

set_option linter.unusedSimpArgs false
set_option linter.unusedVariables false
namespace Go.Proofs.Ythkgjodidkpaeaa
open Go.RowKit

/-- N is T and k noughts behind it -/
def IsTz (N T k : Nat) : Prop := N = T * 10 ^ k ∧ T % 10 ≠ 0
theorem tz_upto (N b : Nat) (h0 : N ≠ 0) (h : N < 10 ^ b) : ∃ T k, IsTz N T k := by
  induction b generalizing N with
  | zero => simp at h; omega
  | succ b ih =>
    by_cases hd : N % 10 = 0
    · obtain ⟨T, k, e, ht⟩ := ih (N / 10) (by omega) (by rw [Nat.pow_succ] at h; omega)
      refine ⟨T, k + 1, ?_, ht⟩
      rw [Nat.pow_succ, ← Nat.mul_assoc, ← e]; omega
    · exact ⟨N, 0, by simp, hd⟩
theorem IsTz.k_le {N T k : Nat} (h : IsTz N T k) (hN : N < 2 ^ 128) : k ≤ 38 := by
  obtain ⟨e, ht⟩ := h
  have h1 : 1 ≤ T := by
    rcases Nat.eq_zero_or_pos T with h0 | h0
    · subst h0; exact absurd rfl ht
    · exact h0
  have h2 : 10 ^ k ≤ N := by rw [e]; exact Nat.le_mul_of_pos_left _ h1
  have h3 : (10 : Nat) ^ k < 10 ^ 39 := Nat.lt_of_le_of_lt h2 (Nat.lt_trans hN (by decide))
  have := pow_lt10 h3
  omega
theorem IsTz.at_ {N T k t : Nat} (h : IsTz N T k) (ht : t ≤ k) : N / 10 ^ t = T * 10 ^ (k - t) := by
  have e : 10 ^ k = 10 ^ (k - t) * 10 ^ t := by rw [← Nat.pow_add]; congr 1; omega
  rw [h.1, e, ← Nat.mul_assoc, Nat.mul_div_cancel _ (Nat.pow_pos (by decide))]
theorem IsTz.mod_lt {N T k t : Nat} (h : IsTz N T k) (ht : t < k) : N / 10 ^ t % 10 = 0 := by
  rw [h.at_ (by omega), show k - t = k - t - 1 + 1 by omega, Nat.pow_succ, ← Nat.mul_assoc, Nat.mul_mod_left]
theorem IsTz.mod_eq {N T k : Nat} (h : IsTz N T k) : N / 10 ^ k = T := by
  rw [h.at_ (Nat.le_refl _), Nat.sub_self, Nat.pow_zero, Nat.mul_one]
set_option maxHeartbeats 1000000 in
theorem trim_zero (w : World) : Calls Try.prog 57 #[.agg #[.int .u64 0, .int .u64 0]] w fun e w' => e = .returned (.tuple #[.agg #[.int .u64 0, .int .u64 0], .int .i64 0]) ∧ Below w.heap.size w w' := by
  go_enter Try.func57, Try.ntmps57
  go_wp2_with fail
  refine bodyPost_ret (by simp [results, Try.results57, go_sem, *]; try rfl) rfl ?_
  exact ⟨rfl, by (repeat' (first | (with_reducible exact Below.refl _ _) | (with_reducible assumption) | (with_reducible refine Below.drew ?_) | (with_reducible refine below_drewN ?_ _) | ((with_reducible refine Below.alloc ?_ ?_ _); rotate_left; focus (go_size; done)) | ((with_reducible refine Below.setCell ?_ ?_ _); rotate_left; focus (go_size; done)) | ((with_reducible refine Below.trans ?_ (Below.mono (by with_reducible assumption) ?_)); rotate_left; focus (go_size; done))))⟩
set_option maxHeartbeats 1000000 in
theorem trim_any (N T k : Nat) (hN : N < 2 ^ 128) (h : IsTz N T k) (w : World) : Calls Try.prog 57 #[.agg #[.int .u64 (wd N 1), .int .u64 (wd N 0)]] w fun e w' => e = .returned (.tuple #[.agg #[.int .u64 (wd T 1), .int .u64 (wd T 0)], .int .i64 k]) ∧ Below w.heap.size w w' := by
  have hk38 := h.k_le hN
  have h0 : N ≠ 0 := by
    rintro rfl
    have h1 := h.1
    have h2 := h.2
    rcases Nat.mul_eq_zero.1 h1.symm with h3 | h3
    · subst h3; exact h2 rfl
    · exact absurd h3 (Nat.ne_of_gt (Nat.pow_pos (by decide)))
  have qz : ∀ W, (binOp .eql 24 (.agg #[.int .u64 (wd N 1), .int .u64 (wd N 0)]) (.agg #[.int .u64 0, .int .u64 0])).run Try.prog W = .ok (.bool false) W := fun W => by
    rw [eq_wide]
    have e := wd_eq_iff hN (show 0 < 2 ^ 128 by decide)
    rw [wd_zero, wd_zero] at e
    rw [e, decide_eq_false h0]
  have e2 : wd N 2 = 0 := wd_past (k := 2) (by simpa using hN) (Nat.le_refl _)
  have e3 : wd N 3 = 0 := wd_past (k := 3) (Nat.lt_of_lt_of_le hN (Nat.pow_le_pow_right (by decide) (by decide))) (Nat.le_refl _)
  have E2 := Lib.hid e2
  have E3 := Lib.hid e3
  have HN := Far.mk hN
  have HZ := Far.mk h
  clear hN h h0 e2 e3
  go_enter Try.func57, Try.ntmps57
  go_wp2_with fail
  go_loopg [5] k (fun kk c wr => ∃ t : Nat, kk + t = k ∧ c = .int .i64 t ∧ Bk wr (w.heap.size + 1 + 1) 45 (lcells (N / 10 ^ t)) ∧ Bk wr (w.heap.size + 1) 24 [.int .u64 0, .int .u64 0] ∧ w.heap.size + 3 ≤ wr.heap.size ∧ Below w.heap.size w wr)
  case atStart =>
    refine ⟨0, by omega, rfl, ?_, by (repeat (first | (with_reducible assumption) | ((with_reducible refine Bk.new_ ?_); (first | rfl | (simp only [World.size_alloc, World.size_setCell, World.size_drew, World.heap_drewN]; done))) | (with_reducible refine Bk.alloc ?_ _) | (with_reducible refine Bk.drew ?_) | (with_reducible refine Bk.drewN ?_ _) | ((with_reducible refine Bk.far ?_ ?_ _); rotate_left; focus (simp only []; omega)) | ((with_reducible refine Bk.below ?_ (by with_reducible assumption) ?_); rotate_left; focus (go_size; done)))), by go_size, by (repeat' (first | (with_reducible exact Below.refl _ _) | (with_reducible assumption) | (with_reducible refine Below.drew ?_) | (with_reducible refine below_drewN ?_ _) | ((with_reducible refine Below.alloc ?_ ?_ _); rotate_left; focus (go_size; done)) | ((with_reducible refine Below.setCell ?_ ?_ _); rotate_left; focus (go_size; done)) | ((with_reducible refine Below.trans ?_ (Below.mono (by with_reducible assumption) ?_)); rotate_left; focus (go_size; done))))⟩
    rw [Nat.pow_zero, Nat.div_one, lcells_eq, E2.out, E3.out]
    (repeat (first | (with_reducible assumption) | ((with_reducible refine Bk.new_ ?_); (first | rfl | (simp only [World.size_alloc, World.size_setCell, World.size_drew, World.heap_drewN]; done))) | (with_reducible refine Bk.alloc ?_ _) | (with_reducible refine Bk.drew ?_) | (with_reducible refine Bk.drewN ?_ _) | ((with_reducible refine Bk.far ?_ ?_ _); rotate_left; focus (simp only []; omega)) | ((with_reducible refine Bk.below ?_ (by with_reducible assumption) ?_); rotate_left; focus (go_size; done))))
  case round =>
    obtain ⟨t, hn, rfl, b2, b1, hsz, hbel⟩ := hrel
    have HK := Lib.hid hn
    have ht : t ≤ k := by omega
    have B2 := Lib.hid b2
    have B1 := Lib.hid b1
    have b2' := b2
    rw [lcells_eq] at b2'
    have c0 := b2'.cell 0 rfl
    have c1 := b2'.cell 1 rfl
    have c2 := b2'.cell 2 rfl
    have c3 := b2'.cell 3 rfl
    have f0 := b2.frozen 0
    have f1 := b2.frozen 1
    have f2 := b2.frozen 2
    have f3 := b2.frozen 3
    have d0 := b1.cell 0 rfl
    have d1 := b1.cell 1 rfl
    have g0 := b1.frozen 0
    have g1 := b1.frozen 1
    (try have : w.heap.size < wr.heap.size := by omega); (try have : w.heap.size + 1 < wr.heap.size := by omega); (try have : w.heap.size + 1 + 1 < wr.heap.size := by omega); (try have : w.heap.size + 1 + 1 + 1 < wr.heap.size := by omega)
    have HT := Lib.hid (fun W => tenth_any (N / 10 ^ t) (Nat.lt_of_le_of_lt (Nat.div_le_self _ _) (Nat.lt_trans HN.out (by decide))) W)
    clear hn b2 b1 b2'
    by_cases hlt : t < k
    · have hm := HZ.out.mod_lt hlt
      rw [hm] at HT
      obtain ⟨X, hX⟩ : ∃ X, X = N / 10 ^ t := ⟨_, rfl⟩
      rw [← hX] at HT c0 c1 c2 c3 B2
      have EX := Far.mk hX
      clear hX hm
      go_wp2_with ((go_at_call 89; with_reducible refine (HT.out _).mono ?_); rintro _ w1 ⟨rfl, hb1⟩; have hb1s := hb1.size; (try simp only [World.size_alloc, World.size_setCell, World.size_drew, World.heap_drewN] at hb1s); obtain ⟨hb1c, hb1f⟩ := bcell hb1; (try have : w.heap.size < w1.heap.size := by omega); (try have : w.heap.size + 1 < w1.heap.size := by omega); (try have : w.heap.size + 1 + 1 < w1.heap.size := by omega); (try have : w.heap.size + 1 + 1 + 1 < w1.heap.size := by omega))
      go_roundg (gk - 1)
      case measure => have := HK.out; omega
      case rel =>
        have b1 := B1.out
        refine ⟨t + 1, by have := HK.out; omega, by go_num, ?_, by (repeat (first | (with_reducible assumption) | ((with_reducible refine Bk.new_ ?_); (first | rfl | (simp only [World.size_alloc, World.size_setCell, World.size_drew, World.heap_drewN]; done))) | (with_reducible refine Bk.alloc ?_ _) | (with_reducible refine Bk.drew ?_) | (with_reducible refine Bk.drewN ?_ _) | ((with_reducible refine Bk.far ?_ ?_ _); rotate_left; focus (simp only []; omega)) | ((with_reducible refine Bk.below ?_ (by with_reducible assumption) ?_); rotate_left; focus (go_size; done)))), by go_size, by (repeat' (first | (with_reducible exact Below.refl _ _) | (with_reducible assumption) | (with_reducible refine Below.drew ?_) | (with_reducible refine below_drewN ?_ _) | ((with_reducible refine Below.alloc ?_ ?_ _); rotate_left; focus (go_size; done)) | ((with_reducible refine Below.setCell ?_ ?_ _); rotate_left; focus (go_size; done)) | ((with_reducible refine Below.trans ?_ (Below.mono (by with_reducible assumption) ?_)); rotate_left; focus (go_size; done))))⟩
        have e : N / 10 ^ (t + 1) = X / 10 := by rw [EX.out, Nat.div_div_eq_div_mul, Nat.pow_succ]
        rw [e, lcells_eq]
        refine Bk.alloc ?_ _
        refine ((((?_ : Bk w1 _ _ [.int .u64 (wd X 0), .int .u64 (wd X 1), .int .u64 (wd X 2), .int .u64 (wd X 3)]).set_ 0 _).set_ 1 _).set_ 2 _).set_ 3 _
        have b2 := B2.out
        rw [lcells_eq] at b2
        (repeat (first | (with_reducible assumption) | ((with_reducible refine Bk.new_ ?_); (first | rfl | (simp only [World.size_alloc, World.size_setCell, World.size_drew, World.heap_drewN]; done))) | (with_reducible refine Bk.alloc ?_ _) | (with_reducible refine Bk.drew ?_) | (with_reducible refine Bk.drewN ?_ _) | ((with_reducible refine Bk.far ?_ ?_ _); rotate_left; focus (simp only []; omega)) | ((with_reducible refine Bk.below ?_ (by with_reducible assumption) ?_); rotate_left; focus (go_size; done))))
    · obtain rfl : t = k := by omega
      have hm := HZ.out.mod_eq
      rw [hm] at HT c0 c1 c2 c3 B2
      have hne : (((T % 10 : Nat) : Int) != 0) = true := by
        have := HZ.out.2
        simp; omega
      obtain ⟨dd, hdd⟩ : ∃ dd : Int, dd = ((T % 10 : Nat) : Int) := ⟨_, rfl⟩
      rw [← hdd] at HT hne
      clear hm hdd
      go_wp2_with ((go_at_call 89; with_reducible refine (HT.out _).mono ?_); rintro _ w1 ⟨rfl, hb1⟩; have hb1s := hb1.size; (try simp only [World.size_alloc, World.size_setCell, World.size_drew, World.heap_drewN] at hb1s); obtain ⟨hb1c, hb1f⟩ := bcell hb1; (try have : w.heap.size < w1.heap.size := by omega); (try have : w.heap.size + 1 < w1.heap.size := by omega); (try have : w.heap.size + 1 + 1 < w1.heap.size := by omega); (try have : w.heap.size + 1 + 1 + 1 < w1.heap.size := by omega))
      refine bodyPost_ret (by simp [results, Try.results57, go_sem, *]; try rfl) rfl ?_
      exact ⟨rfl, by (repeat' (first | (with_reducible exact Below.refl _ _) | (with_reducible assumption) | (with_reducible refine Below.drew ?_) | (with_reducible refine below_drewN ?_ _) | ((with_reducible refine Below.alloc ?_ ?_ _); rotate_left; focus (go_size; done)) | ((with_reducible refine Below.setCell ?_ ?_ _); rotate_left; focus (go_size; done)) | ((with_reducible refine Below.trans ?_ (Below.mono (by with_reducible assumption) ?_)); rotate_left; focus (go_size; done))))⟩
end Go.Proofs.Ythkgjodidkpaeaa

set_option linter.unusedSimpArgs false
set_option linter.unusedVariables false
namespace Go.Proofs.Ythkgjodidkpaeaa
open Go.RowKit

theorem IsDg.drop_zeros {l : List Int} {N : Nat} (h : IsDg l N) (k : Nat) (hk : k ≤ l.length) (hz : ∀ j, j < k → l.getD j 0 = 0) : IsDg (l.drop k) (N / 10 ^ k) ∧ N = N / 10 ^ k * 10 ^ k := by
  have e := dval_append (l.take k) (l.drop k)
  rw [List.take_append_drop, List.length_take, Nat.min_eq_left hk] at e
  have hz0 : dval (l.take k) = 0 := dval_zeros (fun d hd => by
    obtain ⟨i, hi, rfl⟩ := List.getElem_of_mem hd
    rw [List.length_take] at hi
    rw [List.getElem_take, ← getD_lt _ _ (by omega)]
    exact hz i (by omega))
  rw [hz0, Int.zero_add, h.2.2] at e
  have hb := dval_bd (h.1.drop k)
  obtain ⟨V, hV⟩ : ∃ V : Nat, dval (l.drop k) = (V : Int) := ⟨(dval (l.drop k)).toNat, by omega⟩
  rw [hV] at e
  have e2 : N = 10 ^ k * V := by exact_mod_cast e
  have e3 : N / 10 ^ k = V := by rw [e2, Nat.mul_div_cancel_left _ (Nat.pow_pos (by decide))]
  refine ⟨⟨h.1.drop k, ?_, by rw [hV, e3]⟩, by rw [e3, Nat.mul_comm]; exact e2⟩
  have ht := h.2.1
  unfold Top at *
  by_cases hlt : k < l.length
  · rw [List.getLast?_drop, if_neg (by omega)]; exact ht
  · rw [List.drop_of_length_le (by omega)]; simp
theorem tz_dig {l : List Int} {N T k : Nat} (h : IsDg l N) (hz : IsTz N T k) : k < l.length ∧ (∀ j, j < k → l.getD j 0 = 0) ∧ l.getD k 0 ≠ 0 := by
  have hk : k < l.length := by
    rcases Nat.lt_or_ge k l.length with hk | hk
    · exact hk
    · exfalso
      have h1 := h.lt_of_len hk
      have h2 : 1 ≤ T := by
        rcases Nat.eq_zero_or_pos T with h0 | h0
        · subst h0; exact absurd rfl hz.2
        · exact h0
      have h3 : 10 ^ k ≤ N := by rw [hz.1]; exact Nat.le_mul_of_pos_left _ h2
      omega
  have hd : ∀ j, j < l.length → l.getD j 0 = ((N / 10 ^ j % 10 : Nat) : Int) := fun j hj => by
    rw [dval_digit h.1 j hj, h.2.2, Int.natCast_emod, Int.natCast_ediv, Int.natCast_pow]; rfl
  refine ⟨hk, fun j hj => by rw [hd j (by omega), hz.mod_lt hj]; rfl, ?_⟩
  rw [hd k hk, hz.mod_eq]
  have := hz.2
  omega
theorem sl_drop {w : World} {g o t c : Nat} {xs : List Int} (h : Sl w (some ⟨g, o, none⟩) xs) (ht : t < xs.length) (hc : xs.length ≤ c) : IsSl w (.slice (some ⟨g, o + t, none⟩) (xs.length - t) (c - t)) (xs.drop t) := by
  refine ⟨_, _, by rw [List.length_drop], by rw [List.length_drop]; omega, fun _ => ?_⟩
  obtain ⟨g', o', cs, e, hb, hcs⟩ := h (by intro e; subst e; simp at ht)
  injection e with e
  injection e with e1 e2
  subst e1 e2
  refine ⟨g, o + t, cs, rfl, hb, fun j hj => ?_⟩
  rw [List.length_drop] at hj
  rw [Nat.add_assoc, hcs (t + j) (by omega), getD_lt _ _ (by omega), getD_lt _ _ (by rw [List.length_drop]; omega), List.getElem_drop]
end Go.Proofs.Ythkgjodidkpaeaa

set_option linter.unusedSimpArgs false
set_option linter.unusedVariables false
namespace Go.Proofs.Ythkgjodidkpaeaa
open Go.RowKit
theorem wp_named {F : World → Prop} {w : World} (R : World → Prop) (hR : R w) (h : ∀ W, R W → F W) : F w := h w hR
theorem calls_named {P : Program} {f : FuncId} {args : Array Value} {K : Ending → World → Prop} {w : World} (R : World → Prop) (hR : R w) (h : ∀ W, R W → Calls P f args W K) : Calls P f args w K := h w hR
end Go.Proofs.Ythkgjodidkpaeaa
