/- The contracts of the functions that the law reaches, part 1: what each returns and what becomes of memory. -/
import Derived.Test.YthkgjodidkpaeaaRows
import Derived.WalkKit
import Derived.WalkSpells
import Derived.WalkLawsBesides
import Derived.Handy
import Derived.Lib.Hide
import Derived.BigQuiet
import Derived.Deep.QuietTactic
import Derived.Deep.LoopGhost
import Derived.Deep.RegionHeld3
import Init.Omega
import Derived.Test.YthkgjodidkpaeaaSh
import Derived.Shelf.Spec.BitsCarry
import Derived.ChangeKeysEq
import Derived.IntWalk
set_option linter.unusedSimpArgs false
set_option linter.unusedVariables false
namespace Go.Proofs.Ythkgjodidkpaeaa
open Go.RowKit

theorem bcell {W w1 : World} (hb : Below W.heap.size W w1) : (∀ b o, b < W.heap.size → w1.cell? ⟨b, o, none⟩ = W.cell? ⟨b, o, none⟩) ∧ (∀ b o, b < W.heap.size → w1.frozen? ⟨b, o, none⟩ = W.frozen? ⟨b, o, none⟩) :=
  ⟨fun b o h => hb.cell (p := ⟨b, o, none⟩) h, fun b o h => hb.frozen (p := ⟨b, o, none⟩) h⟩
theorem ret_int {k : IntKind} {a b : Int} (h : a = b) : Ending.returned (.int k a) = .returned (.int k b) := by rw [h]
theorem ret_bool {a b : Bool} (h : a = b) : Ending.returned (.bool a) = .returned (.bool b) := by rw [h]
theorem below_drewN {B : Nat} {a w : World} (h : Below B a w) (n : Nat) : Below B a (w.drewN n) := ⟨h.os, h.tape, h.output, h.size, h.block⟩

theorem quiet_add {P : Program} {f : FuncId} {args : Array Value} {w : World} {a n : Nat} {v : Value}
    (h : Calls P f args (w.drewN (a + n)) fun e w' => e = .returned v ∧ ∃ m, w' = (w.drewN (a + n)).drewN m) :
    Calls P f args (w.drewN (a + n)) fun e w' => e = .returned v ∧ ∃ m, w' = w.drewN (a + m) :=
  h.mono fun _ _ ⟨he, m, hm⟩ => ⟨he, n + m, by rw [hm, World.drewN_drewN, Nat.add_assoc]⟩

/-- a fact that no tactic looks into: the walk's own 'contradiction' unfolds what 'Hid' hides (powers!), but not this -/
def Far (p : Prop) : Prop := True → p
theorem Far.mk {p : Prop} (h : p) : Far p := fun _ => h
theorem Far.out {p : Prop} (h : Far p) : p := h trivial

/-- Block g holds just the cells cs of type t, none of them frozen. -/
def Bk (w : World) (g : Nat) (t : TypeId) (cs : List Value) : Prop := w.heap[g]? = some (.cells cs.toArray t (0, 0))
section
variable {w w' : World} {g : Nat} {t : TypeId} {cs : List Value}
theorem Bk.lt (h : Bk w g t cs) : g < w.heap.size := by
  rcases Nat.lt_or_ge g w.heap.size with hlt | hge
  · exact hlt
  · unfold Bk at h; rw [Array.getElem?_eq_none hge] at h; cases h
theorem Bk.cell (h : Bk w g t cs) (i : Nat) {v : Value} (hv : cs[i]? = some v) : w.cell? ⟨g, i, none⟩ = some v := by
  rw [cell_of_row w g i cs.toArray t (0, 0) h, ← hv]; simp
theorem Bk.frozen (h : Bk w g t cs) (i : Nat) : w.frozen? ⟨g, i, none⟩ = false := by
  unfold Bk at h
  simp [World.frozen?, h]
theorem Bk.new (w : World) (t : TypeId) (cs : List Value) : Bk (w.alloc (.cells cs.toArray t)) w.heap.size t cs := heap_alloc_new w _
theorem Bk.new_ {w : World} {t : TypeId} {cs : List Value} {g : Nat} (hg : g = w.heap.size) : Bk (w.alloc (.cells cs.toArray t)) g t cs := by subst hg; exact Bk.new w t cs
theorem Bk.drew (h : Bk w g t cs) : Bk w.drew g t cs := h
theorem Bk.drewN (h : Bk w g t cs) (n : Nat) : Bk (w.drewN n) g t cs := h
theorem Bk.alloc (h : Bk w g t cs) (o : Obj) : Bk (w.alloc o) g t cs := (Below.heap_alloc w o g h.lt).trans h
theorem Bk.set_ (h : Bk w g t cs) (i : Nat) (u : Value) : Bk (w.setCell ⟨g, i, none⟩ u) g t (cs.set i u) := by
  unfold Bk at h ⊢
  simp [World.setCell, Array.getElem?_modify, h]
theorem Bk.far (h : Bk w g t cs) {p : Addr} (hp : g ≠ p.block) (u : Value) : Bk (w.setCell p u) g t cs := (Below.heap_setCell w p u g hp).trans h
theorem Bk.below {B : Nat} (h : Bk w g t cs) (hb : Below B w w') (hg : g < B) : Bk w' g t cs := (hb.block g hg).trans h
end
end Go.Proofs.Ythkgjodidkpaeaa

set_option linter.unusedSimpArgs false
set_option linter.unusedVariables false
namespace Go.Proofs.Ythkgjodidkpaeaa

/-- the i-th word of n -/
def wd (n : Nat) (i : Nat) : Int := ((n / 2 ^ (64 * i) % 2 ^ 64 : Nat) : Int)
theorem wd_nn (n i : Nat) : 0 ≤ wd n i := by unfold wd; omega
theorem wd_lt (n i : Nat) : wd n i < 18446744073709551616 := by
  unfold wd
  have := Nat.mod_lt (n / 2 ^ (64 * i)) (show 0 < 2 ^ 64 by decide)
  omega
theorem wd0 (n : Nat) : wd n 0 = ((n % 18446744073709551616 : Nat) : Int) := by unfold wd; simp
theorem wd1 (n : Nat) : wd n 1 = ((n / 18446744073709551616 % 18446744073709551616 : Nat) : Int) := by unfold wd; rfl
theorem wd2 (n : Nat) : wd n 2 = ((n / 340282366920938463463374607431768211456 % 18446744073709551616 : Nat) : Int) := by unfold wd; rfl
theorem wd3 (n : Nat) : wd n 3 = ((n / 6277101735386680763835789423207666416102355444464034512896 % 18446744073709551616 : Nat) : Int) := by unfold wd; rfl
/-- two words are a number below 2^128, and the other way round -/
theorem wd_two {n : Nat} (h : n < 2 ^ 128) : wd n 1 * 18446744073709551616 + wd n 0 = (n : Int) := by
  rw [wd0, wd1]; omega
theorem wd_make (x y : Int) (hx0 : 0 ≤ x) (hx : x < 18446744073709551616) (hy0 : 0 ≤ y) (hy : y < 18446744073709551616) :
    ∃ n : Nat, n < 2 ^ 128 ∧ (n : Int) = x * 18446744073709551616 + y ∧ x = wd n 1 ∧ y = wd n 0 := by
  refine ⟨(x * 18446744073709551616 + y).toNat, by omega, by omega, ?_, ?_⟩
  · rw [wd1]; omega
  · rw [wd0]; omega
theorem wd_of (n : Nat) (x y : Int) (hx0 : 0 ≤ x) (hx : x < 18446744073709551616) (hy0 : 0 ≤ y) (hy : y < 18446744073709551616) (h : (n : Int) = x * 18446744073709551616 + y) : x = wd n 1 ∧ y = wd n 0 := by
  refine ⟨?_, ?_⟩
  · rw [wd1]; omega
  · rw [wd0]; omega
theorem wd_four {n : Nat} (h : n < 2 ^ 256) : wd n 3 * 6277101735386680763835789423207666416102355444464034512896 + wd n 2 * 340282366920938463463374607431768211456 + wd n 1 * 18446744073709551616 + wd n 0 = (n : Int) := by
  rw [wd0, wd1, wd2, wd3]; omega
theorem wd_of4 (n : Nat) (a b c d : Int) (ha0 : 0 ≤ a) (ha : a < 18446744073709551616) (hb0 : 0 ≤ b) (hb : b < 18446744073709551616) (hc0 : 0 ≤ c) (hc : c < 18446744073709551616) (hd0 : 0 ≤ d) (hd : d < 18446744073709551616)
    (h : (n : Int) = d * 6277101735386680763835789423207666416102355444464034512896 + c * 340282366920938463463374607431768211456 + b * 18446744073709551616 + a) : a = wd n 0 ∧ b = wd n 1 ∧ c = wd n 2 ∧ d = wd n 3 := by
  refine ⟨?_, ?_, ?_, ?_⟩
  · rw [wd0]; omega
  · rw [wd1]; omega
  · rw [wd2]; omega
  · rw [wd3]; omega
theorem wd_make4 (a b c d : Int) (ha0 : 0 ≤ a) (ha : a < 18446744073709551616) (hb0 : 0 ≤ b) (hb : b < 18446744073709551616) (hc0 : 0 ≤ c) (hc : c < 18446744073709551616) (hd0 : 0 ≤ d) (hd : d < 18446744073709551616) :
    ∃ n : Nat, n < 2 ^ 256 ∧ a = wd n 0 ∧ b = wd n 1 ∧ c = wd n 2 ∧ d = wd n 3 :=
  ⟨(d * 6277101735386680763835789423207666416102355444464034512896 + c * 340282366920938463463374607431768211456 + b * 18446744073709551616 + a).toNat, by omega,
    wd_of4 _ a b c d ha0 ha hb0 hb hc0 hc hd0 hd (by omega)⟩
theorem wd_zero (i : Nat) : wd 0 i = 0 := by unfold wd; simp
/-- equal words, equal numbers -/
theorem wd_inj {n m : Nat} (hn : n < 2 ^ 128) (hm : m < 2 ^ 128) (h1 : wd n 1 = wd m 1) (h0 : wd n 0 = wd m 0) : n = m := by
  have := wd_two hn
  have := wd_two hm
  omega
theorem wd_eq_iff {n m : Nat} (hn : n < 2 ^ 128) (hm : m < 2 ^ 128) : ((wd n 1 == wd m 1) && (wd n 0 == wd m 0)) = decide (n = m) := by
  rw [Bool.eq_iff_iff]
  simp only [Bool.and_eq_true, beq_iff_eq, decide_eq_true_eq]
  constructor
  · rintro ⟨h1, h0⟩; exact wd_inj hn hm h1 h0
  · rintro rfl; exact ⟨rfl, rfl⟩
theorem wd_low4 {n : Nat} (hn : n < 2 ^ 256) : (wd n 2 = 0 ∧ wd n 3 = 0) ↔ n < 2 ^ 128 := by
  have h := wd_four hn
  have a0 := wd_nn n 0
  have a1 := wd_lt n 0
  have b0 := wd_nn n 1
  have b1 := wd_lt n 1
  have c0 := wd_nn n 2
  have d0 := wd_nn n 3
  constructor
  · rintro ⟨h2, h3⟩; rw [h2, h3] at h; omega
  · intro hlt; constructor <;> omega
end Go.Proofs.Ythkgjodidkpaeaa

set_option linter.unusedSimpArgs false
set_option linter.unusedVariables false
namespace Go.Proofs.Ythkgjodidkpaeaa
open Go.RowKit

/-- a word and a carry: s + 2^64 k is t -/
def Carry (s k t : Int) : Prop := s + 18446744073709551616 * k = t ∧ 0 ≤ s ∧ s < 18446744073709551616 ∧ 0 ≤ k ∧ k ≤ 1
theorem add64_ex (x y c : Int) (hx0 : 0 ≤ x) (hx : x < 18446744073709551616) (hy0 : 0 ≤ y) (hy : y < 18446744073709551616) (hc0 : 0 ≤ c) (hc : c ≤ 1) :
    ∃ s k : Int, (∀ W : World, (callFunc 86 #[.int .u64 x, .int .u64 y, .int .u64 c]).run Try.prog W = .ok (.value (.tuple #[.int .u64 s, .int .u64 k])) W) ∧ Carry s k (x + y + c) := by
  refine ⟨(x + y + c) % 18446744073709551616, (x + y + c) / 18446744073709551616, fun W => ?_, ?_⟩
  · rw [run_callFunc_extern Try.func86 (by kernel_rfl) (by kernel_rfl) (by kernel_rfl) (e := add64Entry) (by kernel_rfl), run_add64 x y c hx0 hy0 hc0 hc]
    rfl
  · unfold Carry; omega
/-- a difference and a borrow: s - 2^64 k is t -/
def Borrow (s k t : Int) : Prop := s - 18446744073709551616 * k = t ∧ 0 ≤ s ∧ s < 18446744073709551616 ∧ 0 ≤ k ∧ k ≤ 1
theorem sub64_ex (x y c : Int) (hx0 : 0 ≤ x) (hx : x < 18446744073709551616) (hy0 : 0 ≤ y) (hy : y < 18446744073709551616) (hc0 : 0 ≤ c) (hc : c ≤ 1) :
    ∃ s k : Int, (∀ W : World, (callFunc 87 #[.int .u64 x, .int .u64 y, .int .u64 c]).run Try.prog W = .ok (.value (.tuple #[.int .u64 s, .int .u64 k])) W) ∧ Borrow s k (x - y - c) := by
  obtain ⟨x, rfl⟩ := Int.eq_ofNat_of_zero_le hx0
  obtain ⟨y, rfl⟩ := Int.eq_ofNat_of_zero_le hy0
  obtain ⟨c, rfl⟩ := Int.eq_ofNat_of_zero_le hc0
  refine ⟨(((x + 18446744073709551616 - y - c) % 18446744073709551616 : Nat) : Int), ((if x < y + c then 1 else 0 : Nat) : Int), fun W => ?_, ?_⟩
  · rw [run_callFunc_extern Try.func87 (by kernel_rfl) (by kernel_rfl) (by kernel_rfl) (e := sub64Entry) (by kernel_rfl), run_sub64 x y c (by omega)]
    rfl
  · unfold Borrow; split <;> omega
/-- a product's two words -/
def Two (h l t : Int) : Prop := h * 18446744073709551616 + l = t ∧ 0 ≤ h ∧ h < 18446744073709551616 ∧ 0 ≤ l ∧ l < 18446744073709551616
theorem mul64_ex (x y : Int) (hx0 : 0 ≤ x) (hx : x < 18446744073709551616) (hy0 : 0 ≤ y) (hy : y < 18446744073709551616) :
    ∃ h l : Int, (∀ w : World, Calls Try.prog 96 #[.int .u64 x, .int .u64 y] w fun e w' => e = .returned (.tuple #[.int .u64 h, .int .u64 l]) ∧ ∃ nn, w' = w.drewN nn) ∧ Two h l (x * y) := by
  obtain ⟨x, rfl⟩ := Int.eq_ofNat_of_zero_le hx0
  obtain ⟨y, rfl⟩ := Int.eq_ofNat_of_zero_le hy0
  refine ⟨((x * y / 18446744073709551616 : Nat) : Int), ((x * y % 18446744073709551616 : Nat) : Int), fun w => (Try.bits_Mul64 x y (by omega) (by omega) w).mono fun e w' h => ⟨h.1, 0, h.2⟩, ?_⟩
  have hlt : x * y < 340282366920938463463374607431768211456 := by
    have h1 : x * y ≤ 18446744073709551615 * 18446744073709551615 := Nat.mul_le_mul (by omega) (by omega)
    omega
  unfold Two
  rw [← Int.natCast_mul]
  generalize x * y = p at *
  omega
end Go.Proofs.Ythkgjodidkpaeaa

set_option linter.unusedSimpArgs false
set_option linter.unusedVariables false
namespace Go.Proofs.Ythkgjodidkpaeaa
open Go.RowKit

theorem lz10 (w : World) : Calls Try.prog 102 #[.int .u64 10] w fun e w' => e = .returned (.int .i64 60) ∧ ∃ nn, w' = w.drewN nn :=
  (Try.bits_LeadingZeros64 10 w (by decide) (by decide)).mono fun e w' h => ⟨by rw [h.1]; rfl, 0, h.2⟩

theorem or_gen (i a b : Nat) (hb : b < 2 ^ i) : a * 2 ^ i ||| b = a * 2 ^ i + b := by
  rw [Nat.mul_comm]; exact (Nat.two_pow_add_eq_or_of_lt hb a).symm
theorem or_sum (x b : Nat) (hx : x < 18446744073709551616) (hb : b < 18446744073709551616) (h : x ||| b = x + b) : bits .or .u64 (x : Int) (b : Int) = (x : Int) + b := by
  rw [bits_or_u64_nat x b hx hb, h]; omega
theorem or_top (h l : Int) (h0 : 0 ≤ h) (h9 : h ≤ 9) (l0 : 0 ≤ l) (l1 : l < 18446744073709551616) : bits .or .u64 (h * 1152921504606846976) (l / 16) = h * 1152921504606846976 + l / 16 := by
  obtain ⟨a, rfl⟩ := Int.eq_ofNat_of_zero_le h0
  obtain ⟨b, rfl⟩ := Int.eq_ofNat_of_zero_le l0
  obtain ⟨x, hx⟩ : ∃ x : Nat, (x : Int) = (a : Int) * 1152921504606846976 := ⟨((a : Int) * 1152921504606846976).toNat, by omega⟩
  have e : ((b / 16 : Nat) : Int) = (b : Int) / 16 := by omega
  have h2 : x ||| b / 16 = x + b / 16 := by
    have h3 := or_gen 60 a (b / 16) (by omega)
    have h4 : a * 2 ^ 60 = x := by omega
    rw [h4] at h3; exact h3
  rw [← hx, ← e]
  exact or_sum x (b / 16) (by omega) (by omega) h2
theorem and_low (z : Int) (k : Int) (hz : z = k * 1152921504606846976) (h0 : 0 ≤ k) (h1 : k < 16) : bits .and .u64 z 4294967295 = 0 := by
  rw [and_low32 z (by omega) (by omega)]; omega
/-- a number of two words by ten -/
def Ten (q r t : Int) : Prop := 10 * q + r = t ∧ 0 ≤ q ∧ q < 18446744073709551616 ∧ 0 ≤ r ∧ r ≤ 9
theorem ten_last (h l u q r s p t : Int) (hu : u = h * 1152921504606846976 + l / 16) (hq : u = q * 2684354560 + r) (hr0 : 0 ≤ r) (hr : r < 2684354560)
    (hs : s = r * 4294967296 + l % 16 * 268435456) (hp : s = p * 2684354560 + t) (ht0 : 0 ≤ t) (ht : t < 2684354560) (h9 : h ≤ 9) (h0 : 0 ≤ h) (l0 : 0 ≤ l) (l1 : l < 18446744073709551616) :
    Ten (q * 4294967296 + p) (t / 268435456) (h * 18446744073709551616 + l) := by
  unfold Ten; omega

set_option maxHeartbeats 1000000 in
theorem div10_big (h l : Int) (h0 : 1 ≤ h) (h9 : h ≤ 9) (l0 : 0 ≤ l) (l1 : l < 18446744073709551616) :
    ∃ q r : Int, (∀ w : World, Calls Try.prog 100 #[.int .u64 h, .int .u64 l, .int .u64 10] w fun e w' => e = .returned (.tuple #[.int .u64 q, .int .u64 r]) ∧ ∃ nn, w' = w.drewN nn) ∧ Ten q r (h * 18446744073709551616 + l) := by
  have g1 : (h == 0) = false := by simp; omega
  obtain ⟨u, hu⟩ : ∃ u, u = h * 1152921504606846976 + l / 16 := ⟨_, rfl⟩
  obtain ⟨q, hq⟩ : ∃ q, q = u / 2684354560 := ⟨_, rfl⟩
  obtain ⟨r, hr⟩ : ∃ r, r = u % 2684354560 := ⟨_, rfl⟩
  obtain ⟨s, hs⟩ : ∃ s, s = r * 4294967296 + l % 16 * 268435456 := ⟨_, rfl⟩
  obtain ⟨p, hp⟩ : ∃ p, p = s / 2684354560 := ⟨_, rfl⟩
  obtain ⟨t, ht⟩ : ∃ t, t = s % 2684354560 := ⟨_, rfl⟩
  refine ⟨q * 4294967296 + p, t / 268435456, fun w => ?_, ten_last h l u q r s p t hu (by omega) (by omega) (by omega) hs (by omega) (by omega) (by omega) h9 (by omega) l0 l1⟩
  have E10 : bits .and .u64 11529215046068469760 4294967295 = 0 := by decide
  have E11 := or_top h l (by omega) h9 l0 l1
  rw [← hu] at E11
  have E12 : IntKind.u64.wrap (l * 1152921504606846976) = l % 16 * 1152921504606846976 := by rw [IntKind.wrap_u64]; omega
  have E13 : l % 16 * 1152921504606846976 / 4294967296 = l % 16 * 268435456 := by omega
  have E14 : bits .and .u64 (l % 16 * 1152921504606846976) 4294967295 = 0 := and_low _ (l % 16) rfl (by omega) (by omega)
  have E15 : IntKind.u64.wrap (u.tdiv 2684354560) = q := by rw [IntKind.wrap_u64, Int.tdiv_eq_ediv_of_nonneg (by omega)]; omega
  have E16 : IntKind.u64.wrap (u - IntKind.u64.wrap (q * 2684354560)) = r := by rw [IntKind.wrap_u64, IntKind.wrap_u64]; omega
  have E21 : IntKind.u64.wrap (IntKind.u64.wrap (IntKind.u64.wrap (u * 4294967296) + l % 16 * 268435456) - IntKind.u64.wrap (q * 11529215046068469760)) = s := by simp only [IntKind.wrap_u64]; omega
  have E22 : IntKind.u64.wrap (s.tdiv 2684354560) = p := by rw [IntKind.wrap_u64, Int.tdiv_eq_ediv_of_nonneg (by omega)]; omega
  have E23 : IntKind.u64.wrap (s - IntKind.u64.wrap (p * 2684354560)) = t := by simp only [IntKind.wrap_u64]; omega
  have E24 : IntKind.u64.wrap (IntKind.u64.wrap (IntKind.u64.wrap (s * 4294967296)) - IntKind.u64.wrap (p * 11529215046068469760)) / 1152921504606846976 = t / 268435456 := by simp only [IntKind.wrap_u64]; omega
  have J4 := Lib.hid E24
  have J1 := Lib.hid E21
  have J2 := Lib.hid E22
  have J3 := Lib.hid E23
  clear E21 E22 E23 E24
  have q0 : 0 ≤ q := by omega
  have q1 : q < 4294967296 := by omega
  have r0 : 0 ≤ r := by omega
  have r1 : r < 2684354560 := by omega
  have s0 : 0 ≤ s := by omega
  have s1 : s < 11529215046068469760 := by omega
  have p0 : 0 ≤ p := by omega
  have p1 : p < 4294967296 := by omega
  have t0 : 0 ≤ t := by omega
  have t1 : t < 2684354560 := by omega
  have m0 : 0 ≤ l % 16 * 268435456 := by omega
  have m1 : l % 16 * 268435456 < 4294967296 := by omega
  have H1 := Lib.hid E10
  have H2 := Lib.hid E11
  have H3 := Lib.hid E12
  have H4 := Lib.hid E13
  have H5 := Lib.hid E14
  have H6 := Lib.hid E15
  have H7 := Lib.hid E16
  have G1 := Lib.hid hu
  have G2 := Lib.hid hq
  have G3 := Lib.hid hr
  have G4 := Lib.hid hs
  have G5 := Lib.hid hp
  have G6 := Lib.hid ht
  clear E10 E11 E12 E13 E14 E15 E16 hu hq hr hs hp ht
  go_enter Try.func100, Try.ntmps100
  go_wp2_with ((go_at_call 102; with_reducible refine (lz10 _).mono ?_); rintro _ _ ⟨rfl, n1, rfl⟩)
  rw [H1.out, H2.out, H3.out, H4.out, H5.out, H6.out, H7.out]
  refine wp_loop_rounds 1 ?_
  rw [rounds_succ]
  go_wp2
  rw [J1.out, J2.out, J3.out]
  refine wp_loop_rounds 1 ?_
  rw [rounds_succ]
  go_wp2
  go_ret2
  refine ⟨?_, _, rfl⟩
  show Ending.returned (.tuple #[.int .u64 _, .int .u64 _]) = _
  rw [J4.out]
set_option maxHeartbeats 1000000 in
theorem div10_small (l : Int) (l0 : 0 ≤ l) (l1 : l < 18446744073709551616) (w : World) :
    Calls Try.prog 100 #[.int .u64 0, .int .u64 l, .int .u64 10] w fun e w' => e = .returned (.tuple #[.int .u64 (l / 10), .int .u64 (l % 10)]) ∧ ∃ nn, w' = w.drewN nn := by
  go_enter Try.func100, Try.ntmps100
  go_wp2_with fail
  go_quiet (fail)
  go_wp2_with fail
  go_ret2
  exact ⟨rfl, _, rfl⟩
theorem div10_ex (h l : Int) (h0 : 0 ≤ h) (h9 : h ≤ 9) (l0 : 0 ≤ l) (l1 : l < 18446744073709551616) :
    ∃ q r : Int, (∀ w : World, Calls Try.prog 100 #[.int .u64 h, .int .u64 l, .int .u64 10] w fun e w' => e = .returned (.tuple #[.int .u64 q, .int .u64 r]) ∧ ∃ nn, w' = w.drewN nn) ∧ Ten q r (h * 18446744073709551616 + l) := by
  by_cases hz : h = 0
  · subst hz
    exact ⟨_, _, div10_small l l0 l1, by unfold Ten; omega⟩
  · exact div10_big h l (by omega) h9 l0 l1
end Go.Proofs.Ythkgjodidkpaeaa

set_option linter.unusedSimpArgs false
set_option linter.unusedVariables false
namespace Go.Proofs.Ythkgjodidkpaeaa
open Go.RowKit

def cmpI (a b c d : Int) : Int := if a = c ∧ b = d then 0 else if a < c ∨ (a = c ∧ b < d) then -1 else 1
/-- -1, 0, 1: below, equal, above -/
def cmpN (n m : Nat) : Int := if n = m then 0 else if n < m then -1 else 1
theorem cmp_eq (n m : Nat) (hn : n < 2 ^ 128) (hm : m < 2 ^ 128) : cmpI (wd n 1) (wd n 0) (wd m 1) (wd m 0) = cmpN n m := by
  have h1 := wd_two hn
  have h2 := wd_two hm
  have h3 := wd_nn n 0
  have h4 := wd_lt n 0
  have h5 := wd_nn m 0
  have h6 := wd_lt m 0
  unfold cmpI cmpN
  split <;> split <;> (try split) <;> (try split) <;> omega
set_option maxHeartbeats 1000000 in
theorem cmp_int (a b c d : Int) (w : World) : Calls Try.prog 54 #[.agg #[.int .u64 a, .int .u64 b], .agg #[.int .u64 c, .int .u64 d]] w fun e w' => e = .returned (.int .i64 (cmpI a b c d)) ∧ Below w.heap.size w w' := by
  go_enter Try.func54, Try.ntmps54
  go_wp2
  all_goals go_ret
  all_goals refine ⟨?_, by (repeat' (first | (with_reducible exact Below.refl _ _) | (with_reducible assumption) | (with_reducible refine Below.drew ?_) | (with_reducible refine below_drewN ?_ _) | ((with_reducible refine Below.alloc ?_ ?_ _); rotate_left; focus (go_size; done)) | ((with_reducible refine Below.setCell ?_ ?_ _); rotate_left; focus (go_size; done)) | ((with_reducible refine Below.trans ?_ (Below.mono (by with_reducible assumption) ?_)); rotate_left; focus (go_size; done))))⟩
  all_goals simp [cmpI]
  all_goals (first | done | omega | (simp_all; done) | (simp_all; omega))
theorem cmp_any (n m : Nat) (hn : n < 2 ^ 128) (hm : m < 2 ^ 128) (w : World) : Calls Try.prog 54 #[.agg #[.int .u64 (wd n 1), .int .u64 (wd n 0)], .agg #[.int .u64 (wd m 1), .int .u64 (wd m 0)]] w fun e w' => e = .returned (.int .i64 (cmpN n m)) ∧ Below w.heap.size w w' := by
  rw [← cmp_eq n m hn hm]
  exact cmp_int _ _ _ _ w

def over (n : Nat) : Int := if n < 2 ^ 128 then 0 else 3
def fitW (n : Nat) : Nat := if n < 2 ^ 128 then n else 0
set_option maxHeartbeats 1000000 in
theorem add_any (n m : Nat) (hn : n < 2 ^ 128) (hm : m < 2 ^ 128) (w : World) : Calls Try.prog 95 #[.agg #[.int .u64 (wd n 1), .int .u64 (wd n 0)], .agg #[.int .u64 (wd m 1), .int .u64 (wd m 0)]] w fun e w' => e = .returned (.tuple #[.agg #[.int .u64 (wd (fitW (n + m)) 1), .int .u64 (wd (fitW (n + m)) 0)], .int .i64 (over (n + m))]) ∧ Below w.heap.size w w' := by
  have h1 := wd_two hn
  have h2 := wd_two hm
  have a0 := wd_nn n 0
  have a1 := wd_lt n 0
  have b0 := wd_nn n 1
  have b1 := wd_lt n 1
  have c0 := wd_nn m 0
  have c1 := wd_lt m 0
  have d0 := wd_nn m 1
  have d1 := wd_lt m 1
  obtain ⟨s, k, f1, H1⟩ := add64_ex (wd n 0) (wd m 0) 0 a0 a1 c0 c1 (by decide) (by decide)
  have H1' := H1
  unfold Carry at H1'
  obtain ⟨t, j, f2, H2⟩ := add64_ex (wd n 1) (wd m 1) k b0 b1 d0 d1 H1'.2.2.2.1 H1'.2.2.2.2
  have H2' := H2
  unfold Carry at H2'
  by_cases hj : j = 0
  · subst hj
    have e0 : n + m < 2 ^ 128 := by omega
    have e1 : over (n + m) = 0 := by unfold over; rw [if_pos e0]
    have e2 : fitW (n + m) = n + m := by unfold fitW; rw [if_pos e0]
    obtain ⟨e3, e4⟩ := wd_of (n + m) t s (by omega) (by omega) (by omega) (by omega) (by omega)
    rw [e1, e2, ← e3, ← e4]
    clear e0 e1 e2 e3 e4 H1 H2 H1' H2' h1 h2
    generalize wd n 0 = x0 at *
    generalize wd n 1 = x1 at *
    generalize wd m 0 = y0 at *
    generalize wd m 1 = y1 at *
    go_enter Try.func95, Try.ntmps95
    go_wp2
    refine bodyPost_ret (by simp [results, Try.results95, go_sem, *]; try rfl) rfl ?_
    exact ⟨rfl, by (repeat' (first | (with_reducible exact Below.refl _ _) | (with_reducible assumption) | (with_reducible refine Below.drew ?_) | (with_reducible refine below_drewN ?_ _) | ((with_reducible refine Below.alloc ?_ ?_ _); rotate_left; focus (go_size; done)) | ((with_reducible refine Below.setCell ?_ ?_ _); rotate_left; focus (go_size; done)) | ((with_reducible refine Below.trans ?_ (Below.mono (by with_reducible assumption) ?_)); rotate_left; focus (go_size; done))))⟩
  · have hj1 : j = 1 := by omega
    subst hj1
    have e0 : ¬ n + m < 2 ^ 128 := by omega
    have e1 : over (n + m) = 3 := by unfold over; rw [if_neg e0]
    have e2 : fitW (n + m) = 0 := by unfold fitW; rw [if_neg e0]
    rw [e1, e2, wd_zero, wd_zero]
    clear e0 e1 e2 H1 H2 H1' H2' h1 h2 hj
    generalize wd n 0 = x0 at *
    generalize wd n 1 = x1 at *
    generalize wd m 0 = y0 at *
    generalize wd m 1 = y1 at *
    go_enter Try.func95, Try.ntmps95
    go_wp2
    refine bodyPost_ret (by simp [results, Try.results95, go_sem, *]; try rfl) rfl ?_
    exact ⟨rfl, by (repeat' (first | (with_reducible exact Below.refl _ _) | (with_reducible assumption) | (with_reducible refine Below.drew ?_) | (with_reducible refine below_drewN ?_ _) | ((with_reducible refine Below.alloc ?_ ?_ _); rotate_left; focus (go_size; done)) | ((with_reducible refine Below.setCell ?_ ?_ _); rotate_left; focus (go_size; done)) | ((with_reducible refine Below.trans ?_ (Below.mono (by with_reducible assumption) ?_)); rotate_left; focus (go_size; done))))⟩

def under (n m : Nat) : Int := if n < m then 3 else 0
def lessW (n m : Nat) : Nat := if n < m then n + 2 ^ 128 - m else n - m
def borrowW (n m : Nat) : Int := if n < m then 1 else 0
set_option maxHeartbeats 1000000 in
theorem less_any (n m : Nat) (hn : n < 2 ^ 128) (hm : m < 2 ^ 128) (w : World) : Calls Try.prog 97 #[.agg #[.int .u64 (wd n 1), .int .u64 (wd n 0)], .agg #[.int .u64 (wd m 1), .int .u64 (wd m 0)]] w fun e w' => e = .returned (.tuple #[.agg #[.int .u64 (wd (lessW n m) 1), .int .u64 (wd (lessW n m) 0)], .int .u64 (borrowW n m)]) ∧ Below w.heap.size w w' := by
  have h1 := wd_two hn
  have h2 := wd_two hm
  have a0 := wd_nn n 0
  have a1 := wd_lt n 0
  have b0 := wd_nn n 1
  have b1 := wd_lt n 1
  have c0 := wd_nn m 0
  have c1 := wd_lt m 0
  have d0 := wd_nn m 1
  have d1 := wd_lt m 1
  obtain ⟨s, k, f1, H1⟩ := sub64_ex (wd n 0) (wd m 0) 0 a0 a1 c0 c1 (by decide) (by decide)
  have H1' := H1
  unfold Borrow at H1'
  obtain ⟨t, j, f2, H2⟩ := sub64_ex (wd n 1) (wd m 1) k b0 b1 d0 d1 H1'.2.2.2.1 H1'.2.2.2.2
  have H2' := H2
  unfold Borrow at H2'
  have e1 : borrowW n m = j := by unfold borrowW; split <;> omega
  have e2 : (lessW n m : Int) = t * 18446744073709551616 + s := by unfold lessW; split <;> omega
  obtain ⟨e3, e4⟩ := wd_of (lessW n m) t s (by omega) (by omega) (by omega) (by omega) e2
  rw [e1, ← e3, ← e4]
  clear e1 e2 e3 e4 H1 H2 H1' H2' h1 h2
  generalize wd n 0 = x0 at *
  generalize wd n 1 = x1 at *
  generalize wd m 0 = y0 at *
  generalize wd m 1 = y1 at *
  go_enter Try.func97, Try.ntmps97
  go_wp2
  refine bodyPost_ret (by simp [results, Try.results97, go_sem, *]; try rfl) rfl ?_
  exact ⟨rfl, by (repeat' (first | (with_reducible exact Below.refl _ _) | (with_reducible assumption) | (with_reducible refine Below.drew ?_) | (with_reducible refine below_drewN ?_ _) | ((with_reducible refine Below.alloc ?_ ?_ _); rotate_left; focus (go_size; done)) | ((with_reducible refine Below.setCell ?_ ?_ _); rotate_left; focus (go_size; done)) | ((with_reducible refine Below.trans ?_ (Below.mono (by with_reducible assumption) ?_)); rotate_left; focus (go_size; done))))⟩
def subW (n m : Nat) : Nat := if n < m then 0 else n - m
set_option maxHeartbeats 1000000 in
theorem sub_any (n m : Nat) (hn : n < 2 ^ 128) (hm : m < 2 ^ 128) (w : World) : Calls Try.prog 80 #[.agg #[.int .u64 (wd n 1), .int .u64 (wd n 0)], .agg #[.int .u64 (wd m 1), .int .u64 (wd m 0)]] w fun e w' => e = .returned (.tuple #[.agg #[.int .u64 (wd (subW n m) 1), .int .u64 (wd (subW n m) 0)], .int .i64 (under n m)]) ∧ Below w.heap.size w w' := by
  have HL := Lib.hid (fun W => less_any n m hn hm W)
  by_cases h : n < m
  · have e1 : under n m = 3 := by unfold under; rw [if_pos h]
    have e2 : subW n m = 0 := by unfold subW; rw [if_pos h]
    have e3 : borrowW n m = 1 := by unfold borrowW; rw [if_pos h]
    rw [e1, e2, wd_zero, wd_zero]
    rw [e3] at HL
    clear e1 e2 e3 h hn hm
    go_enter Try.func80, Try.ntmps80
    go_wp2_with ((go_at_call 97; with_reducible refine (HL.out _).mono ?_); rintro _ w1 ⟨rfl, hb1⟩; have hb1s := hb1.size; (try simp only [World.size_alloc, World.size_setCell, World.size_drew, World.heap_drewN] at hb1s); obtain ⟨hb1c, hb1f⟩ := bcell hb1; (try have : w.heap.size < w1.heap.size := by omega); (try have : w.heap.size + 1 < w1.heap.size := by omega); (try have : w.heap.size + 1 + 1 < w1.heap.size := by omega); (try have : w.heap.size + 1 + 1 + 1 < w1.heap.size := by omega))
    refine bodyPost_ret (by simp [results, Try.results80, go_sem, *]; try rfl) rfl ?_
    exact ⟨rfl, by (repeat' (first | (with_reducible exact Below.refl _ _) | (with_reducible assumption) | (with_reducible refine Below.drew ?_) | (with_reducible refine below_drewN ?_ _) | ((with_reducible refine Below.alloc ?_ ?_ _); rotate_left; focus (go_size; done)) | ((with_reducible refine Below.setCell ?_ ?_ _); rotate_left; focus (go_size; done)) | ((with_reducible refine Below.trans ?_ (Below.mono (by with_reducible assumption) ?_)); rotate_left; focus (go_size; done))))⟩
  · have e1 : under n m = 0 := by unfold under; rw [if_neg h]
    have e2 : subW n m = lessW n m := by unfold subW lessW; rw [if_neg h, if_neg h]
    have e3 : borrowW n m = 0 := by unfold borrowW; rw [if_neg h]
    rw [e1, e2]
    rw [e3] at HL
    clear e1 e2 e3 h hn hm
    go_enter Try.func80, Try.ntmps80
    go_wp2_with ((go_at_call 97; with_reducible refine (HL.out _).mono ?_); rintro _ w1 ⟨rfl, hb1⟩; have hb1s := hb1.size; (try simp only [World.size_alloc, World.size_setCell, World.size_drew, World.heap_drewN] at hb1s); obtain ⟨hb1c, hb1f⟩ := bcell hb1; (try have : w.heap.size < w1.heap.size := by omega); (try have : w.heap.size + 1 < w1.heap.size := by omega); (try have : w.heap.size + 1 + 1 < w1.heap.size := by omega); (try have : w.heap.size + 1 + 1 + 1 < w1.heap.size := by omega))
    refine bodyPost_ret (by simp [results, Try.results80, go_sem, *]; try rfl) rfl ?_
    exact ⟨rfl, by (repeat' (first | (with_reducible exact Below.refl _ _) | (with_reducible assumption) | (with_reducible refine Below.drew ?_) | (with_reducible refine below_drewN ?_ _) | ((with_reducible refine Below.alloc ?_ ?_ _); rotate_left; focus (go_size; done)) | ((with_reducible refine Below.setCell ?_ ?_ _); rotate_left; focus (go_size; done)) | ((with_reducible refine Below.trans ?_ (Below.mono (by with_reducible assumption) ?_)); rotate_left; focus (go_size; done))))⟩
set_option maxHeartbeats 1000000 in
theorem narrow_any (n : Nat) (hn : n < 2 ^ 256) (w : World) : Calls Try.prog 94 #[.agg #[.int .u64 (wd n 0), .int .u64 (wd n 1), .int .u64 (wd n 2), .int .u64 (wd n 3)]] w fun e w' => e = .returned (.tuple #[.agg #[.int .u64 (wd (fitW n) 1), .int .u64 (wd (fitW n) 0)], .int .i64 (over n)]) ∧ Below w.heap.size w w' := by
  have hi := wd_low4 hn
  by_cases h : n < 2 ^ 128
  · have e1 : over n = 0 := by unfold over; rw [if_pos h]
    have e2 : fitW n = n := by unfold fitW; rw [if_pos h]
    obtain ⟨e3, e4⟩ := hi.2 h
    rw [e1, e2]
    have g3 : (wd n 2 == 0) = true := by simp [e3]
    have g4 : (wd n 3 == 0) = true := by simp [e4]
    have g5 : (wd n 2 != 0) = false := by simp [e3]
    have g6 : (wd n 3 != 0) = false := by simp [e4]
    clear e1 e2 e3 e4 hi h hn
    generalize wd n 0 = x0 at *
    generalize wd n 1 = x1 at *
    generalize wd n 2 = x2 at *
    generalize wd n 3 = x3 at *
    go_enter Try.func94, Try.ntmps94
    go_wp2
    refine bodyPost_ret (by simp [results, Try.results94, go_sem, *]; try rfl) rfl ?_
    exact ⟨rfl, by (repeat' (first | (with_reducible exact Below.refl _ _) | (with_reducible assumption) | (with_reducible refine Below.drew ?_) | (with_reducible refine below_drewN ?_ _) | ((with_reducible refine Below.alloc ?_ ?_ _); rotate_left; focus (go_size; done)) | ((with_reducible refine Below.setCell ?_ ?_ _); rotate_left; focus (go_size; done)) | ((with_reducible refine Below.trans ?_ (Below.mono (by with_reducible assumption) ?_)); rotate_left; focus (go_size; done))))⟩
  · have e1 : over n = 3 := by unfold over; rw [if_neg h]
    have e2 : fitW n = 0 := by unfold fitW; rw [if_neg h]
    rw [e1, e2, wd_zero, wd_zero]
    have hi' : ¬ (wd n 2 = 0 ∧ wd n 3 = 0) := fun x => h (hi.1 x)
    have H := Lib.hid hi'
    clear e1 e2 hi hi' h hn
    generalize wd n 0 = x0 at *
    generalize wd n 1 = x1 at *
    generalize wd n 2 = x2 at *
    generalize wd n 3 = x3 at *
    go_enter Try.func94, Try.ntmps94
    go_wp2
    all_goals first
      | (exfalso; have := H.out; simp_all; done)
      | (refine bodyPost_ret (by simp [results, Try.results94, go_sem, *]; try rfl) rfl ?_
         exact ⟨rfl, by (repeat' (first | (with_reducible exact Below.refl _ _) | (with_reducible assumption) | (with_reducible refine Below.drew ?_) | (with_reducible refine below_drewN ?_ _) | ((with_reducible refine Below.alloc ?_ ?_ _); rotate_left; focus (go_size; done)) | ((with_reducible refine Below.setCell ?_ ?_ _); rotate_left; focus (go_size; done)) | ((with_reducible refine Below.trans ?_ (Below.mono (by with_reducible assumption) ?_)); rotate_left; focus (go_size; done))))⟩)
set_option maxHeartbeats 2000000 in
theorem tenth_any (n : Nat) (hn : n < 2 ^ 256) (w : World) : Calls Try.prog 89 #[.agg #[.int .u64 (wd n 0), .int .u64 (wd n 1), .int .u64 (wd n 2), .int .u64 (wd n 3)]] w fun e w' => e = .returned (.tuple #[.agg #[.int .u64 (wd (n / 10) 0), .int .u64 (wd (n / 10) 1), .int .u64 (wd (n / 10) 2), .int .u64 (wd (n / 10) 3)], .int .u64 ((n % 10 : Nat) : Int)]) ∧ Below w.heap.size w w' := by
  have h := wd_four hn
  have a0 := wd_nn n 0
  have a1 := wd_lt n 0
  have b0 := wd_nn n 1
  have b1 := wd_lt n 1
  have c0 := wd_nn n 2
  have c1 := wd_lt n 2
  have d0 := wd_nn n 3
  have d1 := wd_lt n 3
  obtain ⟨q3, r3, f3, H3⟩ := div10_ex 0 (wd n 3) (by decide) (by decide) d0 d1
  have G3 := H3
  unfold Ten at G3
  obtain ⟨q2, r2, f2, H2⟩ := div10_ex r3 (wd n 2) (by omega) (by omega) c0 c1
  have G2 := H2
  unfold Ten at G2
  obtain ⟨q1, r1, f1, H1⟩ := div10_ex r2 (wd n 1) (by omega) (by omega) b0 b1
  have G1 := H1
  unfold Ten at G1
  obtain ⟨q0, r0, f0, H0⟩ := div10_ex r1 (wd n 0) (by omega) (by omega) a0 a1
  have G0 := H0
  unfold Ten at G0
  have e := wd_of4 (n / 10) q0 q1 q2 q3 (by omega) (by omega) (by omega) (by omega) (by omega) (by omega) (by omega) (by omega) (by omega)
  obtain ⟨e0, e1, e2, e3⟩ := e
  have er : ((n % 10 : Nat) : Int) = r0 := by omega
  rw [er, ← e0, ← e1, ← e2, ← e3]
  have F0 := Lib.hid f0
  have F1 := Lib.hid f1
  have F2 := Lib.hid f2
  have F3 := Lib.hid f3
  clear f0 f1 f2 f3 e0 e1 e2 e3 er H0 H1 H2 H3 G0 G1 G2 G3 h a0 a1 b0 b1 c0 c1 d0 d1 hn
  generalize wd n 0 = x0 at *
  generalize wd n 1 = x1 at *
  generalize wd n 2 = x2 at *
  generalize wd n 3 = x3 at *
  go_enter Try.func89, Try.ntmps89
  go_wp2_with fail
  refine wp_loop_rounds 5 ?_
  rw [rounds_succ]
  go_wp2_with ((go_at_call 100; with_reducible refine (F3.out _).mono ?_); rintro _ _ ⟨rfl, n1, rfl⟩)
  rw [rounds_succ]
  go_wp2_with ((go_at_call 100; with_reducible refine (F2.out _).mono ?_); rintro _ _ ⟨rfl, n2, rfl⟩)
  rw [rounds_succ]
  go_wp2_with ((go_at_call 100; with_reducible refine (F1.out _).mono ?_); rintro _ _ ⟨rfl, n3, rfl⟩)
  rw [rounds_succ]
  go_wp2_with ((go_at_call 100; with_reducible refine (F0.out _).mono ?_); rintro _ _ ⟨rfl, n4, rfl⟩)
  rw [rounds_succ]
  go_wp2_with fail
  refine bodyPost_ret (by simp [results, Try.results89, go_sem, *]; try rfl) rfl ?_
  exact ⟨rfl, by (repeat' (first | (with_reducible exact Below.refl _ _) | (with_reducible assumption) | (with_reducible refine Below.drew ?_) | (with_reducible refine below_drewN ?_ _) | ((with_reducible refine Below.alloc ?_ ?_ _); rotate_left; focus (go_size; done)) | ((with_reducible refine Below.setCell ?_ ?_ _); rotate_left; focus (go_size; done)) | ((with_reducible refine Below.trans ?_ (Below.mono (by with_reducible assumption) ?_)); rotate_left; focus (go_size; done))))⟩
end Go.Proofs.Ythkgjodidkpaeaa

set_option linter.unusedSimpArgs false
set_option linter.unusedVariables false
namespace Go.Proofs.Ythkgjodidkpaeaa
open Go.RowKit

/-- N / d to the nearest, half to even -/
def near (N d : Nat) : Nat := N / d + if 2 * (N % d) > d ∨ (2 * (N % d) = d ∧ N / d % 2 = 1) then 1 else 0
def lastD (N n : Nat) : Int := if n = 0 then 0 else ((N / 10 ^ (n - 1) % 10 : Nat) : Int)
def belD (N n : Nat) : Bool := decide (n ≠ 0 ∧ N % 10 ^ (n - 1) ≠ 0)
theorem lastD_succ (N n : Nat) : lastD N (n + 1) = ((N / 10 ^ n % 10 : Nat) : Int) := by
  unfold lastD; rw [if_neg (by omega), Nat.add_sub_cancel]
theorem lastD_bd (N n : Nat) : 0 ≤ lastD N n ∧ lastD N n ≤ 9 := by
  unfold lastD; split <;> omega
theorem mod_step (N n : Nat) : N % 10 ^ (n + 1) = N % 10 ^ n + 10 ^ n * (N / 10 ^ n % 10) := by
  rw [Nat.pow_succ, Nat.mod_mul]
theorem belD_succ (N n : Nat) : belD N (n + 1) = (belD N n || (lastD N n != 0)) := by
  rw [Bool.eq_iff_iff]
  simp only [belD, Bool.or_eq_true, decide_eq_true_eq, bne_iff_ne, Nat.add_sub_cancel]
  cases n with
  | zero => simp [lastD]; omega
  | succ m =>
    rw [lastD_succ, mod_step]
    have hp : 0 < 10 ^ m := Nat.pow_pos (by decide)
    constructor
    · rintro ⟨_, h⟩
      by_cases h0 : N % 10 ^ m = 0
      · right; intro hz
        have hz' : N / 10 ^ m % 10 = 0 := by omega
        rw [h0, hz'] at h; exact h rfl
      · left; exact ⟨by omega, by simpa using h0⟩
    · rintro (⟨_, h⟩ | h)
      · refine ⟨by omega, ?_⟩
        simp only [Nat.add_sub_cancel] at h
        omega
      · refine ⟨by omega, fun hz => h ?_⟩
        have h1 : 10 ^ m * (N / 10 ^ m % 10) = 0 := by omega
        rcases Nat.mul_eq_zero.1 h1 with h2 | h2 <;> omega
theorem near_of (N n : Nat) (up : Prop) [Decidable up] (h : up ↔ (lastD N n > 5 ∨ (lastD N n = 5 ∧ (belD N n = true ∨ N / 10 ^ n % 2 = 1)))) :
    near N (10 ^ n) = N / 10 ^ n + if up then 1 else 0 := by
  unfold near
  congr 1
  have key : (2 * (N % 10 ^ n) > 10 ^ n ∨ (2 * (N % 10 ^ n) = 10 ^ n ∧ N / 10 ^ n % 2 = 1)) ↔ up := by
    rw [h]
    cases n with
    | zero => simp [lastD, Nat.mod_one]
    | succ m =>
      rw [lastD_succ, mod_step]
      simp only [belD, decide_eq_true_eq, Nat.add_sub_cancel]
      have hp : 0 < 10 ^ m := Nat.pow_pos (by decide)
      have hl : N % 10 ^ m < 10 ^ m := Nat.mod_lt _ hp
      have hd : N / 10 ^ m % 10 < 10 := Nat.mod_lt _ (by decide)
      generalize N / 10 ^ (m + 1) % 2 = par
      generalize N / 10 ^ m % 10 = d at *
      rw [Nat.pow_succ]
      generalize N % 10 ^ m = low at *
      generalize 10 ^ m = P at *
      have hc : d = 0 ∨ d = 1 ∨ d = 2 ∨ d = 3 ∨ d = 4 ∨ d = 5 ∨ d = 6 ∨ d = 7 ∨ d = 8 ∨ d = 9 := by omega
      rcases hc with rfl | rfl | rfl | rfl | rfl | rfl | rfl | rfl | rfl | rfl <;> simp <;> omega
  by_cases hu : up
  · rw [if_pos hu, if_pos (key.2 hu)]
  · rw [if_neg hu, if_neg (fun x => hu (key.1 x))]
theorem div_lt_256 {N : Nat} (hN : N < 2 ^ 256) (d : Nat) : N / d < 2 ^ 256 := Nat.lt_of_le_of_lt (Nat.div_le_self _ _) hN

theorem wd_odd (X : Nat) : bits .and .u64 (wd X 0) 1 = ((X % 2 : Nat) : Int) := by
  have h := bits_and_u64_nat (X % 18446744073709551616) 1 (by omega) (by omega)
  rw [Nat.and_one_is_mod] at h
  have e : ((1 : Nat) : Int) = 1 := rfl
  rw [e] at h
  rw [wd0, h]
  omega
set_option maxHeartbeats 2000000 in
theorem round_bad (N : Nat) (k : Int) (hk : k < 0 ∨ 76 < k) (w : World) : Calls Try.prog 74 #[.agg #[.int .u64 (wd N 0), .int .u64 (wd N 1), .int .u64 (wd N 2), .int .u64 (wd N 3)], .int .i64 k] w fun e w' => e = .returned (.tuple #[.agg #[.int .u64 0, .int .u64 0], .int .i64 1]) ∧ Below w.heap.size w w' := by
  generalize wd N 0 = x0 at *
  generalize wd N 1 = x1 at *
  generalize wd N 2 = x2 at *
  generalize wd N 3 = x3 at *
  rcases hk with hk | hk
  · go_enter Try.func74, Try.ntmps74
    go_wp2_with fail
    refine bodyPost_ret (by simp [results, Try.results74, go_sem, *]; try rfl) rfl ?_
    exact ⟨rfl, by (repeat' (first | (with_reducible exact Below.refl _ _) | (with_reducible assumption) | (with_reducible refine Below.drew ?_) | (with_reducible refine below_drewN ?_ _) | ((with_reducible refine Below.alloc ?_ ?_ _); rotate_left; focus (go_size; done)) | ((with_reducible refine Below.setCell ?_ ?_ _); rotate_left; focus (go_size; done)) | ((with_reducible refine Below.trans ?_ (Below.mono (by with_reducible assumption) ?_)); rotate_left; focus (go_size; done))))⟩
  · have h0 : ¬ k < 0 := by omega
    go_enter Try.func74, Try.ntmps74
    go_wp2_with fail
    refine bodyPost_ret (by simp [results, Try.results74, go_sem, *]; try rfl) rfl ?_
    exact ⟨rfl, by (repeat' (first | (with_reducible exact Below.refl _ _) | (with_reducible assumption) | (with_reducible refine Below.drew ?_) | (with_reducible refine below_drewN ?_ _) | ((with_reducible refine Below.alloc ?_ ?_ _); rotate_left; focus (go_size; done)) | ((with_reducible refine Below.setCell ?_ ?_ _); rotate_left; focus (go_size; done)) | ((with_reducible refine Below.trans ?_ (Below.mono (by with_reducible assumption) ?_)); rotate_left; focus (go_size; done))))⟩

set_option maxHeartbeats 4000000 in
theorem round_any (N : Nat) (hN : N < 2 ^ 256) (k : Nat) (hk : k ≤ 76) (w : World) : Calls Try.prog 74 #[.agg #[.int .u64 (wd N 0), .int .u64 (wd N 1), .int .u64 (wd N 2), .int .u64 (wd N 3)], .int .i64 k] w fun e w' => e = .returned (.tuple #[.agg #[.int .u64 (wd (fitW (near N (10 ^ k))) 1), .int .u64 (wd (fitW (near N (10 ^ k))) 0)], .int .i64 (over (near N (10 ^ k)))]) ∧ Below w.heap.size w w' := by
  have k0 : (0 : Int) ≤ (k : Int) := by omega
  have k1 : (k : Int) ≤ 76 := by omega
  have HN := Lib.hid hN
  clear hN
  go_enter Try.func74, Try.ntmps74
  go_wp2_with fail
  go_loopg [6, 7, 18] k (fun kk l b i wr => ∃ n : Nat, kk + n = k ∧ l = .int .u64 (lastD N n) ∧ b = .bool (belD N n) ∧ i = .int .i64 n ∧ w.heap.size + 2 ≤ wr.heap.size ∧ Below w.heap.size w wr ∧
    Bk wr w.heap.size 45 [.int .u64 (wd (N / 10 ^ n) 0), .int .u64 (wd (N / 10 ^ n) 1), .int .u64 (wd (N / 10 ^ n) 2), .int .u64 (wd (N / 10 ^ n) 3)] ∧ Bk wr (w.heap.size + 1) 24 [.int .u64 0, .int .u64 0])
  case atStart =>
    refine ⟨0, by omega, rfl, rfl, rfl, by go_size, by (repeat' (first | (with_reducible exact Below.refl _ _) | (with_reducible assumption) | (with_reducible refine Below.drew ?_) | (with_reducible refine below_drewN ?_ _) | ((with_reducible refine Below.alloc ?_ ?_ _); rotate_left; focus (go_size; done)) | ((with_reducible refine Below.setCell ?_ ?_ _); rotate_left; focus (go_size; done)) | ((with_reducible refine Below.trans ?_ (Below.mono (by with_reducible assumption) ?_)); rotate_left; focus (go_size; done)))), ?_, by (repeat (first | (with_reducible assumption) | ((with_reducible refine Bk.new_ ?_); (first | rfl | (simp only [World.size_alloc, World.size_setCell, World.size_drew, World.heap_drewN]; done))) | (with_reducible refine Bk.alloc ?_ _) | (with_reducible refine Bk.drew ?_) | (with_reducible refine Bk.drewN ?_ _) | ((with_reducible refine Bk.far ?_ ?_ _); rotate_left; focus (simp only []; omega)) | ((with_reducible refine Bk.below ?_ (by with_reducible assumption) ?_); rotate_left; focus (go_size; done))))⟩
    rw [Nat.pow_zero, Nat.div_one]
    (repeat (first | (with_reducible assumption) | ((with_reducible refine Bk.new_ ?_); (first | rfl | (simp only [World.size_alloc, World.size_setCell, World.size_drew, World.heap_drewN]; done))) | (with_reducible refine Bk.alloc ?_ _) | (with_reducible refine Bk.drew ?_) | (with_reducible refine Bk.drewN ?_ _) | ((with_reducible refine Bk.far ?_ ?_ _); rotate_left; focus (simp only []; omega)) | ((with_reducible refine Bk.below ?_ (by with_reducible assumption) ?_); rotate_left; focus (go_size; done))))
  case round =>
    obtain ⟨n, hn, rfl, rfl, rfl, hsz, hbel, b0, b1⟩ := hrel
    have HK := Lib.hid hn
    have hle : (n : Int) ≤ (k : Int) := by omega
    have HB := Lib.hid (belD_succ N n)
    have HL := Lib.hid (lastD_bd N n)
    have HX := Lib.hid (div_lt_256 HN.out (10 ^ n))
    have hlb := lastD_bd N n
    obtain ⟨l0, l9⟩ := hlb
    obtain ⟨X, hX⟩ : ∃ X, X = N / 10 ^ n := ⟨_, rfl⟩
    rw [← hX] at b0 HX
    obtain ⟨L, hL⟩ : ∃ L, L = lastD N n := ⟨_, rfl⟩
    obtain ⟨bb, hbb⟩ : ∃ bb, bb = belD N n := ⟨_, rfl⟩
    rw [← hL] at HL HB l0 l9 ⊢
    rw [← hbb] at HB ⊢
    have GX := Lib.hid hX
    have GL := Lib.hid hL
    have GB := Lib.hid hbb
    clear hX hL hbb hn
    have c00 := b0.cell 0 rfl
    have c01 := b0.cell 1 rfl
    have c02 := b0.cell 2 rfl
    have c03 := b0.cell 3 rfl
    have c10 := b1.cell 0 rfl
    have c11 := b1.cell 1 rfl
    have f00 := b0.frozen 0
    have f01 := b0.frozen 1
    have f02 := b0.frozen 2
    have f03 := b0.frozen 3
    have f10 := b1.frozen 0
    have f11 := b1.frozen 1
    (try have : w.heap.size < wr.heap.size := by omega); (try have : w.heap.size + 1 < wr.heap.size := by omega); (try have : w.heap.size + 1 + 1 < wr.heap.size := by omega); (try have : w.heap.size + 1 + 1 + 1 < wr.heap.size := by omega)
    have HT := Lib.hid (fun W => tenth_any X HX.out W)
    have HR := Lib.hid (fun W => narrow_any X HX.out W)
    by_cases hlt : (n : Int) < (k : Int)
    · cases bb
      · go_wp2_with ((go_at_call 89; with_reducible refine (HT.out _).mono ?_); rintro _ w1 ⟨rfl, hb1⟩; have hb1s := hb1.size; (try simp only [World.size_alloc, World.size_setCell, World.size_drew, World.heap_drewN] at hb1s); obtain ⟨hb1c, hb1f⟩ := bcell hb1; (try have : w.heap.size < w1.heap.size := by omega); (try have : w.heap.size + 1 < w1.heap.size := by omega); (try have : w.heap.size + 1 + 1 < w1.heap.size := by omega); (try have : w.heap.size + 1 + 1 + 1 < w1.heap.size := by omega))
        go_roundg (gk - 1)
        case measure => have := HK.out; omega
        case rel =>
          refine ⟨n + 1, by have := HK.out; omega, ?_, ?_, by go_num, by go_size, by (repeat' (first | (with_reducible exact Below.refl _ _) | (with_reducible assumption) | (with_reducible refine Below.drew ?_) | (with_reducible refine below_drewN ?_ _) | ((with_reducible refine Below.alloc ?_ ?_ _); rotate_left; focus (go_size; done)) | ((with_reducible refine Below.setCell ?_ ?_ _); rotate_left; focus (go_size; done)) | ((with_reducible refine Below.trans ?_ (Below.mono (by with_reducible assumption) ?_)); rotate_left; focus (go_size; done)))), ?_, by (repeat (first | (with_reducible assumption) | ((with_reducible refine Bk.new_ ?_); (first | rfl | (simp only [World.size_alloc, World.size_setCell, World.size_drew, World.heap_drewN]; done))) | (with_reducible refine Bk.alloc ?_ _) | (with_reducible refine Bk.drew ?_) | (with_reducible refine Bk.drewN ?_ _) | ((with_reducible refine Bk.far ?_ ?_ _); rotate_left; focus (simp only []; omega)) | ((with_reducible refine Bk.below ?_ (by with_reducible assumption) ?_); rotate_left; focus (go_size; done))))⟩
          · rw [lastD_succ, ← GX.out]; rfl
          · rw [HB.out]; rfl
          · rw [show N / 10 ^ (n + 1) = X / 10 from by rw [GX.out, Nat.div_div_eq_div_mul, Nat.pow_succ]]
            refine (((((?_ : Bk w1 _ _ [.int .u64 (wd X 0), .int .u64 (wd X 1), .int .u64 (wd X 2), .int .u64 (wd X 3)]).set_ 0 _).set_ 1 _).set_ 2 _).set_ 3 _)
            (repeat (first | (with_reducible assumption) | ((with_reducible refine Bk.new_ ?_); (first | rfl | (simp only [World.size_alloc, World.size_setCell, World.size_drew, World.heap_drewN]; done))) | (with_reducible refine Bk.alloc ?_ _) | (with_reducible refine Bk.drew ?_) | (with_reducible refine Bk.drewN ?_ _) | ((with_reducible refine Bk.far ?_ ?_ _); rotate_left; focus (simp only []; omega)) | ((with_reducible refine Bk.below ?_ (by with_reducible assumption) ?_); rotate_left; focus (go_size; done))))
      · go_wp2_with ((go_at_call 89; with_reducible refine (HT.out _).mono ?_); rintro _ w1 ⟨rfl, hb1⟩; have hb1s := hb1.size; (try simp only [World.size_alloc, World.size_setCell, World.size_drew, World.heap_drewN] at hb1s); obtain ⟨hb1c, hb1f⟩ := bcell hb1; (try have : w.heap.size < w1.heap.size := by omega); (try have : w.heap.size + 1 < w1.heap.size := by omega); (try have : w.heap.size + 1 + 1 < w1.heap.size := by omega); (try have : w.heap.size + 1 + 1 + 1 < w1.heap.size := by omega))
        go_roundg (gk - 1)
        case measure => have := HK.out; omega
        case rel =>
          refine ⟨n + 1, by have := HK.out; omega, ?_, ?_, by go_num, by go_size, by (repeat' (first | (with_reducible exact Below.refl _ _) | (with_reducible assumption) | (with_reducible refine Below.drew ?_) | (with_reducible refine below_drewN ?_ _) | ((with_reducible refine Below.alloc ?_ ?_ _); rotate_left; focus (go_size; done)) | ((with_reducible refine Below.setCell ?_ ?_ _); rotate_left; focus (go_size; done)) | ((with_reducible refine Below.trans ?_ (Below.mono (by with_reducible assumption) ?_)); rotate_left; focus (go_size; done)))), ?_, by (repeat (first | (with_reducible assumption) | ((with_reducible refine Bk.new_ ?_); (first | rfl | (simp only [World.size_alloc, World.size_setCell, World.size_drew, World.heap_drewN]; done))) | (with_reducible refine Bk.alloc ?_ _) | (with_reducible refine Bk.drew ?_) | (with_reducible refine Bk.drewN ?_ _) | ((with_reducible refine Bk.far ?_ ?_ _); rotate_left; focus (simp only []; omega)) | ((with_reducible refine Bk.below ?_ (by with_reducible assumption) ?_); rotate_left; focus (go_size; done))))⟩
          · rw [lastD_succ, ← GX.out]; rfl
          · rw [HB.out]; rfl
          · rw [show N / 10 ^ (n + 1) = X / 10 from by rw [GX.out, Nat.div_div_eq_div_mul, Nat.pow_succ]]
            refine (((((?_ : Bk w1 _ _ [.int .u64 (wd X 0), .int .u64 (wd X 1), .int .u64 (wd X 2), .int .u64 (wd X 3)]).set_ 0 _).set_ 1 _).set_ 2 _).set_ 3 _)
            (repeat (first | (with_reducible assumption) | ((with_reducible refine Bk.new_ ?_); (first | rfl | (simp only [World.size_alloc, World.size_setCell, World.size_drew, World.heap_drewN]; done))) | (with_reducible refine Bk.alloc ?_ _) | (with_reducible refine Bk.drew ?_) | (with_reducible refine Bk.drewN ?_ _) | ((with_reducible refine Bk.far ?_ ?_ _); rotate_left; focus (simp only []; omega)) | ((with_reducible refine Bk.below ?_ (by with_reducible assumption) ?_); rotate_left; focus (go_size; done))))
    · obtain rfl : n = k := by omega
      by_cases hx : X < 2 ^ 128
      · have e6 : fitW X = X := by unfold fitW; rw [if_pos hx]
        have e7 : over X = 0 := by unfold over; rw [if_pos hx]
        rw [e6, e7] at HR
        have w11 : wd 1 1 = 0 := by decide
        have w10 : wd 1 0 = 1 := by decide
        have HA := Lib.hid (fun W => add_any X 1 hx (by decide) W)
        rw [w11, w10] at HA
        have hodd := wd_odd X
        have HO := Lib.hid hodd
        clear hodd w11 w10 hx
        by_cases c1 : 5 < L
        · have E6 := Lib.hid e6
          have E7 := Lib.hid e7
          clear e6 e7
          have hf := near_of N n True (by rw [← GL.out, ← GB.out, ← GX.out]; simp; left; exact c1)
          rw [if_pos trivial, ← GX.out] at hf
          have HF := Lib.hid hf
          clear hf
          clear hlt
          go_wp2_with (first
            | ((go_at_call 94; with_reducible refine (HR.out _).mono ?_); rintro _ w1 ⟨rfl, hb1⟩; have hb1s := hb1.size; (try simp only [World.size_alloc, World.size_setCell, World.size_drew, World.heap_drewN] at hb1s); obtain ⟨hb1c, hb1f⟩ := bcell hb1; (try have : w.heap.size < w1.heap.size := by omega); (try have : w.heap.size + 1 < w1.heap.size := by omega); (try have : w.heap.size + 1 + 1 < w1.heap.size := by omega); (try have : w.heap.size + 1 + 1 + 1 < w1.heap.size := by omega))
            | ((go_at_call 95; with_reducible refine (HA.out _).mono ?_); rintro _ w2 ⟨rfl, hb2⟩; have hb2s := hb2.size; (try simp only [World.size_alloc, World.size_setCell, World.size_drew, World.heap_drewN] at hb2s); obtain ⟨hb2c, hb2f⟩ := bcell hb2; (try have : w.heap.size < w2.heap.size := by omega); (try have : w.heap.size + 1 < w2.heap.size := by omega); (try have : w.heap.size + 1 + 1 < w2.heap.size := by omega); (try have : w.heap.size + 1 + 1 + 1 < w2.heap.size := by omega)))
          refine bodyPost_ret (by simp [results, Try.results74, go_sem, *]; try rfl) rfl ?_
          rw [HF.out]
          exact ⟨rfl, by (repeat' (first | (with_reducible exact Below.refl _ _) | (with_reducible assumption) | (with_reducible refine Below.drew ?_) | (with_reducible refine below_drewN ?_ _) | ((with_reducible refine Below.alloc ?_ ?_ _); rotate_left; focus (go_size; done)) | ((with_reducible refine Below.setCell ?_ ?_ _); rotate_left; focus (go_size; done)) | ((with_reducible refine Below.trans ?_ (Below.mono (by with_reducible assumption) ?_)); rotate_left; focus (go_size; done))))⟩
        · by_cases c2 : L = 5
          · have g1 : (L == 5) = true := by simp [c2]
            have C2 := Lib.hid c2
            cases bb
            · by_cases c3 : X % 2 = 1
              · have g2 : (bits .and .u64 (wd X 0) 1 == 1) = true := by rw [HO.out, c3]; rfl
                have C3 := Lib.hid c3
                have E6 := Lib.hid e6
                have E7 := Lib.hid e7
                clear e6 e7 c2 c3
                have hf := near_of N n True (by rw [← GL.out, ← GB.out, ← GX.out]; simp; right; exact ⟨C2.out, C3.out⟩)
                rw [if_pos trivial, ← GX.out] at hf
                have HF := Lib.hid hf
                clear hf
                clear hlt
                go_wp2_with (first
                  | ((go_at_call 94; with_reducible refine (HR.out _).mono ?_); rintro _ w1 ⟨rfl, hb1⟩; have hb1s := hb1.size; (try simp only [World.size_alloc, World.size_setCell, World.size_drew, World.heap_drewN] at hb1s); obtain ⟨hb1c, hb1f⟩ := bcell hb1; (try have : w.heap.size < w1.heap.size := by omega); (try have : w.heap.size + 1 < w1.heap.size := by omega); (try have : w.heap.size + 1 + 1 < w1.heap.size := by omega); (try have : w.heap.size + 1 + 1 + 1 < w1.heap.size := by omega))
                  | ((go_at_call 95; with_reducible refine (HA.out _).mono ?_); rintro _ w2 ⟨rfl, hb2⟩; have hb2s := hb2.size; (try simp only [World.size_alloc, World.size_setCell, World.size_drew, World.heap_drewN] at hb2s); obtain ⟨hb2c, hb2f⟩ := bcell hb2; (try have : w.heap.size < w2.heap.size := by omega); (try have : w.heap.size + 1 < w2.heap.size := by omega); (try have : w.heap.size + 1 + 1 < w2.heap.size := by omega); (try have : w.heap.size + 1 + 1 + 1 < w2.heap.size := by omega)))
                refine bodyPost_ret (by simp [results, Try.results74, go_sem, *]; try rfl) rfl ?_
                rw [HF.out]
                exact ⟨rfl, by (repeat' (first | (with_reducible exact Below.refl _ _) | (with_reducible assumption) | (with_reducible refine Below.drew ?_) | (with_reducible refine below_drewN ?_ _) | ((with_reducible refine Below.alloc ?_ ?_ _); rotate_left; focus (go_size; done)) | ((with_reducible refine Below.setCell ?_ ?_ _); rotate_left; focus (go_size; done)) | ((with_reducible refine Below.trans ?_ (Below.mono (by with_reducible assumption) ?_)); rotate_left; focus (go_size; done))))⟩
              · have g2 : (bits .and .u64 (wd X 0) 1 == 1) = false := by rw [HO.out]; simp; omega
                have C3 := Lib.hid c3
                clear c2 c3
                have hf := near_of N n False (by rw [← GL.out, ← GB.out, ← GX.out]; simp; exact ⟨by omega, fun _ => by have := C3.out; omega⟩)
                rw [if_neg not_false, ← GX.out, Nat.add_zero] at hf
                have HF := Lib.hid hf
                clear hf
                clear hlt
                have E6 := Lib.hid e6
                have E7 := Lib.hid e7
                clear e6 e7
                go_wp2_with ((go_at_call 94; with_reducible refine (HR.out _).mono ?_); rintro _ w1 ⟨rfl, hb1⟩; have hb1s := hb1.size; (try simp only [World.size_alloc, World.size_setCell, World.size_drew, World.heap_drewN] at hb1s); obtain ⟨hb1c, hb1f⟩ := bcell hb1; (try have : w.heap.size < w1.heap.size := by omega); (try have : w.heap.size + 1 < w1.heap.size := by omega); (try have : w.heap.size + 1 + 1 < w1.heap.size := by omega); (try have : w.heap.size + 1 + 1 + 1 < w1.heap.size := by omega))
                refine bodyPost_ret (by simp [results, Try.results74, go_sem, *]; try rfl) rfl ?_
                rw [HF.out, E6.out, E7.out]
                exact ⟨rfl, by (repeat' (first | (with_reducible exact Below.refl _ _) | (with_reducible assumption) | (with_reducible refine Below.drew ?_) | (with_reducible refine below_drewN ?_ _) | ((with_reducible refine Below.alloc ?_ ?_ _); rotate_left; focus (go_size; done)) | ((with_reducible refine Below.setCell ?_ ?_ _); rotate_left; focus (go_size; done)) | ((with_reducible refine Below.trans ?_ (Below.mono (by with_reducible assumption) ?_)); rotate_left; focus (go_size; done))))⟩
            · have E6 := Lib.hid e6
              have E7 := Lib.hid e7
              clear e6 e7 c2
              have hf := near_of N n True (by rw [← GL.out, ← GB.out, ← GX.out]; simp; right; exact C2.out)
              rw [if_pos trivial, ← GX.out] at hf
              have HF := Lib.hid hf
              clear hf
              clear hlt
              go_wp2_with (first
                | ((go_at_call 94; with_reducible refine (HR.out _).mono ?_); rintro _ w1 ⟨rfl, hb1⟩; have hb1s := hb1.size; (try simp only [World.size_alloc, World.size_setCell, World.size_drew, World.heap_drewN] at hb1s); obtain ⟨hb1c, hb1f⟩ := bcell hb1; (try have : w.heap.size < w1.heap.size := by omega); (try have : w.heap.size + 1 < w1.heap.size := by omega); (try have : w.heap.size + 1 + 1 < w1.heap.size := by omega); (try have : w.heap.size + 1 + 1 + 1 < w1.heap.size := by omega))
                | ((go_at_call 95; with_reducible refine (HA.out _).mono ?_); rintro _ w2 ⟨rfl, hb2⟩; have hb2s := hb2.size; (try simp only [World.size_alloc, World.size_setCell, World.size_drew, World.heap_drewN] at hb2s); obtain ⟨hb2c, hb2f⟩ := bcell hb2; (try have : w.heap.size < w2.heap.size := by omega); (try have : w.heap.size + 1 < w2.heap.size := by omega); (try have : w.heap.size + 1 + 1 < w2.heap.size := by omega); (try have : w.heap.size + 1 + 1 + 1 < w2.heap.size := by omega)))
              refine bodyPost_ret (by simp [results, Try.results74, go_sem, *]; try rfl) rfl ?_
              rw [HF.out]
              exact ⟨rfl, by (repeat' (first | (with_reducible exact Below.refl _ _) | (with_reducible assumption) | (with_reducible refine Below.drew ?_) | (with_reducible refine below_drewN ?_ _) | ((with_reducible refine Below.alloc ?_ ?_ _); rotate_left; focus (go_size; done)) | ((with_reducible refine Below.setCell ?_ ?_ _); rotate_left; focus (go_size; done)) | ((with_reducible refine Below.trans ?_ (Below.mono (by with_reducible assumption) ?_)); rotate_left; focus (go_size; done))))⟩
          · have g1 : (L == 5) = false := by simp [c2]
            have C2 := Lib.hid c2
            clear c2
            have hf := near_of N n False (by rw [← GL.out, ← GB.out, ← GX.out]; simp; exact ⟨by omega, fun h => absurd h C2.out⟩)
            rw [if_neg not_false, ← GX.out, Nat.add_zero] at hf
            have HF := Lib.hid hf
            clear hf
            clear hlt
            have E6 := Lib.hid e6
            have E7 := Lib.hid e7
            clear e6 e7
            go_wp2_with ((go_at_call 94; with_reducible refine (HR.out _).mono ?_); rintro _ w1 ⟨rfl, hb1⟩; have hb1s := hb1.size; (try simp only [World.size_alloc, World.size_setCell, World.size_drew, World.heap_drewN] at hb1s); obtain ⟨hb1c, hb1f⟩ := bcell hb1; (try have : w.heap.size < w1.heap.size := by omega); (try have : w.heap.size + 1 < w1.heap.size := by omega); (try have : w.heap.size + 1 + 1 < w1.heap.size := by omega); (try have : w.heap.size + 1 + 1 + 1 < w1.heap.size := by omega))
            refine bodyPost_ret (by simp [results, Try.results74, go_sem, *]; try rfl) rfl ?_
            rw [HF.out, E6.out, E7.out]
            exact ⟨rfl, by (repeat' (first | (with_reducible exact Below.refl _ _) | (with_reducible assumption) | (with_reducible refine Below.drew ?_) | (with_reducible refine below_drewN ?_ _) | ((with_reducible refine Below.alloc ?_ ?_ _); rotate_left; focus (go_size; done)) | ((with_reducible refine Below.setCell ?_ ?_ _); rotate_left; focus (go_size; done)) | ((with_reducible refine Below.trans ?_ (Below.mono (by with_reducible assumption) ?_)); rotate_left; focus (go_size; done))))⟩
      · have e6 : fitW X = 0 := by unfold fitW; rw [if_neg hx]
        have e7 : over X = 3 := by unfold over; rw [if_neg hx]
        rw [e6, e7] at HR
        have hbig : ¬ near N (10 ^ n) < 2 ^ 128 := by
          have : N / 10 ^ n ≤ near N (10 ^ n) := Nat.le_add_right _ _
          rw [← GX.out] at this
          omega
        have e8 : fitW (near N (10 ^ n)) = 0 := by unfold fitW; rw [if_neg hbig]
        have e9 : over (near N (10 ^ n)) = 3 := by unfold over; rw [if_neg hbig]
        have E8 := Lib.hid e8
        have E9 := Lib.hid e9
        rw [wd_zero, wd_zero] at HR
        clear e6 e7 e8 e9 hbig hx hlt
        go_wp2_with ((go_at_call 94; with_reducible refine (HR.out _).mono ?_); rintro _ w1 ⟨rfl, hb1⟩; have hb1s := hb1.size; (try simp only [World.size_alloc, World.size_setCell, World.size_drew, World.heap_drewN] at hb1s); obtain ⟨hb1c, hb1f⟩ := bcell hb1; (try have : w.heap.size < w1.heap.size := by omega); (try have : w.heap.size + 1 < w1.heap.size := by omega); (try have : w.heap.size + 1 + 1 < w1.heap.size := by omega); (try have : w.heap.size + 1 + 1 + 1 < w1.heap.size := by omega))
        refine bodyPost_ret (by simp [results, Try.results74, go_sem, *]; try rfl) rfl ?_
        rw [E8.out, E9.out, wd_zero, wd_zero]
        exact ⟨rfl, by (repeat' (first | (with_reducible exact Below.refl _ _) | (with_reducible assumption) | (with_reducible refine Below.drew ?_) | (with_reducible refine below_drewN ?_ _) | ((with_reducible refine Below.alloc ?_ ?_ _); rotate_left; focus (go_size; done)) | ((with_reducible refine Below.setCell ?_ ?_ _); rotate_left; focus (go_size; done)) | ((with_reducible refine Below.trans ?_ (Below.mono (by with_reducible assumption) ?_)); rotate_left; focus (go_size; done))))⟩
end Go.Proofs.Ythkgjodidkpaeaa

set_option linter.unusedSimpArgs false
set_option linter.unusedVariables false
namespace Go.Proofs.Ythkgjodidkpaeaa
open Go.RowKit

def B34 : Nat := 10 ^ 34
theorem B34_lt : B34 < 2 ^ 128 := by unfold B34; decide
theorem B34_pos : 0 < B34 := by unfold B34; decide
/-- c / 10^s without the noughts behind the point: the coefficient, the scale -/
def stripC : Nat → Nat → Nat
  | c, 0 => c
  | c, s + 1 => if c % 10 = 0 then stripC (c / 10) s else c
def stripS : Nat → Nat → Nat
  | _, 0 => 0
  | c, s + 1 => if c % 10 = 0 then stripS (c / 10) s else s + 1
theorem strip_ten (c s : Nat) : stripC (c * 10) (s + 1) = stripC c s ∧ stripS (c * 10) (s + 1) = stripS c s := by
  unfold stripC stripS
  rw [if_pos (Nat.mul_mod_left _ _), if_pos (Nat.mul_mod_left _ _), Nat.mul_div_cancel _ (by decide)]
  exact ⟨by cases s <;> rfl, by cases s <;> rfl⟩
theorem strip_pow (c s j : Nat) : stripC (c * 10 ^ j) (s + j) = stripC c s ∧ stripS (c * 10 ^ j) (s + j) = stripS c s := by
  induction j with
  | zero => rw [Nat.pow_zero, Nat.mul_one]; exact ⟨rfl, rfl⟩
  | succ j ih =>
    have h := strip_ten (c * 10 ^ j) (s + j)
    rw [Nat.pow_succ, ← Nat.mul_assoc]
    exact ⟨h.1.trans ih.1, h.2.trans ih.2⟩
theorem strip_nil (s : Nat) : stripC 0 s = 0 ∧ stripS 0 s = 0 := by
  induction s with
  | zero => exact ⟨rfl, rfl⟩
  | succ s ih => have h := strip_ten 0 s; exact ⟨h.1.trans ih.1, h.2.trans ih.2⟩
theorem strip_yes {c : Nat} (h : c % 10 = 0) (s : Nat) : stripC c (s + 1) = stripC (c / 10) s ∧ stripS c (s + 1) = stripS (c / 10) s := by
  have e : c = c / 10 * 10 := by omega
  have := strip_ten (c / 10) s
  rwa [← e] at this
theorem strip_no {c : Nat} (h : c % 10 ≠ 0) (s : Nat) : stripC c s = c ∧ stripS c s = s := by
  cases s with
  | zero => exact ⟨rfl, rfl⟩
  | succ s => unfold stripC stripS; rw [if_neg h, if_neg h]; exact ⟨rfl, rfl⟩
theorem strip_val (c s : Nat) : stripC c s * 10 ^ (s - stripS c s) = c ∧ stripS c s ≤ s := by
  induction s generalizing c with
  | zero => exact ⟨Nat.mul_one _, Nat.le_refl _⟩
  | succ s ih =>
    by_cases h : c % 10 = 0
    · rw [(strip_yes h s).1, (strip_yes h s).2]
      obtain ⟨h1, h2⟩ := ih (c / 10)
      refine ⟨?_, by omega⟩
      rw [show s + 1 - stripS (c / 10) s = s - stripS (c / 10) s + 1 by omega, Nat.pow_succ, ← Nat.mul_assoc, h1]
      omega
    · rw [(strip_no h _).1, (strip_no h _).2, Nat.sub_self]
      exact ⟨Nat.mul_one _, Nat.le_refl _⟩
theorem stripC_le (c s : Nat) : stripC c s ≤ c := by
  have h := (strip_val c s).1
  have hp : 0 < 10 ^ (s - stripS c s) := Nat.pow_pos (by decide)
  calc stripC c s ≤ stripC c s * 10 ^ (s - stripS c s) := Nat.le_mul_of_pos_right _ hp
    _ = c := h
theorem stripC_zero {c s : Nat} : stripC c s = 0 ↔ c = 0 := by
  constructor
  · intro h; have := (strip_val c s).1; rw [h, Nat.zero_mul] at this; exact this.symm
  · rintro rfl; exact (strip_nil s).1
theorem strip_end (c s : Nat) : stripS c s = 0 ∨ stripC c s % 10 ≠ 0 := by
  induction s generalizing c with
  | zero => exact .inl rfl
  | succ s ih =>
    by_cases h : c % 10 = 0
    · rw [(strip_yes h s).1, (strip_yes h s).2]; exact ih _
    · rw [(strip_no h _).1, (strip_no h _).2]; exact .inr h
/-- what Trim cuts off tells it -/
theorem strip_trim (T k s : Nat) (hT : T % 10 ≠ 0) : (k ≤ s → stripC (T * 10 ^ k) s = T ∧ stripS (T * 10 ^ k) s = s - k) ∧ (s ≤ k → stripC (T * 10 ^ k) s = T * 10 ^ (k - s) ∧ stripS (T * 10 ^ k) s = 0) := by
  constructor
  · intro h
    have e := strip_pow T (s - k) k
    rw [show s - k + k = s by omega] at e
    rw [e.1, e.2]
    exact strip_no hT _
  · intro h
    have e := strip_pow (T * 10 ^ (k - s)) 0 s
    rw [Nat.mul_assoc, ← Nat.pow_add, show k - s + s = k by omega, Nat.zero_add] at e
    exact e
theorem strip_fix {c s : Nat} (h : s = 0 ∨ c % 10 ≠ 0) : stripC c s = c ∧ stripS c s = s := by
  rcases h with rfl | h
  · exact ⟨rfl, rfl⟩
  · exact strip_no h s

/-- the sign of what may be nought -/
def sg (neg : Bool) (c : Nat) : Bool := neg && decide (c ≠ 0)
theorem sg_zero (neg : Bool) : sg neg 0 = false := by unfold sg; simp
theorem sg_pos {neg : Bool} {c : Nat} (h : c ≠ 0) : sg neg c = neg := by unfold sg; simp [h]
/-- is it in form? -/
def dform (neg : Bool) (c : Nat) (s : Int) : Bool := decide (c < B34) && (decide (0 ≤ s) && (decide (s ≤ 18) && (if c = 0 then !neg && decide (s = 0) else decide (s = 0) || decide (c % 10 ≠ 0))))
def DForm (neg : Bool) (c s : Nat) : Prop := c < B34 ∧ s ≤ 18 ∧ (c = 0 → neg = false ∧ s = 0) ∧ (s = 0 ∨ c % 10 ≠ 0)
theorem dform_iff (neg : Bool) (c : Nat) (s : Int) : dform neg c s = true ↔ ∃ t : Nat, s = (t : Int) ∧ DForm neg c t := by
  unfold dform DForm
  by_cases h0 : c = 0
  · subst h0
    simp only [Bool.and_eq_true, decide_eq_true_eq, if_pos]
    constructor
    · rintro ⟨h1, h2, h3, h4, h5⟩
      refine ⟨0, by omega, h1, by omega, fun _ => ⟨by simpa using h4, rfl⟩, .inl rfl⟩
    · rintro ⟨t, rfl, h1, h2, h3, h4⟩
      obtain ⟨h5, h6⟩ := h3 trivial
      subst h6
      simp [h5, h1]
  · simp only [Bool.and_eq_true, decide_eq_true_eq, if_neg h0, Bool.or_eq_true]
    constructor
    · rintro ⟨h1, h2, h3, h4⟩
      refine ⟨s.toNat, by omega, h1, by omega, fun h => absurd h h0, ?_⟩
      rcases h4 with h4 | h4
      · left; omega
      · right; exact h4
    · rintro ⟨t, rfl, h1, h2, h3, h4⟩
      refine ⟨h1, by omega, by omega, ?_⟩
      rcases h4 with h4 | h4
      · left; omega
      · right; exact h4

/-- the nearest -/
theorem near_scale (a b k : Nat) (hk : 0 < k) : near (a * k) (b * k) = near a b := by
  unfold near
  rw [Nat.mul_div_mul_right _ _ hk, Nat.mul_mod_mul_right]
  have e1 : 2 * (a % b * k) > b * k ↔ 2 * (a % b) > b := by
    rw [← Nat.mul_assoc]; exact Nat.mul_lt_mul_right hk
  have e2 : 2 * (a % b * k) = b * k ↔ 2 * (a % b) = b := by
    rw [← Nat.mul_assoc]; exact Nat.mul_left_inj (Nat.ne_of_gt hk)
  simp only [e1, e2]
theorem near_exact (q d : Nat) (hd : 0 < d) : near (q * d) d = q := by
  unfold near
  rw [Nat.mul_div_cancel _ hd, Nat.mul_mod_left]
  simp; omega
theorem near_pow (n s t : Nat) (h : s ≤ t) : near (n * 10 ^ s) (10 ^ t) = near n (10 ^ (t - s)) := by
  rw [show 10 ^ t = 10 ^ (t - s) * 10 ^ s by rw [← Nat.pow_add]; congr 1; omega]
  exact near_scale _ _ _ (Nat.pow_pos (by decide))
theorem near_high (n t j : Nat) : near (n * 10 ^ (t + j)) (10 ^ t) = n * 10 ^ j := by
  rw [Nat.pow_add, Nat.mul_comm (10 ^ t), ← Nat.mul_assoc]
  exact near_exact _ _ (Nat.pow_pos (by decide))

/-- n / d fitted, trying the scales below k -/
def fitK (n d : Nat) : Nat → Nat × Nat × Int
  | 0 => (0, 0, 3)
  | s + 1 => if near (n * 10 ^ s) d < B34 then (near (n * 10 ^ s) d, s, 0) else fitK n d s
def fin (r : Nat × Nat × Int) : Nat × Nat × Int := (stripC r.1 r.2.1, stripS r.1 r.2.1, r.2.2)
/-- nineteen, and nothing that the kernel counts out -/
def K19 (n : Nat) : Nat := 19 + 0 * n
theorem K19_eq (n : Nat) : K19 n = 19 := by unfold K19; omega
def FitC (n d : Nat) : Nat := (fin (fitK n d (K19 n))).1
def FitS (n d : Nat) : Nat := (fin (fitK n d (K19 n))).2.1
def FitE (n d : Nat) : Int := (fin (fitK n d (K19 n))).2.2
theorem fitK_yes {n d s : Nat} (h : near (n * 10 ^ s) d < B34) : fitK n d (s + 1) = (near (n * 10 ^ s) d, s, 0) := by rw [fitK, if_pos h]
theorem fitK_no {n d s : Nat} (h : ¬ near (n * 10 ^ s) d < B34) : fitK n d (s + 1) = fitK n d s := by rw [fitK, if_neg h]
theorem fitK_up (n t j : Nat) : fin (fitK n (10 ^ t) (t + j + 1)) = fin (fitK n (10 ^ t) (t + 1)) := by
  induction j with
  | zero => rfl
  | succ j ih =>
    have e := near_high n t (j + 1)
    have e0 := near_high n t 0
    rw [Nat.pow_zero, Nat.mul_one, Nat.add_zero] at e0
    by_cases h : near (n * 10 ^ (t + (j + 1))) (10 ^ t) < B34
    · have h0 : near (n * 10 ^ t) (10 ^ t) < B34 := by
        rw [e0]; rw [e] at h
        exact Nat.lt_of_le_of_lt (Nat.le_mul_of_pos_right _ (Nat.pow_pos (by decide))) h
      rw [fitK_yes h, fitK_yes h0, e, e0]
      have hs := strip_pow n t (j + 1)
      unfold fin
      simp only [hs.1, hs.2]
    · rw [fitK_no h]; exact ih
theorem fit_top (n t : Nat) (h : t ≤ 18) : fin (fitK n (10 ^ t) (K19 n)) = fin (fitK n (10 ^ t) (t + 1)) := by
  have e := fitK_up n t (18 - t)
  rwa [show t + (18 - t) + 1 = K19 n by rw [K19_eq]; omega] at e
theorem fitK_scale (n d k : Nat) (hk : 0 < k) (s : Nat) : fitK (n * k) (d * k) s = fitK n d s := by
  induction s with
  | zero => rfl
  | succ s ih =>
    have e : near (n * k * 10 ^ s) (d * k) = near (n * 10 ^ s) d := by
      rw [Nat.mul_right_comm]; exact near_scale _ _ _ hk
    rw [fitK, fitK, e, ih]
theorem fit_scale (n d k : Nat) (hk : 0 < k) : FitC (n * k) (d * k) = FitC n d ∧ FitS (n * k) (d * k) = FitS n d ∧ FitE (n * k) (d * k) = FitE n d := by
  unfold FitC FitS FitE
  rw [fitK_scale n d k hk, show K19 (n * k) = K19 n by rw [K19_eq, K19_eq]]
  exact ⟨rfl, rfl, rfl⟩
theorem fitK_lt (n d k : Nat) : (fitK n d k).1 < B34 ∧ ((fitK n d k).2.1 < k ∨ (fitK n d k).2.1 = 0) ∧ ((fitK n d k).2.2 = 0 ∨ ((fitK n d k).2.2 = 3 ∧ (fitK n d k).1 = 0)) := by
  induction k with
  | zero => exact ⟨B34_pos, .inr rfl, .inr ⟨rfl, rfl⟩⟩
  | succ s ih =>
    by_cases h : near (n * 10 ^ s) d < B34
    · rw [fitK_yes h]; exact ⟨h, .inl (Nat.lt_succ_self _), .inl rfl⟩
    · rw [fitK_no h]; exact ⟨ih.1, by omega, ih.2.2⟩
theorem fit_form (neg : Bool) (n d : Nat) : DForm (sg neg (FitC n d)) (FitC n d) (FitS n d) := by
  obtain ⟨h1, h2, _⟩ := fitK_lt n d (K19 n)
  have h19 := K19_eq n
  refine ⟨Nat.lt_of_le_of_lt (stripC_le _ _) h1, Nat.le_trans (strip_val _ _).2 (by omega), ?_, strip_end _ _⟩
  intro h0
  refine ⟨by rw [h0]; exact sg_zero neg, ?_⟩
  have hz : (fitK n d (K19 n)).1 = 0 := stripC_zero.1 h0
  show stripS (fitK n d (K19 n)).1 _ = 0
  rw [hz]; exact (strip_nil _).2
theorem fit_err (n d : Nat) : FitE n d = 0 ∨ (FitE n d = 3 ∧ FitC n d = 0 ∧ FitS n d = 0) := by
  obtain ⟨h1, h2, h3⟩ := fitK_lt n d (K19 n)
  rcases h3 with h3 | ⟨h3, h4⟩
  · exact .inl h3
  · refine .inr ⟨h3, ?_, ?_⟩
    · show stripC (fitK n d (K19 n)).1 _ = 0; rw [h4]; exact (strip_nil _).1
    · show stripS (fitK n d (K19 n)).1 _ = 0; rw [h4]; exact (strip_nil _).2
end Go.Proofs.Ythkgjodidkpaeaa

set_option linter.unusedSimpArgs false
set_option linter.unusedVariables false
namespace Go.Proofs.Ythkgjodidkpaeaa
open Go.RowKit

def lcells (m : Nat) : List Value := (List.range 4).map fun j => .int .u64 (wd m j)
theorem lcells_eq (m : Nat) : lcells m = [.int .u64 (wd m 0), .int .u64 (wd m 1), .int .u64 (wd m 2), .int .u64 (wd m 3)] := rfl
theorem lcells_at (m j : Nat) (hj : j < 4) : (lcells m)[j]? = some (.int .u64 (wd m j)) := by
  unfold lcells
  rw [List.getElem?_map, List.getElem?_range hj]; rfl
theorem lcells_set (V j : Nat) (hj : j < 4) (hV : V < 2 ^ 256) (v : Int) (h0 : 0 ≤ v) (h1 : v < 18446744073709551616) :
    ∃ V' : Nat, V' < 2 ^ 256 ∧ (V' : Int) = V + (v - wd V j) * ((2 ^ (64 * j) : Nat) : Int) ∧ (lcells V).set j (.int .u64 v) = lcells V' ∧ (∀ i, i < 4 → i ≠ j → wd V' i = wd V i) ∧ wd V' j = v := by
  have hf := wd_four hV
  have a0 := wd_nn V 0
  have a1 := wd_lt V 0
  have b0 := wd_nn V 1
  have b1 := wd_lt V 1
  have c0 := wd_nn V 2
  have c1 := wd_lt V 2
  have d0 := wd_nn V 3
  have d1 := wd_lt V 3
  have key : ∀ (x0 x1 x2 x3 : Int), 0 ≤ x0 → x0 < 18446744073709551616 → 0 ≤ x1 → x1 < 18446744073709551616 → 0 ≤ x2 → x2 < 18446744073709551616 → 0 ≤ x3 → x3 < 18446744073709551616 →
      ∃ V' : Nat, V' < 2 ^ 256 ∧ (V' : Int) = x3 * 6277101735386680763835789423207666416102355444464034512896 + x2 * 340282366920938463463374607431768211456 + x1 * 18446744073709551616 + x0 ∧ x0 = wd V' 0 ∧ x1 = wd V' 1 ∧ x2 = wd V' 2 ∧ x3 = wd V' 3 := by
    intro x0 x1 x2 x3 e0 e1 e2 e3 e4 e5 e6 e7
    refine ⟨(x3 * 6277101735386680763835789423207666416102355444464034512896 + x2 * 340282366920938463463374607431768211456 + x1 * 18446744073709551616 + x0).toNat, by omega, by omega, ?_⟩
    exact wd_of4 _ x0 x1 x2 x3 e0 e1 e2 e3 e4 e5 e6 e7 (by omega)
  have hc : j = 0 ∨ j = 1 ∨ j = 2 ∨ j = 3 := by omega
  rcases hc with rfl | rfl | rfl | rfl
  · obtain ⟨V', g1, g2, e0, e1, e2, e3⟩ := key v (wd V 1) (wd V 2) (wd V 3) h0 h1 b0 b1 c0 c1 d0 d1
    refine ⟨V', g1, ?_, ?_, ?_, e0.symm⟩
    · rw [g2]; omega
    · rw [lcells_eq, lcells_eq, ← e0, ← e1, ← e2, ← e3]; rfl
    · intro i hi hne
      have hc : i = 1 ∨ i = 2 ∨ i = 3 := by omega
      rcases hc with rfl | rfl | rfl
      · exact e1.symm
      · exact e2.symm
      · exact e3.symm
  · obtain ⟨V', g1, g2, e0, e1, e2, e3⟩ := key (wd V 0) v (wd V 2) (wd V 3) a0 a1 h0 h1 c0 c1 d0 d1
    refine ⟨V', g1, ?_, ?_, ?_, e1.symm⟩
    · rw [g2]; omega
    · rw [lcells_eq, lcells_eq, ← e0, ← e1, ← e2, ← e3]; rfl
    · intro i hi hne
      have hc : i = 0 ∨ i = 2 ∨ i = 3 := by omega
      rcases hc with rfl | rfl | rfl
      · exact e0.symm
      · exact e2.symm
      · exact e3.symm
  · obtain ⟨V', g1, g2, e0, e1, e2, e3⟩ := key (wd V 0) (wd V 1) v (wd V 3) a0 a1 b0 b1 h0 h1 d0 d1
    refine ⟨V', g1, ?_, ?_, ?_, e2.symm⟩
    · rw [g2]; omega
    · rw [lcells_eq, lcells_eq, ← e0, ← e1, ← e2, ← e3]; rfl
    · intro i hi hne
      have hc : i = 0 ∨ i = 1 ∨ i = 3 := by omega
      rcases hc with rfl | rfl | rfl
      · exact e0.symm
      · exact e1.symm
      · exact e3.symm
  · obtain ⟨V', g1, g2, e0, e1, e2, e3⟩ := key (wd V 0) (wd V 1) (wd V 2) v a0 a1 b0 b1 c0 c1 h0 h1
    refine ⟨V', g1, ?_, ?_, ?_, e3.symm⟩
    · rw [g2]; omega
    · rw [lcells_eq, lcells_eq, ← e0, ← e1, ← e2, ← e3]; rfl
    · intro i hi hne
      have hc : i = 0 ∨ i = 1 ∨ i = 2 := by omega
      rcases hc with rfl | rfl | rfl
      · exact e0.symm
      · exact e1.symm
      · exact e2.symm
theorem wd_past {V k j : Nat} (h : V < 2 ^ (64 * k)) (hj : k ≤ j) : wd V j = 0 := by
  unfold wd
  rw [Nat.div_eq_of_lt (Nat.lt_of_lt_of_le h (Nat.pow_le_pow_right (by decide) (by omega)))]; rfl
/-- one word more of a number from below -/
theorem wd_mod_succ (n t : Nat) : ((n % 2 ^ (64 * (t + 1)) : Nat) : Int) = ((n % 2 ^ (64 * t) : Nat) : Int) + wd n t * ((2 ^ (64 * t) : Nat) : Int) := by
  unfold wd
  rw [show 64 * (t + 1) = 64 * t + 64 by omega, Nat.pow_add, Nat.mod_mul, Int.natCast_add, Int.natCast_mul, Int.mul_comm]
end Go.Proofs.Ythkgjodidkpaeaa

set_option linter.unusedSimpArgs false
set_option linter.unusedVariables false
namespace Go.Proofs.Ythkgjodidkpaeaa
open Go.RowKit

/-- one step of the product: a product of words, a word that is there, a carry -/
theorem mul_step (x y o c : Int) (hx0 : 0 ≤ x) (hx : x < 18446744073709551616) (hy0 : 0 ≤ y) (hy : y < 18446744073709551616) (ho0 : 0 ≤ o) (ho : o < 18446744073709551616) (hc0 : 0 ≤ c) (hc : c < 18446744073709551616) :
    ∃ h l s k t j : Int, Hid (∀ w : World, Calls Try.prog 96 #[.int .u64 x, .int .u64 y] w fun e w' => e = .returned (.tuple #[.int .u64 h, .int .u64 l]) ∧ ∃ nn, w' = w.drewN nn) ∧
      (∀ W : World, (callFunc 86 #[.int .u64 l, .int .u64 o, .int .u64 0]).run Try.prog W = .ok (.value (.tuple #[.int .u64 s, .int .u64 k])) W) ∧
      (∀ W : World, (callFunc 86 #[.int .u64 s, .int .u64 c, .int .u64 0]).run Try.prog W = .ok (.value (.tuple #[.int .u64 t, .int .u64 j])) W) ∧
      Hid (t + 18446744073709551616 * (h + k + j) = x * y + o + c) ∧ 0 ≤ h ∧ h + k < 18446744073709551616 ∧ 0 ≤ k ∧ 0 ≤ j ∧ 0 ≤ t ∧ t < 18446744073709551616 ∧ h + k + j < 18446744073709551616 := by
  obtain ⟨h, l, f, H⟩ := mul64_ex x y hx0 hx hy0 hy
  unfold Two at H
  obtain ⟨s, k, g, K⟩ := add64_ex l o 0 (by omega) (by omega) ho0 ho (by decide) (by decide)
  unfold Carry at K
  obtain ⟨t, j, e, J⟩ := add64_ex s c 0 (by omega) (by omega) hc0 hc (by decide) (by decide)
  unfold Carry at J
  have hm : x * y ≤ 18446744073709551615 * 18446744073709551615 := Int.mul_le_mul (by omega) (by omega) hy0 (by decide)
  have hn : 0 ≤ x * y := Int.mul_nonneg hx0 hy0
  generalize x * y = p at *
  exact ⟨h, l, s, k, t, j, f, g, e, by show t + 18446744073709551616 * (h + k + j) = p + o + c; omega, by omega, by omega, by omega, by omega, by omega, by omega, by omega⟩

theorem two_at (n t : Nat) (h : t < 2) : [Value.int .u64 (wd n 0), .int .u64 (wd n 1)][t]? = some (.int .u64 (wd n t)) := by
  have hc : t = 0 ∨ t = 1 := by omega
  rcases hc with rfl | rfl <;> rfl
theorem mul_low {n m t : Nat} (hm : m < 2 ^ 128) : n % 2 ^ (64 * t) * m < 2 ^ (64 * (t + 2)) := by
  rw [show 64 * (t + 2) = 64 * t + 128 by omega, Nat.pow_add]
  have h1 : n % 2 ^ (64 * t) < 2 ^ (64 * t) := Nat.mod_lt _ (Nat.two_pow_pos _)
  exact Nat.mul_lt_mul'' h1 hm
theorem mul_inv {V V' O t s : Nat} {cc X Y Z h k1 k3 s3 M M' : Int}
    (i1 : (V : Int) + cc * ((2 ^ (64 * (t + s)) : Nat) : Int) = O + X * M * ((2 ^ (64 * t) : Nat) : Int))
    (i2 : (V' : Int) = V + (s3 - Z) * ((2 ^ (64 * (t + s)) : Nat) : Int))
    (i3 : s3 + 18446744073709551616 * (h + k1 + k3) = X * Y + Z + cc)
    (i4 : M' = M + Y * ((2 ^ (64 * s) : Nat) : Int)) :
    (V' : Int) + (h + k1 + k3) * ((2 ^ (64 * (t + (s + 1))) : Nat) : Int) = O + X * M' * ((2 ^ (64 * t) : Nat) : Int) := by
  have e1 : ((2 ^ (64 * (t + (s + 1))) : Nat) : Int) = ((2 ^ (64 * (t + s)) : Nat) : Int) * 18446744073709551616 := by
    rw [show 64 * (t + (s + 1)) = 64 * (t + s) + 64 by omega, Nat.pow_add, Int.natCast_mul]; rfl
  have e2 : ((2 ^ (64 * (t + s)) : Nat) : Int) = ((2 ^ (64 * t) : Nat) : Int) * ((2 ^ (64 * s) : Nat) : Int) := by
    rw [show 64 * (t + s) = 64 * t + 64 * s by omega, Nat.pow_add, Int.natCast_mul]
  rw [e1, i2, i4]
  rw [e2] at i1 ⊢
  generalize ((2 ^ (64 * t) : Nat) : Int) = P at *
  generalize ((2 ^ (64 * s) : Nat) : Int) = Q at *
  grind
theorem mul_end {n m t V V' O : Nat} {cc : Int} (hm : m < 2 ^ 128) (eO : O = n % 2 ^ (64 * t) * m)
    (i1 : (V : Int) + cc * ((2 ^ (64 * (t + 2)) : Nat) : Int) = O + wd n t * ((m % 2 ^ (64 * 2) : Nat) : Int) * ((2 ^ (64 * t) : Nat) : Int))
    (i2 : (V' : Int) = V + (cc - wd V (t + 2)) * ((2 ^ (64 * (t + 2)) : Nat) : Int)) (i3 : wd V (t + 2) = 0) : n % 2 ^ (64 * (t + 1)) * m = V' := by
  rw [i3, Int.sub_zero, i1, Nat.mod_eq_of_lt hm, eO] at i2
  have e := wd_mod_succ n t
  have : ((n % 2 ^ (64 * (t + 1)) * m : Nat) : Int) = (V' : Int) := by
    rw [i2, Int.natCast_mul, e, Int.natCast_mul]
    generalize ((2 ^ (64 * t) : Nat) : Int) = P
    generalize ((n % 2 ^ (64 * t) : Nat) : Int) = Q
    grind
  exact_mod_cast this
set_option maxHeartbeats 4000000 in
theorem mul_any (n m : Nat) (hn : n < 2 ^ 128) (hm : m < 2 ^ 128) (w : World) : Calls Try.prog 77 #[.agg #[.int .u64 (wd n 1), .int .u64 (wd n 0)], .agg #[.int .u64 (wd m 1), .int .u64 (wd m 0)]] w fun e w' => e = .returned (.agg #[.int .u64 (wd (n * m) 0), .int .u64 (wd (n * m) 1), .int .u64 (wd (n * m) 2), .int .u64 (wd (n * m) 3)]) ∧ Below w.heap.size w w' := by
  have HN := Far.mk hn
  have HM := Far.mk hm
  have a0 := wd_nn n 0
  have a1 := wd_lt n 0
  have b0 := wd_nn n 1
  have b1 := wd_lt n 1
  have c0 := wd_nn m 0
  have c1 := wd_lt m 0
  have d0 := wd_nn m 1
  have d1 := wd_lt m 1
  clear hn hm
  go_enter Try.func77, Try.ntmps77
  go_wp2_with fail
  go_region_held3 (fun w' => w'.cell? ⟨w.heap.size, 0, none⟩ = some (.int .u64 (wd n 1)) ∧ w'.cell? ⟨w.heap.size, 1, none⟩ = some (.int .u64 (wd n 0)) ∧ w'.cell? ⟨w.heap.size + 1, 0, none⟩ = some (.int .u64 (wd m 1)) ∧ w'.cell? ⟨w.heap.size + 1, 1, none⟩ = some (.int .u64 (wd m 0))) (first | (go_keep; done) | (simp [go_sem]; done) | ((try dsimp only); (repeat' apply And.intro) <;> (first | (with_reducible assumption) | ((rw [World.cell?_alloc_lt _ _ _ (by show _ < _; omega)]); go_split_ands; (first | with_reducible assumption | (refine (World.cell?_alloc_lt _ _ _ (by show _ < _; omega)).symm.trans ?_; with_reducible assumption))) | ((rw [World.cell?_setCell_other _ _ _ _ (by intro e; injection e; omega)]); with_reducible assumption) | (go_keep; done) | (simp [go_sem]; done) | (simp (disch := go_size) [*, World.cell?_alloc_some, World.cell?_setCell_far]; done)))) (fail)
  · go_wp2_with fail
    clear a0 a1 b0 b1 c0 c1 d0 d1
    go_loopg [24] 2 (fun k i wr => ∃ t : Nat, k + t = 2 ∧ i = .int .i64 t ∧ Bk wr (w.heap.size + 1 + 1 + 1) 45 (lcells (n % 2 ^ (64 * t) * m)) ∧ Bk wr (w.heap.size + 1 + 1 + 1 + 1) 96 [.int .u64 (wd n 0), .int .u64 (wd n 1)] ∧ Bk wr (w.heap.size + 1 + 1 + 1 + 1 + 1) 96 [.int .u64 (wd m 0), .int .u64 (wd m 1)] ∧
      Bk wr (w.heap.size + 1 + 1) 45 [.int .u64 0, .int .u64 0, .int .u64 0, .int .u64 0] ∧ w.heap.size + 6 ≤ wr.heap.size ∧ Below w.heap.size w wr)
    case atStart =>
      refine ⟨0, rfl, rfl, ?_, by (repeat (first | (with_reducible assumption) | ((with_reducible refine Bk.new_ ?_); (first | rfl | (simp only [World.size_alloc, World.size_setCell, World.size_drew, World.heap_drewN]; done))) | (with_reducible refine Bk.alloc ?_ _) | (with_reducible refine Bk.drew ?_) | (with_reducible refine Bk.drewN ?_ _) | ((with_reducible refine Bk.far ?_ ?_ _); rotate_left; focus (simp only []; omega)) | ((with_reducible refine Bk.below ?_ (by with_reducible assumption) ?_); rotate_left; focus (go_size; done)))), by (repeat (first | (with_reducible assumption) | ((with_reducible refine Bk.new_ ?_); (first | rfl | (simp only [World.size_alloc, World.size_setCell, World.size_drew, World.heap_drewN]; done))) | (with_reducible refine Bk.alloc ?_ _) | (with_reducible refine Bk.drew ?_) | (with_reducible refine Bk.drewN ?_ _) | ((with_reducible refine Bk.far ?_ ?_ _); rotate_left; focus (simp only []; omega)) | ((with_reducible refine Bk.below ?_ (by with_reducible assumption) ?_); rotate_left; focus (go_size; done)))), by (repeat (first | (with_reducible assumption) | ((with_reducible refine Bk.new_ ?_); (first | rfl | (simp only [World.size_alloc, World.size_setCell, World.size_drew, World.heap_drewN]; done))) | (with_reducible refine Bk.alloc ?_ _) | (with_reducible refine Bk.drew ?_) | (with_reducible refine Bk.drewN ?_ _) | ((with_reducible refine Bk.far ?_ ?_ _); rotate_left; focus (simp only []; omega)) | ((with_reducible refine Bk.below ?_ (by with_reducible assumption) ?_); rotate_left; focus (go_size; done)))), by go_size, by (repeat' (first | (with_reducible exact Below.refl _ _) | (with_reducible assumption) | (with_reducible refine Below.drew ?_) | (with_reducible refine below_drewN ?_ _) | ((with_reducible refine Below.alloc ?_ ?_ _); rotate_left; focus (go_size; done)) | ((with_reducible refine Below.setCell ?_ ?_ _); rotate_left; focus (go_size; done)) | ((with_reducible refine Below.trans ?_ (Below.mono (by with_reducible assumption) ?_)); rotate_left; focus (go_size; done))))⟩
      rw [Nat.mul_zero, Nat.pow_zero, Nat.mod_one, Nat.zero_mul]
      show Bk _ _ _ [.int .u64 0, .int .u64 0, .int .u64 0, .int .u64 0]
      (repeat (first | (with_reducible assumption) | ((with_reducible refine Bk.new_ ?_); (first | rfl | (simp only [World.size_alloc, World.size_setCell, World.size_drew, World.heap_drewN]; done))) | (with_reducible refine Bk.alloc ?_ _) | (with_reducible refine Bk.drew ?_) | (with_reducible refine Bk.drewN ?_ _) | ((with_reducible refine Bk.far ?_ ?_ _); rotate_left; focus (simp only []; omega)) | ((with_reducible refine Bk.below ?_ (by with_reducible assumption) ?_); rotate_left; focus (go_size; done))))
    case round =>
      obtain ⟨t, hk, rfl, bo, bx, by_, b4, hsz, hbel⟩ := hrel
      have HK := Lib.hid hk
      have BO := Lib.hid bo
      have BX := Lib.hid bx
      have BY := Lib.hid by_
      have B4 := Lib.hid b4
      have t2 : t ≤ 2 := by omega
      clear hk bo bx by_ b4
      (try have : w.heap.size < wr.heap.size := by omega); (try have : w.heap.size + 1 < wr.heap.size := by omega); (try have : w.heap.size + 1 + 1 < wr.heap.size := by omega); (try have : w.heap.size + 1 + 1 + 1 < wr.heap.size := by omega)
      by_cases hlt : t < 2
      · go_wp2_with fail
        obtain ⟨wo, hwo⟩ : ∃ wo : World, wo = wr := ⟨_, rfl⟩
        clear hwo
        obtain ⟨go, hgo⟩ : ∃ go : Nat, go = gk := ⟨_, rfl⟩
        rw [← hgo] at HK
        have HGO := Lib.hid hgo
        clear hgo
        have hO : n % 2 ^ (64 * t) * m < 2 ^ (64 * (t + 2)) := mul_low HM.out
        have hO2 : n % 2 ^ (64 * t) * m < 2 ^ 256 := Nat.lt_of_lt_of_le hO (Nat.pow_le_pow_right (by decide) (by omega))
        obtain ⟨O, eO⟩ : ∃ O, O = n % 2 ^ (64 * t) * m := ⟨_, rfl⟩
        rw [← eO] at hO hO2 BO
        have EO := Far.mk eO
        have H1 := Far.mk hO
        have H2 := Far.mk hO2
        clear eO hO hO2
        go_loopg [9, 27] 2 (fun k c j wr => ∃ (s : Nat) (cc : Int) (V : Nat), k + s = 2 ∧ j = .int .i64 s ∧ c = .int .u64 cc ∧ 0 ≤ cc ∧ cc < 18446744073709551616 ∧ V < 2 ^ 256 ∧
          (V : Int) + cc * ((2 ^ (64 * (t + s)) : Nat) : Int) = O + wd n t * ((m % 2 ^ (64 * s) : Nat) : Int) * ((2 ^ (64 * t) : Nat) : Int) ∧ (∀ j, t + 2 ≤ j → j < 4 → wd V j = 0) ∧
          Bk wr (w.heap.size + 1 + 1 + 1) 45 (lcells V) ∧ Bk wr (w.heap.size + 1 + 1 + 1 + 1) 96 [.int .u64 (wd n 0), .int .u64 (wd n 1)] ∧ Bk wr (w.heap.size + 1 + 1 + 1 + 1 + 1) 96 [.int .u64 (wd m 0), .int .u64 (wd m 1)] ∧
          Bk wr (w.heap.size + 1 + 1) 45 [.int .u64 0, .int .u64 0, .int .u64 0, .int .u64 0] ∧ w.heap.size + 6 ≤ wr.heap.size ∧ Below w.heap.size w wr)
        case atStart =>
          refine ⟨0, 0, O, rfl, rfl, rfl, by omega, by omega, H2.out, ?_, ?_, BO.out, BX.out, BY.out, B4.out, hsz, hbel⟩
          · rw [Nat.mul_zero, Nat.pow_zero, Nat.mod_one, Int.zero_mul, Int.natCast_zero, Int.mul_zero, Int.zero_mul]
          · intro j hj _
            exact wd_past H1.out hj
        case round =>
          obtain ⟨s, cc, V, hk, rfl, rfl, hc0, hc1, hV, heq, hz, bo, bx, by_, b4, hsz, hbel⟩ := hrel
          have HK2 := Lib.hid hk
          have HV := Far.mk hV
          have HE := Far.mk heq
          have HZ := Lib.hid hz
          have BO := Lib.hid bo
          have BX := Lib.hid bx
          have BY := Lib.hid by_
          have B4 := Lib.hid b4
          have s2 : s ≤ 2 := by omega
          clear hk hV heq hz bo bx by_ b4
          (try have : w.heap.size < wr.heap.size := by omega); (try have : w.heap.size + 1 < wr.heap.size := by omega); (try have : w.heap.size + 1 + 1 < wr.heap.size := by omega); (try have : w.heap.size + 1 + 1 + 1 < wr.heap.size := by omega)
          by_cases hls : s < 2
          · have cx : wr.cell? ⟨(w.heap.size + 1 + 1 + 1 + 1), t, none⟩ = some (.int .u64 (wd n t)) := BX.out.cell t (two_at n t hlt)
            have cy : wr.cell? ⟨(w.heap.size + 1 + 1 + 1 + 1 + 1), s, none⟩ = some (.int .u64 (wd m s)) := BY.out.cell s (two_at m s hls)
            have co : wr.cell? ⟨w.heap.size + 1 + 1 + 1, t + s, none⟩ = some (.int .u64 (wd V (t + s))) := BO.out.cell _ (lcells_at V _ (by omega))
            have fo := BO.out.frozen (t + s)
            obtain ⟨h, l, s1, k1, s3, k3, f, g, e, HS, p1, p2, p3, p4, p5, p6, p7⟩ := mul_step (wd n t) (wd m s) (wd V (t + s)) cc (wd_nn n t) (wd_lt n t) (wd_nn m s) (wd_lt m s) (wd_nn V _) (wd_lt V _) hc0 hc1
            obtain ⟨V', v1, v2, v3, v4, v5⟩ := lcells_set V (t + s) (by omega) HV.out s3 p5 p6
            have L1 := Far.mk v1
            have L2 := Far.mk v2
            have L3 := Lib.hid v3
            have L4 := Lib.hid v4
            clear v1 v2 v3 v4 v5
            obtain ⟨X, hX⟩ : ∃ X, X = wd n t := ⟨_, rfl⟩
            obtain ⟨Y, hY⟩ : ∃ Y, Y = wd m s := ⟨_, rfl⟩
            obtain ⟨Z, hZ⟩ : ∃ Z, Z = wd V (t + s) := ⟨_, rfl⟩
            rw [← hX] at cx f HS HE
            rw [← hY] at cy f HS
            rw [← hZ] at co g HS L2
            have EX := Lib.hid hX
            have EY := Lib.hid hY
            clear hX hY hZ
            go_wp2_with fail
            go_quiet ((go_at_call 96; (first | exact Calls.quiet_of (f.out _) | exact quiet_add (f.out _))))
            go_wp2_with fail
            go_roundg (gk - 1)
            case measure => have := HK2.out; omega
            case rel =>
              have bx := BX.out
              have by_ := BY.out
              have b4 := B4.out
              refine ⟨s + 1, h + k1 + k3, V', by have := HK2.out; omega, by go_num, rfl, by omega, p7, L1.out, ?_, ?_, ?_, by (repeat (first | (with_reducible assumption) | ((with_reducible refine Bk.new_ ?_); (first | rfl | (simp only [World.size_alloc, World.size_setCell, World.size_drew, World.heap_drewN]; done))) | (with_reducible refine Bk.alloc ?_ _) | (with_reducible refine Bk.drew ?_) | (with_reducible refine Bk.drewN ?_ _) | ((with_reducible refine Bk.far ?_ ?_ _); rotate_left; focus (simp only []; omega)) | ((with_reducible refine Bk.below ?_ (by with_reducible assumption) ?_); rotate_left; focus (go_size; done)))), by (repeat (first | (with_reducible assumption) | ((with_reducible refine Bk.new_ ?_); (first | rfl | (simp only [World.size_alloc, World.size_setCell, World.size_drew, World.heap_drewN]; done))) | (with_reducible refine Bk.alloc ?_ _) | (with_reducible refine Bk.drew ?_) | (with_reducible refine Bk.drewN ?_ _) | ((with_reducible refine Bk.far ?_ ?_ _); rotate_left; focus (simp only []; omega)) | ((with_reducible refine Bk.below ?_ (by with_reducible assumption) ?_); rotate_left; focus (go_size; done)))), by (repeat (first | (with_reducible assumption) | ((with_reducible refine Bk.new_ ?_); (first | rfl | (simp only [World.size_alloc, World.size_setCell, World.size_drew, World.heap_drewN]; done))) | (with_reducible refine Bk.alloc ?_ _) | (with_reducible refine Bk.drew ?_) | (with_reducible refine Bk.drewN ?_ _) | ((with_reducible refine Bk.far ?_ ?_ _); rotate_left; focus (simp only []; omega)) | ((with_reducible refine Bk.below ?_ (by with_reducible assumption) ?_); rotate_left; focus (go_size; done)))), by go_size, by (repeat' (first | (with_reducible exact Below.refl _ _) | (with_reducible assumption) | (with_reducible refine Below.drew ?_) | (with_reducible refine below_drewN ?_ _) | ((with_reducible refine Below.alloc ?_ ?_ _); rotate_left; focus (go_size; done)) | ((with_reducible refine Below.setCell ?_ ?_ _); rotate_left; focus (go_size; done)) | ((with_reducible refine Below.trans ?_ (Below.mono (by with_reducible assumption) ?_)); rotate_left; focus (go_size; done))))⟩
              · have i1 := HE.out
                have i2 := L2.out
                have i3 := HS.out
                have i4 := wd_mod_succ m s
                rw [← EY.out] at i4
                rw [← EX.out]
                exact mul_inv i1 i2 i3 i4
              · intro j hj h4
                rw [L4.out j h4 (by omega)]
                exact HZ.out j hj h4
              · rw [← L3.out]
                exact (BO.out.drewN _).set_ _ _
          · obtain rfl : s = 2 := by omega
            have co : wr.cell? ⟨w.heap.size + 1 + 1 + 1, t + 2, none⟩ = some (.int .u64 (wd V (t + 2))) := BO.out.cell _ (lcells_at V _ (by omega))
            have fo := BO.out.frozen (t + 2)
            obtain ⟨V', v1, v2, v3, v4, v5⟩ := lcells_set V (t + 2) (by omega) HV.out cc hc0 hc1
            have L2 := Far.mk v2
            have L3 := Lib.hid v3
            clear v1 v2 v3 v4 v5
            go_wp2_with fail
            go_roundg (go - 1)
            case measure => have := HK.out; have := HGO.out; omega
            case rel =>
              have bx := BX.out
              have by_ := BY.out
              have b4 := B4.out
              refine ⟨t + 1, by have := HK.out; omega, by go_num, ?_, by (repeat (first | (with_reducible assumption) | ((with_reducible refine Bk.new_ ?_); (first | rfl | (simp only [World.size_alloc, World.size_setCell, World.size_drew, World.heap_drewN]; done))) | (with_reducible refine Bk.alloc ?_ _) | (with_reducible refine Bk.drew ?_) | (with_reducible refine Bk.drewN ?_ _) | ((with_reducible refine Bk.far ?_ ?_ _); rotate_left; focus (simp only []; omega)) | ((with_reducible refine Bk.below ?_ (by with_reducible assumption) ?_); rotate_left; focus (go_size; done)))), by (repeat (first | (with_reducible assumption) | ((with_reducible refine Bk.new_ ?_); (first | rfl | (simp only [World.size_alloc, World.size_setCell, World.size_drew, World.heap_drewN]; done))) | (with_reducible refine Bk.alloc ?_ _) | (with_reducible refine Bk.drew ?_) | (with_reducible refine Bk.drewN ?_ _) | ((with_reducible refine Bk.far ?_ ?_ _); rotate_left; focus (simp only []; omega)) | ((with_reducible refine Bk.below ?_ (by with_reducible assumption) ?_); rotate_left; focus (go_size; done)))), by (repeat (first | (with_reducible assumption) | ((with_reducible refine Bk.new_ ?_); (first | rfl | (simp only [World.size_alloc, World.size_setCell, World.size_drew, World.heap_drewN]; done))) | (with_reducible refine Bk.alloc ?_ _) | (with_reducible refine Bk.drew ?_) | (with_reducible refine Bk.drewN ?_ _) | ((with_reducible refine Bk.far ?_ ?_ _); rotate_left; focus (simp only []; omega)) | ((with_reducible refine Bk.below ?_ (by with_reducible assumption) ?_); rotate_left; focus (go_size; done)))), by go_size, by (repeat' (first | (with_reducible exact Below.refl _ _) | (with_reducible assumption) | (with_reducible refine Below.drew ?_) | (with_reducible refine below_drewN ?_ _) | ((with_reducible refine Below.alloc ?_ ?_ _); rotate_left; focus (go_size; done)) | ((with_reducible refine Below.setCell ?_ ?_ _); rotate_left; focus (go_size; done)) | ((with_reducible refine Below.trans ?_ (Below.mono (by with_reducible assumption) ?_)); rotate_left; focus (go_size; done))))⟩
              have i1 := HE.out
              have i2 := L2.out
              have i3 := HZ.out (t + 2) (Nat.le_refl _) (by omega)
              have e : n % 2 ^ (64 * (t + 1)) * m = V' := mul_end HM.out EO.out i1 i2 i3
              rw [e, ← L3.out]
              exact BO.out.set_ _ _
      · obtain rfl : t = 2 := by omega
        have e : n % 2 ^ (64 * 2) * m = n * m := by rw [Nat.mod_eq_of_lt HN.out]
        rw [e] at BO
        obtain ⟨z, hz⟩ : ∃ z, z = n * m := ⟨_, rfl⟩
        rw [← hz] at BO
        have EZ := Lib.hid hz
        clear hz
        have bo := BO.out
        rw [lcells_eq] at bo
        have c0 := bo.cell 0 rfl
        have c1 := bo.cell 1 rfl
        have c2 := bo.cell 2 rfl
        have c3 := bo.cell 3 rfl
        have d0 := B4.out.cell 0 rfl
        have d1 := B4.out.cell 1 rfl
        have d2 := B4.out.cell 2 rfl
        have d3 := B4.out.cell 3 rfl
        have f0 := B4.out.frozen 0
        have f1 := B4.out.frozen 1
        have f2 := B4.out.frozen 2
        have f3 := B4.out.frozen 3
        clear bo e
        go_wp2_with fail
        refine bodyPost_ret (by simp [results, Try.results77, go_sem, *]; try rfl) rfl ?_
        exact ⟨by rw [EZ.out], by (repeat' (first | (with_reducible exact Below.refl _ _) | (with_reducible assumption) | (with_reducible refine Below.drew ?_) | (with_reducible refine below_drewN ?_ _) | ((with_reducible refine Below.alloc ?_ ?_ _); rotate_left; focus (go_size; done)) | ((with_reducible refine Below.setCell ?_ ?_ _); rotate_left; focus (go_size; done)) | ((with_reducible refine Below.trans ?_ (Below.mono (by with_reducible assumption) ?_)); rotate_left; focus (go_size; done))))⟩
  · go_wp2_with fail
    clear a0 a1 b0 b1 c0 c1 d0 d1
    go_loopg [24] 2 (fun k i wr => ∃ t : Nat, k + t = 2 ∧ i = .int .i64 t ∧ Bk wr (w.heap.size + 1 + 1 + 1) 45 (lcells (n % 2 ^ (64 * t) * m)) ∧ Bk wr (w.heap.size + 1 + 1 + 1 + 1 + 1) 96 [.int .u64 (wd n 0), .int .u64 (wd n 1)] ∧ Bk wr (w.heap.size + 1 + 1 + 1 + 1) 96 [.int .u64 (wd m 0), .int .u64 (wd m 1)] ∧
      Bk wr (w.heap.size + 1 + 1) 45 [.int .u64 0, .int .u64 0, .int .u64 0, .int .u64 0] ∧ w.heap.size + 6 ≤ wr.heap.size ∧ Below w.heap.size w wr)
    case atStart =>
      refine ⟨0, rfl, rfl, ?_, by (repeat (first | (with_reducible assumption) | ((with_reducible refine Bk.new_ ?_); (first | rfl | (simp only [World.size_alloc, World.size_setCell, World.size_drew, World.heap_drewN]; done))) | (with_reducible refine Bk.alloc ?_ _) | (with_reducible refine Bk.drew ?_) | (with_reducible refine Bk.drewN ?_ _) | ((with_reducible refine Bk.far ?_ ?_ _); rotate_left; focus (simp only []; omega)) | ((with_reducible refine Bk.below ?_ (by with_reducible assumption) ?_); rotate_left; focus (go_size; done)))), by (repeat (first | (with_reducible assumption) | ((with_reducible refine Bk.new_ ?_); (first | rfl | (simp only [World.size_alloc, World.size_setCell, World.size_drew, World.heap_drewN]; done))) | (with_reducible refine Bk.alloc ?_ _) | (with_reducible refine Bk.drew ?_) | (with_reducible refine Bk.drewN ?_ _) | ((with_reducible refine Bk.far ?_ ?_ _); rotate_left; focus (simp only []; omega)) | ((with_reducible refine Bk.below ?_ (by with_reducible assumption) ?_); rotate_left; focus (go_size; done)))), by (repeat (first | (with_reducible assumption) | ((with_reducible refine Bk.new_ ?_); (first | rfl | (simp only [World.size_alloc, World.size_setCell, World.size_drew, World.heap_drewN]; done))) | (with_reducible refine Bk.alloc ?_ _) | (with_reducible refine Bk.drew ?_) | (with_reducible refine Bk.drewN ?_ _) | ((with_reducible refine Bk.far ?_ ?_ _); rotate_left; focus (simp only []; omega)) | ((with_reducible refine Bk.below ?_ (by with_reducible assumption) ?_); rotate_left; focus (go_size; done)))), by go_size, by (repeat' (first | (with_reducible exact Below.refl _ _) | (with_reducible assumption) | (with_reducible refine Below.drew ?_) | (with_reducible refine below_drewN ?_ _) | ((with_reducible refine Below.alloc ?_ ?_ _); rotate_left; focus (go_size; done)) | ((with_reducible refine Below.setCell ?_ ?_ _); rotate_left; focus (go_size; done)) | ((with_reducible refine Below.trans ?_ (Below.mono (by with_reducible assumption) ?_)); rotate_left; focus (go_size; done))))⟩
      rw [Nat.mul_zero, Nat.pow_zero, Nat.mod_one, Nat.zero_mul]
      show Bk _ _ _ [.int .u64 0, .int .u64 0, .int .u64 0, .int .u64 0]
      (repeat (first | (with_reducible assumption) | ((with_reducible refine Bk.new_ ?_); (first | rfl | (simp only [World.size_alloc, World.size_setCell, World.size_drew, World.heap_drewN]; done))) | (with_reducible refine Bk.alloc ?_ _) | (with_reducible refine Bk.drew ?_) | (with_reducible refine Bk.drewN ?_ _) | ((with_reducible refine Bk.far ?_ ?_ _); rotate_left; focus (simp only []; omega)) | ((with_reducible refine Bk.below ?_ (by with_reducible assumption) ?_); rotate_left; focus (go_size; done))))
    case round =>
      obtain ⟨t, hk, rfl, bo, bx, by_, b4, hsz, hbel⟩ := hrel
      have HK := Lib.hid hk
      have BO := Lib.hid bo
      have BX := Lib.hid bx
      have BY := Lib.hid by_
      have B4 := Lib.hid b4
      have t2 : t ≤ 2 := by omega
      clear hk bo bx by_ b4
      (try have : w.heap.size < wr.heap.size := by omega); (try have : w.heap.size + 1 < wr.heap.size := by omega); (try have : w.heap.size + 1 + 1 < wr.heap.size := by omega); (try have : w.heap.size + 1 + 1 + 1 < wr.heap.size := by omega)
      by_cases hlt : t < 2
      · go_wp2_with fail
        obtain ⟨wo, hwo⟩ : ∃ wo : World, wo = wr := ⟨_, rfl⟩
        clear hwo
        obtain ⟨go, hgo⟩ : ∃ go : Nat, go = gk := ⟨_, rfl⟩
        rw [← hgo] at HK
        have HGO := Lib.hid hgo
        clear hgo
        have hO : n % 2 ^ (64 * t) * m < 2 ^ (64 * (t + 2)) := mul_low HM.out
        have hO2 : n % 2 ^ (64 * t) * m < 2 ^ 256 := Nat.lt_of_lt_of_le hO (Nat.pow_le_pow_right (by decide) (by omega))
        obtain ⟨O, eO⟩ : ∃ O, O = n % 2 ^ (64 * t) * m := ⟨_, rfl⟩
        rw [← eO] at hO hO2 BO
        have EO := Far.mk eO
        have H1 := Far.mk hO
        have H2 := Far.mk hO2
        clear eO hO hO2
        go_loopg [9, 27] 2 (fun k c j wr => ∃ (s : Nat) (cc : Int) (V : Nat), k + s = 2 ∧ j = .int .i64 s ∧ c = .int .u64 cc ∧ 0 ≤ cc ∧ cc < 18446744073709551616 ∧ V < 2 ^ 256 ∧
          (V : Int) + cc * ((2 ^ (64 * (t + s)) : Nat) : Int) = O + wd n t * ((m % 2 ^ (64 * s) : Nat) : Int) * ((2 ^ (64 * t) : Nat) : Int) ∧ (∀ j, t + 2 ≤ j → j < 4 → wd V j = 0) ∧
          Bk wr (w.heap.size + 1 + 1 + 1) 45 (lcells V) ∧ Bk wr (w.heap.size + 1 + 1 + 1 + 1 + 1) 96 [.int .u64 (wd n 0), .int .u64 (wd n 1)] ∧ Bk wr (w.heap.size + 1 + 1 + 1 + 1) 96 [.int .u64 (wd m 0), .int .u64 (wd m 1)] ∧
          Bk wr (w.heap.size + 1 + 1) 45 [.int .u64 0, .int .u64 0, .int .u64 0, .int .u64 0] ∧ w.heap.size + 6 ≤ wr.heap.size ∧ Below w.heap.size w wr)
        case atStart =>
          refine ⟨0, 0, O, rfl, rfl, rfl, by omega, by omega, H2.out, ?_, ?_, BO.out, BX.out, BY.out, B4.out, hsz, hbel⟩
          · rw [Nat.mul_zero, Nat.pow_zero, Nat.mod_one, Int.zero_mul, Int.natCast_zero, Int.mul_zero, Int.zero_mul]
          · intro j hj _
            exact wd_past H1.out hj
        case round =>
          obtain ⟨s, cc, V, hk, rfl, rfl, hc0, hc1, hV, heq, hz, bo, bx, by_, b4, hsz, hbel⟩ := hrel
          have HK2 := Lib.hid hk
          have HV := Far.mk hV
          have HE := Far.mk heq
          have HZ := Lib.hid hz
          have BO := Lib.hid bo
          have BX := Lib.hid bx
          have BY := Lib.hid by_
          have B4 := Lib.hid b4
          have s2 : s ≤ 2 := by omega
          clear hk hV heq hz bo bx by_ b4
          (try have : w.heap.size < wr.heap.size := by omega); (try have : w.heap.size + 1 < wr.heap.size := by omega); (try have : w.heap.size + 1 + 1 < wr.heap.size := by omega); (try have : w.heap.size + 1 + 1 + 1 < wr.heap.size := by omega)
          by_cases hls : s < 2
          · have cx : wr.cell? ⟨(w.heap.size + 1 + 1 + 1 + 1 + 1), t, none⟩ = some (.int .u64 (wd n t)) := BX.out.cell t (two_at n t hlt)
            have cy : wr.cell? ⟨(w.heap.size + 1 + 1 + 1 + 1), s, none⟩ = some (.int .u64 (wd m s)) := BY.out.cell s (two_at m s hls)
            have co : wr.cell? ⟨w.heap.size + 1 + 1 + 1, t + s, none⟩ = some (.int .u64 (wd V (t + s))) := BO.out.cell _ (lcells_at V _ (by omega))
            have fo := BO.out.frozen (t + s)
            obtain ⟨h, l, s1, k1, s3, k3, f, g, e, HS, p1, p2, p3, p4, p5, p6, p7⟩ := mul_step (wd n t) (wd m s) (wd V (t + s)) cc (wd_nn n t) (wd_lt n t) (wd_nn m s) (wd_lt m s) (wd_nn V _) (wd_lt V _) hc0 hc1
            obtain ⟨V', v1, v2, v3, v4, v5⟩ := lcells_set V (t + s) (by omega) HV.out s3 p5 p6
            have L1 := Far.mk v1
            have L2 := Far.mk v2
            have L3 := Lib.hid v3
            have L4 := Lib.hid v4
            clear v1 v2 v3 v4 v5
            obtain ⟨X, hX⟩ : ∃ X, X = wd n t := ⟨_, rfl⟩
            obtain ⟨Y, hY⟩ : ∃ Y, Y = wd m s := ⟨_, rfl⟩
            obtain ⟨Z, hZ⟩ : ∃ Z, Z = wd V (t + s) := ⟨_, rfl⟩
            rw [← hX] at cx f HS HE
            rw [← hY] at cy f HS
            rw [← hZ] at co g HS L2
            have EX := Lib.hid hX
            have EY := Lib.hid hY
            clear hX hY hZ
            go_wp2_with fail
            go_quiet ((go_at_call 96; (first | exact Calls.quiet_of (f.out _) | exact quiet_add (f.out _))))
            go_wp2_with fail
            go_roundg (gk - 1)
            case measure => have := HK2.out; omega
            case rel =>
              have bx := BX.out
              have by_ := BY.out
              have b4 := B4.out
              refine ⟨s + 1, h + k1 + k3, V', by have := HK2.out; omega, by go_num, rfl, by omega, p7, L1.out, ?_, ?_, ?_, by (repeat (first | (with_reducible assumption) | ((with_reducible refine Bk.new_ ?_); (first | rfl | (simp only [World.size_alloc, World.size_setCell, World.size_drew, World.heap_drewN]; done))) | (with_reducible refine Bk.alloc ?_ _) | (with_reducible refine Bk.drew ?_) | (with_reducible refine Bk.drewN ?_ _) | ((with_reducible refine Bk.far ?_ ?_ _); rotate_left; focus (simp only []; omega)) | ((with_reducible refine Bk.below ?_ (by with_reducible assumption) ?_); rotate_left; focus (go_size; done)))), by (repeat (first | (with_reducible assumption) | ((with_reducible refine Bk.new_ ?_); (first | rfl | (simp only [World.size_alloc, World.size_setCell, World.size_drew, World.heap_drewN]; done))) | (with_reducible refine Bk.alloc ?_ _) | (with_reducible refine Bk.drew ?_) | (with_reducible refine Bk.drewN ?_ _) | ((with_reducible refine Bk.far ?_ ?_ _); rotate_left; focus (simp only []; omega)) | ((with_reducible refine Bk.below ?_ (by with_reducible assumption) ?_); rotate_left; focus (go_size; done)))), by (repeat (first | (with_reducible assumption) | ((with_reducible refine Bk.new_ ?_); (first | rfl | (simp only [World.size_alloc, World.size_setCell, World.size_drew, World.heap_drewN]; done))) | (with_reducible refine Bk.alloc ?_ _) | (with_reducible refine Bk.drew ?_) | (with_reducible refine Bk.drewN ?_ _) | ((with_reducible refine Bk.far ?_ ?_ _); rotate_left; focus (simp only []; omega)) | ((with_reducible refine Bk.below ?_ (by with_reducible assumption) ?_); rotate_left; focus (go_size; done)))), by go_size, by (repeat' (first | (with_reducible exact Below.refl _ _) | (with_reducible assumption) | (with_reducible refine Below.drew ?_) | (with_reducible refine below_drewN ?_ _) | ((with_reducible refine Below.alloc ?_ ?_ _); rotate_left; focus (go_size; done)) | ((with_reducible refine Below.setCell ?_ ?_ _); rotate_left; focus (go_size; done)) | ((with_reducible refine Below.trans ?_ (Below.mono (by with_reducible assumption) ?_)); rotate_left; focus (go_size; done))))⟩
              · have i1 := HE.out
                have i2 := L2.out
                have i3 := HS.out
                have i4 := wd_mod_succ m s
                rw [← EY.out] at i4
                rw [← EX.out]
                exact mul_inv i1 i2 i3 i4
              · intro j hj h4
                rw [L4.out j h4 (by omega)]
                exact HZ.out j hj h4
              · rw [← L3.out]
                exact (BO.out.drewN _).set_ _ _
          · obtain rfl : s = 2 := by omega
            have co : wr.cell? ⟨w.heap.size + 1 + 1 + 1, t + 2, none⟩ = some (.int .u64 (wd V (t + 2))) := BO.out.cell _ (lcells_at V _ (by omega))
            have fo := BO.out.frozen (t + 2)
            obtain ⟨V', v1, v2, v3, v4, v5⟩ := lcells_set V (t + 2) (by omega) HV.out cc hc0 hc1
            have L2 := Far.mk v2
            have L3 := Lib.hid v3
            clear v1 v2 v3 v4 v5
            go_wp2_with fail
            go_roundg (go - 1)
            case measure => have := HK.out; have := HGO.out; omega
            case rel =>
              have bx := BX.out
              have by_ := BY.out
              have b4 := B4.out
              refine ⟨t + 1, by have := HK.out; omega, by go_num, ?_, by (repeat (first | (with_reducible assumption) | ((with_reducible refine Bk.new_ ?_); (first | rfl | (simp only [World.size_alloc, World.size_setCell, World.size_drew, World.heap_drewN]; done))) | (with_reducible refine Bk.alloc ?_ _) | (with_reducible refine Bk.drew ?_) | (with_reducible refine Bk.drewN ?_ _) | ((with_reducible refine Bk.far ?_ ?_ _); rotate_left; focus (simp only []; omega)) | ((with_reducible refine Bk.below ?_ (by with_reducible assumption) ?_); rotate_left; focus (go_size; done)))), by (repeat (first | (with_reducible assumption) | ((with_reducible refine Bk.new_ ?_); (first | rfl | (simp only [World.size_alloc, World.size_setCell, World.size_drew, World.heap_drewN]; done))) | (with_reducible refine Bk.alloc ?_ _) | (with_reducible refine Bk.drew ?_) | (with_reducible refine Bk.drewN ?_ _) | ((with_reducible refine Bk.far ?_ ?_ _); rotate_left; focus (simp only []; omega)) | ((with_reducible refine Bk.below ?_ (by with_reducible assumption) ?_); rotate_left; focus (go_size; done)))), by (repeat (first | (with_reducible assumption) | ((with_reducible refine Bk.new_ ?_); (first | rfl | (simp only [World.size_alloc, World.size_setCell, World.size_drew, World.heap_drewN]; done))) | (with_reducible refine Bk.alloc ?_ _) | (with_reducible refine Bk.drew ?_) | (with_reducible refine Bk.drewN ?_ _) | ((with_reducible refine Bk.far ?_ ?_ _); rotate_left; focus (simp only []; omega)) | ((with_reducible refine Bk.below ?_ (by with_reducible assumption) ?_); rotate_left; focus (go_size; done)))), by go_size, by (repeat' (first | (with_reducible exact Below.refl _ _) | (with_reducible assumption) | (with_reducible refine Below.drew ?_) | (with_reducible refine below_drewN ?_ _) | ((with_reducible refine Below.alloc ?_ ?_ _); rotate_left; focus (go_size; done)) | ((with_reducible refine Below.setCell ?_ ?_ _); rotate_left; focus (go_size; done)) | ((with_reducible refine Below.trans ?_ (Below.mono (by with_reducible assumption) ?_)); rotate_left; focus (go_size; done))))⟩
              have i1 := HE.out
              have i2 := L2.out
              have i3 := HZ.out (t + 2) (Nat.le_refl _) (by omega)
              have e : n % 2 ^ (64 * (t + 1)) * m = V' := mul_end HM.out EO.out i1 i2 i3
              rw [e, ← L3.out]
              exact BO.out.set_ _ _
      · obtain rfl : t = 2 := by omega
        have e : n % 2 ^ (64 * 2) * m = n * m := by rw [Nat.mod_eq_of_lt HN.out]
        rw [e] at BO
        obtain ⟨z, hz⟩ : ∃ z, z = n * m := ⟨_, rfl⟩
        rw [← hz] at BO
        have EZ := Lib.hid hz
        clear hz
        have bo := BO.out
        rw [lcells_eq] at bo
        have c0 := bo.cell 0 rfl
        have c1 := bo.cell 1 rfl
        have c2 := bo.cell 2 rfl
        have c3 := bo.cell 3 rfl
        have d0 := B4.out.cell 0 rfl
        have d1 := B4.out.cell 1 rfl
        have d2 := B4.out.cell 2 rfl
        have d3 := B4.out.cell 3 rfl
        have f0 := B4.out.frozen 0
        have f1 := B4.out.frozen 1
        have f2 := B4.out.frozen 2
        have f3 := B4.out.frozen 3
        clear bo e
        go_wp2_with fail
        refine bodyPost_ret (by simp [results, Try.results77, go_sem, *]; try rfl) rfl ?_
        exact ⟨by rw [EZ.out], by (repeat' (first | (with_reducible exact Below.refl _ _) | (with_reducible assumption) | (with_reducible refine Below.drew ?_) | (with_reducible refine below_drewN ?_ _) | ((with_reducible refine Below.alloc ?_ ?_ _); rotate_left; focus (go_size; done)) | ((with_reducible refine Below.setCell ?_ ?_ _); rotate_left; focus (go_size; done)) | ((with_reducible refine Below.trans ?_ (Below.mono (by with_reducible assumption) ?_)); rotate_left; focus (go_size; done))))⟩
end Go.Proofs.Ythkgjodidkpaeaa

set_option linter.unusedSimpArgs false
set_option linter.unusedVariables false
namespace Go.Proofs.Ythkgjodidkpaeaa
open Go.RowKit

theorem ten_38 {k : Nat} (h : k ≤ 38) : 10 ^ k < 2 ^ 128 := Nat.lt_of_le_of_lt (Nat.pow_le_pow_right (by decide) h) (by decide)
set_option maxHeartbeats 1000000 in
theorem ten_bad (k : Int) (hk : k < 0 ∨ 38 < k) (w : World) : Calls Try.prog 99 #[.int .i64 k] w fun e w' => e = .returned (.tuple #[.agg #[.int .u64 0, .int .u64 0], .int .i64 1]) ∧ Below w.heap.size w w' := by
  rcases hk with hk | hk
  · go_enter Try.func99, Try.ntmps99
    go_wp2_with fail
    refine bodyPost_ret (by simp [results, Try.results99, go_sem, *]; try rfl) rfl ?_
    exact ⟨rfl, by (repeat' (first | (with_reducible exact Below.refl _ _) | (with_reducible assumption) | (with_reducible refine Below.drew ?_) | (with_reducible refine below_drewN ?_ _) | ((with_reducible refine Below.alloc ?_ ?_ _); rotate_left; focus (go_size; done)) | ((with_reducible refine Below.setCell ?_ ?_ _); rotate_left; focus (go_size; done)) | ((with_reducible refine Below.trans ?_ (Below.mono (by with_reducible assumption) ?_)); rotate_left; focus (go_size; done))))⟩
  · have h0 : ¬ k < 0 := by omega
    go_enter Try.func99, Try.ntmps99
    go_wp2_with fail
    refine bodyPost_ret (by simp [results, Try.results99, go_sem, *]; try rfl) rfl ?_
    exact ⟨rfl, by (repeat' (first | (with_reducible exact Below.refl _ _) | (with_reducible assumption) | (with_reducible refine Below.drew ?_) | (with_reducible refine below_drewN ?_ _) | ((with_reducible refine Below.alloc ?_ ?_ _); rotate_left; focus (go_size; done)) | ((with_reducible refine Below.setCell ?_ ?_ _); rotate_left; focus (go_size; done)) | ((with_reducible refine Below.trans ?_ (Below.mono (by with_reducible assumption) ?_)); rotate_left; focus (go_size; done))))⟩
theorem mul_ten (X : Nat) (hX : X < 2 ^ 128) (W : World) : Calls Try.prog 77 #[.agg #[.int .u64 (wd X 1), .int .u64 (wd X 0)], .agg #[.int .u64 0, .int .u64 10]] W fun e w' => e = .returned (.agg #[.int .u64 (wd (X * 10) 0), .int .u64 (wd (X * 10) 1), .int .u64 (wd (X * 10) 2), .int .u64 (wd (X * 10) 3)]) ∧ Below W.heap.size W w' := by
  have h := mul_any X 10 hX (by decide) W
  have b0 : wd 10 0 = 10 := by rw [wd0]; rfl
  have b1 : wd 10 1 = 0 := by rw [wd1]; rfl
  rw [b0, b1] at h
  exact h
theorem fit_id {X : Nat} (h : X < 2 ^ 128) : fitW X = X := by unfold fitW; rw [if_pos h]
theorem over_id {X : Nat} (h : X < 2 ^ 128) : over X = 0 := by unfold over; rw [if_pos h]
set_option maxHeartbeats 4000000 in
theorem ten_any (k : Nat) (hk : k ≤ 38) (w : World) : Calls Try.prog 99 #[.int .i64 k] w fun e w' => e = .returned (.tuple #[.agg #[.int .u64 (wd (10 ^ k) 1), .int .u64 (wd (10 ^ k) 0)], .int .i64 0]) ∧ Below w.heap.size w w' := by
  have k0 : (0 : Int) ≤ (k : Int) := by omega
  have k1 : (k : Int) ≤ 38 := by omega
  go_enter Try.func99, Try.ntmps99
  go_wp2_with fail
  go_loopg [14] k (fun kk i wr => ∃ t : Nat, kk + t = k ∧ i = .int .i64 t ∧ Bk wr (w.heap.size + 1) 24 [.int .u64 (wd (10 ^ t) 1), .int .u64 (wd (10 ^ t) 0)] ∧ Bk wr w.heap.size 24 [.int .u64 0, .int .u64 0] ∧ w.heap.size + 2 ≤ wr.heap.size ∧ Below w.heap.size w wr)
  case atStart =>
    refine ⟨0, by omega, rfl, ?_, by (repeat (first | (with_reducible assumption) | ((with_reducible refine Bk.new_ ?_); (first | rfl | (simp only [World.size_alloc, World.size_setCell, World.size_drew, World.heap_drewN]; done))) | (with_reducible refine Bk.alloc ?_ _) | (with_reducible refine Bk.drew ?_) | (with_reducible refine Bk.drewN ?_ _) | ((with_reducible refine Bk.far ?_ ?_ _); rotate_left; focus (simp only []; omega)) | ((with_reducible refine Bk.below ?_ (by with_reducible assumption) ?_); rotate_left; focus (go_size; done)))), by go_size, by (repeat' (first | (with_reducible exact Below.refl _ _) | (with_reducible assumption) | (with_reducible refine Below.drew ?_) | (with_reducible refine below_drewN ?_ _) | ((with_reducible refine Below.alloc ?_ ?_ _); rotate_left; focus (go_size; done)) | ((with_reducible refine Below.setCell ?_ ?_ _); rotate_left; focus (go_size; done)) | ((with_reducible refine Below.trans ?_ (Below.mono (by with_reducible assumption) ?_)); rotate_left; focus (go_size; done))))⟩
    have b0 : wd (10 ^ 0) 0 = 1 := by rw [wd0]; rfl
    have b1 : wd (10 ^ 0) 1 = 0 := by rw [wd1]; rfl
    rw [b0, b1]
    (repeat (first | (with_reducible assumption) | ((with_reducible refine Bk.new_ ?_); (first | rfl | (simp only [World.size_alloc, World.size_setCell, World.size_drew, World.heap_drewN]; done))) | (with_reducible refine Bk.alloc ?_ _) | (with_reducible refine Bk.drew ?_) | (with_reducible refine Bk.drewN ?_ _) | ((with_reducible refine Bk.far ?_ ?_ _); rotate_left; focus (simp only []; omega)) | ((with_reducible refine Bk.below ?_ (by with_reducible assumption) ?_); rotate_left; focus (go_size; done))))
  case round =>
    obtain ⟨t, hn, rfl, b1, b0, hsz, hbel⟩ := hrel
    have HK := Lib.hid hn
    have ht : t ≤ k := by omega
    have c0 := b1.cell 0 rfl
    have c1 := b1.cell 1 rfl
    have f0 := b1.frozen 0
    have f1 := b1.frozen 1
    have d0 := b0.cell 0 rfl
    have d1 := b0.cell 1 rfl
    have e0 := b0.frozen 0
    have e1 := b0.frozen 1
    have B0 := Lib.hid b0
    have B1 := Lib.hid b1
    (try have : w.heap.size < wr.heap.size := by omega); (try have : w.heap.size + 1 < wr.heap.size := by omega); (try have : w.heap.size + 1 + 1 < wr.heap.size := by omega); (try have : w.heap.size + 1 + 1 + 1 < wr.heap.size := by omega)
    clear hn b0 b1
    by_cases hlt : t < k
    · have hx : 10 ^ t < 2 ^ 128 := ten_38 (by omega)
      have hy : 10 ^ t * 10 < 2 ^ 128 := by rw [← Nat.pow_succ]; exact ten_38 (by omega)
      have HM := Lib.hid (fun W => mul_ten (10 ^ t) hx W)
      have HN := Lib.hid (fun W => narrow_any (10 ^ t * 10) (Nat.lt_trans hy (by decide)) W)
      rw [fit_id hy, over_id hy] at HN
      obtain ⟨X, hX⟩ : ∃ X, X = 10 ^ t := ⟨_, rfl⟩
      obtain ⟨Y, hY⟩ : ∃ Y, Y = X * 10 := ⟨_, rfl⟩
      rw [← hX] at c0 c1 HM HN
      rw [← hY] at HM HN
      have EX := Far.mk hX
      have EY := Far.mk hY
      clear hX hY hx hy
      go_wp2_with (first
        | ((go_at_call 77; with_reducible refine (HM.out _).mono ?_); rintro _ w1 ⟨rfl, hb1⟩; have hb1s := hb1.size; (try simp only [World.size_alloc, World.size_setCell, World.size_drew, World.heap_drewN] at hb1s); obtain ⟨hb1c, hb1f⟩ := bcell hb1; (try have : w.heap.size < w1.heap.size := by omega); (try have : w.heap.size + 1 < w1.heap.size := by omega); (try have : w.heap.size + 1 + 1 < w1.heap.size := by omega); (try have : w.heap.size + 1 + 1 + 1 < w1.heap.size := by omega))
        | ((go_at_call 94; with_reducible refine (HN.out _).mono ?_); rintro _ w2 ⟨rfl, hb2⟩; have hb2s := hb2.size; (try simp only [World.size_alloc, World.size_setCell, World.size_drew, World.heap_drewN] at hb2s); obtain ⟨hb2c, hb2f⟩ := bcell hb2; (try have : w.heap.size < w2.heap.size := by omega); (try have : w.heap.size + 1 < w2.heap.size := by omega); (try have : w.heap.size + 1 + 1 < w2.heap.size := by omega); (try have : w.heap.size + 1 + 1 + 1 < w2.heap.size := by omega); (try have : w1.heap.size < w2.heap.size := by omega); (try have : w1.heap.size + 1 < w2.heap.size := by omega); (try have : w1.heap.size + 1 + 1 < w2.heap.size := by omega); (try have : w1.heap.size + 1 + 1 + 1 < w2.heap.size := by omega)))
      go_roundg (gk - 1)
      case measure => have := HK.out; omega
      case rel =>
        have b0 := B0.out
        have b1 := B1.out
        refine ⟨t + 1, by have := HK.out; omega, by go_num, ?_, by (repeat (first | (with_reducible assumption) | ((with_reducible refine Bk.new_ ?_); (first | rfl | (simp only [World.size_alloc, World.size_setCell, World.size_drew, World.heap_drewN]; done))) | (with_reducible refine Bk.alloc ?_ _) | (with_reducible refine Bk.drew ?_) | (with_reducible refine Bk.drewN ?_ _) | ((with_reducible refine Bk.far ?_ ?_ _); rotate_left; focus (simp only []; omega)) | ((with_reducible refine Bk.below ?_ (by with_reducible assumption) ?_); rotate_left; focus (go_size; done)))), by go_size, by (repeat' (first | (with_reducible exact Below.refl _ _) | (with_reducible assumption) | (with_reducible refine Below.drew ?_) | (with_reducible refine below_drewN ?_ _) | ((with_reducible refine Below.alloc ?_ ?_ _); rotate_left; focus (go_size; done)) | ((with_reducible refine Below.setCell ?_ ?_ _); rotate_left; focus (go_size; done)) | ((with_reducible refine Below.trans ?_ (Below.mono (by with_reducible assumption) ?_)); rotate_left; focus (go_size; done))))⟩
        have e : 10 ^ (t + 1) = Y := by rw [EY.out, EX.out, Nat.pow_succ]
        rw [e]
        refine ((?_ : Bk w2 _ _ [.int .u64 (wd (10 ^ t) 1), .int .u64 (wd (10 ^ t) 0)]).set_ 0 _).set_ 1 _
        (repeat (first | (with_reducible assumption) | ((with_reducible refine Bk.new_ ?_); (first | rfl | (simp only [World.size_alloc, World.size_setCell, World.size_drew, World.heap_drewN]; done))) | (with_reducible refine Bk.alloc ?_ _) | (with_reducible refine Bk.drew ?_) | (with_reducible refine Bk.drewN ?_ _) | ((with_reducible refine Bk.far ?_ ?_ _); rotate_left; focus (simp only []; omega)) | ((with_reducible refine Bk.below ?_ (by with_reducible assumption) ?_); rotate_left; focus (go_size; done))))
    · obtain rfl : t = k := by omega
      obtain ⟨X, hX⟩ : ∃ X, X = 10 ^ t := ⟨_, rfl⟩
      rw [← hX] at c0 c1
      have EX := Far.mk hX
      clear hX
      go_wp2_with fail
      refine bodyPost_ret (by simp [results, Try.results99, go_sem, *]; try rfl) rfl ?_
      exact ⟨by rw [EX.out], by (repeat' (first | (with_reducible exact Below.refl _ _) | (with_reducible assumption) | (with_reducible refine Below.drew ?_) | (with_reducible refine below_drewN ?_ _) | ((with_reducible refine Below.alloc ?_ ?_ _); rotate_left; focus (go_size; done)) | ((with_reducible refine Below.setCell ?_ ?_ _); rotate_left; focus (go_size; done)) | ((with_reducible refine Below.trans ?_ (Below.mono (by with_reducible assumption) ?_)); rotate_left; focus (go_size; done))))⟩
end Go.Proofs.Ythkgjodidkpaeaa

set_option linter.unusedSimpArgs false
set_option linter.unusedVariables false
namespace Go.Proofs.Ythkgjodidkpaeaa
open Go.RowKit
theorem eq_wide (a b c d : Int) (W : World) : (binOp .eql 24 (.agg #[.int .u64 a, .int .u64 b]) (.agg #[.int .u64 c, .int .u64 d])).run Try.prog W = .ok (.bool ((a == c) && (b == d))) W := by
  go_simp
  by_cases h0 : a = c <;> by_cases h1 : b = d <;> simp [h0, h1]
set_option maxRecDepth 100000 in
theorem eq_long (a b c d e f g h : Int) (W : World) : (binOp .eql 45 (.agg #[.int .u64 a, .int .u64 b, .int .u64 c, .int .u64 d]) (.agg #[.int .u64 e, .int .u64 f, .int .u64 g, .int .u64 h])).run Try.prog W = .ok (.bool ((a == e) && ((b == f) && ((c == g) && (d == h))))) W := by
  obtain ⟨i0, hi⟩ : ∃ i, Try.prog.info? 22 = some i := ⟨_, rfl⟩
  have hc : Try.prog.cellsOf 22 = 1 := by kernel_rfl
  have hr : List.range 4 = [0, 1, 2, 3] := rfl
  go_simp
  rw [Go.run_equalIn_array W 9999 _ _ Try.underlying45 hi, hc, hr]
  simp [Op.eqItems, go_sem]
  by_cases h0 : a = e <;> by_cases h1 : b = f <;> by_cases h2 : c = g <;> by_cases h3 : d = h <;> simp [h0, h1, h2, h3]
theorem neq_wide (a b c d : Int) (W : World) : (binOp .neq 24 (.agg #[.int .u64 a, .int .u64 b]) (.agg #[.int .u64 c, .int .u64 d])).run Try.prog W = .ok (.bool (!((a == c) && (b == d)))) W := by
  go_simp
  by_cases h0 : a = c <;> by_cases h1 : b = d <;> simp [h0, h1]
set_option maxRecDepth 100000 in
theorem neq_long (a b c d e f g h : Int) (W : World) : (binOp .neq 45 (.agg #[.int .u64 a, .int .u64 b, .int .u64 c, .int .u64 d]) (.agg #[.int .u64 e, .int .u64 f, .int .u64 g, .int .u64 h])).run Try.prog W = .ok (.bool (!((a == e) && ((b == f) && ((c == g) && (d == h)))))) W := by
  obtain ⟨i0, hi⟩ : ∃ i, Try.prog.info? 22 = some i := ⟨_, rfl⟩
  have hc : Try.prog.cellsOf 22 = 1 := by kernel_rfl
  have hr : List.range 4 = [0, 1, 2, 3] := rfl
  go_simp
  rw [Go.run_equalIn_array W 9999 _ _ Try.underlying45 hi, hc, hr]
  simp [Op.eqItems, go_sem]
  by_cases h0 : a = e <;> by_cases h1 : b = f <;> by_cases h2 : c = g <;> by_cases h3 : d = h <;> simp [h0, h1, h2, h3]
theorem wd_eq0 {n : Nat} (hn : n < 2 ^ 256) : ((wd n 0 == 0) && ((wd n 1 == 0) && ((wd n 2 == 0) && (wd n 3 == 0)))) = decide (n = 0) := by
  have h := wd_four hn
  rw [Bool.eq_iff_iff]
  simp only [Bool.and_eq_true, beq_iff_eq, decide_eq_true_eq]
  constructor
  · rintro ⟨h0, h1, h2, h3⟩
    rw [h0, h1, h2, h3] at h
    omega
  · rintro rfl
    exact ⟨wd_zero 0, wd_zero 1, wd_zero 2, wd_zero 3⟩
end Go.Proofs.Ythkgjodidkpaeaa

set_option linter.unusedSimpArgs false
set_option linter.unusedVariables false
namespace Go.Proofs.Ythkgjodidkpaeaa

/-- a bound that is far out -/
def Small (n : Nat) : Prop := True → n < 10 ^ 1000
theorem Small.of_le {n m : Nat} (h : Small n) (hm : m ≤ n) : Small m := fun t => Nat.lt_of_le_of_lt hm (h t)
def dval : List Int → Int
  | [] => 0
  | d :: r => d + 10 * dval r
def Digs (l : List Int) : Prop := ∀ d ∈ l, 0 ≤ d ∧ d ≤ 9
def Top (l : List Int) : Prop := l.getLast? ≠ some 0
/-- l is the list of the digits of n, the least first, without noughts at the top. -/
def IsDg (l : List Int) (n : Nat) : Prop := Digs l ∧ Top l ∧ dval l = (n : Int)

theorem getD_lt (l : List Int) (k : Nat) (h : k < l.length) : l.getD k 0 = l[k] := by
  rw [List.getD_eq_getElem?_getD, List.getElem?_eq_getElem h]; rfl
theorem ten_mono {a b : Nat} (h : a ≤ b) : (10 : Int) ^ a ≤ 10 ^ b := by
  have := Nat.pow_le_pow_right (n := 10) (by decide) h
  exact_mod_cast this
theorem dval_append (a b : List Int) : dval (a ++ b) = dval a + 10 ^ a.length * dval b := by
  induction a with
  | nil => simp [dval]
  | cons d r ih =>
    simp only [List.cons_append, dval, ih, List.length_cons, Int.pow_succ]
    rw [Int.mul_add, Int.mul_comm (10 ^ r.length) 10, Int.mul_assoc]; omega
theorem dval_snoc (a : List Int) (x : Int) : dval (a ++ [x]) = dval a + 10 ^ a.length * x := by
  rw [dval_append]; simp [dval]
theorem ten_pos (k : Nat) : (0 : Int) < 10 ^ k := Int.pow_pos (by decide)
theorem Digs.nil : Digs [] := by intro d h; cases h
theorem Digs.snoc {a : List Int} {x : Int} (h : Digs a) (h0 : 0 ≤ x) (h1 : x ≤ 9) : Digs (a ++ [x]) := by
  intro d hd
  rcases List.mem_append.1 hd with hd | hd
  · exact h d hd
  · rw [List.mem_singleton.1 hd]; exact ⟨h0, h1⟩
theorem Digs.take {a : List Int} (h : Digs a) (k : Nat) : Digs (a.take k) := fun d hd => h d (List.mem_of_mem_take hd)
theorem Digs.drop {a : List Int} (h : Digs a) (k : Nat) : Digs (a.drop k) := fun d hd => h d (List.mem_of_mem_drop hd)
theorem Digs.append {a b : List Int} (h : Digs a) (h' : Digs b) : Digs (a ++ b) := by
  intro d hd
  rcases List.mem_append.1 hd with hd | hd
  · exact h d hd
  · exact h' d hd
theorem Digs.get {a : List Int} (h : Digs a) (k : Nat) : 0 ≤ a.getD k 0 ∧ a.getD k 0 ≤ 9 := by
  rw [List.getD_eq_getElem?_getD]
  rcases hk : a[k]? with _ | x
  · simp
  · exact h x (List.mem_of_getElem? hk)
theorem dval_bd {a : List Int} (h : Digs a) : 0 ≤ dval a ∧ dval a < 10 ^ a.length := by
  induction a with
  | nil => simp [dval]
  | cons d r ih =>
    have h1 := ih fun x hx => h x (List.mem_cons_of_mem _ hx)
    have h2 := h d List.mem_cons_self
    simp only [dval, List.length_cons, Int.pow_succ]
    omega
theorem take_snoc_int (l : List Int) (k : Nat) (h : k < l.length) : l.take (k + 1) = l.take k ++ [l.getD k 0] := by
  rw [List.take_succ_eq_append_getElem h, getD_lt _ _ h]
theorem dval_take_succ (l : List Int) (k : Nat) (h : k < l.length) : dval (l.take (k + 1)) = dval (l.take k) + 10 ^ k * l.getD k 0 := by
  rw [take_snoc_int l k h, dval_snoc, List.length_take, Nat.min_eq_left (by omega)]
theorem dval_drop (l : List Int) (k : Nat) (h : k < l.length) : dval (l.drop k) = l.getD k 0 + 10 * dval (l.drop (k + 1)) := by
  rw [List.drop_eq_getElem_cons h, getD_lt _ _ h]; rfl
theorem dval_replicate (k : Nat) : dval (List.replicate k 0) = 0 := by
  induction k with
  | zero => rfl
  | succ k ih => simp [List.replicate_succ, dval, ih]
theorem dval_zeros {l : List Int} (h : ∀ d ∈ l, d = 0) : dval l = 0 := by
  induction l with
  | nil => rfl
  | cons d r ih => simp only [dval, ih fun x hx => h x (List.mem_cons_of_mem _ hx), h d List.mem_cons_self]; rfl

/-- What is cut off at the top are noughts: the value stays. -/
theorem dval_take_zeros (l : List Int) (n : Nat) (h : ∀ i, n ≤ i → i < l.length → l.getD i 0 = 0) : dval (l.take n) = dval l := by
  have e := dval_append (l.take n) (l.drop n)
  rw [List.take_append_drop] at e
  rw [e, dval_zeros (l := l.drop n), Int.mul_zero, Int.add_zero]
  intro d hd
  obtain ⟨i, hi, rfl⟩ := List.getElem_of_mem hd
  rw [List.length_drop] at hi
  have := h (n + i) (by omega) (by omega)
  rw [getD_lt _ _ (by omega)] at this
  rw [List.getElem_drop]; exact this
theorem top_take (l : List Int) (n : Nat) (hn : n ≤ l.length) (h : n = 0 ∨ l.getD (n - 1) 0 ≠ 0) : Top (l.take n) := by
  rcases h with rfl | h
  · simp [Top]
  · by_cases h0 : n = 0
    · subst h0; simp [Top]
    · unfold Top
      rw [List.getLast?_eq_getElem?, List.length_take, Nat.min_eq_left hn, List.getElem?_take_of_lt (by omega), List.getElem?_eq_getElem (by omega)]
      rw [getD_lt _ _ (by omega)] at h
      intro e; exact h (by injection e)

theorem IsDg.len_le {l : List Int} {n k : Nat} (h : IsDg l n) (hn : n < 10 ^ k) : l.length ≤ k := by
  obtain ⟨hd, ht, hv⟩ := h
  rcases Nat.lt_or_ge k l.length with hk | hk
  · exfalso
    have hne : l ≠ [] := by intro e; subst e; simp at hk
    obtain ⟨i, x, rfl⟩ : ∃ i x, l = i ++ [x] := ⟨l.dropLast, l.getLast hne, (List.dropLast_concat_getLast hne).symm⟩
    have hx := hd x (by simp)
    have hx0 : x ≠ 0 := by intro e; subst e; exact ht (by simp)
    have hb := dval_bd (a := i) fun d hd' => hd d (by simp [hd'])
    rw [dval_snoc] at hv
    simp only [List.length_append, List.length_cons, List.length_nil] at hk
    have hp : (10 : Int) ^ k ≤ 10 ^ i.length := ten_mono (by omega)
    have hm : (10 : Int) ^ i.length * 1 ≤ 10 ^ i.length * x := Int.mul_le_mul_of_nonneg_left (by omega) (Int.le_of_lt (ten_pos _))
    have hn' : (n : Int) < 10 ^ k := by exact_mod_cast hn
    omega
  · exact hk
theorem IsDg.lt_of_len {l : List Int} {n k : Nat} (h : IsDg l n) (hk : l.length ≤ k) : n < 10 ^ k := by
  obtain ⟨hd, _, hv⟩ := h
  have hb := dval_bd hd
  have hp : (10 : Int) ^ l.length ≤ 10 ^ k := ten_mono hk
  have : (n : Int) < 10 ^ k := by omega
  exact_mod_cast this
theorem IsDg.nil : IsDg [] 0 := ⟨Digs.nil, by simp [Top], rfl⟩
theorem IsDg.zero_iff {l : List Int} {n : Nat} (h : IsDg l n) : l.length = 0 ↔ n = 0 := by
  constructor
  · intro h0
    have := h.lt_of_len (k := 0) (by omega)
    simpa using this
  · intro h0; subst h0
    have := h.len_le (k := 0) (by simp)
    omega
theorem IsDg.get {l : List Int} {n : Nat} (h : IsDg l n) (k : Nat) : 0 ≤ l.getD k 0 ∧ l.getD k 0 ≤ 9 := h.1.get k
/-- The digit at a place, as a number. -/
theorem dval_digit {l : List Int} (h : Digs l) (k : Nat) (hk : k < l.length) : l.getD k 0 = dval l / 10 ^ k % 10 := by
  have e := dval_append (l.take k) (l.drop k)
  rw [List.take_append_drop, List.length_take, Nat.min_eq_left (by omega), dval_drop l k hk] at e
  have hb := dval_bd (h.take k)
  rw [List.length_take, Nat.min_eq_left (by omega)] at hb
  have hp := ten_pos k
  have hg := h.get k
  have : dval l / 10 ^ k = l.getD k 0 + 10 * dval (l.drop (k + 1)) := by
    rw [e, Int.add_mul_ediv_left _ _ (by omega), Int.ediv_eq_zero_of_lt hb.1 hb.2, Int.zero_add]
  rw [this]; omega
theorem IsDg.le_of_ne {l : List Int} {n : Nat} (h : IsDg l n) (hne : l ≠ []) : 10 ^ (l.length - 1) ≤ n := by
  rcases Nat.lt_or_ge n (10 ^ (l.length - 1)) with hlt | hge
  · have := h.len_le hlt
    have : l.length ≠ 0 := fun e => hne (List.length_eq_zero_iff.1 e)
    omega
  · exact hge
theorem top_of_val {l : List Int} (hd : Digs l) (h : l = [] ∨ (10 : Int) ^ (l.length - 1) ≤ dval l) : Top l := by
  rcases h with rfl | h
  · simp [Top]
  · by_cases hne : l = []
    · subst hne; simp [Top]
    · obtain ⟨i, x, rfl⟩ : ∃ i x, l = i ++ [x] := ⟨l.dropLast, l.getLast hne, (List.dropLast_concat_getLast hne).symm⟩
      have hb := dval_bd (a := i) fun d hd' => hd d (by simp [hd'])
      rw [dval_snoc] at h
      simp only [List.length_append, List.length_cons, List.length_nil, Nat.add_sub_cancel] at h
      unfold Top
      intro e
      have hx : x = 0 := by simpa using e
      subst hx
      omega
theorem Digs.set_ {l : List Int} (h : Digs l) (k : Nat) {x : Int} (h0 : 0 ≤ x) (h1 : x ≤ 9) : Digs (l.set k x) := by
  intro d hd
  rcases List.mem_or_eq_of_mem_set hd with hd | rfl
  · exact h d hd
  · exact ⟨h0, h1⟩
theorem Digs.zeros (n : Nat) : Digs (List.replicate n 0) := by
  intro d hd
  rw [List.eq_of_mem_replicate hd]
  decide
theorem drop_set (l : List Int) (k : Nat) (x : Int) (h : k < l.length) : (l.set k x).drop k = x :: l.drop (k + 1) := by
  rw [List.drop_eq_getElem_cons (by simpa using h), List.drop_set_of_lt (by omega)]
  simp
theorem carry_step (P s : Int) : P * (s % 10) + P * 10 * (s / 10) = P * s := by
  rw [Int.mul_assoc, ← Int.mul_add, Int.emod_add_mul_ediv]
/-- Digits of one number are one list. -/
theorem IsDg.uniq {a b : List Int} {n : Nat} (ha : IsDg a n) (hb : IsDg b n) : a = b := by
  induction a generalizing b n with
  | nil =>
    have : n = 0 := ha.zero_iff.1 rfl
    subst this
    exact (List.length_eq_zero_iff.1 (hb.zero_iff.2 rfl)).symm
  | cons d r ih =>
    cases b with
    | nil =>
      have : n = 0 := hb.zero_iff.1 rfl
      subst this
      exact List.length_eq_zero_iff.1 (ha.zero_iff.2 rfl)
    | cons e s =>
      have hd := ha.1 d List.mem_cons_self
      have he := hb.1 e List.mem_cons_self
      have h1 := ha.2.2
      have h2 := hb.2.2
      simp only [dval] at h1 h2
      have hr := dval_bd (a := r) fun x hx => ha.1 x (List.mem_cons_of_mem _ hx)
      have hs := dval_bd (a := s) fun x hx => hb.1 x (List.mem_cons_of_mem _ hx)
      have hde : d = e := by omega
      have hrs : dval r = dval s := by omega
      subst hde
      have key : ∀ q : List Int, Top (d :: q) → Top q := by
        intro q hq
        cases q with
        | nil => simp [Top]
        | cons x y => simpa [Top] using hq
      rw [ih (n := (dval r).toNat) ⟨fun x hx => ha.1 x (List.mem_cons_of_mem _ hx), key r ha.2.1, by omega⟩ ⟨fun x hx => hb.1 x (List.mem_cons_of_mem _ hx), key s hb.2.1, by omega⟩]
end Go.Proofs.Ythkgjodidkpaeaa

set_option linter.unusedSimpArgs false
set_option linter.unusedVariables false
namespace Go.Proofs.Ythkgjodidkpaeaa

def tch (N k : Nat) : Nat := 48 + N / 10 ^ k % 10
def txl (N L : Nat) : List UInt8 := (List.range L).map fun i => UInt8.ofNat (tch N (L - 1 - i))
def txt (N L : Nat) : ByteArray := ⟨(txl N L).toArray⟩
/-- L is how many digits N has, one at least -/
def IsNd (N L : Nat) : Prop := 1 ≤ L ∧ N < 10 ^ L ∧ (L = 1 ∨ 10 ^ (L - 1) ≤ N)
theorem tch_lt (N k : Nat) : tch N k < 58 := by unfold tch; omega
theorem tch_ge (N k : Nat) : 48 ≤ tch N k := by unfold tch; omega
theorem txl_length (N L : Nat) : (txl N L).length = L := by simp [txl]
theorem txl_get (N L j : Nat) (h : j < (txl N L).length) : (txl N L)[j].toNat = tch N (L - 1 - j) := by
  have := tch_lt N (L - 1 - j)
  simp only [txl, List.getElem_map, List.getElem_range]
  rw [UInt8.toNat_ofNat']
  omega
theorem pow_mono10 {a b : Nat} (h : a ≤ b) : (10 : Nat) ^ a ≤ 10 ^ b := Nat.pow_le_pow_right (by decide) h
theorem pow_lt10 {a b : Nat} (h : (10 : Nat) ^ a < 10 ^ b) : a < b := (Nat.pow_lt_pow_iff_right (by decide)).1 h
theorem IsNd.le {N L M : Nat} (h : IsNd N L) (hM : 1 ≤ M) (hN : N < 10 ^ M) : L ≤ M := by
  obtain ⟨h1, h2, h3⟩ := h
  rcases h3 with h3 | h3
  · omega
  · have := pow_lt10 (Nat.lt_of_le_of_lt h3 hN)
    omega
theorem IsNd.uniq {N L M : Nat} (h : IsNd N L) (h' : IsNd N M) : L = M :=
  Nat.le_antisymm (h.le h'.1 h'.2.1) (h'.le h.1 h.2.1)
theorem nd_upto (N k : Nat) (h : N < 10 ^ k) : ∃ L, IsNd N L := by
  induction k with
  | zero => exact ⟨1, by omega, by simp at h; omega, .inl rfl⟩
  | succ k ih =>
    by_cases hk : N < 10 ^ k
    · exact ih hk
    · exact ⟨k + 1, by omega, h, .inr (by rw [Nat.add_sub_cancel]; omega)⟩
theorem nd_128 {N : Nat} (h : N < 2 ^ 128) : ∃ L, IsNd N L ∧ L ≤ 39 := by
  have h1 : N < 10 ^ 39 := Nat.lt_trans h (by decide)
  obtain ⟨L, hL⟩ := nd_upto N 39 h1
  exact ⟨L, hL, hL.le (by decide) h1⟩
theorem nd_of_dg {l : List Int} {N : Nat} (h : IsDg l N) : IsNd N (max l.length 1) := by
  have h1 := h.lt_of_len (Nat.le_refl _)
  by_cases h0 : l = []
  · subst h0
    have := h.zero_iff.1 rfl
    subst this
    exact ⟨by decide, by decide, .inl rfl⟩
  · have h2 := h.le_of_ne h0
    have h3 : 0 < l.length := List.length_pos_iff.2 h0
    rw [Nat.max_eq_left (by omega)]
    exact ⟨by omega, h1, .inr h2⟩
/-- when the quotient comes to nought -/
theorem nd_stop {N L t : Nat} (h : IsNd N L) (ht : t < L) : N / 10 ^ (t + 1) = 0 ↔ t + 1 = L := by
  obtain ⟨h1, h2, h3⟩ := h
  constructor
  · intro h0
    by_cases hlt : t + 1 < L
    · rcases h3 with h3 | h3
      · omega
      · exfalso
        have h4 : 10 ^ (t + 1) ≤ N := Nat.le_trans (pow_mono10 (by omega)) h3
        have h5 := Nat.div_pos h4 (Nat.pow_pos (by decide))
        omega
    · omega
  · rintro rfl
    exact Nat.div_eq_of_lt h2
/-- the number that bytes tell -/
def dvb : List UInt8 → Nat → Nat
  | [], a => a
  | c :: r, a => dvb r (a * 10 + (c.toNat - 48))
theorem dvb_append (l : List UInt8) (c : UInt8) (a : Nat) : dvb (l ++ [c]) a = dvb l a * 10 + (c.toNat - 48) := by
  induction l generalizing a with
  | nil => rfl
  | cons d r ih => exact ih _
theorem dvb_ge (l : List UInt8) (a b : Nat) (h : a ≤ b) : dvb l a ≤ dvb l b := by
  induction l generalizing a b with
  | nil => exact h
  | cons d r ih => exact ih _ _ (by omega)
theorem dvb_from (l : List UInt8) (a : Nat) : a ≤ dvb l a := by
  induction l generalizing a with
  | nil => exact Nat.le_refl _
  | cons d r ih => exact Nat.le_trans (by omega) (ih (a * 10 + (d.toNat - 48)))
theorem dvb_split (l m : List UInt8) (a : Nat) : dvb (l ++ m) a = dvb m (dvb l a) := by
  induction l generalizing a with
  | nil => rfl
  | cons d r ih => exact ih _
theorem dvb_low (l : List UInt8) (a k : Nat) (ha : 10 ^ k ≤ a) : 10 ^ (k + l.length) ≤ dvb l a := by
  induction l generalizing a k with
  | nil => simpa [dvb] using ha
  | cons d r ih =>
    have := ih (a * 10 + (d.toNat - 48)) (k + 1) (by rw [Nat.pow_succ]; omega)
    rw [List.length_cons, show k + (r.length + 1) = k + 1 + r.length by omega]
    exact this
theorem dvb_txl (N L : Nat) (h : N < 10 ^ L) : dvb (txl N L) 0 = N := by
  have key : ∀ k, k ≤ L → dvb ((txl N L).take k) 0 = N / 10 ^ (L - k) := by
    intro k
    induction k with
    | zero => intro _; rw [List.take_zero, Nat.sub_zero, Nat.div_eq_of_lt h]; rfl
    | succ k ih =>
      intro hk
      have hl : k < (txl N L).length := by rw [txl_length]; omega
      rw [List.take_succ_eq_append_getElem hl, dvb_append, ih (by omega), txl_get]
      unfold tch
      have e1 : L - k = L - 1 - k + 1 := by omega
      have e2 : L - (k + 1) = L - 1 - k := by omega
      rw [e1, e2, Nat.pow_succ, ← Nat.div_div_eq_div_mul]
      omega
  have := key L (Nat.le_refl _)
  rw [Nat.sub_self, Nat.pow_zero, Nat.div_one] at this
  rwa [List.take_of_length_le (by rw [txl_length]; exact Nat.le_refl _)] at this
def isD (c : UInt8) : Bool := decide (48 ≤ c.toNat ∧ c.toNat ≤ 57)
/-- a text of a number: digits alone, one at least, no nought ahead of others -/
def okB (l : List UInt8) : Bool := decide (l ≠ []) && (decide (l.length ≤ 1) || decide ((l.headD 0).toNat ≠ 48)) && l.all isD
theorem txl_digits (N L : Nat) : (txl N L).all isD = true := by
  rw [List.all_eq_true]
  intro c hc
  obtain ⟨j, hj, rfl⟩ := List.getElem_of_mem hc
  have := txl_get N L j hj
  have h1 := tch_lt N (L - 1 - j)
  have h2 := tch_ge N (L - 1 - j)
  unfold isD
  simp; omega
theorem txl_ok {N L : Nat} (h : IsNd N L) : okB (txl N L) = true := by
  have hl := txl_length N L
  obtain ⟨h1, h2, h3⟩ := h
  have hne : txl N L ≠ [] := by intro e; rw [e] at hl; simp at hl; omega
  unfold okB
  rw [txl_digits, Bool.and_true, Bool.and_eq_true]
  refine ⟨by simpa using hne, ?_⟩
  rw [Bool.or_eq_true, hl]
  rcases h3 with h3 | h3
  · left; simp; omega
  · by_cases hL : L ≤ 1
    · left; simpa using hL
    · right
      have e : (txl N L).headD 0 = (txl N L)[0]'(by rw [hl]; omega) := by
        have key : ∀ (l : List UInt8) (hl : 0 < l.length), l.headD 0 = l[0] := by
          intro l hl
          cases l with
          | nil => cases hl
          | cons a r => rfl
        exact key _ _
      rw [e, txl_get, Nat.sub_zero]
      have h4 : 1 ≤ N / 10 ^ (L - 1) := Nat.div_pos h3 (Nat.pow_pos (by decide))
      have h5 : N / 10 ^ (L - 1) < 10 := by
        refine Nat.div_lt_of_lt_mul ?_
        rw [← Nat.pow_succ, show (L - 1).succ = L by omega]; exact h2
      unfold tch
      simp; omega
end Go.Proofs.Ythkgjodidkpaeaa

set_option linter.unusedSimpArgs false
set_option linter.unusedVariables false
namespace Go.Proofs.Ythkgjodidkpaeaa
open Go.RowKit

/-- N is T and k noughts behind it -/
def IsTz (N T k : Nat) : Prop := N = T * 10 ^ k ∧ T % 10 ≠ 0
theorem tz_upto (N b : Nat) (h0 : N ≠ 0) (h : N < 10 ^ b) : ∃ T k, IsTz N T k := by
  induction b generalizing N with
  | zero => simp at h; omega
  | succ b ih =>
    by_cases hd : N % 10 = 0
    · obtain ⟨T, k, e, ht⟩ := ih (N / 10) (by omega) (by rw [Nat.pow_succ] at h; omega)
      refine ⟨T, k + 1, ?_, ht⟩
      rw [Nat.pow_succ, ← Nat.mul_assoc, ← e]; omega
    · exact ⟨N, 0, by simp, hd⟩
theorem IsTz.k_le {N T k : Nat} (h : IsTz N T k) (hN : N < 2 ^ 128) : k ≤ 38 := by
  obtain ⟨e, ht⟩ := h
  have h1 : 1 ≤ T := by
    rcases Nat.eq_zero_or_pos T with h0 | h0
    · subst h0; exact absurd rfl ht
    · exact h0
  have h2 : 10 ^ k ≤ N := by rw [e]; exact Nat.le_mul_of_pos_left _ h1
  have h3 : (10 : Nat) ^ k < 10 ^ 39 := Nat.lt_of_le_of_lt h2 (Nat.lt_trans hN (by decide))
  have := pow_lt10 h3
  omega
theorem IsTz.at_ {N T k t : Nat} (h : IsTz N T k) (ht : t ≤ k) : N / 10 ^ t = T * 10 ^ (k - t) := by
  have e : 10 ^ k = 10 ^ (k - t) * 10 ^ t := by rw [← Nat.pow_add]; congr 1; omega
  rw [h.1, e, ← Nat.mul_assoc, Nat.mul_div_cancel _ (Nat.pow_pos (by decide))]
theorem IsTz.mod_lt {N T k t : Nat} (h : IsTz N T k) (ht : t < k) : N / 10 ^ t % 10 = 0 := by
  rw [h.at_ (by omega), show k - t = k - t - 1 + 1 by omega, Nat.pow_succ, ← Nat.mul_assoc, Nat.mul_mod_left]
theorem IsTz.mod_eq {N T k : Nat} (h : IsTz N T k) : N / 10 ^ k = T := by
  rw [h.at_ (Nat.le_refl _), Nat.sub_self, Nat.pow_zero, Nat.mul_one]
set_option maxHeartbeats 1000000 in
theorem trim_zero (w : World) : Calls Try.prog 57 #[.agg #[.int .u64 0, .int .u64 0]] w fun e w' => e = .returned (.tuple #[.agg #[.int .u64 0, .int .u64 0], .int .i64 0]) ∧ Below w.heap.size w w' := by
  go_enter Try.func57, Try.ntmps57
  go_wp2_with fail
  refine bodyPost_ret (by simp [results, Try.results57, go_sem, *]; try rfl) rfl ?_
  exact ⟨rfl, by (repeat' (first | (with_reducible exact Below.refl _ _) | (with_reducible assumption) | (with_reducible refine Below.drew ?_) | (with_reducible refine below_drewN ?_ _) | ((with_reducible refine Below.alloc ?_ ?_ _); rotate_left; focus (go_size; done)) | ((with_reducible refine Below.setCell ?_ ?_ _); rotate_left; focus (go_size; done)) | ((with_reducible refine Below.trans ?_ (Below.mono (by with_reducible assumption) ?_)); rotate_left; focus (go_size; done))))⟩
set_option maxHeartbeats 1000000 in
theorem trim_any (N T k : Nat) (hN : N < 2 ^ 128) (h : IsTz N T k) (w : World) : Calls Try.prog 57 #[.agg #[.int .u64 (wd N 1), .int .u64 (wd N 0)]] w fun e w' => e = .returned (.tuple #[.agg #[.int .u64 (wd T 1), .int .u64 (wd T 0)], .int .i64 k]) ∧ Below w.heap.size w w' := by
  have hk38 := h.k_le hN
  have h0 : N ≠ 0 := by
    rintro rfl
    have h1 := h.1
    have h2 := h.2
    rcases Nat.mul_eq_zero.1 h1.symm with h3 | h3
    · subst h3; exact h2 rfl
    · exact absurd h3 (Nat.ne_of_gt (Nat.pow_pos (by decide)))
  have qz : ∀ W, (binOp .eql 24 (.agg #[.int .u64 (wd N 1), .int .u64 (wd N 0)]) (.agg #[.int .u64 0, .int .u64 0])).run Try.prog W = .ok (.bool false) W := fun W => by
    rw [eq_wide]
    have e := wd_eq_iff hN (show 0 < 2 ^ 128 by decide)
    rw [wd_zero, wd_zero] at e
    rw [e, decide_eq_false h0]
  have e2 : wd N 2 = 0 := wd_past (k := 2) (by simpa using hN) (Nat.le_refl _)
  have e3 : wd N 3 = 0 := wd_past (k := 3) (Nat.lt_of_lt_of_le hN (Nat.pow_le_pow_right (by decide) (by decide))) (Nat.le_refl _)
  have E2 := Lib.hid e2
  have E3 := Lib.hid e3
  have HN := Far.mk hN
  have HZ := Far.mk h
  clear hN h h0 e2 e3
  go_enter Try.func57, Try.ntmps57
  go_wp2_with fail
  go_loopg [5] k (fun kk c wr => ∃ t : Nat, kk + t = k ∧ c = .int .i64 t ∧ Bk wr (w.heap.size + 1 + 1) 45 (lcells (N / 10 ^ t)) ∧ Bk wr (w.heap.size + 1) 24 [.int .u64 0, .int .u64 0] ∧ w.heap.size + 3 ≤ wr.heap.size ∧ Below w.heap.size w wr)
  case atStart =>
    refine ⟨0, by omega, rfl, ?_, by (repeat (first | (with_reducible assumption) | ((with_reducible refine Bk.new_ ?_); (first | rfl | (simp only [World.size_alloc, World.size_setCell, World.size_drew, World.heap_drewN]; done))) | (with_reducible refine Bk.alloc ?_ _) | (with_reducible refine Bk.drew ?_) | (with_reducible refine Bk.drewN ?_ _) | ((with_reducible refine Bk.far ?_ ?_ _); rotate_left; focus (simp only []; omega)) | ((with_reducible refine Bk.below ?_ (by with_reducible assumption) ?_); rotate_left; focus (go_size; done)))), by go_size, by (repeat' (first | (with_reducible exact Below.refl _ _) | (with_reducible assumption) | (with_reducible refine Below.drew ?_) | (with_reducible refine below_drewN ?_ _) | ((with_reducible refine Below.alloc ?_ ?_ _); rotate_left; focus (go_size; done)) | ((with_reducible refine Below.setCell ?_ ?_ _); rotate_left; focus (go_size; done)) | ((with_reducible refine Below.trans ?_ (Below.mono (by with_reducible assumption) ?_)); rotate_left; focus (go_size; done))))⟩
    rw [Nat.pow_zero, Nat.div_one, lcells_eq, E2.out, E3.out]
    (repeat (first | (with_reducible assumption) | ((with_reducible refine Bk.new_ ?_); (first | rfl | (simp only [World.size_alloc, World.size_setCell, World.size_drew, World.heap_drewN]; done))) | (with_reducible refine Bk.alloc ?_ _) | (with_reducible refine Bk.drew ?_) | (with_reducible refine Bk.drewN ?_ _) | ((with_reducible refine Bk.far ?_ ?_ _); rotate_left; focus (simp only []; omega)) | ((with_reducible refine Bk.below ?_ (by with_reducible assumption) ?_); rotate_left; focus (go_size; done))))
  case round =>
    obtain ⟨t, hn, rfl, b2, b1, hsz, hbel⟩ := hrel
    have HK := Lib.hid hn
    have ht : t ≤ k := by omega
    have B2 := Lib.hid b2
    have B1 := Lib.hid b1
    have b2' := b2
    rw [lcells_eq] at b2'
    have c0 := b2'.cell 0 rfl
    have c1 := b2'.cell 1 rfl
    have c2 := b2'.cell 2 rfl
    have c3 := b2'.cell 3 rfl
    have f0 := b2.frozen 0
    have f1 := b2.frozen 1
    have f2 := b2.frozen 2
    have f3 := b2.frozen 3
    have d0 := b1.cell 0 rfl
    have d1 := b1.cell 1 rfl
    have g0 := b1.frozen 0
    have g1 := b1.frozen 1
    (try have : w.heap.size < wr.heap.size := by omega); (try have : w.heap.size + 1 < wr.heap.size := by omega); (try have : w.heap.size + 1 + 1 < wr.heap.size := by omega); (try have : w.heap.size + 1 + 1 + 1 < wr.heap.size := by omega)
    have HT := Lib.hid (fun W => tenth_any (N / 10 ^ t) (Nat.lt_of_le_of_lt (Nat.div_le_self _ _) (Nat.lt_trans HN.out (by decide))) W)
    clear hn b2 b1 b2'
    by_cases hlt : t < k
    · have hm := HZ.out.mod_lt hlt
      rw [hm] at HT
      obtain ⟨X, hX⟩ : ∃ X, X = N / 10 ^ t := ⟨_, rfl⟩
      rw [← hX] at HT c0 c1 c2 c3 B2
      have EX := Far.mk hX
      clear hX hm
      go_wp2_with ((go_at_call 89; with_reducible refine (HT.out _).mono ?_); rintro _ w1 ⟨rfl, hb1⟩; have hb1s := hb1.size; (try simp only [World.size_alloc, World.size_setCell, World.size_drew, World.heap_drewN] at hb1s); obtain ⟨hb1c, hb1f⟩ := bcell hb1; (try have : w.heap.size < w1.heap.size := by omega); (try have : w.heap.size + 1 < w1.heap.size := by omega); (try have : w.heap.size + 1 + 1 < w1.heap.size := by omega); (try have : w.heap.size + 1 + 1 + 1 < w1.heap.size := by omega))
      go_roundg (gk - 1)
      case measure => have := HK.out; omega
      case rel =>
        have b1 := B1.out
        refine ⟨t + 1, by have := HK.out; omega, by go_num, ?_, by (repeat (first | (with_reducible assumption) | ((with_reducible refine Bk.new_ ?_); (first | rfl | (simp only [World.size_alloc, World.size_setCell, World.size_drew, World.heap_drewN]; done))) | (with_reducible refine Bk.alloc ?_ _) | (with_reducible refine Bk.drew ?_) | (with_reducible refine Bk.drewN ?_ _) | ((with_reducible refine Bk.far ?_ ?_ _); rotate_left; focus (simp only []; omega)) | ((with_reducible refine Bk.below ?_ (by with_reducible assumption) ?_); rotate_left; focus (go_size; done)))), by go_size, by (repeat' (first | (with_reducible exact Below.refl _ _) | (with_reducible assumption) | (with_reducible refine Below.drew ?_) | (with_reducible refine below_drewN ?_ _) | ((with_reducible refine Below.alloc ?_ ?_ _); rotate_left; focus (go_size; done)) | ((with_reducible refine Below.setCell ?_ ?_ _); rotate_left; focus (go_size; done)) | ((with_reducible refine Below.trans ?_ (Below.mono (by with_reducible assumption) ?_)); rotate_left; focus (go_size; done))))⟩
        have e : N / 10 ^ (t + 1) = X / 10 := by rw [EX.out, Nat.div_div_eq_div_mul, Nat.pow_succ]
        rw [e, lcells_eq]
        refine Bk.alloc ?_ _
        refine ((((?_ : Bk w1 _ _ [.int .u64 (wd X 0), .int .u64 (wd X 1), .int .u64 (wd X 2), .int .u64 (wd X 3)]).set_ 0 _).set_ 1 _).set_ 2 _).set_ 3 _
        have b2 := B2.out
        rw [lcells_eq] at b2
        (repeat (first | (with_reducible assumption) | ((with_reducible refine Bk.new_ ?_); (first | rfl | (simp only [World.size_alloc, World.size_setCell, World.size_drew, World.heap_drewN]; done))) | (with_reducible refine Bk.alloc ?_ _) | (with_reducible refine Bk.drew ?_) | (with_reducible refine Bk.drewN ?_ _) | ((with_reducible refine Bk.far ?_ ?_ _); rotate_left; focus (simp only []; omega)) | ((with_reducible refine Bk.below ?_ (by with_reducible assumption) ?_); rotate_left; focus (go_size; done))))
    · obtain rfl : t = k := by omega
      have hm := HZ.out.mod_eq
      rw [hm] at HT c0 c1 c2 c3 B2
      have hne : (((T % 10 : Nat) : Int) != 0) = true := by
        have := HZ.out.2
        simp; omega
      obtain ⟨dd, hdd⟩ : ∃ dd : Int, dd = ((T % 10 : Nat) : Int) := ⟨_, rfl⟩
      rw [← hdd] at HT hne
      clear hm hdd
      go_wp2_with ((go_at_call 89; with_reducible refine (HT.out _).mono ?_); rintro _ w1 ⟨rfl, hb1⟩; have hb1s := hb1.size; (try simp only [World.size_alloc, World.size_setCell, World.size_drew, World.heap_drewN] at hb1s); obtain ⟨hb1c, hb1f⟩ := bcell hb1; (try have : w.heap.size < w1.heap.size := by omega); (try have : w.heap.size + 1 < w1.heap.size := by omega); (try have : w.heap.size + 1 + 1 < w1.heap.size := by omega); (try have : w.heap.size + 1 + 1 + 1 < w1.heap.size := by omega))
      refine bodyPost_ret (by simp [results, Try.results57, go_sem, *]; try rfl) rfl ?_
      exact ⟨rfl, by (repeat' (first | (with_reducible exact Below.refl _ _) | (with_reducible assumption) | (with_reducible refine Below.drew ?_) | (with_reducible refine below_drewN ?_ _) | ((with_reducible refine Below.alloc ?_ ?_ _); rotate_left; focus (go_size; done)) | ((with_reducible refine Below.setCell ?_ ?_ _); rotate_left; focus (go_size; done)) | ((with_reducible refine Below.trans ?_ (Below.mono (by with_reducible assumption) ?_)); rotate_left; focus (go_size; done))))⟩
end Go.Proofs.Ythkgjodidkpaeaa

set_option linter.unusedSimpArgs false
set_option linter.unusedVariables false
namespace Go.Proofs.Ythkgjodidkpaeaa
open Go.RowKit

set_option maxHeartbeats 1000000 in
theorem power_any (k : Nat) (hk : k ≤ 38) (w : World) : Calls Try.prog 88 #[.int .i64 k] w fun e w' => e = .returned (.agg #[.int .u64 (wd (10 ^ k) 1), .int .u64 (wd (10 ^ k) 0)]) ∧ Below w.heap.size w w' := by
  have HT := Lib.hid (fun W => ten_any k hk W)
  generalize wd (10 ^ k) 0 = x0 at *
  generalize wd (10 ^ k) 1 = x1 at *
  go_enter Try.func88, Try.ntmps88
  go_wp2_with ((go_at_call 99; with_reducible refine (HT.out _).mono ?_); rintro _ w1 ⟨rfl, hb1⟩; have hb1s := hb1.size; (try simp only [World.size_alloc, World.size_setCell, World.size_drew, World.heap_drewN] at hb1s); obtain ⟨hb1c, hb1f⟩ := bcell hb1; (try have : w.heap.size < w1.heap.size := by omega); (try have : w.heap.size + 1 < w1.heap.size := by omega); (try have : w.heap.size + 1 + 1 < w1.heap.size := by omega); (try have : w.heap.size + 1 + 1 + 1 < w1.heap.size := by omega))
  refine bodyPost_ret (by simp [results, Try.results88, go_sem, *]; try rfl) rfl ?_
  exact ⟨rfl, by (repeat' (first | (with_reducible exact Below.refl _ _) | (with_reducible assumption) | (with_reducible refine Below.drew ?_) | (with_reducible refine below_drewN ?_ _) | ((with_reducible refine Below.alloc ?_ ?_ _); rotate_left; focus (go_size; done)) | ((with_reducible refine Below.setCell ?_ ?_ _); rotate_left; focus (go_size; done)) | ((with_reducible refine Below.trans ?_ (Below.mono (by with_reducible assumption) ?_)); rotate_left; focus (go_size; done))))⟩
set_option maxHeartbeats 1000000 in
theorem bound_any (w : World) : Calls Try.prog 55 #[] w fun e w' => e = .returned (.agg #[.int .u64 (wd B34 1), .int .u64 (wd B34 0)]) ∧ Below w.heap.size w w' := by
  have HT : Hid (∀ W, Calls Try.prog 88 #[.int .i64 34] W fun e w' => e = .returned (.agg #[.int .u64 (wd B34 1), .int .u64 (wd B34 0)]) ∧ Below W.heap.size W w') := Lib.hid (fun W => power_any 34 (by decide) W)
  generalize wd B34 0 = x0 at *
  generalize wd B34 1 = x1 at *
  go_enter Try.func55, Try.ntmps55
  go_wp2_with ((go_at_call 88; with_reducible refine (HT.out _).mono ?_); rintro _ w1 ⟨rfl, hb1⟩; have hb1s := hb1.size; (try simp only [World.size_alloc, World.size_setCell, World.size_drew, World.heap_drewN] at hb1s); obtain ⟨hb1c, hb1f⟩ := bcell hb1; (try have : w.heap.size < w1.heap.size := by omega); (try have : w.heap.size + 1 < w1.heap.size := by omega); (try have : w.heap.size + 1 + 1 < w1.heap.size := by omega); (try have : w.heap.size + 1 + 1 + 1 < w1.heap.size := by omega))
  refine bodyPost_ret (by simp [results, Try.results55, go_sem, *]; try rfl) rfl ?_
  exact ⟨rfl, by (repeat' (first | (with_reducible exact Below.refl _ _) | (with_reducible assumption) | (with_reducible refine Below.drew ?_) | (with_reducible refine below_drewN ?_ _) | ((with_reducible refine Below.alloc ?_ ?_ _); rotate_left; focus (go_size; done)) | ((with_reducible refine Below.setCell ?_ ?_ _); rotate_left; focus (go_size; done)) | ((with_reducible refine Below.trans ?_ (Below.mono (by with_reducible assumption) ?_)); rotate_left; focus (go_size; done))))⟩
theorem wd_hi2 {n : Nat} (h : n < 2 ^ 128) : wd n 2 = 0 ∧ wd n 3 = 0 := (wd_low4 (Nat.lt_trans h (by decide))).2 h
set_option maxHeartbeats 1000000 in
theorem long_any (n : Nat) (h : n < 2 ^ 128) (w : World) : Calls Try.prog 62 #[.agg #[.int .u64 (wd n 1), .int .u64 (wd n 0)]] w fun e w' => e = .returned (.agg #[.int .u64 (wd n 0), .int .u64 (wd n 1), .int .u64 (wd n 2), .int .u64 (wd n 3)]) ∧ Below w.heap.size w w' := by
  obtain ⟨e2, e3⟩ := wd_hi2 h
  rw [e2, e3]
  clear e2 e3 h
  generalize wd n 0 = x0 at *
  generalize wd n 1 = x1 at *
  go_enter Try.func62, Try.ntmps62
  go_wp2_with fail
  refine bodyPost_ret (by simp [results, Try.results62, go_sem, *]; try rfl) rfl ?_
  exact ⟨rfl, by (repeat' (first | (with_reducible exact Below.refl _ _) | (with_reducible assumption) | (with_reducible refine Below.drew ?_) | (with_reducible refine below_drewN ?_ _) | ((with_reducible refine Below.alloc ?_ ?_ _); rotate_left; focus (go_size; done)) | ((with_reducible refine Below.setCell ?_ ?_ _); rotate_left; focus (go_size; done)) | ((with_reducible refine Below.trans ?_ (Below.mono (by with_reducible assumption) ?_)); rotate_left; focus (go_size; done))))⟩
theorem eq_nil {n : Nat} (h : n < 2 ^ 128) : ((wd n 1 == 0) && (wd n 0 == 0)) = decide (n = 0) := by
  have e := wd_eq_iff h (show 0 < 2 ^ 128 by decide)
  rwa [wd_zero, wd_zero] at e
set_option maxHeartbeats 1000000 in
theorem zero_any (b : Bool) (c : Nat) (s : Int) (h : c < 2 ^ 128) (w : World) : Calls Try.prog 56 #[.agg #[.bool b, .int .u64 (wd (c) 1), .int .u64 (wd (c) 0), .int .i64 s]] w fun e w' => e = .returned (.bool (decide (c = 0))) ∧ Below w.heap.size w w' := by
  have qz : ∀ W, (binOp .eql 24 (.agg #[.int .u64 (wd c 1), .int .u64 (wd c 0)]) (.agg #[.int .u64 0, .int .u64 0])).run Try.prog W = .ok (.bool (decide (c = 0))) W := fun W => by rw [eq_wide, eq_nil h]
  clear h
  generalize decide (c = 0) = z at *
  generalize wd c 0 = x0 at *
  generalize wd c 1 = x1 at *
  go_enter Try.func56, Try.ntmps56
  go_wp2_with fail
  refine bodyPost_ret (by simp [results, Try.results56, go_sem, *]; try rfl) rfl ?_
  exact ⟨rfl, by (repeat' (first | (with_reducible exact Below.refl _ _) | (with_reducible assumption) | (with_reducible refine Below.drew ?_) | (with_reducible refine below_drewN ?_ _) | ((with_reducible refine Below.alloc ?_ ?_ _); rotate_left; focus (go_size; done)) | ((with_reducible refine Below.setCell ?_ ?_ _); rotate_left; focus (go_size; done)) | ((with_reducible refine Below.trans ?_ (Below.mono (by with_reducible assumption) ?_)); rotate_left; focus (go_size; done))))⟩
end Go.Proofs.Ythkgjodidkpaeaa

set_option linter.unusedSimpArgs false
set_option linter.unusedVariables false
namespace Go.Proofs.Ythkgjodidkpaeaa
open Go.RowKit

theorem dform_hi {b : Bool} {c : Nat} {s : Int} (h : ¬ c < B34) : dform b c s = false := by unfold dform; rw [decide_eq_false h]; rfl
theorem dform_neg {b : Bool} {c : Nat} {s : Int} (h : s < 0) : dform b c s = false := by unfold dform; rw [decide_eq_false (show ¬ 0 ≤ s by omega)]; simp
theorem dform_deep {b : Bool} {c : Nat} {s : Int} (h : 18 < s) : dform b c s = false := by unfold dform; rw [decide_eq_false (show ¬ s ≤ 18 by omega)]; simp
theorem dform_in {b : Bool} {c : Nat} {s : Int} (h : c < B34) (h0 : 0 ≤ s) (h1 : s ≤ 18) : dform b c s = if c = 0 then !b && decide (s = 0) else decide (s = 0) || decide (c % 10 ≠ 0) := by
  unfold dform; rw [decide_eq_true h, decide_eq_true h0, decide_eq_true h1]; rfl
theorem cmp_bound {c : Nat} (h : c < B34) : cmpN c B34 < 0 := by unfold cmpN; rw [if_neg (by omega), if_pos h]; decide
theorem cmp_bound' {c : Nat} (h : ¬ c < B34) : 0 ≤ cmpN c B34 := by unfold cmpN; rw [if_neg h]; split <;> decide
set_option maxHeartbeats 4000000 in
theorem form_any (b : Bool) (c : Nat) (s : Int) (hc : c < 2 ^ 128) (w : World) : Calls Try.prog 16 #[.agg #[.bool b, .int .u64 (wd (c) 1), .int .u64 (wd (c) 0), .int .i64 s]] w fun e w' => e = .returned (.bool (dform b c s)) ∧ Below w.heap.size w w' := by
  have HC := Lib.hid (fun W => cmp_any c B34 hc B34_lt W)
  have HB := Lib.hid (fun W => bound_any W)
  have HZ := Lib.hid (fun W => zero_any b c s hc W)
  generalize wd B34 0 = p0 at *
  generalize wd B34 1 = p1 at *
  by_cases hb : c < B34
  · have g1 := cmp_bound hb
    have g1' : decide (0 ≤ cmpN c B34) = false := by simp; omega
    by_cases h0 : s < 0
    · rw [dform_neg h0]
      generalize cmpN c B34 = cc at *
      generalize wd c 0 = x0 at *
      generalize wd c 1 = x1 at *
      clear hc hb
      generalize decide (c = 0) = zz at *
      go_enter Try.func16, Try.ntmps16
      go_wp2_with fail
      first | (go_region_with (first | ((go_at_call 55; with_reducible refine (HB.out _).mono ?_); rintro _ w1 ⟨rfl, hb1⟩; have hb1s := hb1.size; (try simp only [World.size_alloc, World.size_setCell, World.size_drew, World.heap_drewN] at hb1s); obtain ⟨hb1c, hb1f⟩ := bcell hb1; (try have : w.heap.size < w1.heap.size := by omega); (try have : w.heap.size + 1 < w1.heap.size := by omega); (try have : w.heap.size + 1 + 1 < w1.heap.size := by omega); (try have : w.heap.size + 1 + 1 + 1 < w1.heap.size := by omega)) | ((go_at_call 54; with_reducible refine (HC.out _).mono ?_); rintro _ w2 ⟨rfl, hb2⟩; have hb2s := hb2.size; (try simp only [World.size_alloc, World.size_setCell, World.size_drew, World.heap_drewN] at hb2s); obtain ⟨hb2c, hb2f⟩ := bcell hb2; (try have : w.heap.size < w2.heap.size := by omega); (try have : w.heap.size + 1 < w2.heap.size := by omega); (try have : w.heap.size + 1 + 1 < w2.heap.size := by omega); (try have : w.heap.size + 1 + 1 + 1 < w2.heap.size := by omega); (try have : w1.heap.size < w2.heap.size := by omega); (try have : w1.heap.size + 1 < w2.heap.size := by omega); (try have : w1.heap.size + 1 + 1 < w2.heap.size := by omega); (try have : w1.heap.size + 1 + 1 + 1 < w2.heap.size := by omega)))) | fail
      all_goals
        go_wp2_with fail
        go_ret
        exact ⟨rfl, by (repeat' (first | (with_reducible exact Below.refl _ _) | (with_reducible assumption) | (with_reducible refine Below.drew ?_) | (with_reducible refine below_drewN ?_ _) | ((with_reducible refine Below.alloc ?_ ?_ _); rotate_left; focus (go_size; done)) | ((with_reducible refine Below.setCell ?_ ?_ _); rotate_left; focus (go_size; done)) | ((with_reducible refine Below.trans ?_ (Below.mono (by with_reducible assumption) ?_)); rotate_left; focus (go_size; done))))⟩
    · by_cases h1 : 18 < s
      · rw [dform_deep h1]
        have g3 : decide (s < 0) = false := by simp; omega
        generalize cmpN c B34 = cc at *
        generalize wd c 0 = x0 at *
        generalize wd c 1 = x1 at *
        clear hc hb
        generalize decide (c = 0) = zz at *
        go_enter Try.func16, Try.ntmps16
        go_wp2_with fail
        first | (go_region_held3 (fun w' => w'.cell? ⟨w.heap.size, 1, none⟩ = some (.int .u64 x1) ∧ w'.cell? ⟨w.heap.size, 2, none⟩ = some (.int .u64 x0) ∧ w'.cell? ⟨w.heap.size, 3, none⟩ = some (.int .i64 s)) (first | (first | (go_keep; done) | (simp [go_sem]; done) | ((try dsimp only); (repeat' apply And.intro) <;> (first | (with_reducible assumption) | ((rw [World.cell?_alloc_lt _ _ _ (by show _ < _; omega)]); go_split_ands; (first | with_reducible assumption | (refine (World.cell?_alloc_lt _ _ _ (by show _ < _; omega)).symm.trans ?_; with_reducible assumption))) | ((rw [World.cell?_setCell_other _ _ _ _ (by intro e; injection e; omega)]); with_reducible assumption) | (go_keep; done) | (simp [go_sem]; done) | (simp (disch := go_size) [*, World.cell?_alloc_some, World.cell?_setCell_far]; done))))) (first | ((go_at_call 55; with_reducible refine (HB.out _).mono ?_); rintro _ w1 ⟨rfl, hb1⟩; have hb1s := hb1.size; (try simp only [World.size_alloc, World.size_setCell, World.size_drew, World.heap_drewN] at hb1s); obtain ⟨hb1c, hb1f⟩ := bcell hb1; (try have : w.heap.size < w1.heap.size := by omega); (try have : w.heap.size + 1 < w1.heap.size := by omega); (try have : w.heap.size + 1 + 1 < w1.heap.size := by omega); (try have : w.heap.size + 1 + 1 + 1 < w1.heap.size := by omega)) | ((go_at_call 54; with_reducible refine (HC.out _).mono ?_); rintro _ w2 ⟨rfl, hb2⟩; have hb2s := hb2.size; (try simp only [World.size_alloc, World.size_setCell, World.size_drew, World.heap_drewN] at hb2s); obtain ⟨hb2c, hb2f⟩ := bcell hb2; (try have : w.heap.size < w2.heap.size := by omega); (try have : w.heap.size + 1 < w2.heap.size := by omega); (try have : w.heap.size + 1 + 1 < w2.heap.size := by omega); (try have : w.heap.size + 1 + 1 + 1 < w2.heap.size := by omega); (try have : w1.heap.size < w2.heap.size := by omega); (try have : w1.heap.size + 1 < w2.heap.size := by omega); (try have : w1.heap.size + 1 + 1 < w2.heap.size := by omega); (try have : w1.heap.size + 1 + 1 + 1 < w2.heap.size := by omega)))) | fail
        all_goals
          go_wp2_with fail
          go_ret
          exact ⟨rfl, by (repeat' (first | (with_reducible exact Below.refl _ _) | (with_reducible assumption) | (with_reducible refine Below.drew ?_) | (with_reducible refine below_drewN ?_ _) | ((with_reducible refine Below.alloc ?_ ?_ _); rotate_left; focus (go_size; done)) | ((with_reducible refine Below.setCell ?_ ?_ _); rotate_left; focus (go_size; done)) | ((with_reducible refine Below.trans ?_ (Below.mono (by with_reducible assumption) ?_)); rotate_left; focus (go_size; done))))⟩
      · rw [dform_in hb (by omega) (by omega)]
        have g3 : decide (s < 0) = false := by simp; omega
        have g4 : decide (18 < s) = false := by simp; omega
        by_cases hz : c = 0
        · rw [if_pos hz]
          rw [decide_eq_true hz] at HZ
          have g2 : (s == 0) = decide (s = 0) := by rw [Bool.eq_iff_iff]; simp
          generalize cmpN c B34 = cc at *
          generalize wd c 0 = x0 at *
          generalize wd c 1 = x1 at *
          clear hc hb
          generalize decide (s = 0) = sz at *
          clear hz
          cases b
          · go_enter Try.func16, Try.ntmps16
            go_wp2_with fail
            first | (go_region_held3 (fun w' => w'.cell? ⟨w.heap.size, 1, none⟩ = some (.int .u64 x1) ∧ w'.cell? ⟨w.heap.size, 2, none⟩ = some (.int .u64 x0) ∧ w'.cell? ⟨w.heap.size, 3, none⟩ = some (.int .i64 s)) (first | (first | (go_keep; done) | (simp [go_sem]; done) | ((try dsimp only); (repeat' apply And.intro) <;> (first | (with_reducible assumption) | ((rw [World.cell?_alloc_lt _ _ _ (by show _ < _; omega)]); go_split_ands; (first | with_reducible assumption | (refine (World.cell?_alloc_lt _ _ _ (by show _ < _; omega)).symm.trans ?_; with_reducible assumption))) | ((rw [World.cell?_setCell_other _ _ _ _ (by intro e; injection e; omega)]); with_reducible assumption) | (go_keep; done) | (simp [go_sem]; done) | (simp (disch := go_size) [*, World.cell?_alloc_some, World.cell?_setCell_far]; done))))) (first | ((go_at_call 55; with_reducible refine (HB.out _).mono ?_); rintro _ w1 ⟨rfl, hb1⟩; have hb1s := hb1.size; (try simp only [World.size_alloc, World.size_setCell, World.size_drew, World.heap_drewN] at hb1s); obtain ⟨hb1c, hb1f⟩ := bcell hb1; (try have : w.heap.size < w1.heap.size := by omega); (try have : w.heap.size + 1 < w1.heap.size := by omega); (try have : w.heap.size + 1 + 1 < w1.heap.size := by omega); (try have : w.heap.size + 1 + 1 + 1 < w1.heap.size := by omega)) | ((go_at_call 54; with_reducible refine (HC.out _).mono ?_); rintro _ w2 ⟨rfl, hb2⟩; have hb2s := hb2.size; (try simp only [World.size_alloc, World.size_setCell, World.size_drew, World.heap_drewN] at hb2s); obtain ⟨hb2c, hb2f⟩ := bcell hb2; (try have : w.heap.size < w2.heap.size := by omega); (try have : w.heap.size + 1 < w2.heap.size := by omega); (try have : w.heap.size + 1 + 1 < w2.heap.size := by omega); (try have : w.heap.size + 1 + 1 + 1 < w2.heap.size := by omega); (try have : w1.heap.size < w2.heap.size := by omega); (try have : w1.heap.size + 1 < w2.heap.size := by omega); (try have : w1.heap.size + 1 + 1 < w2.heap.size := by omega); (try have : w1.heap.size + 1 + 1 + 1 < w2.heap.size := by omega)))) | fail
            all_goals
              go_wp2_with ((go_at_call 56; with_reducible refine (HZ.out _).mono ?_); rintro _ w3 ⟨rfl, hb3⟩; have hb3s := hb3.size; (try simp only [World.size_alloc, World.size_setCell, World.size_drew, World.heap_drewN] at hb3s); obtain ⟨hb3c, hb3f⟩ := bcell hb3; (try have : w.heap.size < w3.heap.size := by omega); (try have : w.heap.size + 1 < w3.heap.size := by omega); (try have : w.heap.size + 1 + 1 < w3.heap.size := by omega); (try have : w.heap.size + 1 + 1 + 1 < w3.heap.size := by omega); (try have : w1.heap.size < w3.heap.size := by omega); (try have : w1.heap.size + 1 < w3.heap.size := by omega); (try have : w1.heap.size + 1 + 1 < w3.heap.size := by omega); (try have : w1.heap.size + 1 + 1 + 1 < w3.heap.size := by omega); (try have : w2.heap.size < w3.heap.size := by omega); (try have : w2.heap.size + 1 < w3.heap.size := by omega); (try have : w2.heap.size + 1 + 1 < w3.heap.size := by omega); (try have : w2.heap.size + 1 + 1 + 1 < w3.heap.size := by omega))
              go_ret
              exact ⟨by simp, by (repeat' (first | (with_reducible exact Below.refl _ _) | (with_reducible assumption) | (with_reducible refine Below.drew ?_) | (with_reducible refine below_drewN ?_ _) | ((with_reducible refine Below.alloc ?_ ?_ _); rotate_left; focus (go_size; done)) | ((with_reducible refine Below.setCell ?_ ?_ _); rotate_left; focus (go_size; done)) | ((with_reducible refine Below.trans ?_ (Below.mono (by with_reducible assumption) ?_)); rotate_left; focus (go_size; done))))⟩
          · go_enter Try.func16, Try.ntmps16
            go_wp2_with fail
            first | (go_region_held3 (fun w' => w'.cell? ⟨w.heap.size, 1, none⟩ = some (.int .u64 x1) ∧ w'.cell? ⟨w.heap.size, 2, none⟩ = some (.int .u64 x0) ∧ w'.cell? ⟨w.heap.size, 3, none⟩ = some (.int .i64 s)) (first | (first | (go_keep; done) | (simp [go_sem]; done) | ((try dsimp only); (repeat' apply And.intro) <;> (first | (with_reducible assumption) | ((rw [World.cell?_alloc_lt _ _ _ (by show _ < _; omega)]); go_split_ands; (first | with_reducible assumption | (refine (World.cell?_alloc_lt _ _ _ (by show _ < _; omega)).symm.trans ?_; with_reducible assumption))) | ((rw [World.cell?_setCell_other _ _ _ _ (by intro e; injection e; omega)]); with_reducible assumption) | (go_keep; done) | (simp [go_sem]; done) | (simp (disch := go_size) [*, World.cell?_alloc_some, World.cell?_setCell_far]; done))))) (first | ((go_at_call 55; with_reducible refine (HB.out _).mono ?_); rintro _ w1 ⟨rfl, hb1⟩; have hb1s := hb1.size; (try simp only [World.size_alloc, World.size_setCell, World.size_drew, World.heap_drewN] at hb1s); obtain ⟨hb1c, hb1f⟩ := bcell hb1; (try have : w.heap.size < w1.heap.size := by omega); (try have : w.heap.size + 1 < w1.heap.size := by omega); (try have : w.heap.size + 1 + 1 < w1.heap.size := by omega); (try have : w.heap.size + 1 + 1 + 1 < w1.heap.size := by omega)) | ((go_at_call 54; with_reducible refine (HC.out _).mono ?_); rintro _ w2 ⟨rfl, hb2⟩; have hb2s := hb2.size; (try simp only [World.size_alloc, World.size_setCell, World.size_drew, World.heap_drewN] at hb2s); obtain ⟨hb2c, hb2f⟩ := bcell hb2; (try have : w.heap.size < w2.heap.size := by omega); (try have : w.heap.size + 1 < w2.heap.size := by omega); (try have : w.heap.size + 1 + 1 < w2.heap.size := by omega); (try have : w.heap.size + 1 + 1 + 1 < w2.heap.size := by omega); (try have : w1.heap.size < w2.heap.size := by omega); (try have : w1.heap.size + 1 < w2.heap.size := by omega); (try have : w1.heap.size + 1 + 1 < w2.heap.size := by omega); (try have : w1.heap.size + 1 + 1 + 1 < w2.heap.size := by omega)))) | fail
            all_goals
              go_wp2_with ((go_at_call 56; with_reducible refine (HZ.out _).mono ?_); rintro _ w3 ⟨rfl, hb3⟩; have hb3s := hb3.size; (try simp only [World.size_alloc, World.size_setCell, World.size_drew, World.heap_drewN] at hb3s); obtain ⟨hb3c, hb3f⟩ := bcell hb3; (try have : w.heap.size < w3.heap.size := by omega); (try have : w.heap.size + 1 < w3.heap.size := by omega); (try have : w.heap.size + 1 + 1 < w3.heap.size := by omega); (try have : w.heap.size + 1 + 1 + 1 < w3.heap.size := by omega); (try have : w1.heap.size < w3.heap.size := by omega); (try have : w1.heap.size + 1 < w3.heap.size := by omega); (try have : w1.heap.size + 1 + 1 < w3.heap.size := by omega); (try have : w1.heap.size + 1 + 1 + 1 < w3.heap.size := by omega); (try have : w2.heap.size < w3.heap.size := by omega); (try have : w2.heap.size + 1 < w3.heap.size := by omega); (try have : w2.heap.size + 1 + 1 < w3.heap.size := by omega); (try have : w2.heap.size + 1 + 1 + 1 < w3.heap.size := by omega))
              go_ret
              exact ⟨by simp, by (repeat' (first | (with_reducible exact Below.refl _ _) | (with_reducible assumption) | (with_reducible refine Below.drew ?_) | (with_reducible refine below_drewN ?_ _) | ((with_reducible refine Below.alloc ?_ ?_ _); rotate_left; focus (go_size; done)) | ((with_reducible refine Below.setCell ?_ ?_ _); rotate_left; focus (go_size; done)) | ((with_reducible refine Below.trans ?_ (Below.mono (by with_reducible assumption) ?_)); rotate_left; focus (go_size; done))))⟩
        · rw [if_neg hz]
          rw [decide_eq_false hz] at HZ
          obtain ⟨T, k, ht⟩ := tz_upto c 34 hz hb
          have HT := Lib.hid (fun W => trim_any c T k hc ht W)
          have hk : decide (c % 10 ≠ 0) = decide ((k : Int) = 0) := by
            rw [Bool.eq_iff_iff]
            simp only [decide_eq_true_eq]
            constructor
            · intro h
              rcases Nat.eq_zero_or_pos k with h0 | h0
              · omega
              · exact absurd (by have := ht.mod_lt (t := 0) h0; rwa [Nat.pow_zero, Nat.div_one] at this) h
            · intro h
              obtain rfl : k = 0 := by omega
              have := ht.2
              have e := ht.1
              rw [Nat.pow_zero, Nat.mul_one] at e
              rw [e]; exact this
          rw [hk]
          have k0 : (0 : Int) ≤ (k : Int) := by omega
          generalize cmpN c B34 = cc at *
          generalize wd c 0 = x0 at *
          generalize wd c 1 = x1 at *
          clear hc hb
          generalize wd T 0 = y0 at *
          generalize wd T 1 = y1 at *
          clear hz ht hk
          by_cases hs : s = 0
          · have g2 : (s == 0) = true := by simpa using hs
            rw [decide_eq_true hs]
            have HS := Lib.hid hs
            clear hs
            go_enter Try.func16, Try.ntmps16
            go_wp2_with fail
            first | (go_region_held3 (fun w' => w'.cell? ⟨w.heap.size, 1, none⟩ = some (.int .u64 x1) ∧ w'.cell? ⟨w.heap.size, 2, none⟩ = some (.int .u64 x0) ∧ w'.cell? ⟨w.heap.size, 3, none⟩ = some (.int .i64 s)) (first | (first | (go_keep; done) | (simp [go_sem]; done) | ((try dsimp only); (repeat' apply And.intro) <;> (first | (with_reducible assumption) | ((rw [World.cell?_alloc_lt _ _ _ (by show _ < _; omega)]); go_split_ands; (first | with_reducible assumption | (refine (World.cell?_alloc_lt _ _ _ (by show _ < _; omega)).symm.trans ?_; with_reducible assumption))) | ((rw [World.cell?_setCell_other _ _ _ _ (by intro e; injection e; omega)]); with_reducible assumption) | (go_keep; done) | (simp [go_sem]; done) | (simp (disch := go_size) [*, World.cell?_alloc_some, World.cell?_setCell_far]; done))))) (first | ((go_at_call 55; with_reducible refine (HB.out _).mono ?_); rintro _ w1 ⟨rfl, hb1⟩; have hb1s := hb1.size; (try simp only [World.size_alloc, World.size_setCell, World.size_drew, World.heap_drewN] at hb1s); obtain ⟨hb1c, hb1f⟩ := bcell hb1; (try have : w.heap.size < w1.heap.size := by omega); (try have : w.heap.size + 1 < w1.heap.size := by omega); (try have : w.heap.size + 1 + 1 < w1.heap.size := by omega); (try have : w.heap.size + 1 + 1 + 1 < w1.heap.size := by omega)) | ((go_at_call 54; with_reducible refine (HC.out _).mono ?_); rintro _ w2 ⟨rfl, hb2⟩; have hb2s := hb2.size; (try simp only [World.size_alloc, World.size_setCell, World.size_drew, World.heap_drewN] at hb2s); obtain ⟨hb2c, hb2f⟩ := bcell hb2; (try have : w.heap.size < w2.heap.size := by omega); (try have : w.heap.size + 1 < w2.heap.size := by omega); (try have : w.heap.size + 1 + 1 < w2.heap.size := by omega); (try have : w.heap.size + 1 + 1 + 1 < w2.heap.size := by omega); (try have : w1.heap.size < w2.heap.size := by omega); (try have : w1.heap.size + 1 < w2.heap.size := by omega); (try have : w1.heap.size + 1 + 1 < w2.heap.size := by omega); (try have : w1.heap.size + 1 + 1 + 1 < w2.heap.size := by omega)))) | fail
            all_goals
              go_wp2_with (first | ((go_at_call 56; with_reducible refine (HZ.out _).mono ?_); rintro _ w3 ⟨rfl, hb3⟩; have hb3s := hb3.size; (try simp only [World.size_alloc, World.size_setCell, World.size_drew, World.heap_drewN] at hb3s); obtain ⟨hb3c, hb3f⟩ := bcell hb3; (try have : w.heap.size < w3.heap.size := by omega); (try have : w.heap.size + 1 < w3.heap.size := by omega); (try have : w.heap.size + 1 + 1 < w3.heap.size := by omega); (try have : w.heap.size + 1 + 1 + 1 < w3.heap.size := by omega); (try have : w1.heap.size < w3.heap.size := by omega); (try have : w1.heap.size + 1 < w3.heap.size := by omega); (try have : w1.heap.size + 1 + 1 < w3.heap.size := by omega); (try have : w1.heap.size + 1 + 1 + 1 < w3.heap.size := by omega); (try have : w2.heap.size < w3.heap.size := by omega); (try have : w2.heap.size + 1 < w3.heap.size := by omega); (try have : w2.heap.size + 1 + 1 < w3.heap.size := by omega); (try have : w2.heap.size + 1 + 1 + 1 < w3.heap.size := by omega)) | ((go_at_call 57; with_reducible refine (HT.out _).mono ?_); rintro _ w4 ⟨rfl, hb4⟩; have hb4s := hb4.size; (try simp only [World.size_alloc, World.size_setCell, World.size_drew, World.heap_drewN] at hb4s); obtain ⟨hb4c, hb4f⟩ := bcell hb4; (try have : w.heap.size < w4.heap.size := by omega); (try have : w.heap.size + 1 < w4.heap.size := by omega); (try have : w.heap.size + 1 + 1 < w4.heap.size := by omega); (try have : w.heap.size + 1 + 1 + 1 < w4.heap.size := by omega); (try have : w1.heap.size < w4.heap.size := by omega); (try have : w1.heap.size + 1 < w4.heap.size := by omega); (try have : w1.heap.size + 1 + 1 < w4.heap.size := by omega); (try have : w1.heap.size + 1 + 1 + 1 < w4.heap.size := by omega); (try have : w2.heap.size < w4.heap.size := by omega); (try have : w2.heap.size + 1 < w4.heap.size := by omega); (try have : w2.heap.size + 1 + 1 < w4.heap.size := by omega); (try have : w2.heap.size + 1 + 1 + 1 < w4.heap.size := by omega); (try have : w3.heap.size < w4.heap.size := by omega); (try have : w3.heap.size + 1 < w4.heap.size := by omega); (try have : w3.heap.size + 1 + 1 < w4.heap.size := by omega); (try have : w3.heap.size + 1 + 1 + 1 < w4.heap.size := by omega)))
              go_ret
              exact ⟨rfl, by (repeat' (first | (with_reducible exact Below.refl _ _) | (with_reducible assumption) | (with_reducible refine Below.drew ?_) | (with_reducible refine below_drewN ?_ _) | ((with_reducible refine Below.alloc ?_ ?_ _); rotate_left; focus (go_size; done)) | ((with_reducible refine Below.setCell ?_ ?_ _); rotate_left; focus (go_size; done)) | ((with_reducible refine Below.trans ?_ (Below.mono (by with_reducible assumption) ?_)); rotate_left; focus (go_size; done))))⟩
          · have g2 : (s == 0) = false := by simpa using hs
            rw [decide_eq_false hs]
            clear hs
            go_enter Try.func16, Try.ntmps16
            go_wp2_with fail
            first | (go_region_held3 (fun w' => w'.cell? ⟨w.heap.size, 1, none⟩ = some (.int .u64 x1) ∧ w'.cell? ⟨w.heap.size, 2, none⟩ = some (.int .u64 x0) ∧ w'.cell? ⟨w.heap.size, 3, none⟩ = some (.int .i64 s)) (first | (first | (go_keep; done) | (simp [go_sem]; done) | ((try dsimp only); (repeat' apply And.intro) <;> (first | (with_reducible assumption) | ((rw [World.cell?_alloc_lt _ _ _ (by show _ < _; omega)]); go_split_ands; (first | with_reducible assumption | (refine (World.cell?_alloc_lt _ _ _ (by show _ < _; omega)).symm.trans ?_; with_reducible assumption))) | ((rw [World.cell?_setCell_other _ _ _ _ (by intro e; injection e; omega)]); with_reducible assumption) | (go_keep; done) | (simp [go_sem]; done) | (simp (disch := go_size) [*, World.cell?_alloc_some, World.cell?_setCell_far]; done))))) (first | ((go_at_call 55; with_reducible refine (HB.out _).mono ?_); rintro _ w1 ⟨rfl, hb1⟩; have hb1s := hb1.size; (try simp only [World.size_alloc, World.size_setCell, World.size_drew, World.heap_drewN] at hb1s); obtain ⟨hb1c, hb1f⟩ := bcell hb1; (try have : w.heap.size < w1.heap.size := by omega); (try have : w.heap.size + 1 < w1.heap.size := by omega); (try have : w.heap.size + 1 + 1 < w1.heap.size := by omega); (try have : w.heap.size + 1 + 1 + 1 < w1.heap.size := by omega)) | ((go_at_call 54; with_reducible refine (HC.out _).mono ?_); rintro _ w2 ⟨rfl, hb2⟩; have hb2s := hb2.size; (try simp only [World.size_alloc, World.size_setCell, World.size_drew, World.heap_drewN] at hb2s); obtain ⟨hb2c, hb2f⟩ := bcell hb2; (try have : w.heap.size < w2.heap.size := by omega); (try have : w.heap.size + 1 < w2.heap.size := by omega); (try have : w.heap.size + 1 + 1 < w2.heap.size := by omega); (try have : w.heap.size + 1 + 1 + 1 < w2.heap.size := by omega); (try have : w1.heap.size < w2.heap.size := by omega); (try have : w1.heap.size + 1 < w2.heap.size := by omega); (try have : w1.heap.size + 1 + 1 < w2.heap.size := by omega); (try have : w1.heap.size + 1 + 1 + 1 < w2.heap.size := by omega)))) | fail
            all_goals
              go_wp2_with (first | ((go_at_call 56; with_reducible refine (HZ.out _).mono ?_); rintro _ w3 ⟨rfl, hb3⟩; have hb3s := hb3.size; (try simp only [World.size_alloc, World.size_setCell, World.size_drew, World.heap_drewN] at hb3s); obtain ⟨hb3c, hb3f⟩ := bcell hb3; (try have : w.heap.size < w3.heap.size := by omega); (try have : w.heap.size + 1 < w3.heap.size := by omega); (try have : w.heap.size + 1 + 1 < w3.heap.size := by omega); (try have : w.heap.size + 1 + 1 + 1 < w3.heap.size := by omega); (try have : w1.heap.size < w3.heap.size := by omega); (try have : w1.heap.size + 1 < w3.heap.size := by omega); (try have : w1.heap.size + 1 + 1 < w3.heap.size := by omega); (try have : w1.heap.size + 1 + 1 + 1 < w3.heap.size := by omega); (try have : w2.heap.size < w3.heap.size := by omega); (try have : w2.heap.size + 1 < w3.heap.size := by omega); (try have : w2.heap.size + 1 + 1 < w3.heap.size := by omega); (try have : w2.heap.size + 1 + 1 + 1 < w3.heap.size := by omega)) | ((go_at_call 57; with_reducible refine (HT.out _).mono ?_); rintro _ w4 ⟨rfl, hb4⟩; have hb4s := hb4.size; (try simp only [World.size_alloc, World.size_setCell, World.size_drew, World.heap_drewN] at hb4s); obtain ⟨hb4c, hb4f⟩ := bcell hb4; (try have : w.heap.size < w4.heap.size := by omega); (try have : w.heap.size + 1 < w4.heap.size := by omega); (try have : w.heap.size + 1 + 1 < w4.heap.size := by omega); (try have : w.heap.size + 1 + 1 + 1 < w4.heap.size := by omega); (try have : w1.heap.size < w4.heap.size := by omega); (try have : w1.heap.size + 1 < w4.heap.size := by omega); (try have : w1.heap.size + 1 + 1 < w4.heap.size := by omega); (try have : w1.heap.size + 1 + 1 + 1 < w4.heap.size := by omega); (try have : w2.heap.size < w4.heap.size := by omega); (try have : w2.heap.size + 1 < w4.heap.size := by omega); (try have : w2.heap.size + 1 + 1 < w4.heap.size := by omega); (try have : w2.heap.size + 1 + 1 + 1 < w4.heap.size := by omega); (try have : w3.heap.size < w4.heap.size := by omega); (try have : w3.heap.size + 1 < w4.heap.size := by omega); (try have : w3.heap.size + 1 + 1 < w4.heap.size := by omega); (try have : w3.heap.size + 1 + 1 + 1 < w4.heap.size := by omega)))
              go_ret
              exact ⟨ret_bool (by rw [Bool.eq_iff_iff]; simp), by (repeat' (first | (with_reducible exact Below.refl _ _) | (with_reducible assumption) | (with_reducible refine Below.drew ?_) | (with_reducible refine below_drewN ?_ _) | ((with_reducible refine Below.alloc ?_ ?_ _); rotate_left; focus (go_size; done)) | ((with_reducible refine Below.setCell ?_ ?_ _); rotate_left; focus (go_size; done)) | ((with_reducible refine Below.trans ?_ (Below.mono (by with_reducible assumption) ?_)); rotate_left; focus (go_size; done))))⟩
  · have g1 := cmp_bound' hb
    have g1' : decide (0 ≤ cmpN c B34) = true := by simp; omega
    rw [dform_hi hb]
    generalize cmpN c B34 = cc at *
    generalize wd c 0 = x0 at *
    generalize wd c 1 = x1 at *
    clear hc hb
    generalize decide (c = 0) = zz at *
    go_enter Try.func16, Try.ntmps16
    go_wp2_with fail
    first | (go_region_with (first | ((go_at_call 55; with_reducible refine (HB.out _).mono ?_); rintro _ w1 ⟨rfl, hb1⟩; have hb1s := hb1.size; (try simp only [World.size_alloc, World.size_setCell, World.size_drew, World.heap_drewN] at hb1s); obtain ⟨hb1c, hb1f⟩ := bcell hb1; (try have : w.heap.size < w1.heap.size := by omega); (try have : w.heap.size + 1 < w1.heap.size := by omega); (try have : w.heap.size + 1 + 1 < w1.heap.size := by omega); (try have : w.heap.size + 1 + 1 + 1 < w1.heap.size := by omega)) | ((go_at_call 54; with_reducible refine (HC.out _).mono ?_); rintro _ w2 ⟨rfl, hb2⟩; have hb2s := hb2.size; (try simp only [World.size_alloc, World.size_setCell, World.size_drew, World.heap_drewN] at hb2s); obtain ⟨hb2c, hb2f⟩ := bcell hb2; (try have : w.heap.size < w2.heap.size := by omega); (try have : w.heap.size + 1 < w2.heap.size := by omega); (try have : w.heap.size + 1 + 1 < w2.heap.size := by omega); (try have : w.heap.size + 1 + 1 + 1 < w2.heap.size := by omega); (try have : w1.heap.size < w2.heap.size := by omega); (try have : w1.heap.size + 1 < w2.heap.size := by omega); (try have : w1.heap.size + 1 + 1 < w2.heap.size := by omega); (try have : w1.heap.size + 1 + 1 + 1 < w2.heap.size := by omega)))) | fail
    all_goals
      go_wp2_with fail
      go_ret
      exact ⟨rfl, by (repeat' (first | (with_reducible exact Below.refl _ _) | (with_reducible assumption) | (with_reducible refine Below.drew ?_) | (with_reducible refine below_drewN ?_ _) | ((with_reducible refine Below.alloc ?_ ?_ _); rotate_left; focus (go_size; done)) | ((with_reducible refine Below.setCell ?_ ?_ _); rotate_left; focus (go_size; done)) | ((with_reducible refine Below.trans ?_ (Below.mono (by with_reducible assumption) ?_)); rotate_left; focus (go_size; done))))⟩
end Go.Proofs.Ythkgjodidkpaeaa

set_option linter.unusedSimpArgs false
set_option linter.unusedVariables false
namespace Go.Proofs.Ythkgjodidkpaeaa
open Go.RowKit
theorem wp_named {F : World → Prop} {w : World} (R : World → Prop) (hR : R w) (h : ∀ W, R W → F W) : F w := h w hR
theorem calls_named {P : Program} {f : FuncId} {args : Array Value} {K : Ending → World → Prop} {w : World} (R : World → Prop) (hR : R w) (h : ∀ W, R W → Calls P f args W K) : Calls P f args w K := h w hR
end Go.Proofs.Ythkgjodidkpaeaa

set_option linter.unusedSimpArgs false
set_option linter.unusedVariables false
namespace Go.Proofs.Ythkgjodidkpaeaa
open Go.RowKit

def ferr (x : Bool) : Int := if x = true then 0 else 2
set_option maxHeartbeats 4000000 in
theorem formed_one (b : Bool) (c : Nat) (s : Int) (hc : c < 2 ^ 128) (g : Nat) (w : World) (hg : Bk w g 26 [.bool b, .int .u64 (wd (c) 1), .int .u64 (wd (c) 0), .int .i64 s]) :
    Calls Try.prog 46 #[.slice (some ⟨g, 0, none⟩) 1 1] w fun e w' => e = .returned (.int .i64 (ferr (dform b c s))) ∧ Below w.heap.size w w' := by
  have HF := Lib.hid (fun W => form_any b c s hc W)
  obtain ⟨v, hv⟩ : ∃ v, v = dform b c s := ⟨_, rfl⟩
  rw [← hv] at HF
  rw [← hv]
  generalize wd c 0 = x0 at *
  generalize wd c 1 = x1 at *
  have HG := Lib.hid hg
  have hgl := hg.lt
  clear hc hv hg
  go_enter Try.func46, Try.ntmps46
  go_wp2_with fail
  go_loopg [7] 1 (fun k i wr => ∃ t : Nat, k + t = 1 ∧ i = .int .i64 t ∧ (t = 0 ∨ v = true) ∧ Below w.heap.size w wr)
  case atStart => exact ⟨0, rfl, rfl, .inl rfl, by (repeat' (first | (with_reducible exact Below.refl _ _) | (with_reducible assumption) | (with_reducible refine Below.drew ?_) | (with_reducible refine below_drewN ?_ _) | ((with_reducible refine Below.alloc ?_ ?_ _); rotate_left; focus (go_size; done)) | ((with_reducible refine Below.setCell ?_ ?_ _); rotate_left; focus (go_size; done)) | ((with_reducible refine Below.trans ?_ (Below.mono (by with_reducible assumption) ?_)); rotate_left; focus (go_size; done))))⟩
  case round =>
    obtain ⟨t, hk, rfl, hv, hbel⟩ := hrel
    have HK := Lib.hid hk
    have hbs := hbel.size
    have hc : t = 0 ∨ t = 1 := by omega
    clear hk
    rcases hc with rfl | rfl
    · have bg := HG.out.below hbel hgl
      have d0 := bg.cell 0 rfl
      have d1 := bg.cell 1 rfl
      have d2 := bg.cell 2 rfl
      have d3 := bg.cell 3 rfl
      clear bg hv
      cases v
      · go_wp2_with ((go_at_call 16; with_reducible refine (HF.out _).mono ?_); rintro _ w1 ⟨rfl, hb1⟩; have hb1s := hb1.size; (try simp only [World.size_alloc, World.size_setCell, World.size_drew, World.heap_drewN] at hb1s); obtain ⟨hb1c, hb1f⟩ := bcell hb1; (try have : w.heap.size < w1.heap.size := by omega); (try have : w.heap.size + 1 < w1.heap.size := by omega); (try have : w.heap.size + 1 + 1 < w1.heap.size := by omega); (try have : w.heap.size + 1 + 1 + 1 < w1.heap.size := by omega))
        go_ret
        exact ⟨rfl, by (repeat' (first | (with_reducible exact Below.refl _ _) | (with_reducible assumption) | (with_reducible refine Below.drew ?_) | (with_reducible refine below_drewN ?_ _) | ((with_reducible refine Below.alloc ?_ ?_ _); rotate_left; focus (go_size; done)) | ((with_reducible refine Below.setCell ?_ ?_ _); rotate_left; focus (go_size; done)) | ((with_reducible refine Below.trans ?_ (Below.mono (by with_reducible assumption) ?_)); rotate_left; focus (go_size; done))))⟩
      · go_wp2_with ((go_at_call 16; with_reducible refine (HF.out _).mono ?_); rintro _ w1 ⟨rfl, hb1⟩; have hb1s := hb1.size; (try simp only [World.size_alloc, World.size_setCell, World.size_drew, World.heap_drewN] at hb1s); obtain ⟨hb1c, hb1f⟩ := bcell hb1; (try have : w.heap.size < w1.heap.size := by omega); (try have : w.heap.size + 1 < w1.heap.size := by omega); (try have : w.heap.size + 1 + 1 < w1.heap.size := by omega); (try have : w.heap.size + 1 + 1 + 1 < w1.heap.size := by omega))
        go_roundg 0
        case measure => have := HK.out; omega
        case rel => exact ⟨1, rfl, rfl, .inr (by simp), by (repeat' (first | (with_reducible exact Below.refl _ _) | (with_reducible assumption) | (with_reducible refine Below.drew ?_) | (with_reducible refine below_drewN ?_ _) | ((with_reducible refine Below.alloc ?_ ?_ _); rotate_left; focus (go_size; done)) | ((with_reducible refine Below.setCell ?_ ?_ _); rotate_left; focus (go_size; done)) | ((with_reducible refine Below.trans ?_ (Below.mono (by with_reducible assumption) ?_)); rotate_left; focus (go_size; done))))⟩
    · obtain rfl : v = true := by simpa using hv
      clear hv
      go_wp2_with fail
      go_ret
      exact ⟨rfl, by (repeat' (first | (with_reducible exact Below.refl _ _) | (with_reducible assumption) | (with_reducible refine Below.drew ?_) | (with_reducible refine below_drewN ?_ _) | ((with_reducible refine Below.alloc ?_ ?_ _); rotate_left; focus (go_size; done)) | ((with_reducible refine Below.setCell ?_ ?_ _); rotate_left; focus (go_size; done)) | ((with_reducible refine Below.trans ?_ (Below.mono (by with_reducible assumption) ?_)); rotate_left; focus (go_size; done))))⟩
set_option maxHeartbeats 4000000 in
theorem formed_two (b : Bool) (c : Nat) (s : Int) (hc : c < 2 ^ 128) (b' : Bool) (c' : Nat) (s' : Int) (hc' : c' < 2 ^ 128) (g : Nat) (w : World) (hg : Bk w g 26 [.bool b, .int .u64 (wd c 1), .int .u64 (wd c 0), .int .i64 s, .bool b', .int .u64 (wd c' 1), .int .u64 (wd c' 0), .int .i64 s']) :
    Calls Try.prog 46 #[.slice (some ⟨g, 0, none⟩) 2 2] w fun e w' => e = .returned (.int .i64 (ferr (dform b c s && dform b' c' s'))) ∧ Below w.heap.size w w' := by
  have HF := Lib.hid (fun W => form_any b c s hc W)
  have HF' := Lib.hid (fun W => form_any b' c' s' hc' W)
  obtain ⟨v, hv⟩ : ∃ v, v = dform b c s := ⟨_, rfl⟩
  obtain ⟨v', hv'⟩ : ∃ v', v' = dform b' c' s' := ⟨_, rfl⟩
  rw [← hv] at HF
  rw [← hv'] at HF'
  rw [← hv, ← hv']
  generalize wd c 0 = x0 at *
  generalize wd c 1 = x1 at *
  generalize wd c' 0 = y0 at *
  generalize wd c' 1 = y1 at *
  have HG := Lib.hid hg
  have hgl := hg.lt
  clear hc hv hg hc' hv'
  go_enter Try.func46, Try.ntmps46
  go_wp2_with fail
  go_loopg [7] 2 (fun k i wr => ∃ t : Nat, k + t = 2 ∧ i = .int .i64 t ∧ (t = 0 ∨ v = true) ∧ (t ≤ 1 ∨ v' = true) ∧ Below w.heap.size w wr)
  case atStart => exact ⟨0, rfl, rfl, .inl rfl, .inl (by decide), by (repeat' (first | (with_reducible exact Below.refl _ _) | (with_reducible assumption) | (with_reducible refine Below.drew ?_) | (with_reducible refine below_drewN ?_ _) | ((with_reducible refine Below.alloc ?_ ?_ _); rotate_left; focus (go_size; done)) | ((with_reducible refine Below.setCell ?_ ?_ _); rotate_left; focus (go_size; done)) | ((with_reducible refine Below.trans ?_ (Below.mono (by with_reducible assumption) ?_)); rotate_left; focus (go_size; done))))⟩
  case round =>
    obtain ⟨t, hk, rfl, hv, hv', hbel⟩ := hrel
    have HK := Lib.hid hk
    have hbs := hbel.size
    have hc : t = 0 ∨ t = 1 ∨ t = 2 := by omega
    have bg := HG.out.below hbel hgl
    clear hk
    rcases hc with rfl | rfl | rfl
    · have d0 := bg.cell 0 rfl
      have d1 := bg.cell 1 rfl
      have d2 := bg.cell 2 rfl
      have d3 := bg.cell 3 rfl
      clear bg hv hv'
      cases v
      · go_wp2_with ((go_at_call 16; with_reducible refine (HF.out _).mono ?_); rintro _ w1 ⟨rfl, hb1⟩; have hb1s := hb1.size; (try simp only [World.size_alloc, World.size_setCell, World.size_drew, World.heap_drewN] at hb1s); obtain ⟨hb1c, hb1f⟩ := bcell hb1; (try have : w.heap.size < w1.heap.size := by omega); (try have : w.heap.size + 1 < w1.heap.size := by omega); (try have : w.heap.size + 1 + 1 < w1.heap.size := by omega); (try have : w.heap.size + 1 + 1 + 1 < w1.heap.size := by omega))
        go_ret
        exact ⟨rfl, by (repeat' (first | (with_reducible exact Below.refl _ _) | (with_reducible assumption) | (with_reducible refine Below.drew ?_) | (with_reducible refine below_drewN ?_ _) | ((with_reducible refine Below.alloc ?_ ?_ _); rotate_left; focus (go_size; done)) | ((with_reducible refine Below.setCell ?_ ?_ _); rotate_left; focus (go_size; done)) | ((with_reducible refine Below.trans ?_ (Below.mono (by with_reducible assumption) ?_)); rotate_left; focus (go_size; done))))⟩
      · go_wp2_with ((go_at_call 16; with_reducible refine (HF.out _).mono ?_); rintro _ w1 ⟨rfl, hb1⟩; have hb1s := hb1.size; (try simp only [World.size_alloc, World.size_setCell, World.size_drew, World.heap_drewN] at hb1s); obtain ⟨hb1c, hb1f⟩ := bcell hb1; (try have : w.heap.size < w1.heap.size := by omega); (try have : w.heap.size + 1 < w1.heap.size := by omega); (try have : w.heap.size + 1 + 1 < w1.heap.size := by omega); (try have : w.heap.size + 1 + 1 + 1 < w1.heap.size := by omega))
        go_roundg 1
        case measure => have := HK.out; omega
        case rel => exact ⟨1, rfl, rfl, .inr (by simp), .inl (Nat.le_refl _), by (repeat' (first | (with_reducible exact Below.refl _ _) | (with_reducible assumption) | (with_reducible refine Below.drew ?_) | (with_reducible refine below_drewN ?_ _) | ((with_reducible refine Below.alloc ?_ ?_ _); rotate_left; focus (go_size; done)) | ((with_reducible refine Below.setCell ?_ ?_ _); rotate_left; focus (go_size; done)) | ((with_reducible refine Below.trans ?_ (Below.mono (by with_reducible assumption) ?_)); rotate_left; focus (go_size; done))))⟩
    · obtain rfl : v = true := by simpa using hv
      have d0 := bg.cell 4 rfl
      have d1 := bg.cell 5 rfl
      have d2 := bg.cell 6 rfl
      have d3 := bg.cell 7 rfl
      clear bg hv hv' HF
      cases v'
      · go_wp2_with ((go_at_call 16; with_reducible refine (HF'.out _).mono ?_); rintro _ w1 ⟨rfl, hb1⟩; have hb1s := hb1.size; (try simp only [World.size_alloc, World.size_setCell, World.size_drew, World.heap_drewN] at hb1s); obtain ⟨hb1c, hb1f⟩ := bcell hb1; (try have : w.heap.size < w1.heap.size := by omega); (try have : w.heap.size + 1 < w1.heap.size := by omega); (try have : w.heap.size + 1 + 1 < w1.heap.size := by omega); (try have : w.heap.size + 1 + 1 + 1 < w1.heap.size := by omega))
        go_ret
        exact ⟨rfl, by (repeat' (first | (with_reducible exact Below.refl _ _) | (with_reducible assumption) | (with_reducible refine Below.drew ?_) | (with_reducible refine below_drewN ?_ _) | ((with_reducible refine Below.alloc ?_ ?_ _); rotate_left; focus (go_size; done)) | ((with_reducible refine Below.setCell ?_ ?_ _); rotate_left; focus (go_size; done)) | ((with_reducible refine Below.trans ?_ (Below.mono (by with_reducible assumption) ?_)); rotate_left; focus (go_size; done))))⟩
      · go_wp2_with ((go_at_call 16; with_reducible refine (HF'.out _).mono ?_); rintro _ w1 ⟨rfl, hb1⟩; have hb1s := hb1.size; (try simp only [World.size_alloc, World.size_setCell, World.size_drew, World.heap_drewN] at hb1s); obtain ⟨hb1c, hb1f⟩ := bcell hb1; (try have : w.heap.size < w1.heap.size := by omega); (try have : w.heap.size + 1 < w1.heap.size := by omega); (try have : w.heap.size + 1 + 1 < w1.heap.size := by omega); (try have : w.heap.size + 1 + 1 + 1 < w1.heap.size := by omega))
        go_roundg 0
        case measure => have := HK.out; omega
        case rel => exact ⟨2, rfl, rfl, .inr (by simp), .inr (by simp), by (repeat' (first | (with_reducible exact Below.refl _ _) | (with_reducible assumption) | (with_reducible refine Below.drew ?_) | (with_reducible refine below_drewN ?_ _) | ((with_reducible refine Below.alloc ?_ ?_ _); rotate_left; focus (go_size; done)) | ((with_reducible refine Below.setCell ?_ ?_ _); rotate_left; focus (go_size; done)) | ((with_reducible refine Below.trans ?_ (Below.mono (by with_reducible assumption) ?_)); rotate_left; focus (go_size; done))))⟩
    · obtain rfl : v = true := by simpa using hv
      obtain rfl : v' = true := by simpa using hv'
      clear hv hv' bg
      go_wp2_with fail
      go_ret
      exact ⟨rfl, by (repeat' (first | (with_reducible exact Below.refl _ _) | (with_reducible assumption) | (with_reducible refine Below.drew ?_) | (with_reducible refine below_drewN ?_ _) | ((with_reducible refine Below.alloc ?_ ?_ _); rotate_left; focus (go_size; done)) | ((with_reducible refine Below.setCell ?_ ?_ _); rotate_left; focus (go_size; done)) | ((with_reducible refine Below.trans ?_ (Below.mono (by with_reducible assumption) ?_)); rotate_left; focus (go_size; done))))⟩
end Go.Proofs.Ythkgjodidkpaeaa

set_option linter.unusedSimpArgs false
set_option linter.unusedVariables false
namespace Go.Proofs.Ythkgjodidkpaeaa
open Go.RowKit

theorem pow_step (t : Nat) : ((2 ^ (64 * (t + 1)) : Nat) : Int) = ((2 ^ (64 * t) : Nat) : Int) * 18446744073709551616 := by
  rw [show 64 * (t + 1) = 64 * t + 64 by omega, Nat.pow_add, Int.natCast_mul]; rfl
theorem plus_word {V V' n m t : Nat} {c s k x y : Int} (i1 : (V : Int) + c * ((2 ^ (64 * t) : Nat) : Int) = n + ((m % 2 ^ (64 * t) : Nat) : Int)) (hx : x = wd V t) (hy : y = wd m t)
    (i2 : (V' : Int) = V + (s - wd V t) * ((2 ^ (64 * t) : Nat) : Int)) (i3 : s + 18446744073709551616 * k = x + y + c) :
    (V' : Int) + k * ((2 ^ (64 * (t + 1)) : Nat) : Int) = n + ((m % 2 ^ (64 * (t + 1)) : Nat) : Int) := by
  rw [pow_step, wd_mod_succ, i2, ← hy, ← hx]
  generalize ((2 ^ (64 * t) : Nat) : Int) = P at *
  generalize ((m % 2 ^ (64 * t) : Nat) : Int) = M at *
  grind
theorem minus_word {V V' n m t : Nat} {c s k x y : Int} (i1 : (V : Int) - c * ((2 ^ (64 * t) : Nat) : Int) = n - ((m % 2 ^ (64 * t) : Nat) : Int)) (hx : x = wd V t) (hy : y = wd m t)
    (i2 : (V' : Int) = V + (s - wd V t) * ((2 ^ (64 * t) : Nat) : Int)) (i3 : s - 18446744073709551616 * k = x - y - c) :
    (V' : Int) - k * ((2 ^ (64 * (t + 1)) : Nat) : Int) = n - ((m % 2 ^ (64 * (t + 1)) : Nat) : Int) := by
  rw [pow_step, wd_mod_succ, i2, ← hy, ← hx]
  generalize ((2 ^ (64 * t) : Nat) : Int) = P at *
  generalize ((m % 2 ^ (64 * t) : Nat) : Int) = M at *
  grind
theorem ten_word {V V' n t : Nat} {c s k h x : Int} (i1 : (V : Int) + c * ((2 ^ (64 * t) : Nat) : Int) = n + 9 * ((n % 2 ^ (64 * t) : Nat) : Int)) (hx : x = wd V t) (hn : wd V t = wd n t)
    (i2 : (V' : Int) = V + (s - wd V t) * ((2 ^ (64 * t) : Nat) : Int)) (i3 : s + 18446744073709551616 * (h + k) = x * 10 + c) :
    (V' : Int) + (h + k) * ((2 ^ (64 * (t + 1)) : Nat) : Int) = n + 9 * ((n % 2 ^ (64 * (t + 1)) : Nat) : Int) := by
  rw [pow_step, wd_mod_succ, i2, ← hn, ← hx]
  generalize ((2 ^ (64 * t) : Nat) : Int) = P at *
  generalize ((n % 2 ^ (64 * t) : Nat) : Int) = M at *
  grind
theorem p256 : ((2 ^ (64 * 4) : Nat) : Int) = 115792089237316195423570985008687907853269984665640564039457584007913129639936 := by rfl
theorem plus_end {V n m : Nat} {c : Int} (hV : V < 2 ^ 256) (hs : n + m < 2 ^ 256) (h0 : 0 ≤ c) (i1 : (V : Int) + c * ((2 ^ (64 * 4) : Nat) : Int) = n + ((m % 2 ^ (64 * 4) : Nat) : Int)) : V = n + m := by
  rw [Nat.mod_eq_of_lt (show m < 2 ^ (64 * 4) by omega), p256] at i1
  omega
theorem minus_end {V n m : Nat} {c : Int} (hV : V < 2 ^ 256) (hn : n < 2 ^ 256) (hs : m ≤ n) (h0 : 0 ≤ c) (i1 : (V : Int) - c * ((2 ^ (64 * 4) : Nat) : Int) = n - ((m % 2 ^ (64 * 4) : Nat) : Int)) : V = n - m := by
  rw [Nat.mod_eq_of_lt (show m < 2 ^ (64 * 4) by omega), p256] at i1
  omega
theorem ten_end {V n : Nat} {c : Int} (hV : V < 2 ^ 256) (hs : n * 10 < 2 ^ 256) (h0 : 0 ≤ c) (i1 : (V : Int) + c * ((2 ^ (64 * 4) : Nat) : Int) = n + 9 * ((n % 2 ^ (64 * 4) : Nat) : Int)) : V = n * 10 := by
  rw [Nat.mod_eq_of_lt (show n < 2 ^ (64 * 4) by omega), p256] at i1
  omega
/-- the order, from the top word on -/
theorem top_word (n k : Nat) : n / 2 ^ (64 * k) = n / 2 ^ (64 * (k + 1)) * 18446744073709551616 + (wd n k).toNat := by
  unfold wd
  rw [show 64 * (k + 1) = 64 * k + 64 by omega, Nat.pow_add, ← Nat.div_div_eq_div_mul, Int.toNat_natCast]
  omega
theorem top_lt {n m k : Nat} (h : n / 2 ^ (64 * (k + 1)) = m / 2 ^ (64 * (k + 1))) (hl : wd n k < wd m k) : n < m := by
  have e1 := top_word n k
  have e2 := top_word m k
  have a0 := wd_nn n k
  have : n / 2 ^ (64 * k) < m / 2 ^ (64 * k) := by rw [e1, e2, h]; omega
  exact Nat.lt_of_not_le fun hle => absurd (Nat.div_le_div_right (c := 2 ^ (64 * k)) hle) (by omega)
theorem top_eq {n m k : Nat} (h : n / 2 ^ (64 * (k + 1)) = m / 2 ^ (64 * (k + 1))) (hl : wd n k = wd m k) : n / 2 ^ (64 * k) = m / 2 ^ (64 * k) := by
  rw [top_word n k, top_word m k, h, hl]
theorem top_none {n m : Nat} (hn : n < 2 ^ 256) (hm : m < 2 ^ 256) : n / 2 ^ (64 * 4) = m / 2 ^ (64 * 4) := by
  rw [Nat.div_eq_of_lt (show n < 2 ^ (64 * 4) from hn), Nat.div_eq_of_lt (show m < 2 ^ (64 * 4) from hm)]
end Go.Proofs.Ythkgjodidkpaeaa

set_option linter.unusedSimpArgs false
set_option linter.unusedVariables false
namespace Go.Proofs.Ythkgjodidkpaeaa
open Go.RowKit

theorem ten_step (x c : Int) (hx0 : 0 ≤ x) (hx : x < 18446744073709551616) (hc0 : 0 ≤ c) (hc : c < 18446744073709551616) :
    ∃ h l s k : Int, Hid (∀ w : World, Calls Try.prog 96 #[.int .u64 x, .int .u64 10] w fun e w' => e = .returned (.tuple #[.int .u64 h, .int .u64 l]) ∧ ∃ nn, w' = w.drewN nn) ∧
      (∀ W : World, (callFunc 86 #[.int .u64 l, .int .u64 c, .int .u64 0]).run Try.prog W = .ok (.value (.tuple #[.int .u64 s, .int .u64 k])) W) ∧
      Hid (s + 18446744073709551616 * (h + k) = x * 10 + c) ∧ 0 ≤ h ∧ 0 ≤ k ∧ 0 ≤ s ∧ s < 18446744073709551616 ∧ h + k < 18446744073709551616 := by
  obtain ⟨h, l, f, H⟩ := mul64_ex x 10 hx0 hx (by decide) (by decide)
  unfold Two at H
  obtain ⟨s, k, g, K⟩ := add64_ex l c 0 (by omega) (by omega) hc0 hc (by decide) (by decide)
  unfold Carry at K
  exact ⟨h, l, s, k, f, g, by show s + 18446744073709551616 * (h + k) = x * 10 + c; omega, by omega, by omega, by omega, by omega, by omega⟩
set_option maxHeartbeats 4000000 in
theorem times_any4 (c k : Nat) (hc : c < 2 ^ 128) (hk : k ≤ 1000) (h : c * 10 ^ k < 2 ^ 256) (w : World) : Calls Try.prog 79 #[.agg #[.int .u64 (wd c 1), .int .u64 (wd c 0)], .int .i64 k] w fun e w' => e = .returned (.agg #[.int .u64 (wd (c * 10 ^ k) 0), .int .u64 (wd (c * 10 ^ k) 1), .int .u64 (wd (c * 10 ^ k) 2), .int .u64 (wd (c * 10 ^ k) 3)]) ∧ Below w.heap.size w w' := by
  have HL := Lib.hid (fun W => long_any c hc W)
  have H := Far.mk h
  have k0 : (0 : Int) ≤ (k : Int) := by omega
  have k1 : (k : Int) ≤ 1000 := by omega
  obtain ⟨z, hz⟩ : ∃ z, z = c * 10 ^ k := ⟨_, rfl⟩
  rw [← hz]
  have HZ := Far.mk hz
  clear hc h hz
  obtain ⟨x1, hx1⟩ : ∃ x1, x1 = wd c 1 := ⟨_, rfl⟩
  obtain ⟨x0, hx0⟩ : ∃ x0, x0 = wd c 0 := ⟨_, rfl⟩
  rw [← hx1, ← hx0]
  rw [← hx1, ← hx0] at HL
  have X1 := Lib.hid hx1
  have X0 := Lib.hid hx0
  clear hx1 hx0
  go_enter Try.func79, Try.ntmps79
  go_wp2_with fail
  refine (HL.out _).mono ?_
  rw [X1.out, X0.out]
  rintro _ w1 ⟨rfl, hb1⟩; have hb1s := hb1.size; (try simp only [World.size_alloc, World.size_setCell, World.size_drew, World.heap_drewN] at hb1s); obtain ⟨hb1c, hb1f⟩ := bcell hb1; (try have : w.heap.size < w1.heap.size := by omega); (try have : w.heap.size + 1 < w1.heap.size := by omega); (try have : w.heap.size + 1 + 1 < w1.heap.size := by omega); (try have : w.heap.size + 1 + 1 + 1 < w1.heap.size := by omega)
  go_wp2_with fail
  go_loopg [14] k (fun kk i wr => ∃ t : Nat, kk + t = k ∧ i = .int .i64 t ∧ Bk wr w1.heap.size 45 (lcells (c * 10 ^ t)) ∧ Bk wr (w.heap.size + 1) 45 [.int .u64 0, .int .u64 0, .int .u64 0, .int .u64 0] ∧ w1.heap.size < wr.heap.size ∧ Below w.heap.size w wr)
  case atStart =>
    refine ⟨0, by omega, rfl, ?_, by (repeat (first | (with_reducible assumption) | ((with_reducible refine Bk.new_ ?_); (first | rfl | (simp only [World.size_alloc, World.size_setCell, World.size_drew, World.heap_drewN]; done))) | (with_reducible refine Bk.alloc ?_ _) | (with_reducible refine Bk.drew ?_) | (with_reducible refine Bk.drewN ?_ _) | ((with_reducible refine Bk.far ?_ ?_ _); rotate_left; focus (simp only []; omega)) | ((with_reducible refine Bk.below ?_ (by with_reducible assumption) ?_); rotate_left; focus (go_size; done)))), by go_size, by (repeat' (first | (with_reducible exact Below.refl _ _) | (with_reducible assumption) | (with_reducible refine Below.drew ?_) | (with_reducible refine below_drewN ?_ _) | ((with_reducible refine Below.alloc ?_ ?_ _); rotate_left; focus (go_size; done)) | ((with_reducible refine Below.setCell ?_ ?_ _); rotate_left; focus (go_size; done)) | ((with_reducible refine Below.trans ?_ (Below.mono (by with_reducible assumption) ?_)); rotate_left; focus (go_size; done))))⟩
    rw [Nat.pow_zero, Nat.mul_one, lcells_eq]
    (repeat (first | (with_reducible assumption) | ((with_reducible refine Bk.new_ ?_); (first | rfl | (simp only [World.size_alloc, World.size_setCell, World.size_drew, World.heap_drewN]; done))) | (with_reducible refine Bk.alloc ?_ _) | (with_reducible refine Bk.drew ?_) | (with_reducible refine Bk.drewN ?_ _) | ((with_reducible refine Bk.far ?_ ?_ _); rotate_left; focus (simp only []; omega)) | ((with_reducible refine Bk.below ?_ (by with_reducible assumption) ?_); rotate_left; focus (go_size; done))))
  case round =>
    obtain ⟨t, hn, rfl, b1, b0, hsz, hbel⟩ := hrel
    have HK := Lib.hid hn
    have HB1 := Lib.hid b1
    have HB0 := Lib.hid b0
    have ht : t ≤ k := by omega
    clear hn b1 b0
    by_cases hlt : t < k
    · have hM : c * 10 ^ t * 10 < 2 ^ 256 := by
        have h1 := H.out
        have h2 : c * 10 ^ t * 10 ≤ c * 10 ^ k := by
          rw [Nat.mul_assoc, ← Nat.pow_succ]
          exact Nat.mul_le_mul_left _ (Nat.pow_le_pow_right (by decide) hlt)
        omega
      obtain ⟨M, eM⟩ : ∃ M, M = c * 10 ^ t := ⟨_, rfl⟩
      rw [← eM] at hM HB1
      have EM := Far.mk eM
      have HM := Far.mk hM
      have HM0 : Far (M < 2 ^ 256) := Far.mk (by omega)
      have tlt : (t : Int) < (k : Int) := by omega
      clear eM hM
      go_wp2_with fail
      obtain ⟨wo, hwo⟩ : ∃ wo : World, wo = wr := ⟨_, rfl⟩
      obtain ⟨go, hgo⟩ : ∃ go : Nat, go = gk := ⟨_, rfl⟩
      rw [← hgo] at HK
      have HGO := Lib.hid hgo
      clear hwo hgo
      go_loopg [6, 16] 4 (fun kk cv j wr => ∃ (s : Nat) (cc : Int) (V : Nat), kk + s = 4 ∧ j = .int .i64 s ∧ cv = .int .u64 cc ∧ 0 ≤ cc ∧ cc < 18446744073709551616 ∧ Far (V < 2 ^ 256) ∧ Far ((V : Int) + cc * ((2 ^ (64 * s) : Nat) : Int) = M + 9 * ((M % 2 ^ (64 * s) : Nat) : Int)) ∧ Hid (∀ i, s ≤ i → i < 4 → wd V i = wd M i) ∧
        Bk wr w1.heap.size 45 (lcells V) ∧ Bk wr (w.heap.size + 1) 45 [.int .u64 0, .int .u64 0, .int .u64 0, .int .u64 0] ∧ w1.heap.size < wr.heap.size ∧ Below w.heap.size w wr)
      case atStart =>
        refine ⟨0, 0, M, rfl, rfl, rfl, by decide, by decide, HM0, Far.mk ?_, Lib.hid (fun i _ _ => rfl), HB1.out, HB0.out, hsz, hbel⟩
        rw [Nat.mul_zero, Nat.pow_zero, Nat.mod_one]; simp
      case round =>
        obtain ⟨s, cc, V, hk2, rfl, rfl, c0, c1, hV, hE, hU, b1, b0, hsz, hbel⟩ := hrel
        have HK2 := Lib.hid hk2
        have HB1 := Lib.hid b1
        have HB0 := Lib.hid b0
        have s4 : s ≤ 4 := by omega
        clear hk2 b1 b0
        by_cases hls : s < 4
        · have s0' : (0 : Int) ≤ (s : Int) := by omega
          have s3' : (s : Int) < 4 := by omega
          have d0 : wr.cell? ⟨w1.heap.size, s, none⟩ = some (.int .u64 (wd V s)) := HB1.out.cell s (lcells_at V s hls)
          have f0 := HB1.out.frozen s
          obtain ⟨h, l, u, q, f, g, HS, h0, q0, u0, u1, hq⟩ := ten_step (wd V s) cc (wd_nn V s) (wd_lt V s) c0 c1
          obtain ⟨V', v1, v2, v3, v4, v5⟩ := lcells_set V s hls hV.out u u0 u1
          have HNEW := Far.mk (ten_word hE.out rfl (hU.out s (Nat.le_refl _) hls) v2 HS.out)
          have HV' := Far.mk v1
          have HL := Lib.hid v3
          have HU' : Hid (∀ i, s + 1 ≤ i → i < 4 → wd V' i = wd M i) := Lib.hid (fun i hi h4 => by rw [v4 i h4 (by omega)]; exact hU.out i (by omega) h4)
          have hq0 : 0 ≤ h + q := by omega
          clear v1 v2 v3 v4 v5 hE hV hU HS
          generalize wd V s = x at *
          go_wp2_with ((go_at_call 96; with_reducible refine (f.out _).mono ?_); rintro _ _ ⟨rfl, nn, rfl⟩)
          go_roundg (gk - 1)
          case measure => have := HK2.out; omega
          case rel =>
            have b0 := HB0.out
            have b1 := HB1.out
            refine ⟨s + 1, h + q, V', by have := HK2.out; omega, by go_num, rfl, hq0, hq, HV', HNEW, HU', ?_, by (repeat (first | (with_reducible assumption) | ((with_reducible refine Bk.new_ ?_); (first | rfl | (simp only [World.size_alloc, World.size_setCell, World.size_drew, World.heap_drewN]; done))) | (with_reducible refine Bk.alloc ?_ _) | (with_reducible refine Bk.drew ?_) | (with_reducible refine Bk.drewN ?_ _) | ((with_reducible refine Bk.far ?_ ?_ _); rotate_left; focus (simp only []; omega)) | ((with_reducible refine Bk.below ?_ (by with_reducible assumption) ?_); rotate_left; focus (go_size; done)))), by go_size, by (repeat' (first | (with_reducible exact Below.refl _ _) | (with_reducible assumption) | (with_reducible refine Below.drew ?_) | (with_reducible refine below_drewN ?_ _) | ((with_reducible refine Below.alloc ?_ ?_ _); rotate_left; focus (go_size; done)) | ((with_reducible refine Below.setCell ?_ ?_ _); rotate_left; focus (go_size; done)) | ((with_reducible refine Below.trans ?_ (Below.mono (by with_reducible assumption) ?_)); rotate_left; focus (go_size; done))))⟩
            rw [← HL.out]
            exact (b1.drewN _).set_ _ _
        · obtain rfl : s = 4 := by omega
          have e := ten_end hV.out HM.out c0 hE.out
          subst e
          clear hV hE
          go_wp2_with fail
          go_roundg (go - 1)
          case measure => have := HK.out; have := HGO.out; omega
          case rel =>
            refine ⟨t + 1, by have := HK.out; omega, by go_num, ?_, HB0.out, hsz, hbel⟩
            rw [Nat.pow_succ, ← Nat.mul_assoc, ← EM.out]
            exact HB1.out
    · obtain rfl : t = k := by omega
      have b1 := HB1.out
      rw [← HZ.out, lcells_eq] at b1
      have b0 := HB0.out
      have d0 := b1.cell 0 rfl
      have d1 := b1.cell 1 rfl
      have d2 := b1.cell 2 rfl
      have d3 := b1.cell 3 rfl
      have e0 := b0.cell 0 rfl
      have e1 := b0.cell 1 rfl
      have e2 := b0.cell 2 rfl
      have e3 := b0.cell 3 rfl
      have g0 := b0.frozen 0
      have g1 := b0.frozen 1
      have g2 := b0.frozen 2
      have g3 := b0.frozen 3
      clear b0 b1
      go_wp2_with fail
      refine bodyPost_ret (by simp [results, Try.results79, go_sem, *]; try rfl) rfl ?_
      exact ⟨rfl, by (repeat' (first | (with_reducible exact Below.refl _ _) | (with_reducible assumption) | (with_reducible refine Below.drew ?_) | (with_reducible refine below_drewN ?_ _) | ((with_reducible refine Below.alloc ?_ ?_ _); rotate_left; focus (go_size; done)) | ((with_reducible refine Below.setCell ?_ ?_ _); rotate_left; focus (go_size; done)) | ((with_reducible refine Below.trans ?_ (Below.mono (by with_reducible assumption) ?_)); rotate_left; focus (go_size; done))))⟩
end Go.Proofs.Ythkgjodidkpaeaa

set_option linter.unusedSimpArgs false
set_option linter.unusedVariables false
namespace Go.Proofs.Ythkgjodidkpaeaa
open Go.RowKit

/-- the size in units of 10^-18 -/
def unit (c s : Nat) : Nat := c * 10 ^ (18 - s)
def sgn (an : Bool) (x : Nat) (bn : Bool) (y : Nat) : Bool := if an = bn then an else if y ≤ x then an else bn
def sab (an : Bool) (x : Nat) (bn : Bool) (y : Nat) : Nat := if an = bn then x + y else if y ≤ x then x - y else y - x
theorem sgn_scale (an bn : Bool) (x y k : Nat) (hk : 0 < k) : sgn an (x * k) bn (y * k) = sgn an x bn y := by
  unfold sgn
  have e : y * k ≤ x * k ↔ y ≤ x := Nat.mul_le_mul_right_iff hk
  simp only [e]
theorem sab_scale (an bn : Bool) (x y k : Nat) (hk : 0 < k) : sab an (x * k) bn (y * k) = sab an x bn y * k := by
  unfold sab
  have e : y * k ≤ x * k ↔ y ≤ x := Nat.mul_le_mul_right_iff hk
  simp only [e]
  split
  · rw [Nat.add_mul]
  · split <;> rw [Nat.sub_mul]
theorem unit_split (c s m : Nat) (h : s ≤ m) (h18 : m ≤ 18) : unit c s = c * 10 ^ (m - s) * 10 ^ (18 - m) := by
  unfold unit
  rw [Nat.mul_assoc, ← Nat.pow_add]; congr 2; omega
theorem unit_lt {c s : Nat} (h : c < B34) : unit c s < 10 ^ 52 := by
  unfold unit
  have h1 : c * 10 ^ (18 - s) ≤ c * 10 ^ 18 := Nat.mul_le_mul_left _ (Nat.pow_le_pow_right (by decide) (by omega))
  have h2 : c * 10 ^ 18 < B34 * 10 ^ 18 := Nat.mul_lt_mul_of_pos_right h (by decide)
  have h3 : B34 * 10 ^ 18 = 10 ^ 52 := by unfold B34; decide
  omega
theorem scaled_lt {c s m : Nat} (h : c < B34) (hm : m ≤ 18) : c * 10 ^ (m - s) < 10 ^ 52 := by
  have h1 : c * 10 ^ (m - s) ≤ c * 10 ^ 18 := Nat.mul_le_mul_left _ (Nat.pow_le_pow_right (by decide) (by omega))
  have h2 : c * 10 ^ 18 < B34 * 10 ^ 18 := Nat.mul_lt_mul_of_pos_right h (by decide)
  have h3 : B34 * 10 ^ 18 = 10 ^ 52 := by unfold B34; decide
  omega
theorem sab_le (an bn : Bool) (x y : Nat) : sab an x bn y ≤ x + y := by unfold sab; split; omega; split <;> omega
/-- a fraction of a power of ten, in other units -/
theorem fit_units (u m : Nat) (h : m ≤ 18) : FitC (u * 10 ^ (18 - m)) (10 ^ 18) = FitC u (10 ^ m) ∧ FitS (u * 10 ^ (18 - m)) (10 ^ 18) = FitS u (10 ^ m) ∧ FitE (u * 10 ^ (18 - m)) (10 ^ 18) = FitE u (10 ^ m) := by
  have e : 10 ^ 18 = 10 ^ m * 10 ^ (18 - m) := by rw [← Nat.pow_add]; congr 1; omega
  rw [e]
  exact fit_scale u (10 ^ m) (10 ^ (18 - m)) (Nat.pow_pos (by decide))
theorem sum_units (an bn : Bool) (ca cb sa sb m : Nat) (ha : sa ≤ m) (hb : sb ≤ m) (h : m ≤ 18) :
    sgn an (unit ca sa) bn (unit cb sb) = sgn an (ca * 10 ^ (m - sa)) bn (cb * 10 ^ (m - sb)) ∧ sab an (unit ca sa) bn (unit cb sb) = sab an (ca * 10 ^ (m - sa)) bn (cb * 10 ^ (m - sb)) * 10 ^ (18 - m) := by
  rw [unit_split ca sa m ha h, unit_split cb sb m hb h]
  have hp : 0 < 10 ^ (18 - m) := Nat.pow_pos (by decide)
  exact ⟨sgn_scale _ _ _ _ _ hp, sab_scale _ _ _ _ _ hp⟩
/-- the order -/
def ordD (an : Bool) (x : Nat) (bn : Bool) (y : Nat) : Int := if an = bn then (if an = true then cmpN y x else cmpN x y) else if an = true then -1 else 1
theorem cmpN_scale (x y k : Nat) (hk : 0 < k) : cmpN (x * k) (y * k) = cmpN x y := by
  unfold cmpN
  have e1 : x * k = y * k ↔ x = y := Nat.mul_left_inj (Nat.ne_of_gt hk)
  have e2 : x * k < y * k ↔ x < y := Nat.mul_lt_mul_right hk
  simp only [e1, e2]
theorem ordD_scale (an bn : Bool) (x y k : Nat) (hk : 0 < k) : ordD an (x * k) bn (y * k) = ordD an x bn y := by
  unfold ordD; rw [cmpN_scale _ _ _ hk, cmpN_scale _ _ _ hk]
theorem ord_units (an bn : Bool) (ca cb sa sb m : Nat) (ha : sa ≤ m) (hb : sb ≤ m) (h : m ≤ 18) :
    ordD an (unit ca sa) bn (unit cb sb) = ordD an (ca * 10 ^ (m - sa)) bn (cb * 10 ^ (m - sb)) := by
  rw [unit_split ca sa m ha h, unit_split cb sb m hb h]
  exact ordD_scale _ _ _ _ _ (Nat.pow_pos (by decide))
/-- the difference's sign is the order -/
theorem ord_sum (an bn : Bool) (x y : Nat) (ha : x = 0 → an = false) (hb : y = 0 → bn = false) :
    ordD an x bn y = if sab an x (!bn) y = 0 then 0 else if sgn an x (!bn) y = true then -1 else 1 := by
  cases an <;> cases bn <;> simp [ordD, sab, sgn, cmpN] at * <;> (repeat' split) <;> omega
end Go.Proofs.Ythkgjodidkpaeaa

set_option linter.unusedSimpArgs false
set_option linter.unusedVariables false
namespace Go.Proofs.Ythkgjodidkpaeaa
open Go.RowKit

set_option maxHeartbeats 2000000 in
theorem turned_any (b : Bool) (c : Nat) (s : Int) (hc : c < 2 ^ 128) (w : World) : Calls Try.prog 50 #[.agg #[.bool b, .int .u64 (wd (c) 1), .int .u64 (wd (c) 0), .int .i64 s]] w fun e w' => e = .returned (.agg #[.bool (sg (!b) c), .int .u64 (wd (c) 1), .int .u64 (wd (c) 0), .int .i64 s]) ∧ Below w.heap.size w w' := by
  have HZ := Lib.hid (fun W => zero_any b c s hc W)
  obtain ⟨z, hz⟩ : ∃ z, z = decide (c = 0) := ⟨_, rfl⟩
  obtain ⟨r, hr⟩ : ∃ r, r = sg (!b) c := ⟨_, rfl⟩
  have HR := Lib.hid (show r = (!b && !z) by rw [hr, hz]; unfold sg; simp)
  rw [← hz] at HZ
  rw [← hr]
  generalize wd c 0 = x0 at *
  generalize wd c 1 = x1 at *
  clear hc hz hr
  cases b
  · go_enter Try.func50, Try.ntmps50
    go_wp2_with fail
    refine (HZ.out _).mono ?_
    rintro _ w1 ⟨rfl, hb1⟩; have hb1s := hb1.size; (try simp only [World.size_alloc, World.size_setCell, World.size_drew, World.heap_drewN] at hb1s); obtain ⟨hb1c, hb1f⟩ := bcell hb1; (try have : w.heap.size < w1.heap.size := by omega); (try have : w.heap.size + 1 < w1.heap.size := by omega); (try have : w.heap.size + 1 + 1 < w1.heap.size := by omega); (try have : w.heap.size + 1 + 1 + 1 < w1.heap.size := by omega)
    have k : Bk w1 (w.heap.size) 26 [.bool false, .int .u64 x1, .int .u64 x0, .int .i64 s] := by (repeat (first | (with_reducible assumption) | ((with_reducible refine Bk.new_ ?_); (first | rfl | (simp only [World.size_alloc, World.size_setCell, World.size_drew, World.heap_drewN]; done))) | (with_reducible refine Bk.alloc ?_ _) | (with_reducible refine Bk.drew ?_) | (with_reducible refine Bk.drewN ?_ _) | ((with_reducible refine Bk.far ?_ ?_ _); rotate_left; focus (simp only []; omega)) | ((with_reducible refine Bk.below ?_ (by with_reducible assumption) ?_); rotate_left; focus (go_size; done))))
    have k_0 := k.cell 0 rfl
    have k_1 := k.cell 1 rfl
    have k_2 := k.cell 2 rfl
    have k_3 := k.cell 3 rfl
    have k_4 := k.frozen 0
    have k_5 := k.frozen 1
    have k_6 := k.frozen 2
    have k_7 := k.frozen 3
    have kl := k.lt
    have r0 : Bk w1 (w.heap.size + 1) 26 [.bool false, .int .u64 0, .int .u64 0, .int .i64 0] := by (repeat (first | (with_reducible assumption) | ((with_reducible refine Bk.new_ ?_); (first | rfl | (simp only [World.size_alloc, World.size_setCell, World.size_drew, World.heap_drewN]; done))) | (with_reducible refine Bk.alloc ?_ _) | (with_reducible refine Bk.drew ?_) | (with_reducible refine Bk.drewN ?_ _) | ((with_reducible refine Bk.far ?_ ?_ _); rotate_left; focus (simp only []; omega)) | ((with_reducible refine Bk.below ?_ (by with_reducible assumption) ?_); rotate_left; focus (go_size; done))))
    have r0_0 := r0.cell 0 rfl
    have r0_1 := r0.cell 1 rfl
    have r0_2 := r0.cell 2 rfl
    have r0_3 := r0.cell 3 rfl
    have r0_4 := r0.frozen 0
    have r0_5 := r0.frozen 1
    have r0_6 := r0.frozen 2
    have r0_7 := r0.frozen 3
    have r0l := r0.lt
    clear hb1c hb1f k r0
    go_wp2_with fail
    refine bodyPost_ret (by simp [results, Try.results50, go_sem, *]; try rfl) rfl ?_
    exact ⟨by rw [HR.out]; rfl, by (repeat' (first | (with_reducible exact Below.refl _ _) | (with_reducible assumption) | (with_reducible refine Below.drew ?_) | (with_reducible refine below_drewN ?_ _) | ((with_reducible refine Below.alloc ?_ ?_ _); rotate_left; focus (go_size; done)) | ((with_reducible refine Below.setCell ?_ ?_ _); rotate_left; focus (go_size; done)) | ((with_reducible refine Below.trans ?_ (Below.mono (by with_reducible assumption) ?_)); rotate_left; focus (go_size; done))))⟩
  · go_enter Try.func50, Try.ntmps50
    go_wp2_with fail
    refine bodyPost_ret (by simp [results, Try.results50, go_sem, *]; try rfl) rfl ?_
    exact ⟨by rw [HR.out]; rfl, by (repeat' (first | (with_reducible exact Below.refl _ _) | (with_reducible assumption) | (with_reducible refine Below.drew ?_) | (with_reducible refine below_drewN ?_ _) | ((with_reducible refine Below.alloc ?_ ?_ _); rotate_left; focus (go_size; done)) | ((with_reducible refine Below.setCell ?_ ?_ _); rotate_left; focus (go_size; done)) | ((with_reducible refine Below.trans ?_ (Below.mono (by with_reducible assumption) ?_)); rotate_left; focus (go_size; done))))⟩
set_option maxHeartbeats 2000000 in
theorem neg_bad (b : Bool) (c : Nat) (s : Int) (hc : c < 2 ^ 128) (h : dform b c s = false) (w : World) : Calls Try.prog 14 #[.agg #[.bool b, .int .u64 (wd (c) 1), .int .u64 (wd (c) 0), .int .i64 s]] w fun e w' => e = .returned (.tuple #[.agg #[.bool false, .int .u64 0, .int .u64 0, .int .i64 0], .int .i64 2]) ∧ Below w.heap.size w w' := by
  have HF := Lib.hid (fun g W hg => formed_one b c s hc g W hg)
  rw [h] at HF
  simp only [ferr, if_pos, if_neg, Bool.false_eq_true, if_true, if_false] at HF
  generalize wd c 0 = x0 at *
  generalize wd c 1 = x1 at *
  clear hc h
  go_enter Try.func14, Try.ntmps14
  go_wp2_with fail
  (with_reducible refine (HF.out _ _ ?hg).mono ?_)
  case hg => ((repeat (first | (with_reducible assumption) | ((with_reducible refine Bk.new_ ?_); (first | rfl | (simp only [World.size_alloc, World.size_setCell, World.size_drew, World.heap_drewN]; done))) | (with_reducible refine Bk.alloc ?_ _) | (with_reducible refine Bk.drew ?_) | (with_reducible refine Bk.drewN ?_ _) | ((with_reducible refine Bk.far ?_ ?_ _); rotate_left; focus (simp only []; omega)) | ((with_reducible refine Bk.below ?_ (by with_reducible assumption) ?_); rotate_left; focus (go_size; done)))); done)
  rintro _ w1 ⟨rfl, hb1⟩; have hb1s := hb1.size; (try simp only [World.size_alloc, World.size_setCell, World.size_drew, World.heap_drewN] at hb1s); obtain ⟨hb1c, hb1f⟩ := bcell hb1; (try have : w.heap.size < w1.heap.size := by omega); (try have : w.heap.size + 1 < w1.heap.size := by omega); (try have : w.heap.size + 1 + 1 < w1.heap.size := by omega); (try have : w.heap.size + 1 + 1 + 1 < w1.heap.size := by omega)
  have k : Bk w1 (w.heap.size) 26 [.bool b, .int .u64 x1, .int .u64 x0, .int .i64 s] := by (repeat (first | (with_reducible assumption) | ((with_reducible refine Bk.new_ ?_); (first | rfl | (simp only [World.size_alloc, World.size_setCell, World.size_drew, World.heap_drewN]; done))) | (with_reducible refine Bk.alloc ?_ _) | (with_reducible refine Bk.drew ?_) | (with_reducible refine Bk.drewN ?_ _) | ((with_reducible refine Bk.far ?_ ?_ _); rotate_left; focus (simp only []; omega)) | ((with_reducible refine Bk.below ?_ (by with_reducible assumption) ?_); rotate_left; focus (go_size; done))))
  have k_0 := k.cell 0 rfl
  have k_1 := k.cell 1 rfl
  have k_2 := k.cell 2 rfl
  have k_3 := k.cell 3 rfl
  have k_4 := k.frozen 0
  have k_5 := k.frozen 1
  have k_6 := k.frozen 2
  have k_7 := k.frozen 3
  have kl := k.lt
  have r0 : Bk w1 (w.heap.size + 1) 26 [.bool false, .int .u64 0, .int .u64 0, .int .i64 0] := by (repeat (first | (with_reducible assumption) | ((with_reducible refine Bk.new_ ?_); (first | rfl | (simp only [World.size_alloc, World.size_setCell, World.size_drew, World.heap_drewN]; done))) | (with_reducible refine Bk.alloc ?_ _) | (with_reducible refine Bk.drew ?_) | (with_reducible refine Bk.drewN ?_ _) | ((with_reducible refine Bk.far ?_ ?_ _); rotate_left; focus (simp only []; omega)) | ((with_reducible refine Bk.below ?_ (by with_reducible assumption) ?_); rotate_left; focus (go_size; done))))
  have r0_0 := r0.cell 0 rfl
  have r0_1 := r0.cell 1 rfl
  have r0_2 := r0.cell 2 rfl
  have r0_3 := r0.cell 3 rfl
  have r0_4 := r0.frozen 0
  have r0_5 := r0.frozen 1
  have r0_6 := r0.frozen 2
  have r0_7 := r0.frozen 3
  have r0l := r0.lt
  clear hb1c hb1f k r0
  go_wp2_with fail
  refine bodyPost_ret (by simp [results, Try.results14, go_sem, *]; try rfl) rfl ?_
  exact ⟨rfl, by (repeat' (first | (with_reducible exact Below.refl _ _) | (with_reducible assumption) | (with_reducible refine Below.drew ?_) | (with_reducible refine below_drewN ?_ _) | ((with_reducible refine Below.alloc ?_ ?_ _); rotate_left; focus (go_size; done)) | ((with_reducible refine Below.setCell ?_ ?_ _); rotate_left; focus (go_size; done)) | ((with_reducible refine Below.trans ?_ (Below.mono (by with_reducible assumption) ?_)); rotate_left; focus (go_size; done))))⟩
set_option maxHeartbeats 2000000 in
theorem neg_ok (b : Bool) (c : Nat) (s : Int) (hc : c < 2 ^ 128) (h : dform b c s = true) (w : World) : Calls Try.prog 14 #[.agg #[.bool b, .int .u64 (wd (c) 1), .int .u64 (wd (c) 0), .int .i64 s]] w fun e w' => e = .returned (.tuple #[.agg #[.bool (sg (!b) c), .int .u64 (wd (c) 1), .int .u64 (wd (c) 0), .int .i64 s], .int .i64 0]) ∧ Below w.heap.size w w' := by
  have HF := Lib.hid (fun g W hg => formed_one b c s hc g W hg)
  have HT := Lib.hid (fun W => turned_any b c s hc W)
  rw [h] at HF
  simp only [ferr, if_pos, if_neg, Bool.false_eq_true, if_true, if_false] at HF
  generalize sg (!b) c = r at *
  generalize wd c 0 = x0 at *
  generalize wd c 1 = x1 at *
  clear hc h
  go_enter Try.func14, Try.ntmps14
  go_wp2_with fail
  (with_reducible refine (HF.out _ _ ?hg).mono ?_)
  case hg => ((repeat (first | (with_reducible assumption) | ((with_reducible refine Bk.new_ ?_); (first | rfl | (simp only [World.size_alloc, World.size_setCell, World.size_drew, World.heap_drewN]; done))) | (with_reducible refine Bk.alloc ?_ _) | (with_reducible refine Bk.drew ?_) | (with_reducible refine Bk.drewN ?_ _) | ((with_reducible refine Bk.far ?_ ?_ _); rotate_left; focus (simp only []; omega)) | ((with_reducible refine Bk.below ?_ (by with_reducible assumption) ?_); rotate_left; focus (go_size; done)))); done)
  rintro _ w1 ⟨rfl, hb1⟩; have hb1s := hb1.size; (try simp only [World.size_alloc, World.size_setCell, World.size_drew, World.heap_drewN] at hb1s); obtain ⟨hb1c, hb1f⟩ := bcell hb1; (try have : w.heap.size < w1.heap.size := by omega); (try have : w.heap.size + 1 < w1.heap.size := by omega); (try have : w.heap.size + 1 + 1 < w1.heap.size := by omega); (try have : w.heap.size + 1 + 1 + 1 < w1.heap.size := by omega)
  have k : Bk w1 (w.heap.size) 26 [.bool b, .int .u64 x1, .int .u64 x0, .int .i64 s] := by (repeat (first | (with_reducible assumption) | ((with_reducible refine Bk.new_ ?_); (first | rfl | (simp only [World.size_alloc, World.size_setCell, World.size_drew, World.heap_drewN]; done))) | (with_reducible refine Bk.alloc ?_ _) | (with_reducible refine Bk.drew ?_) | (with_reducible refine Bk.drewN ?_ _) | ((with_reducible refine Bk.far ?_ ?_ _); rotate_left; focus (simp only []; omega)) | ((with_reducible refine Bk.below ?_ (by with_reducible assumption) ?_); rotate_left; focus (go_size; done))))
  have k_0 := k.cell 0 rfl
  have k_1 := k.cell 1 rfl
  have k_2 := k.cell 2 rfl
  have k_3 := k.cell 3 rfl
  have k_4 := k.frozen 0
  have k_5 := k.frozen 1
  have k_6 := k.frozen 2
  have k_7 := k.frozen 3
  have kl := k.lt
  clear hb1c hb1f
  go_wp2_with fail
  refine (HT.out _).mono ?_
  rintro _ w2 ⟨rfl, hb2⟩; have hb2s := hb2.size; (try simp only [World.size_alloc, World.size_setCell, World.size_drew, World.heap_drewN] at hb2s); obtain ⟨hb2c, hb2f⟩ := bcell hb2; (try have : w.heap.size < w2.heap.size := by omega); (try have : w.heap.size + 1 < w2.heap.size := by omega); (try have : w.heap.size + 1 + 1 < w2.heap.size := by omega); (try have : w.heap.size + 1 + 1 + 1 < w2.heap.size := by omega)
  have r0 : Bk w2 (w.heap.size + 1) 26 [.bool false, .int .u64 0, .int .u64 0, .int .i64 0] := by (repeat (first | (with_reducible assumption) | ((with_reducible refine Bk.new_ ?_); (first | rfl | (simp only [World.size_alloc, World.size_setCell, World.size_drew, World.heap_drewN]; done))) | (with_reducible refine Bk.alloc ?_ _) | (with_reducible refine Bk.drew ?_) | (with_reducible refine Bk.drewN ?_ _) | ((with_reducible refine Bk.far ?_ ?_ _); rotate_left; focus (simp only []; omega)) | ((with_reducible refine Bk.below ?_ (by with_reducible assumption) ?_); rotate_left; focus (go_size; done))))
  have r0_0 := r0.cell 0 rfl
  have r0_1 := r0.cell 1 rfl
  have r0_2 := r0.cell 2 rfl
  have r0_3 := r0.cell 3 rfl
  have r0_4 := r0.frozen 0
  have r0_5 := r0.frozen 1
  have r0_6 := r0.frozen 2
  have r0_7 := r0.frozen 3
  have r0l := r0.lt
  clear hb2c hb2f r0 k
  go_wp2_with fail
  refine bodyPost_ret (by simp [results, Try.results14, go_sem, *]; try rfl) rfl ?_
  exact ⟨rfl, by (repeat' (first | (with_reducible exact Below.refl _ _) | (with_reducible assumption) | (with_reducible refine Below.drew ?_) | (with_reducible refine below_drewN ?_ _) | ((with_reducible refine Below.alloc ?_ ?_ _); rotate_left; focus (go_size; done)) | ((with_reducible refine Below.setCell ?_ ?_ _); rotate_left; focus (go_size; done)) | ((with_reducible refine Below.trans ?_ (Below.mono (by with_reducible assumption) ?_)); rotate_left; focus (go_size; done))))⟩
set_option maxHeartbeats 2000000 in
theorem abs_bad (b : Bool) (c : Nat) (s : Int) (hc : c < 2 ^ 128) (h : dform b c s = false) (w : World) : Calls Try.prog 26 #[.agg #[.bool b, .int .u64 (wd (c) 1), .int .u64 (wd (c) 0), .int .i64 s]] w fun e w' => e = .returned (.tuple #[.agg #[.bool false, .int .u64 0, .int .u64 0, .int .i64 0], .int .i64 2]) ∧ Below w.heap.size w w' := by
  have HF := Lib.hid (fun g W hg => formed_one b c s hc g W hg)
  rw [h] at HF
  simp only [ferr, if_pos, if_neg, Bool.false_eq_true, if_true, if_false] at HF
  generalize wd c 0 = x0 at *
  generalize wd c 1 = x1 at *
  clear hc h
  go_enter Try.func26, Try.ntmps26
  go_wp2_with fail
  (with_reducible refine (HF.out _ _ ?hg).mono ?_)
  case hg => ((repeat (first | (with_reducible assumption) | ((with_reducible refine Bk.new_ ?_); (first | rfl | (simp only [World.size_alloc, World.size_setCell, World.size_drew, World.heap_drewN]; done))) | (with_reducible refine Bk.alloc ?_ _) | (with_reducible refine Bk.drew ?_) | (with_reducible refine Bk.drewN ?_ _) | ((with_reducible refine Bk.far ?_ ?_ _); rotate_left; focus (simp only []; omega)) | ((with_reducible refine Bk.below ?_ (by with_reducible assumption) ?_); rotate_left; focus (go_size; done)))); done)
  rintro _ w1 ⟨rfl, hb1⟩; have hb1s := hb1.size; (try simp only [World.size_alloc, World.size_setCell, World.size_drew, World.heap_drewN] at hb1s); obtain ⟨hb1c, hb1f⟩ := bcell hb1; (try have : w.heap.size < w1.heap.size := by omega); (try have : w.heap.size + 1 < w1.heap.size := by omega); (try have : w.heap.size + 1 + 1 < w1.heap.size := by omega); (try have : w.heap.size + 1 + 1 + 1 < w1.heap.size := by omega)
  have k : Bk w1 (w.heap.size) 26 [.bool b, .int .u64 x1, .int .u64 x0, .int .i64 s] := by (repeat (first | (with_reducible assumption) | ((with_reducible refine Bk.new_ ?_); (first | rfl | (simp only [World.size_alloc, World.size_setCell, World.size_drew, World.heap_drewN]; done))) | (with_reducible refine Bk.alloc ?_ _) | (with_reducible refine Bk.drew ?_) | (with_reducible refine Bk.drewN ?_ _) | ((with_reducible refine Bk.far ?_ ?_ _); rotate_left; focus (simp only []; omega)) | ((with_reducible refine Bk.below ?_ (by with_reducible assumption) ?_); rotate_left; focus (go_size; done))))
  have k_0 := k.cell 0 rfl
  have k_1 := k.cell 1 rfl
  have k_2 := k.cell 2 rfl
  have k_3 := k.cell 3 rfl
  have k_4 := k.frozen 0
  have k_5 := k.frozen 1
  have k_6 := k.frozen 2
  have k_7 := k.frozen 3
  have kl := k.lt
  have r0 : Bk w1 (w.heap.size + 1) 26 [.bool false, .int .u64 0, .int .u64 0, .int .i64 0] := by (repeat (first | (with_reducible assumption) | ((with_reducible refine Bk.new_ ?_); (first | rfl | (simp only [World.size_alloc, World.size_setCell, World.size_drew, World.heap_drewN]; done))) | (with_reducible refine Bk.alloc ?_ _) | (with_reducible refine Bk.drew ?_) | (with_reducible refine Bk.drewN ?_ _) | ((with_reducible refine Bk.far ?_ ?_ _); rotate_left; focus (simp only []; omega)) | ((with_reducible refine Bk.below ?_ (by with_reducible assumption) ?_); rotate_left; focus (go_size; done))))
  have r0_0 := r0.cell 0 rfl
  have r0_1 := r0.cell 1 rfl
  have r0_2 := r0.cell 2 rfl
  have r0_3 := r0.cell 3 rfl
  have r0_4 := r0.frozen 0
  have r0_5 := r0.frozen 1
  have r0_6 := r0.frozen 2
  have r0_7 := r0.frozen 3
  have r0l := r0.lt
  clear hb1c hb1f k r0
  go_wp2_with fail
  refine bodyPost_ret (by simp [results, Try.results26, go_sem, *]; try rfl) rfl ?_
  exact ⟨rfl, by (repeat' (first | (with_reducible exact Below.refl _ _) | (with_reducible assumption) | (with_reducible refine Below.drew ?_) | (with_reducible refine below_drewN ?_ _) | ((with_reducible refine Below.alloc ?_ ?_ _); rotate_left; focus (go_size; done)) | ((with_reducible refine Below.setCell ?_ ?_ _); rotate_left; focus (go_size; done)) | ((with_reducible refine Below.trans ?_ (Below.mono (by with_reducible assumption) ?_)); rotate_left; focus (go_size; done))))⟩
set_option maxHeartbeats 2000000 in
theorem abs_ok (b : Bool) (c : Nat) (s : Int) (hc : c < 2 ^ 128) (h : dform b c s = true) (w : World) : Calls Try.prog 26 #[.agg #[.bool b, .int .u64 (wd (c) 1), .int .u64 (wd (c) 0), .int .i64 s]] w fun e w' => e = .returned (.tuple #[.agg #[.bool false, .int .u64 (wd (c) 1), .int .u64 (wd (c) 0), .int .i64 s], .int .i64 0]) ∧ Below w.heap.size w w' := by
  have HF := Lib.hid (fun g W hg => formed_one b c s hc g W hg)
  rw [h] at HF
  simp only [ferr, if_pos, if_neg, Bool.false_eq_true, if_true, if_false] at HF
  generalize wd c 0 = x0 at *
  generalize wd c 1 = x1 at *
  clear hc h
  go_enter Try.func26, Try.ntmps26
  go_wp2_with fail
  (with_reducible refine (HF.out _ _ ?hg).mono ?_)
  case hg => ((repeat (first | (with_reducible assumption) | ((with_reducible refine Bk.new_ ?_); (first | rfl | (simp only [World.size_alloc, World.size_setCell, World.size_drew, World.heap_drewN]; done))) | (with_reducible refine Bk.alloc ?_ _) | (with_reducible refine Bk.drew ?_) | (with_reducible refine Bk.drewN ?_ _) | ((with_reducible refine Bk.far ?_ ?_ _); rotate_left; focus (simp only []; omega)) | ((with_reducible refine Bk.below ?_ (by with_reducible assumption) ?_); rotate_left; focus (go_size; done)))); done)
  rintro _ w1 ⟨rfl, hb1⟩; have hb1s := hb1.size; (try simp only [World.size_alloc, World.size_setCell, World.size_drew, World.heap_drewN] at hb1s); obtain ⟨hb1c, hb1f⟩ := bcell hb1; (try have : w.heap.size < w1.heap.size := by omega); (try have : w.heap.size + 1 < w1.heap.size := by omega); (try have : w.heap.size + 1 + 1 < w1.heap.size := by omega); (try have : w.heap.size + 1 + 1 + 1 < w1.heap.size := by omega)
  have k : Bk w1 (w.heap.size) 26 [.bool b, .int .u64 x1, .int .u64 x0, .int .i64 s] := by (repeat (first | (with_reducible assumption) | ((with_reducible refine Bk.new_ ?_); (first | rfl | (simp only [World.size_alloc, World.size_setCell, World.size_drew, World.heap_drewN]; done))) | (with_reducible refine Bk.alloc ?_ _) | (with_reducible refine Bk.drew ?_) | (with_reducible refine Bk.drewN ?_ _) | ((with_reducible refine Bk.far ?_ ?_ _); rotate_left; focus (simp only []; omega)) | ((with_reducible refine Bk.below ?_ (by with_reducible assumption) ?_); rotate_left; focus (go_size; done))))
  have k_0 := k.cell 0 rfl
  have k_1 := k.cell 1 rfl
  have k_2 := k.cell 2 rfl
  have k_3 := k.cell 3 rfl
  have k_4 := k.frozen 0
  have k_5 := k.frozen 1
  have k_6 := k.frozen 2
  have k_7 := k.frozen 3
  have kl := k.lt
  have r0 : Bk w1 (w.heap.size + 1) 26 [.bool false, .int .u64 0, .int .u64 0, .int .i64 0] := by (repeat (first | (with_reducible assumption) | ((with_reducible refine Bk.new_ ?_); (first | rfl | (simp only [World.size_alloc, World.size_setCell, World.size_drew, World.heap_drewN]; done))) | (with_reducible refine Bk.alloc ?_ _) | (with_reducible refine Bk.drew ?_) | (with_reducible refine Bk.drewN ?_ _) | ((with_reducible refine Bk.far ?_ ?_ _); rotate_left; focus (simp only []; omega)) | ((with_reducible refine Bk.below ?_ (by with_reducible assumption) ?_); rotate_left; focus (go_size; done))))
  have r0_0 := r0.cell 0 rfl
  have r0_1 := r0.cell 1 rfl
  have r0_2 := r0.cell 2 rfl
  have r0_3 := r0.cell 3 rfl
  have r0_4 := r0.frozen 0
  have r0_5 := r0.frozen 1
  have r0_6 := r0.frozen 2
  have r0_7 := r0.frozen 3
  have r0l := r0.lt
  clear hb1c hb1f k r0
  go_wp2_with fail
  refine bodyPost_ret (by simp [results, Try.results26, go_sem, *]; try rfl) rfl ?_
  exact ⟨rfl, by (repeat' (first | (with_reducible exact Below.refl _ _) | (with_reducible assumption) | (with_reducible refine Below.drew ?_) | (with_reducible refine below_drewN ?_ _) | ((with_reducible refine Below.alloc ?_ ?_ _); rotate_left; focus (go_size; done)) | ((with_reducible refine Below.setCell ?_ ?_ _); rotate_left; focus (go_size; done)) | ((with_reducible refine Below.trans ?_ (Below.mono (by with_reducible assumption) ?_)); rotate_left; focus (go_size; done))))⟩
theorem times_sub (c m s : Nat) (hc : c < B34) (h : s ≤ m) (hm : m ≤ 18) (W : World) : Calls Try.prog 79 #[.agg #[.int .u64 (wd c 1), .int .u64 (wd c 0)], .int .i64 ((m : Int) - (s : Int))] W fun e w' => e = .returned (.agg #[.int .u64 (wd (c * 10 ^ (m - s)) 0), .int .u64 (wd (c * 10 ^ (m - s)) 1), .int .u64 (wd (c * 10 ^ (m - s)) 2), .int .u64 (wd (c * 10 ^ (m - s)) 3)]) ∧ Below W.heap.size W w' := by
  rw [show (m : Int) - (s : Int) = ((m - s : Nat) : Int) by omega]
  exact times_any4 c (m - s) (Nat.lt_trans hc B34_lt) (by omega) (Nat.lt_trans (scaled_lt hc hm) (by decide)) W
set_option maxHeartbeats 4000000 in
theorem both_any (b : Bool) (c s : Nat) (b' : Bool) (c' s' m : Nat) (hc : c < B34) (hc' : c' < B34) (hs : s ≤ 18) (hs' : s' ≤ 18) (hm : m = max s s') (w : World) :
    Calls Try.prog 47 #[.agg #[.bool b, .int .u64 (wd (c) 1), .int .u64 (wd (c) 0), .int .i64 s], .agg #[.bool b', .int .u64 (wd (c') 1), .int .u64 (wd (c') 0), .int .i64 s']] w fun e w' => e = .returned (.tuple #[.agg #[.int .u64 (wd (c * 10 ^ (m - s)) 0), .int .u64 (wd (c * 10 ^ (m - s)) 1), .int .u64 (wd (c * 10 ^ (m - s)) 2), .int .u64 (wd (c * 10 ^ (m - s)) 3)], .agg #[.int .u64 (wd (c' * 10 ^ (m - s')) 0), .int .u64 (wd (c' * 10 ^ (m - s')) 1), .int .u64 (wd (c' * 10 ^ (m - s')) 2), .int .u64 (wd (c' * 10 ^ (m - s')) 3)], .int .i64 m]) ∧ Below w.heap.size w w' := by
  have m18 : m ≤ 18 := by omega
  have sm : s ≤ m := by omega
  have sm' : s' ≤ m := by omega
  have HA := Lib.hid (fun W => times_sub c m s hc sm m18 W)
  have HB := Lib.hid (fun W => times_sub c' m s' hc' sm' m18 W)
  generalize c * 10 ^ (m - s) = X at *
  generalize c' * 10 ^ (m - s') = Y at *
  have ga : IntKind.i64.wrap ((m : Int) - (s : Int)) = (m : Int) - (s : Int) := IntWalk.i64_in _ (by omega)
  have gb : IntKind.i64.wrap ((m : Int) - (s' : Int)) = (m : Int) - (s' : Int) := IntWalk.i64_in _ (by omega)
  have GA := Lib.hid ga
  have GB := Lib.hid gb
  clear ga gb
  have hmi : max (s : Int) (s' : Int) = (m : Int) := by omega
  have HMI := Lib.hid hmi
  generalize wd c 0 = x0 at *
  generalize wd c 1 = x1 at *
  generalize wd c' 0 = y0 at *
  generalize wd c' 1 = y1 at *
  clear hmi hm hc hc'
  go_enter Try.func47, Try.ntmps47
  go_wp2_with fail
  rw [HMI.out]
  have ga := GA.out
  have gb := GB.out
  go_region_held3 (fun w' => (w'.cell? ⟨w.heap.size, 0, none⟩ = some (.bool b) ∧ w'.cell? ⟨w.heap.size, 1, none⟩ = some (.int .u64 x1) ∧ w'.cell? ⟨w.heap.size, 2, none⟩ = some (.int .u64 x0) ∧ w'.cell? ⟨w.heap.size, 3, none⟩ = some (.int .i64 ((s : Int)))) ∧ (w'.cell? ⟨(w.heap.size + 1), 0, none⟩ = some (.bool b') ∧ w'.cell? ⟨(w.heap.size + 1), 1, none⟩ = some (.int .u64 y1) ∧ w'.cell? ⟨(w.heap.size + 1), 2, none⟩ = some (.int .u64 y0) ∧ w'.cell? ⟨(w.heap.size + 1), 3, none⟩ = some (.int .i64 ((s' : Int))))) (first | (first | (go_keep; done) | (simp [go_sem]; done) | ((try dsimp only); (repeat' apply And.intro) <;> (first | (with_reducible assumption) | ((rw [World.cell?_alloc_lt _ _ _ (by show _ < _; omega)]); go_split_ands; (first | with_reducible assumption | (refine (World.cell?_alloc_lt _ _ _ (by show _ < _; omega)).symm.trans ?_; with_reducible assumption))) | ((rw [World.cell?_setCell_other _ _ _ _ (by intro e; injection e; omega)]); with_reducible assumption) | (go_keep; done) | (simp [go_sem]; done) | (simp (disch := go_size) [*, World.cell?_alloc_some, World.cell?_setCell_far]; done)))) | ((refine ⟨?_, ?_⟩) <;> (first | ((refine ⟨Bk.cell (t := 26) (cs := [.bool b, .int .u64 x1, .int .u64 x0, .int .i64 ((s : Int))]) ?_ 0 rfl, Bk.cell (t := 26) (cs := [.bool b, .int .u64 x1, .int .u64 x0, .int .i64 ((s : Int))]) ?_ 1 rfl, Bk.cell (t := 26) (cs := [.bool b, .int .u64 x1, .int .u64 x0, .int .i64 ((s : Int))]) ?_ 2 rfl, Bk.cell (t := 26) (cs := [.bool b, .int .u64 x1, .int .u64 x0, .int .i64 ((s : Int))]) ?_ 3 rfl⟩) <;> ((repeat (first | (with_reducible assumption) | ((with_reducible refine Bk.new_ ?_); (first | rfl | (simp only [World.size_alloc, World.size_setCell, World.size_drew, World.heap_drewN]; done))) | (with_reducible refine Bk.alloc ?_ _) | (with_reducible refine Bk.drew ?_) | (with_reducible refine Bk.drewN ?_ _) | ((with_reducible refine Bk.far ?_ ?_ _); rotate_left; focus (simp only []; omega)) | ((with_reducible refine Bk.below ?_ (by with_reducible assumption) ?_); rotate_left; focus (go_size; done)))); done)) | ((refine ⟨Bk.cell (t := 26) (cs := [.bool b', .int .u64 y1, .int .u64 y0, .int .i64 ((s' : Int))]) ?_ 0 rfl, Bk.cell (t := 26) (cs := [.bool b', .int .u64 y1, .int .u64 y0, .int .i64 ((s' : Int))]) ?_ 1 rfl, Bk.cell (t := 26) (cs := [.bool b', .int .u64 y1, .int .u64 y0, .int .i64 ((s' : Int))]) ?_ 2 rfl, Bk.cell (t := 26) (cs := [.bool b', .int .u64 y1, .int .u64 y0, .int .i64 ((s' : Int))]) ?_ 3 rfl⟩) <;> ((repeat (first | (with_reducible assumption) | ((with_reducible refine Bk.new_ ?_); (first | rfl | (simp only [World.size_alloc, World.size_setCell, World.size_drew, World.heap_drewN]; done))) | (with_reducible refine Bk.alloc ?_ _) | (with_reducible refine Bk.drew ?_) | (with_reducible refine Bk.drewN ?_ _) | ((with_reducible refine Bk.far ?_ ?_ _); rotate_left; focus (simp only []; omega)) | ((with_reducible refine Bk.below ?_ (by with_reducible assumption) ?_); rotate_left; focus (go_size; done)))); done))))) (first | (go_at_call 79; (with_reducible refine (HA.out _).mono ?_); rintro _ w1 ⟨rfl, hb1⟩; have hb1s := hb1.size; (try simp only [World.size_alloc, World.size_setCell, World.size_drew, World.heap_drewN] at hb1s); obtain ⟨hb1c, hb1f⟩ := bcell hb1; (try have : w.heap.size < w1.heap.size := by omega); (try have : w.heap.size + 1 < w1.heap.size := by omega); (try have : w.heap.size + 1 + 1 < w1.heap.size := by omega); (try have : w.heap.size + 1 + 1 + 1 < w1.heap.size := by omega); (try have : w2.heap.size < w1.heap.size := by omega); (try have : w2.heap.size + 1 < w1.heap.size := by omega); (try have : w2.heap.size + 1 + 1 < w1.heap.size := by omega); (try have : w2.heap.size + 1 + 1 + 1 < w1.heap.size := by omega)) | (go_at_call 79; (with_reducible refine (HB.out _).mono ?_); rintro _ w2 ⟨rfl, hb2⟩; have hb2s := hb2.size; (try simp only [World.size_alloc, World.size_setCell, World.size_drew, World.heap_drewN] at hb2s); obtain ⟨hb2c, hb2f⟩ := bcell hb2; (try have : w.heap.size < w2.heap.size := by omega); (try have : w.heap.size + 1 < w2.heap.size := by omega); (try have : w.heap.size + 1 + 1 < w2.heap.size := by omega); (try have : w.heap.size + 1 + 1 + 1 < w2.heap.size := by omega); (try have : w1.heap.size < w2.heap.size := by omega); (try have : w1.heap.size + 1 < w2.heap.size := by omega); (try have : w1.heap.size + 1 + 1 < w2.heap.size := by omega); (try have : w1.heap.size + 1 + 1 + 1 < w2.heap.size := by omega)))
  all_goals
    go_wp2_with fail
    refine bodyPost_ret (by simp [results, Try.results47, go_sem, *]; try rfl) rfl ?_
    exact ⟨rfl, by (repeat' (first | (with_reducible exact Below.refl _ _) | (with_reducible assumption) | (with_reducible refine Below.drew ?_) | (with_reducible refine below_drewN ?_ _) | ((with_reducible refine Below.alloc ?_ ?_ _); rotate_left; focus (go_size; done)) | ((with_reducible refine Below.setCell ?_ ?_ _); rotate_left; focus (go_size; done)) | ((with_reducible refine Below.trans ?_ (Below.mono (by with_reducible assumption) ?_)); rotate_left; focus (go_size; done))))⟩
end Go.Proofs.Ythkgjodidkpaeaa

set_option linter.unusedSimpArgs false
set_option linter.unusedVariables false
namespace Go.Proofs.Ythkgjodidkpaeaa
open Go.RowKit

theorem power_sub (k s : Nat) (h : s ≤ k) (hk : k ≤ 38) (W : World) : Calls Try.prog 88 #[.int .i64 ((k : Int) - (s : Int))] W fun e w' => e = .returned (.agg #[.int .u64 (wd (10 ^ (k - s)) 1), .int .u64 (wd (10 ^ (k - s)) 0)]) ∧ Below W.heap.size W w' := by
  rw [show (k : Int) - (s : Int) = ((k - s : Nat) : Int) by omega]
  exact power_any (k - s) (by omega) W
set_option maxHeartbeats 2000000 in
theorem canon_any (neg : Bool) (c s : Nat) (hc : c < B34) (hs : s ≤ 1000) (w : World) : Calls Try.prog 75 #[.bool neg, .agg #[.int .u64 (wd c 1), .int .u64 (wd c 0)], .int .i64 s] w fun e w' => e = .returned (.agg #[.bool (sg neg (stripC c s)), .int .u64 (wd ((stripC c s)) 1), .int .u64 (wd ((stripC c s)) 0), .int .i64 (stripS c s)]) ∧ Below w.heap.size w w' := by
  have hc2 : c < 2 ^ 128 := Nat.lt_trans hc B34_lt
  have s0 : (0 : Int) ≤ (s : Int) := by omega
  have s1 : (s : Int) ≤ 1000 := by omega
  have qz : ∀ W, (binOp .eql 24 (.agg #[.int .u64 (wd c 1), .int .u64 (wd c 0)]) (.agg #[.int .u64 0, .int .u64 0])).run Try.prog W = .ok (.bool (decide (c = 0))) W := fun W => by rw [eq_wide, eq_nil hc2]
  by_cases hz : c = 0
  · rw [decide_eq_true hz] at qz
    have e1 : stripC c s = 0 := stripC_zero.2 hz
    have e2 : stripS c s = 0 := by rw [hz]; exact (strip_nil s).2
    rw [e1, e2, wd_zero, wd_zero]
    rw [sg_zero]
    generalize wd c 0 = x0 at *
    generalize wd c 1 = x1 at *
    clear hc hz e1 e2 hc2
    go_enter Try.func75, Try.ntmps75
    go_wp2_with fail
    refine bodyPost_ret (by simp [results, Try.results75, go_sem, *]; try rfl) rfl ?_
    exact ⟨rfl, by (repeat' (first | (with_reducible exact Below.refl _ _) | (with_reducible assumption) | (with_reducible refine Below.drew ?_) | (with_reducible refine below_drewN ?_ _) | ((with_reducible refine Below.alloc ?_ ?_ _); rotate_left; focus (go_size; done)) | ((with_reducible refine Below.setCell ?_ ?_ _); rotate_left; focus (go_size; done)) | ((with_reducible refine Below.trans ?_ (Below.mono (by with_reducible assumption) ?_)); rotate_left; focus (go_size; done))))⟩
  · rw [decide_eq_false hz] at qz
    obtain ⟨T, k, ht⟩ := tz_upto c 34 hz hc
    have hk38 := ht.k_le hc2
    have HT := Lib.hid (fun W => trim_any c T k hc2 ht W)
    have hne : sg neg (stripC c s) = neg := sg_pos (fun e => hz (stripC_zero.1 e))
    rw [hne]
    have hT : T < 2 ^ 128 := by
      have h1 := ht.1
      have h2 : T ≤ c := by rw [h1]; exact Nat.le_mul_of_pos_right _ (Nat.pow_pos (by decide))
      omega
    obtain ⟨h1, h2⟩ := strip_trim T k s ht.2
    rw [← ht.1] at h1 h2
    have k0 : (0 : Int) ≤ (k : Int) := by omega
    have k1 : (k : Int) ≤ 38 := by omega
    by_cases hks : k ≤ s
    · rw [(h1 hks).1, (h1 hks).2]
      have g1 : (k : Int) ≤ (s : Int) := by omega
      rw [show ((s - k : Nat) : Int) = (s : Int) - (k : Int) by omega]
      generalize wd c 0 = x0 at *
      generalize wd c 1 = x1 at *
      generalize wd T 0 = y0 at *
      generalize wd T 1 = y1 at *
      clear h1 h2 hc hc2 hz ht hne hT
      go_enter Try.func75, Try.ntmps75
      go_wp2_with ((go_at_call 57; with_reducible refine (HT.out _).mono ?_); rintro _ w1 ⟨rfl, hb1⟩; have hb1s := hb1.size; (try simp only [World.size_alloc, World.size_setCell, World.size_drew, World.heap_drewN] at hb1s); obtain ⟨hb1c, hb1f⟩ := bcell hb1; (try have : w.heap.size < w1.heap.size := by omega); (try have : w.heap.size + 1 < w1.heap.size := by omega); (try have : w.heap.size + 1 + 1 < w1.heap.size := by omega); (try have : w.heap.size + 1 + 1 + 1 < w1.heap.size := by omega))
      refine bodyPost_ret (by simp [results, Try.results75, go_sem, *]; try rfl) rfl ?_
      exact ⟨rfl, by (repeat' (first | (with_reducible exact Below.refl _ _) | (with_reducible assumption) | (with_reducible refine Below.drew ?_) | (with_reducible refine below_drewN ?_ _) | ((with_reducible refine Below.alloc ?_ ?_ _); rotate_left; focus (go_size; done)) | ((with_reducible refine Below.setCell ?_ ?_ _); rotate_left; focus (go_size; done)) | ((with_reducible refine Below.trans ?_ (Below.mono (by with_reducible assumption) ?_)); rotate_left; focus (go_size; done))))⟩
    · rw [(h2 (by omega)).1, (h2 (by omega)).2]
      have g1 : ¬ (k : Int) ≤ (s : Int) := by omega
      have hle : T * 10 ^ (k - s) < 2 ^ 128 := by
        have e := ht.1
        rw [show k = k - s + s by omega, Nat.pow_add, ← Nat.mul_assoc] at e
        have : T * 10 ^ (k - s) ≤ c := by rw [e]; exact Nat.le_mul_of_pos_right _ (Nat.pow_pos (by decide))
        omega
      have HP := Lib.hid (fun W => power_sub k s (by omega) hk38 W)
      have HM := Lib.hid (fun W => mul_any T (10 ^ (k - s)) hT (ten_38 (by omega)) W)
      have HN := Lib.hid (fun W => narrow_any (T * 10 ^ (k - s)) (Nat.lt_trans hle (by decide)) W)
      rw [fit_id hle, over_id hle] at HN
      generalize T * 10 ^ (k - s) = P at *
      generalize 10 ^ (k - s) = Q at *
      generalize wd c 0 = x0 at *
      generalize wd c 1 = x1 at *
      generalize wd T 0 = y0 at *
      generalize wd T 1 = y1 at *
      generalize wd P 0 = z0 at *
      generalize wd P 1 = z1 at *
      generalize wd P 2 = z2 at *
      generalize wd P 3 = z3 at *
      generalize wd Q 0 = q0 at *
      generalize wd Q 1 = q1 at *
      clear h1 h2 hc hc2 hz ht hne hT hle
      go_enter Try.func75, Try.ntmps75
      have gs1 : IntKind.i64.wrap ((k : Int) - (s : Int)) = (k : Int) - (s : Int) := IntWalk.i64_in _ (by omega)
      go_wp2_with ((go_at_call 57; with_reducible refine (HT.out _).mono ?_); rintro _ w1 ⟨rfl, hb1⟩; have hb1s := hb1.size; (try simp only [World.size_alloc, World.size_setCell, World.size_drew, World.heap_drewN] at hb1s); obtain ⟨hb1c, hb1f⟩ := bcell hb1; (try have : w.heap.size < w1.heap.size := by omega); (try have : w.heap.size + 1 < w1.heap.size := by omega); (try have : w.heap.size + 1 + 1 < w1.heap.size := by omega); (try have : w.heap.size + 1 + 1 + 1 < w1.heap.size := by omega))
      go_region_held3 (fun w' => w'.cell? ⟨w1.heap.size, 0, none⟩ = some (.int .u64 y1) ∧ w'.cell? ⟨w1.heap.size, 1, none⟩ = some (.int .u64 y0)) (first | (first | (go_keep; done) | (simp [go_sem]; done) | ((try dsimp only); (repeat' apply And.intro) <;> (first | (with_reducible assumption) | ((rw [World.cell?_alloc_lt _ _ _ (by show _ < _; omega)]); go_split_ands; (first | with_reducible assumption | (refine (World.cell?_alloc_lt _ _ _ (by show _ < _; omega)).symm.trans ?_; with_reducible assumption))) | ((rw [World.cell?_setCell_other _ _ _ _ (by intro e; injection e; omega)]); with_reducible assumption) | (go_keep; done) | (simp [go_sem]; done) | (simp (disch := go_size) [*, World.cell?_alloc_some, World.cell?_setCell_far]; done)))) | ((refine ⟨Bk.cell (t := 24) (cs := [.int .u64 y1, .int .u64 y0]) ?_ 0 rfl, Bk.cell (t := 24) (cs := [.int .u64 y1, .int .u64 y0]) ?_ 1 rfl⟩) <;> ((repeat (first | (with_reducible assumption) | ((with_reducible refine Bk.new_ ?_); (first | rfl | (simp only [World.size_alloc, World.size_setCell, World.size_drew, World.heap_drewN]; done))) | (with_reducible refine Bk.alloc ?_ _) | (with_reducible refine Bk.drew ?_) | (with_reducible refine Bk.drewN ?_ _) | ((with_reducible refine Bk.far ?_ ?_ _); rotate_left; focus (simp only []; omega)) | ((with_reducible refine Bk.below ?_ (by with_reducible assumption) ?_); rotate_left; focus (go_size; done)))); done))) (first | ((go_at_call 88; with_reducible refine (HP.out _).mono ?_); rintro _ w2 ⟨rfl, hb2⟩; have hb2s := hb2.size; (try simp only [World.size_alloc, World.size_setCell, World.size_drew, World.heap_drewN] at hb2s); obtain ⟨hb2c, hb2f⟩ := bcell hb2; (try have : w.heap.size < w2.heap.size := by omega); (try have : w.heap.size + 1 < w2.heap.size := by omega); (try have : w.heap.size + 1 + 1 < w2.heap.size := by omega); (try have : w.heap.size + 1 + 1 + 1 < w2.heap.size := by omega); (try have : w1.heap.size < w2.heap.size := by omega); (try have : w1.heap.size + 1 < w2.heap.size := by omega); (try have : w1.heap.size + 1 + 1 < w2.heap.size := by omega); (try have : w1.heap.size + 1 + 1 + 1 < w2.heap.size := by omega)) | ((go_at_call 77; with_reducible refine (HM.out _).mono ?_); rintro _ w3 ⟨rfl, hb3⟩; have hb3s := hb3.size; (try simp only [World.size_alloc, World.size_setCell, World.size_drew, World.heap_drewN] at hb3s); obtain ⟨hb3c, hb3f⟩ := bcell hb3; (try have : w.heap.size < w3.heap.size := by omega); (try have : w.heap.size + 1 < w3.heap.size := by omega); (try have : w.heap.size + 1 + 1 < w3.heap.size := by omega); (try have : w.heap.size + 1 + 1 + 1 < w3.heap.size := by omega); (try have : w1.heap.size < w3.heap.size := by omega); (try have : w1.heap.size + 1 < w3.heap.size := by omega); (try have : w1.heap.size + 1 + 1 < w3.heap.size := by omega); (try have : w1.heap.size + 1 + 1 + 1 < w3.heap.size := by omega); (try have : w2.heap.size < w3.heap.size := by omega); (try have : w2.heap.size + 1 < w3.heap.size := by omega); (try have : w2.heap.size + 1 + 1 < w3.heap.size := by omega); (try have : w2.heap.size + 1 + 1 + 1 < w3.heap.size := by omega)) | ((go_at_call 94; with_reducible refine (HN.out _).mono ?_); rintro _ w4 ⟨rfl, hb4⟩; have hb4s := hb4.size; (try simp only [World.size_alloc, World.size_setCell, World.size_drew, World.heap_drewN] at hb4s); obtain ⟨hb4c, hb4f⟩ := bcell hb4; (try have : w.heap.size < w4.heap.size := by omega); (try have : w.heap.size + 1 < w4.heap.size := by omega); (try have : w.heap.size + 1 + 1 < w4.heap.size := by omega); (try have : w.heap.size + 1 + 1 + 1 < w4.heap.size := by omega); (try have : w1.heap.size < w4.heap.size := by omega); (try have : w1.heap.size + 1 < w4.heap.size := by omega); (try have : w1.heap.size + 1 + 1 < w4.heap.size := by omega); (try have : w1.heap.size + 1 + 1 + 1 < w4.heap.size := by omega); (try have : w2.heap.size < w4.heap.size := by omega); (try have : w2.heap.size + 1 < w4.heap.size := by omega); (try have : w2.heap.size + 1 + 1 < w4.heap.size := by omega); (try have : w2.heap.size + 1 + 1 + 1 < w4.heap.size := by omega); (try have : w3.heap.size < w4.heap.size := by omega); (try have : w3.heap.size + 1 < w4.heap.size := by omega); (try have : w3.heap.size + 1 + 1 < w4.heap.size := by omega); (try have : w3.heap.size + 1 + 1 + 1 < w4.heap.size := by omega)))
      all_goals
        first | (refine wp_named (fun W => Bk W (w1.heap.size + 1) 24 [.int .u64 z1, .int .u64 z0] ∧ Bk W (w.heap.size + 1) 26 [.bool false, .int .u64 0, .int .u64 0, .int .i64 0] ∧ Below w.heap.size w W) ⟨?h1, ?h2, ?h3⟩ ?_; (case h1 => (first | ((repeat (first | (with_reducible assumption) | ((with_reducible refine Bk.new_ ?_); (first | rfl | (simp only [World.size_alloc, World.size_setCell, World.size_drew, World.heap_drewN]; done))) | (with_reducible refine Bk.alloc ?_ _) | (with_reducible refine Bk.drew ?_) | (with_reducible refine Bk.drewN ?_ _) | ((with_reducible refine Bk.far ?_ ?_ _); rotate_left; focus (simp only []; omega)) | ((with_reducible refine Bk.below ?_ (by with_reducible assumption) ?_); rotate_left; focus (go_size; done)))); done) | ((repeat (first | (with_reducible refine Bk.alloc ?_ _) | (with_reducible refine Bk.drew ?_) | ((with_reducible refine Bk.far ?_ ?_ _); rotate_left; focus (simp only []; omega)))); (refine ((?_ : Bk _ _ _ [.int .u64 0, .int .u64 0]).set_ 0 _).set_ 1 _); (repeat (first | (with_reducible assumption) | ((with_reducible refine Bk.new_ ?_); (first | rfl | (simp only [World.size_alloc, World.size_setCell, World.size_drew, World.heap_drewN]; done))) | (with_reducible refine Bk.alloc ?_ _) | (with_reducible refine Bk.drew ?_) | (with_reducible refine Bk.drewN ?_ _) | ((with_reducible refine Bk.far ?_ ?_ _); rotate_left; focus (simp only []; omega)) | ((with_reducible refine Bk.below ?_ (by with_reducible assumption) ?_); rotate_left; focus (go_size; done))))); done)); (case h2 => ((repeat (first | (with_reducible assumption) | ((with_reducible refine Bk.new_ ?_); (first | rfl | (simp only [World.size_alloc, World.size_setCell, World.size_drew, World.heap_drewN]; done))) | (with_reducible refine Bk.alloc ?_ _) | (with_reducible refine Bk.drew ?_) | (with_reducible refine Bk.drewN ?_ _) | ((with_reducible refine Bk.far ?_ ?_ _); rotate_left; focus (simp only []; omega)) | ((with_reducible refine Bk.below ?_ (by with_reducible assumption) ?_); rotate_left; focus (go_size; done)))); done)); (case h3 => ((repeat' (first | (with_reducible exact Below.refl _ _) | (with_reducible assumption) | (with_reducible refine Below.drew ?_) | (with_reducible refine below_drewN ?_ _) | ((with_reducible refine Below.alloc ?_ ?_ _); rotate_left; focus (go_size; done)) | ((with_reducible refine Below.setCell ?_ ?_ _); rotate_left; focus (go_size; done)) | ((with_reducible refine Below.trans ?_ (Below.mono (by with_reducible assumption) ?_)); rotate_left; focus (go_size; done)))); done))) | (refine wp_named (fun W => Bk W (w2.heap.size) 24 [.int .u64 z1, .int .u64 z0] ∧ Bk W (w.heap.size + 1) 26 [.bool false, .int .u64 0, .int .u64 0, .int .i64 0] ∧ Below w.heap.size w W) ⟨?h1, ?h2, ?h3⟩ ?_; (case h1 => (first | ((repeat (first | (with_reducible assumption) | ((with_reducible refine Bk.new_ ?_); (first | rfl | (simp only [World.size_alloc, World.size_setCell, World.size_drew, World.heap_drewN]; done))) | (with_reducible refine Bk.alloc ?_ _) | (with_reducible refine Bk.drew ?_) | (with_reducible refine Bk.drewN ?_ _) | ((with_reducible refine Bk.far ?_ ?_ _); rotate_left; focus (simp only []; omega)) | ((with_reducible refine Bk.below ?_ (by with_reducible assumption) ?_); rotate_left; focus (go_size; done)))); done) | ((repeat (first | (with_reducible refine Bk.alloc ?_ _) | (with_reducible refine Bk.drew ?_) | ((with_reducible refine Bk.far ?_ ?_ _); rotate_left; focus (simp only []; omega)))); (refine ((?_ : Bk _ _ _ [.int .u64 0, .int .u64 0]).set_ 0 _).set_ 1 _); (repeat (first | (with_reducible assumption) | ((with_reducible refine Bk.new_ ?_); (first | rfl | (simp only [World.size_alloc, World.size_setCell, World.size_drew, World.heap_drewN]; done))) | (with_reducible refine Bk.alloc ?_ _) | (with_reducible refine Bk.drew ?_) | (with_reducible refine Bk.drewN ?_ _) | ((with_reducible refine Bk.far ?_ ?_ _); rotate_left; focus (simp only []; omega)) | ((with_reducible refine Bk.below ?_ (by with_reducible assumption) ?_); rotate_left; focus (go_size; done))))); done)); (case h2 => ((repeat (first | (with_reducible assumption) | ((with_reducible refine Bk.new_ ?_); (first | rfl | (simp only [World.size_alloc, World.size_setCell, World.size_drew, World.heap_drewN]; done))) | (with_reducible refine Bk.alloc ?_ _) | (with_reducible refine Bk.drew ?_) | (with_reducible refine Bk.drewN ?_ _) | ((with_reducible refine Bk.far ?_ ?_ _); rotate_left; focus (simp only []; omega)) | ((with_reducible refine Bk.below ?_ (by with_reducible assumption) ?_); rotate_left; focus (go_size; done)))); done)); (case h3 => ((repeat' (first | (with_reducible exact Below.refl _ _) | (with_reducible assumption) | (with_reducible refine Below.drew ?_) | (with_reducible refine below_drewN ?_ _) | ((with_reducible refine Below.alloc ?_ ?_ _); rotate_left; focus (go_size; done)) | ((with_reducible refine Below.setCell ?_ ?_ _); rotate_left; focus (go_size; done)) | ((with_reducible refine Below.trans ?_ (Below.mono (by with_reducible assumption) ?_)); rotate_left; focus (go_size; done)))); done))) | (refine wp_named (fun W => Bk W (w3.heap.size) 24 [.int .u64 z1, .int .u64 z0] ∧ Bk W (w.heap.size + 1) 26 [.bool false, .int .u64 0, .int .u64 0, .int .i64 0] ∧ Below w.heap.size w W) ⟨?h1, ?h2, ?h3⟩ ?_; (case h1 => (first | ((repeat (first | (with_reducible assumption) | ((with_reducible refine Bk.new_ ?_); (first | rfl | (simp only [World.size_alloc, World.size_setCell, World.size_drew, World.heap_drewN]; done))) | (with_reducible refine Bk.alloc ?_ _) | (with_reducible refine Bk.drew ?_) | (with_reducible refine Bk.drewN ?_ _) | ((with_reducible refine Bk.far ?_ ?_ _); rotate_left; focus (simp only []; omega)) | ((with_reducible refine Bk.below ?_ (by with_reducible assumption) ?_); rotate_left; focus (go_size; done)))); done) | ((repeat (first | (with_reducible refine Bk.alloc ?_ _) | (with_reducible refine Bk.drew ?_) | ((with_reducible refine Bk.far ?_ ?_ _); rotate_left; focus (simp only []; omega)))); (refine ((?_ : Bk _ _ _ [.int .u64 0, .int .u64 0]).set_ 0 _).set_ 1 _); (repeat (first | (with_reducible assumption) | ((with_reducible refine Bk.new_ ?_); (first | rfl | (simp only [World.size_alloc, World.size_setCell, World.size_drew, World.heap_drewN]; done))) | (with_reducible refine Bk.alloc ?_ _) | (with_reducible refine Bk.drew ?_) | (with_reducible refine Bk.drewN ?_ _) | ((with_reducible refine Bk.far ?_ ?_ _); rotate_left; focus (simp only []; omega)) | ((with_reducible refine Bk.below ?_ (by with_reducible assumption) ?_); rotate_left; focus (go_size; done))))); done)); (case h2 => ((repeat (first | (with_reducible assumption) | ((with_reducible refine Bk.new_ ?_); (first | rfl | (simp only [World.size_alloc, World.size_setCell, World.size_drew, World.heap_drewN]; done))) | (with_reducible refine Bk.alloc ?_ _) | (with_reducible refine Bk.drew ?_) | (with_reducible refine Bk.drewN ?_ _) | ((with_reducible refine Bk.far ?_ ?_ _); rotate_left; focus (simp only []; omega)) | ((with_reducible refine Bk.below ?_ (by with_reducible assumption) ?_); rotate_left; focus (go_size; done)))); done)); (case h3 => ((repeat' (first | (with_reducible exact Below.refl _ _) | (with_reducible assumption) | (with_reducible refine Below.drew ?_) | (with_reducible refine below_drewN ?_ _) | ((with_reducible refine Below.alloc ?_ ?_ _); rotate_left; focus (go_size; done)) | ((with_reducible refine Below.setCell ?_ ?_ _); rotate_left; focus (go_size; done)) | ((with_reducible refine Below.trans ?_ (Below.mono (by with_reducible assumption) ?_)); rotate_left; focus (go_size; done)))); done))) | (refine wp_named (fun W => Bk W (w4.heap.size) 24 [.int .u64 z1, .int .u64 z0] ∧ Bk W (w.heap.size + 1) 26 [.bool false, .int .u64 0, .int .u64 0, .int .i64 0] ∧ Below w.heap.size w W) ⟨?h1, ?h2, ?h3⟩ ?_; (case h1 => (first | ((repeat (first | (with_reducible assumption) | ((with_reducible refine Bk.new_ ?_); (first | rfl | (simp only [World.size_alloc, World.size_setCell, World.size_drew, World.heap_drewN]; done))) | (with_reducible refine Bk.alloc ?_ _) | (with_reducible refine Bk.drew ?_) | (with_reducible refine Bk.drewN ?_ _) | ((with_reducible refine Bk.far ?_ ?_ _); rotate_left; focus (simp only []; omega)) | ((with_reducible refine Bk.below ?_ (by with_reducible assumption) ?_); rotate_left; focus (go_size; done)))); done) | ((repeat (first | (with_reducible refine Bk.alloc ?_ _) | (with_reducible refine Bk.drew ?_) | ((with_reducible refine Bk.far ?_ ?_ _); rotate_left; focus (simp only []; omega)))); (refine ((?_ : Bk _ _ _ [.int .u64 0, .int .u64 0]).set_ 0 _).set_ 1 _); (repeat (first | (with_reducible assumption) | ((with_reducible refine Bk.new_ ?_); (first | rfl | (simp only [World.size_alloc, World.size_setCell, World.size_drew, World.heap_drewN]; done))) | (with_reducible refine Bk.alloc ?_ _) | (with_reducible refine Bk.drew ?_) | (with_reducible refine Bk.drewN ?_ _) | ((with_reducible refine Bk.far ?_ ?_ _); rotate_left; focus (simp only []; omega)) | ((with_reducible refine Bk.below ?_ (by with_reducible assumption) ?_); rotate_left; focus (go_size; done))))); done)); (case h2 => ((repeat (first | (with_reducible assumption) | ((with_reducible refine Bk.new_ ?_); (first | rfl | (simp only [World.size_alloc, World.size_setCell, World.size_drew, World.heap_drewN]; done))) | (with_reducible refine Bk.alloc ?_ _) | (with_reducible refine Bk.drew ?_) | (with_reducible refine Bk.drewN ?_ _) | ((with_reducible refine Bk.far ?_ ?_ _); rotate_left; focus (simp only []; omega)) | ((with_reducible refine Bk.below ?_ (by with_reducible assumption) ?_); rotate_left; focus (go_size; done)))); done)); (case h3 => ((repeat' (first | (with_reducible exact Below.refl _ _) | (with_reducible assumption) | (with_reducible refine Below.drew ?_) | (with_reducible refine below_drewN ?_ _) | ((with_reducible refine Below.alloc ?_ ?_ _); rotate_left; focus (go_size; done)) | ((with_reducible refine Below.setCell ?_ ?_ _); rotate_left; focus (go_size; done)) | ((with_reducible refine Below.trans ?_ (Below.mono (by with_reducible assumption) ?_)); rotate_left; focus (go_size; done)))); done)))
        rintro W ⟨k1, k2, mb⟩
        clear hb1 hb2 hb3 hb4 hb1c hb2c hb3c hb4c hb1f hb2f hb3f hb4f
        have c10 := k1.cell 0 rfl
        have c11 := k1.cell 1 rfl
        have c20 := k2.cell 0 rfl
        have c21 := k2.cell 1 rfl
        have c22 := k2.cell 2 rfl
        have c23 := k2.cell 3 rfl
        have f20 := k2.frozen 0
        have f21 := k2.frozen 1
        have f22 := k2.frozen 2
        have f23 := k2.frozen 3
        go_wp2_with fail
        refine bodyPost_ret (by simp [results, Try.results75, go_sem, *]; try rfl) rfl ?_
        exact ⟨rfl, by (repeat' (first | (with_reducible exact Below.refl _ _) | (with_reducible assumption) | (with_reducible refine Below.drew ?_) | (with_reducible refine below_drewN ?_ _) | ((with_reducible refine Below.alloc ?_ ?_ _); rotate_left; focus (go_size; done)) | ((with_reducible refine Below.setCell ?_ ?_ _); rotate_left; focus (go_size; done)) | ((with_reducible refine Below.trans ?_ (Below.mono (by with_reducible assumption) ?_)); rotate_left; focus (go_size; done))))⟩
end Go.Proofs.Ythkgjodidkpaeaa
