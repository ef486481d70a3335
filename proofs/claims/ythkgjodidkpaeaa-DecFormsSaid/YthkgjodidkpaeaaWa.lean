/- math/bits as this program calls it: a sum, a difference, a product of words, a number of two words by ten. -/
import Derived.Test.YthkgjodidkpaeaaBase
import Derived.Test.YthkgjodidkpaeaaWd
import Derived.Test.YthkgjodidkpaeaaSh
import Derived.Shelf.Spec.BitsCarry
import Derived.Lib.Hide
set_option linter.unusedSimpArgs false
set_option linter.unusedVariables false
namespace Go.Proofs.Ythkgjodidkpaeaa
open Go.RowKit

/-- a word and a carry: s + 2^64 k is t -/
def Carry (s k t : Int) : Prop := s + 18446744073709551616 * k = t ∧ 0 ≤ s ∧ s < 18446744073709551616 ∧ 0 ≤ k ∧ k ≤ 1
theorem add64_ex (x y c : Int) (hx0 : 0 ≤ x) (hx : x < 18446744073709551616) (hy0 : 0 ≤ y) (hy : y < 18446744073709551616) (hc0 : 0 ≤ c) (hc : c ≤ 1) :
    ∃ s k : Int, (∀ W : World, (callFunc 86 #[.int .u64 x, .int .u64 y, .int .u64 c]).run Try.prog W = .ok (.value (.tuple #[.int .u64 s, .int .u64 k])) W) ∧ Carry s k (x + y + c) := by
  refine ⟨(x + y + c) % 18446744073709551616, (x + y + c) / 18446744073709551616, fun W => ?_, ?_⟩
  · rw [run_callFunc_extern Try.func86 (by kernel_rfl) (by kernel_rfl) (by kernel_rfl) (e := add64Entry) (by kernel_rfl), run_add64 x y c hx0 hy0 hc0 hc]
    rfl
  · unfold Carry; omega
/-- a difference and a borrow: s - 2^64 k is t -/
def Borrow (s k t : Int) : Prop := s - 18446744073709551616 * k = t ∧ 0 ≤ s ∧ s < 18446744073709551616 ∧ 0 ≤ k ∧ k ≤ 1
theorem sub64_ex (x y c : Int) (hx0 : 0 ≤ x) (hx : x < 18446744073709551616) (hy0 : 0 ≤ y) (hy : y < 18446744073709551616) (hc0 : 0 ≤ c) (hc : c ≤ 1) :
    ∃ s k : Int, (∀ W : World, (callFunc 87 #[.int .u64 x, .int .u64 y, .int .u64 c]).run Try.prog W = .ok (.value (.tuple #[.int .u64 s, .int .u64 k])) W) ∧ Borrow s k (x - y - c) := by
  obtain ⟨x, rfl⟩ := Int.eq_ofNat_of_zero_le hx0
  obtain ⟨y, rfl⟩ := Int.eq_ofNat_of_zero_le hy0
  obtain ⟨c, rfl⟩ := Int.eq_ofNat_of_zero_le hc0
  refine ⟨(((x + 18446744073709551616 - y - c) % 18446744073709551616 : Nat) : Int), ((if x < y + c then 1 else 0 : Nat) : Int), fun W => ?_, ?_⟩
  · rw [run_callFunc_extern Try.func87 (by kernel_rfl) (by kernel_rfl) (by kernel_rfl) (e := sub64Entry) (by kernel_rfl), run_sub64 x y c (by omega)]
    rfl
  · unfold Borrow; split <;> omega
/-- a product's two words -/
def Two (h l t : Int) : Prop := h * 18446744073709551616 + l = t ∧ 0 ≤ h ∧ h < 18446744073709551616 ∧ 0 ≤ l ∧ l < 18446744073709551616
theorem mul64_ex (x y : Int) (hx0 : 0 ≤ x) (hx : x < 18446744073709551616) (hy0 : 0 ≤ y) (hy : y < 18446744073709551616) :
    ∃ h l : Int, (∀ w : World, Calls Try.prog 96 #[.int .u64 x, .int .u64 y] w fun e w' => e = .returned (.tuple #[.int .u64 h, .int .u64 l]) ∧ ∃ nn, w' = w.drewN nn) ∧ Two h l (x * y) := by
  obtain ⟨x, rfl⟩ := Int.eq_ofNat_of_zero_le hx0
  obtain ⟨y, rfl⟩ := Int.eq_ofNat_of_zero_le hy0
  refine ⟨((x * y / 18446744073709551616 : Nat) : Int), ((x * y % 18446744073709551616 : Nat) : Int), fun w => (Try.bits_Mul64 x y (by omega) (by omega) w).mono fun e w' h => ⟨h.1, 0, h.2⟩, ?_⟩
  have hlt : x * y < 340282366920938463463374607431768211456 := by
    have h1 : x * y ≤ 18446744073709551615 * 18446744073709551615 := Nat.mul_le_mul (by omega) (by omega)
    omega
  unfold Two
  rw [← Int.natCast_mul]
  generalize x * y = p at *
  omega
end Go.Proofs.Ythkgjodidkpaeaa
