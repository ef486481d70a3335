/- The document's answers of the layer: sums, products, quotients. -/
import Derived.Test.YthkgjodidkpaeaaRk
import Derived.Test.YthkgjodidkpaeaaRt
import Derived.Deep.RegionHeld3
set_option linter.unusedSimpArgs false
set_option linter.unusedVariables false
namespace Go.Proofs.Ythkgjodidkpaeaa
open Go.RowKit

theorem rcmp_bel (n m : Nat) (u v : Value) (w : World) (hu : Dg w u n) (hv : Dg w v m) (hn : Small n) (hm : Small m) :
    Calls Try.prog 92 #[u, v] w fun e w' => e = .returned (.int .i64 (cmpN n m)) ∧ Below w.heap.size w w' :=
  (rcmp_any n m u v w hu hv hn hm).mono fun _ _ ⟨he, nn, hw⟩ => ⟨he, by rw [hw]; exact below_drewN (Below.refl _ _) nn⟩
theorem lt_128_tiny {N : Nat} (h : N < 2 ^ 128) : Tiny N := lt_256_tiny (Nat.lt_of_lt_of_le h (Nat.pow_le_pow_right (by decide) (by decide)))
theorem mul_lt_256 {n m : Nat} (hn : n < 2 ^ 128) (hm : m < 2 ^ 128) : n * m < 2 ^ 256 := by
  have h := Nat.mul_lt_mul'' hn hm
  rwa [← Nat.pow_add] at h
end Go.Proofs.Ythkgjodidkpaeaa
