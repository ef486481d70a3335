/- The reference: the digits of words. -/
import Derived.Test.YthkgjodidkpaeaaRb
import Derived.Test.YthkgjodidkpaeaaWd
set_option linter.unusedSimpArgs false
set_option linter.unusedVariables false
namespace Go.Proofs.Ythkgjodidkpaeaa
open Go.RowKit

theorem bit_step (n m j : Nat) (hj : j < 64) : 2 * (n / 2 ^ (64 * m + (j + 1))) + (n / 2 ^ (64 * m) % 2 ^ 64 / 2 ^ j % 2) = n / 2 ^ (64 * m + j) := by
  have e1 : 2 ^ 64 = 2 ^ j * 2 ^ (64 - j) := by rw [← Nat.pow_add]; congr 1; omega
  have e2 : n / 2 ^ (64 * m) % 2 ^ 64 / 2 ^ j % 2 = n / 2 ^ (64 * m + j) % 2 := by
    rw [e1, Nat.mod_mul_right_div_self, Nat.div_div_eq_div_mul, ← Nat.pow_add]
    have hd : 2 ^ 1 ∣ 2 ^ (64 - j) := Nat.pow_dvd_pow 2 (by omega)
    exact Nat.mod_mod_of_dvd _ hd
  rw [e2, ← Nat.add_assoc, Nat.pow_succ, ← Nat.div_div_eq_div_mul]
  omega
theorem pow_le_gen (a b : Nat) (h : a ≤ b) : 2 ^ a ≤ 10 ^ b := Nat.le_trans (Nat.pow_le_pow_left (by decide) a) (Nat.pow_le_pow_right (by decide) h)
theorem lt_ten_1000 {n : Nat} (h : n < 2 ^ 256) : Small n := fun _ => Nat.lt_of_lt_of_le h (pow_le_gen 256 1000 (by decide))
theorem div_lt_1000 {n : Nat} (h : n < 2 ^ 256) (d : Nat) : Small (n / d) := lt_ten_1000 (Nat.lt_of_le_of_lt (Nat.div_le_self _ _) h)

theorem bit_val (n m j : Nat) : wrap64 (bits .and .u64 (wd n m / 2 ^ j) 1) = ((n / 2 ^ (64 * m) % 2 ^ 64 / 2 ^ j % 2 : Nat) : Int) := by
  unfold wd
  have hx : n / 2 ^ (64 * m) % 2 ^ 64 < 18446744073709551616 := Nat.mod_lt _ (by decide)
  generalize n / 2 ^ (64 * m) % 2 ^ 64 = x at *
  have e : ((x : Nat) : Int) / 2 ^ j = ((x / 2 ^ j : Nat) : Int) := by
    rw [Int.natCast_ediv, Int.natCast_pow]; rfl
  have hy : x / 2 ^ j ≤ x := Nat.div_le_self _ _
  rw [e]
  generalize x / 2 ^ j = y at *
  have h := bits_and_u64_nat y 1 (by omega) (by decide)
  rw [Nat.and_one_is_mod] at h
  have e1 : ((1 : Nat) : Int) = 1 := rfl
  rw [e1] at h
  rw [h]
  exact IntWalk.wrap64_in _ (by omega)

set_option maxHeartbeats 1000000 in
theorem words_any (n b L c : Nat) (w : World) (hn : n < 2 ^ 256) (hL : n < 2 ^ (64 * L)) (hL4 : L ≤ 4) (hb : b < w.heap.size) (hc : L ≤ c) (hw : ∀ i, i < L → w.cell? ⟨b, i, none⟩ = some (.int .u64 (wd n i))) :
    Calls Try.prog 85 #[.slice (some ⟨b, 0, none⟩) L c] w (RetDg n w) := by
  have HW := Lib.hid hw
  have HN := Lib.hid hn
  have HL := Lib.hid hL
  clear hw hn hL
  go_enter Try.func85, Try.ntmps85
  go_wp2_with fail
  go_loopg [3, 4] L (fun k v i wr => k ≤ L ∧ i = .int .i64 ((k : Int) - 1) ∧ Dg wr v (n / 2 ^ (64 * k)) ∧ Below w.heap.size w wr)
  case atStart =>
    refine ⟨Nat.le_refl _, rfl, ⟨[], ⟨none, 0, rfl, Nat.le_refl _, fun h => absurd rfl h⟩, ?_⟩, by (repeat' (first | (with_reducible exact Below.refl _ _) | (with_reducible assumption) | (with_reducible refine Below.drew ?_) | (with_reducible refine below_drewN ?_ _) | ((with_reducible refine Below.alloc ?_ ?_ _); rotate_left; focus (go_size; done)) | ((with_reducible refine Below.setCell ?_ ?_ _); rotate_left; focus (go_size; done)) | ((with_reducible refine Below.trans ?_ (Below.mono (by with_reducible assumption) ?_)); rotate_left; focus (go_size; done))))⟩
    rw [Nat.div_eq_of_lt HL.out]
    exact IsDg.nil
  case round =>
    obtain ⟨hk, rfl, hdg, hbel⟩ := hrel
    have HD := Lib.hid hdg
    clear hdg
    by_cases h0 : gk = 0
    · subst h0
      have hm : ¬ (0 : Int) ≤ ((0 : Nat) : Int) - 1 := by omega
      go_wp2_with fail
      go_ret
      refine ⟨u3, rfl, ?_, hbel⟩
      have := HD.out
      rwa [Nat.mul_zero, Nat.pow_zero, Nat.div_one] at this
    · obtain ⟨m, rfl⟩ : ∃ m, gk = m + 1 := ⟨gk - 1, by omega⟩
      have hp : (0 : Int) < ((m + 1 : Nat) : Int) := by omega
      have hx : ((m + 1 : Nat) : Int) - 1 = (m : Int) := by omega
      have hcw := HW.out m (by omega)
      clear h0
      go_wp2_with fail
      simp only [hx]
      clear hx hp
      obtain ⟨wo, rfl⟩ : ∃ wo : World, wo = wr := ⟨_, rfl⟩
      go_loopg [3, 5] 64 (fun k v i wr => k ≤ 64 ∧ i = .int .i64 ((k : Int) - 1) ∧ Dg wr v (n / 2 ^ (64 * m + k)) ∧ Below w.heap.size w wr)
      case atStart =>
        refine ⟨by decide, rfl, ?_, hbel⟩
        have := HD.out
        rwa [Nat.mul_add] at this
      case round =>
        obtain ⟨hk2, rfl, hdg2, hbel2⟩ := hrel
        have HD2 := Lib.hid hdg2
        clear hdg2
        by_cases h0 : gk = 0
        · subst h0
          have hm : ¬ (0 : Int) ≤ ((0 : Nat) : Int) - 1 := by omega
          go_wp2_with fail
          go_roundg m
          case measure => omega
          case rel =>
            refine ⟨by omega, rfl, ?_, hbel2⟩
            have := HD2.out
            rwa [Nat.add_zero] at this
        · obtain ⟨j, rfl⟩ : ∃ j, gk = j + 1 := ⟨gk - 1, by omega⟩
          have hp2 : (0 : Int) < ((j + 1 : Nat) : Int) := by omega
          have hx2 : ((j + 1 : Nat) : Int) - 1 = (j : Int) := by omega
          have hcw2 := (hbel2.cell (p := ⟨b, m, none⟩) hb).trans hcw
          go_wp2_with fail
          have hbv := bit_val n m j
          have hb2 : n / 2 ^ (64 * m) % 2 ^ 64 / 2 ^ j % 2 < 2 := Nat.mod_lt _ (by decide)
          have hst := bit_step n m j (by omega)
          obtain ⟨t, ht⟩ : ∃ t, t = n / 2 ^ (64 * m) % 2 ^ 64 / 2 ^ j % 2 := ⟨_, rfl⟩
          rw [← ht] at hbv hb2 hst
          rw [hbv]
          have HS := Lib.hid hst
          clear hbv hst ht
          refine (twice_any (n / 2 ^ (64 * m + (j + 1))) (t : Int) (by omega) (by omega) u3 _ HD2.out (div_lt_1000 HN.out _)).mono ?_
          rintro _ w2 ⟨v2, rfl, hdg3, hb3⟩
          have hb3s := hb3.size
          have hb2s := hbel2.size
          rw [Int.toNat_natCast, HS.out] at hdg3
          have HD3 := Lib.hid hdg3
          clear hdg3
          go_wp2_with fail
          go_roundg j
          case measure => omega
          case rel => exact ⟨by omega, rfl, HD3.out, by (repeat' (first | (with_reducible exact Below.refl _ _) | (with_reducible assumption) | (with_reducible refine Below.drew ?_) | (with_reducible refine below_drewN ?_ _) | ((with_reducible refine Below.alloc ?_ ?_ _); rotate_left; focus (go_size; done)) | ((with_reducible refine Below.setCell ?_ ?_ _); rotate_left; focus (go_size; done)) | ((with_reducible refine Below.trans ?_ (Below.mono (by with_reducible assumption) ?_)); rotate_left; focus (go_size; done))))⟩
end Go.Proofs.Ythkgjodidkpaeaa
