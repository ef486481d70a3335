/- The reference: a number told with its error; which of two numbers is the greater. -/
import Derived.Test.YthkgjodidkpaeaaRd
import Derived.Test.YthkgjodidkpaeaaWc
set_option linter.unusedSimpArgs false
set_option linter.unusedVariables false
namespace Go.Proofs.Ythkgjodidkpaeaa
open Go.RowKit

theorem mod_fit {N : Nat} (h : N < 2 ^ 128) : N % 2 ^ 256 = N := Nat.mod_eq_of_lt (Nat.lt_trans h (by decide))
theorem cmp_top {xs ys : List Int} (hx : Digs xs) (hy : Digs ys) (k : Nat) (h1 : k < xs.length) (h2 : k < ys.length) (he : xs.length = ys.length) (heq : xs.drop (k + 1) = ys.drop (k + 1)) (hlt : xs.getD k 0 < ys.getD k 0) : dval xs < dval ys := by
  have a := dval_append (xs.take k) (xs.drop k)
  have b := dval_append (ys.take k) (ys.drop k)
  rw [List.take_append_drop, List.length_take, Nat.min_eq_left (by omega), dval_drop xs k h1] at a
  rw [List.take_append_drop, List.length_take, Nat.min_eq_left (by omega), dval_drop ys k h2, ← heq] at b
  have ba := dval_bd (hx.take k)
  have bb := dval_bd (hy.take k)
  rw [List.length_take, Nat.min_eq_left (by omega)] at ba bb
  have hp := ten_pos k
  generalize dval (xs.drop (k + 1)) = T at *
  have hm : (10 : Int) ^ k * (xs.getD k 0 + 10 * T) + 10 ^ k ≤ 10 ^ k * (ys.getD k 0 + 10 * T) := by
    have : (10 : Int) ^ k * (xs.getD k 0 + 10 * T + 1) ≤ 10 ^ k * (ys.getD k 0 + 10 * T) := Int.mul_le_mul_of_nonneg_left (by omega) (by omega)
    rw [Int.mul_add, Int.mul_one] at this
    exact this
  omega
theorem cmp_long {xs ys : List Int} {n m : Nat} (hx : IsDg xs n) (hy : IsDg ys m) (h : xs.length < ys.length) : n < m := by
  have h1 := hx.lt_of_len (k := ys.length - 1) (by omega)
  have h2 := hy.le_of_ne (by intro e; subst e; simp at h)
  omega
set_option maxHeartbeats 1000000 in
theorem rcmp_any (n m : Nat) (u v : Value) (w : World) (hu : Dg w u n) (hv : Dg w v m) (hn : Small n) (hm : Small m) :
    Calls Try.prog 92 #[u, v] w fun e w' => e = .returned (.int .i64 (cmpN n m)) ∧ ∃ nn, w' = w.drewN nn := by
  obtain ⟨xs, ⟨A, c, rfl, hc, hs⟩, hd⟩ := hu
  obtain ⟨ys, ⟨B, d, rfl, hc2, hs2⟩, hd2⟩ := hv
  have hlx := pow_big hn hd
  have hly := pow_big hm hd2
  have HX := Lib.hid hd
  have HY := Lib.hid hd2
  have HS := Lib.hid hs
  have HT := Lib.hid hs2
  clear hd hd2 hs hs2 hn hm
  by_cases h1 : xs.length < ys.length
  · have e : cmpN n m = -1 := by have := cmp_long HX.out HY.out h1; unfold cmpN; rw [if_neg (by omega), if_pos this]
    rw [e]
    have g1 : ((xs.length : Int) == (ys.length : Int)) = false := by simp; omega
    clear e
    go_enter Try.func92, Try.ntmps92
    go_wp2_with fail
    go_ret
    exact ⟨rfl, 0, rfl⟩
  by_cases h2 : ys.length < xs.length
  · have e : cmpN n m = 1 := by have := cmp_long HY.out HX.out h2; unfold cmpN; rw [if_neg (by omega), if_neg (by omega)]
    rw [e]
    have g1 : ((xs.length : Int) == (ys.length : Int)) = false := by simp; omega
    clear e
    go_enter Try.func92, Try.ntmps92
    go_wp2_with fail
    go_ret
    exact ⟨rfl, 0, rfl⟩
  have hle : xs.length = ys.length := by omega
  have g1 : ((xs.length : Int) == (ys.length : Int)) = true := by simp; omega
  have HL := Lib.hid hle
  have hl1 : xs.length ≤ ys.length := by omega
  have hl2 : ys.length ≤ xs.length := by omega
  clear hle h1 h2
  go_enter Try.func92, Try.ntmps92
  go_wp2_with fail
  go_loopg [5] xs.length (fun k i wr => k ≤ xs.length ∧ i = .int .i64 ((k : Int) - 1) ∧ xs.drop k = ys.drop k ∧ ∃ nn, wr = w.drewN nn)
  case atStart =>
    exact ⟨Nat.le_refl _, rfl, by rw [List.drop_of_length_le (Nat.le_refl _), List.drop_of_length_le (by omega)], 0, rfl⟩
  case round =>
    obtain ⟨hk, rfl, heq, nn, rfl⟩ := hrel
    have HE := Lib.hid heq
    clear heq
    by_cases h0 : gk = 0
    · subst h0
      have hm : ¬ (0 : Int) ≤ ((0 : Nat) : Int) - 1 := by omega
      go_wp2_with fail
      go_ret
      refine ⟨?_, nn, rfl⟩
      have e := HE.out
      rw [List.drop_zero, List.drop_zero] at e
      have h1 := HX.out.2.2
      have h2 := HY.out.2.2
      rw [e] at h1
      have : n = m := by omega
      unfold cmpN
      rw [if_pos this]; rfl
    · obtain ⟨k, rfl⟩ : ∃ k, gk = k + 1 := ⟨gk - 1, by omega⟩
      obtain ⟨g, o, rfl, hg, hcell⟩ := HS.out.at_ (k := k) (by omega)
      obtain ⟨g2, o2, rfl, hg2, hcell2⟩ := HT.out.at_ (k := k) (by omega)
      obtain ⟨a, ha⟩ : ∃ a, a = xs.getD k 0 := ⟨_, rfl⟩
      obtain ⟨b, hb⟩ : ∃ b, b = ys.getD k 0 := ⟨_, rfl⟩
      rw [← ha] at hcell
      rw [← hb] at hcell2
      have HA := Lib.hid ha
      have HB := Lib.hid hb
      have hp : (0 : Int) < ((k + 1 : Nat) : Int) := by omega
      have hx : ((k + 1 : Nat) : Int) - 1 = (k : Int) := by omega
      have k0 : (0 : Int) ≤ (k : Int) := by omega
      have k1 : (k : Int) < (xs.length : Int) := by omega
      have k2 : (k : Int) < (ys.length : Int) := by omega
      clear h0 ha hb
      go_wp2_with fail
      go_quiet (fail)
      go_wp2_with fail
      · have hlt : a < b := by assumption
        go_ret
        refine ⟨?_, by (try simp only [World.drewN_drewN]); exact ⟨_, rfl⟩⟩
        have := cmp_top HX.out.1 HY.out.1 k (by omega) (by omega) HL.out HE.out (by rw [← HA.out, ← HB.out]; exact hlt)
        rw [HX.out.2.2, HY.out.2.2] at this
        unfold cmpN
        rw [if_neg (by omega), if_pos (by omega)]; rfl
      · go_quiet (fail)
        go_wp2_with fail
        · have hlt : b < a := by assumption
          go_ret
          refine ⟨?_, by (try simp only [World.drewN_drewN]); exact ⟨_, rfl⟩⟩
          have := cmp_top HY.out.1 HX.out.1 k (by omega) (by omega) HL.out.symm HE.out.symm (by rw [← HA.out, ← HB.out]; exact hlt)
          rw [HX.out.2.2, HY.out.2.2] at this
          unfold cmpN
          rw [if_neg (by omega), if_neg (by omega)]; rfl
        · go_roundg k
          case measure => omega
          case rel =>
            refine ⟨by omega, rfl, ?_, by (try simp only [World.drewN_drewN]); exact ⟨_, rfl⟩⟩
            have hab : a = b := by omega
            rw [List.drop_eq_getElem_cons (by omega), List.drop_eq_getElem_cons (l := ys) (by omega), HE.out, ← getD_lt _ _ (by omega), ← getD_lt _ _ (by omega), ← HA.out, ← HB.out, hab]
end Go.Proofs.Ythkgjodidkpaeaa
