/- The reference: a quotient to the nearest, half to even. -/
import Derived.Test.YthkgjodidkpaeaaRi
import Derived.Test.YthkgjodidkpaeaaWr
set_option linter.unusedSimpArgs false
set_option linter.unusedVariables false
namespace Go.Proofs.Ythkgjodidkpaeaa
open Go.RowKit

theorem IsDg.one : IsDg [1] 1 := ⟨by intro d hd; rw [List.mem_singleton.1 hd]; decide, by simp [Top], rfl⟩
theorem dg_one {w : World} {g : Nat} (h : Bk w g 3 [.int .i64 1]) : Dg w (.slice (some ⟨g, 0, none⟩) 1 1) 1 :=
  ⟨[1], IsSl.of_bk (ds := [1]) h rfl (Nat.le_refl _), IsDg.one⟩
theorem near_up (N M : Nat) (h : M < N % M + N % M ∨ (N % M + N % M = M ∧ N / M % 2 = 1)) : near N M = N / M + 1 := by
  unfold near; rw [if_pos (by omega)]
theorem near_stay (N M : Nat) (h : N % M + N % M < M ∨ (N % M + N % M = M ∧ N / M % 2 = 0)) : near N M = N / M := by
  unfold near; rw [if_neg (by omega)]; rfl
theorem dg_first {w : World} {v : Value} {n : Nat} (h : Dg w v n) (hn : n ≠ 0) : ∃ g o k c, v = .slice (some ⟨g, o, none⟩) (k + 1) c ∧ k + 1 ≤ c ∧ w.cell? ⟨g, o, none⟩ = some (.int .i64 ((n % 10 : Nat) : Int)) ∧ g < w.heap.size := by
  obtain ⟨xs, ⟨A, c, rfl, hc, hs⟩, hd⟩ := h
  have hz := hd.zero_iff
  obtain ⟨k, hk⟩ : ∃ k, xs.length = k + 1 := ⟨xs.length - 1, by omega⟩
  obtain ⟨g, o, rfl, hg, hcell⟩ := hs.at_ (k := 0) (by omega)
  refine ⟨g, o, k, c, by rw [hk], by omega, ?_, hg⟩
  rw [Nat.add_zero] at hcell
  rw [hcell, dval_digit hd.1 0 (by omega), hd.2.2, Int.pow_zero, Int.ediv_one]
  rfl
/-- a bound that is a little nearer -/
def Tiny (n : Nat) : Prop := True → n < 10 ^ 999
theorem ten_lt (a b : Nat) (h : a < b) : (10 : Nat) ^ a < 10 ^ b := Nat.pow_lt_pow_right (by decide) h
theorem one_lt_ten (a : Nat) (h : 0 < a) : 1 < (10 : Nat) ^ a := Nat.one_lt_pow (by omega) (by decide)
theorem ten_next (a b : Nat) (h : b = a + 1) : (10 : Nat) ^ b = 10 * 10 ^ a := by rw [h, Nat.pow_succ, Nat.mul_comm]
theorem small_add {n m : Nat} (hn : Tiny n) (hm : Tiny m) : Small (n + m) := by
  intro _
  have e := ten_next 999 1000 rfl
  have h1 := hn trivial
  have h2 := hm trivial
  rw [e]
  generalize (10 : Nat) ^ 999 = T at *
  omega
theorem Tiny.of_le {n m : Nat} (h : Tiny n) (hm : m ≤ n) : Tiny m := fun t => Nat.lt_of_le_of_lt hm (h t)
theorem Tiny.small {n : Nat} (h : Tiny n) : Small n := fun t => Nat.lt_trans (h t) (ten_lt 999 1000 (by decide))
theorem near_le (N M : Nat) : near N M ≤ N + 1 := by
  unfold near
  have := Nat.div_le_self N M
  split <;> omega
set_option maxHeartbeats 2000000 in
theorem near_any (N M : Nat) (hM : 0 < M) (u v : Value) (w : World) (hu : Dg w u N) (hv : Dg w v M) (hN : Tiny N) (hMs : Tiny M) :
    Calls Try.prog 73 #[u, v] w (RetDg (near N M) w) := by
  have HU := Lib.hid hu
  have HV := Lib.hid hv
  have HN := Lib.hid hN
  have HM := Lib.hid hMs
  have HP := Lib.hid hM
  have HR : Hid (Tiny (N % M)) := Lib.hid (hN.of_le (Nat.mod_le _ _))
  have HQ : Hid (Tiny (N / M)) := Lib.hid (hN.of_le (Nat.div_le_self _ _))
  have HO : Hid (Small (N / M + 1)) := Lib.hid (small_add HQ.out (fun _ => one_lt_ten 999 (by decide)))
  have hup := near_up N M
  have hst := near_stay N M
  clear hu hv hN hMs hM
  obtain ⟨q, hq⟩ : ∃ q, q = N / M := ⟨_, rfl⟩
  obtain ⟨r, hr⟩ : ∃ r, r = N % M := ⟨_, rfl⟩
  obtain ⟨z, hz⟩ : ∃ z, z = near N M := ⟨_, rfl⟩
  rw [← hz, ← hq, ← hr] at hup hst
  rw [← hr] at HR
  rw [← hq] at HQ HO
  rw [← hz]
  have H1 := Lib.hid hq
  have H2 := Lib.hid hr
  have H3 := Lib.hid hup
  have H4 := Lib.hid hst
  clear hq hr hz hup hst
  go_enter Try.func73, Try.ntmps73
  go_wp2_with fail
  refine (quo_any N M HP.out _ _ _ HU.out HV.out HN.out.small HM.out.small).mono ?_
  rw [← H1.out, ← H2.out]
  rintro _ w1 ⟨v1, v2, rfl, hq1, hr1, hb1⟩
  have HQ1 := Lib.hid hq1
  have HR1 := Lib.hid hr1
  have HV1 := Lib.hid (HV.out.below hb1)
  have hb1s := hb1.size
  clear hq1 hr1
  go_wp2_with fail
  refine (plus_any r r _ _ _ HR1.out HR1.out HR.out.small HR.out.small).mono ?_
  rintro _ w2 ⟨v3, rfl, hd3, hb2⟩
  have HD3 := Lib.hid hd3
  have HV2 := Lib.hid (HV1.out.below hb2)
  have HQ2 := Lib.hid (HQ1.out.below hb2)
  have hb2s := hb2.size
  clear hd3
  go_wp2_with fail
  refine (rcmp_any (r + r) M _ _ _ HD3.out HV2.out (small_add HR.out HR.out) HM.out.small).mono ?_
  rcases Nat.lt_trichotomy (r + r) M with hlt | heq | hgt
  · have hc : cmpN (r + r) M = -1 := by unfold cmpN; rw [if_neg (by omega), if_pos hlt]
    have hz := H4.out (.inl hlt)
    rw [hc]
    have HZ := Lib.hid hz
    clear hc hz hlt
    rintro _ w3 ⟨rfl, nn, rfl⟩
    go_wp2_with fail
    go_ret
    exact ⟨_, rfl, by rw [HZ.out]; exact HQ2.out.drewN nn, by (repeat' (first | (with_reducible exact Below.refl _ _) | (with_reducible assumption) | (with_reducible refine Below.drew ?_) | (with_reducible refine below_drewN ?_ _) | ((with_reducible refine Below.alloc ?_ ?_ _); rotate_left; focus (go_size; done)) | ((with_reducible refine Below.setCell ?_ ?_ _); rotate_left; focus (go_size; done)) | ((with_reducible refine Below.trans ?_ (Below.mono (by with_reducible assumption) ?_)); rotate_left; focus (go_size; done))))⟩
  · have hc : cmpN (r + r) M = 0 := by unfold cmpN; rw [if_pos heq]
    rw [hc]
    have HE := Lib.hid heq
    clear hc heq
    rintro _ w3 ⟨rfl, nn, rfl⟩
    by_cases h0 : q = 0
    · have hz := H4.out (.inr ⟨HE.out, by rw [h0]⟩)
      have HZ := Lib.hid hz
      clear hz
      subst h0
      obtain ⟨xs, ⟨A, c, rfl, hc, hs⟩, hd⟩ := HQ2.out
      have hx0 := hd.zero_iff.2 rfl
      obtain rfl : xs = [] := List.length_eq_zero_iff.1 hx0
      have HS := Lib.hid hs
      have HD := Lib.hid hd
      clear hs hd hx0
      go_wp2_with fail
      go_ret
      exact ⟨_, rfl, by rw [HZ.out]; exact HQ2.out.drewN nn, by (repeat' (first | (with_reducible exact Below.refl _ _) | (with_reducible assumption) | (with_reducible refine Below.drew ?_) | (with_reducible refine below_drewN ?_ _) | ((with_reducible refine Below.alloc ?_ ?_ _); rotate_left; focus (go_size; done)) | ((with_reducible refine Below.setCell ?_ ?_ _); rotate_left; focus (go_size; done)) | ((with_reducible refine Below.trans ?_ (Below.mono (by with_reducible assumption) ?_)); rotate_left; focus (go_size; done))))⟩
    · obtain ⟨g, o, k, c, rfl, hkc, hcell, hg⟩ := dg_first HQ2.out h0
      have k0 : (0 : Int) < (k : Int) + 1 := by omega
      have e1 : ((k + 1 : Nat) : Int) = (k : Int) + 1 := by omega
      rcases Nat.mod_two_eq_zero_or_one q with hp | hp
      · have hz := H4.out (.inr ⟨HE.out, hp⟩)
        have HZ := Lib.hid hz
        have g1 : (((q % 10 : Nat) : Int) % 2 == 1) = false := by simp; omega
        have d0 : (0 : Int) ≤ ((q % 10 : Nat) : Int) := by omega
        obtain ⟨d, hd⟩ : ∃ d : Int, d = ((q % 10 : Nat) : Int) := ⟨_, rfl⟩
        rw [← hd] at g1 hcell d0
        clear hz hp h0 hd
        go_wp2_with fail
        go_ret
        exact ⟨_, rfl, by rw [HZ.out]; exact HQ2.out.drewN nn, by (repeat' (first | (with_reducible exact Below.refl _ _) | (with_reducible assumption) | (with_reducible refine Below.drew ?_) | (with_reducible refine below_drewN ?_ _) | ((with_reducible refine Below.alloc ?_ ?_ _); rotate_left; focus (go_size; done)) | ((with_reducible refine Below.setCell ?_ ?_ _); rotate_left; focus (go_size; done)) | ((with_reducible refine Below.trans ?_ (Below.mono (by with_reducible assumption) ?_)); rotate_left; focus (go_size; done))))⟩
      · have hz := H3.out (.inr ⟨HE.out, hp⟩)
        have HZ := Lib.hid hz
        have g1 : (((q % 10 : Nat) : Int) % 2 == 1) = true := by simp; omega
        have d0 : (0 : Int) ≤ ((q % 10 : Nat) : Int) := by omega
        obtain ⟨d, hd⟩ : ∃ d : Int, d = ((q % 10 : Nat) : Int) := ⟨_, rfl⟩
        rw [← hd] at g1 hcell d0
        clear hz hp h0 hd
        go_wp2_with fail
        refine (plus_any q 1 _ _ _ (HQ2.out.below (by (repeat' (first | (with_reducible exact Below.refl _ _) | (with_reducible assumption) | (with_reducible refine Below.drew ?_) | (with_reducible refine below_drewN ?_ _) | ((with_reducible refine Below.alloc ?_ ?_ _); rotate_left; focus (go_size; done)) | ((with_reducible refine Below.setCell ?_ ?_ _); rotate_left; focus (go_size; done)) | ((with_reducible refine Below.trans ?_ (Below.mono (by with_reducible assumption) ?_)); rotate_left; focus (go_size; done)))))) (dg_one (Bk.new_ rfl)) HQ.out.small (Small.of_le HO.out (by omega))).mono ?_
        rintro _ w4 ⟨v4, rfl, hd4, hb4⟩
        have HD4 := Lib.hid hd4
        clear hd4
        go_wp2_with fail
        go_ret
        exact ⟨_, rfl, by rw [HZ.out]; exact HD4.out, by (repeat' (first | (with_reducible exact Below.refl _ _) | (with_reducible assumption) | (with_reducible refine Below.drew ?_) | (with_reducible refine below_drewN ?_ _) | ((with_reducible refine Below.alloc ?_ ?_ _); rotate_left; focus (go_size; done)) | ((with_reducible refine Below.setCell ?_ ?_ _); rotate_left; focus (go_size; done)) | ((with_reducible refine Below.trans ?_ (Below.mono (by with_reducible assumption) ?_)); rotate_left; focus (go_size; done))))⟩
  · have hc : cmpN (r + r) M = 1 := by unfold cmpN; rw [if_neg (by omega), if_neg (by omega)]
    have hz := H3.out (.inl hgt)
    rw [hc]
    have HZ := Lib.hid hz
    clear hc hz hgt
    rintro _ w3 ⟨rfl, nn, rfl⟩
    go_wp2_with fail
    refine (plus_any q 1 _ _ _ (HQ2.out.below (by (repeat' (first | (with_reducible exact Below.refl _ _) | (with_reducible assumption) | (with_reducible refine Below.drew ?_) | (with_reducible refine below_drewN ?_ _) | ((with_reducible refine Below.alloc ?_ ?_ _); rotate_left; focus (go_size; done)) | ((with_reducible refine Below.setCell ?_ ?_ _); rotate_left; focus (go_size; done)) | ((with_reducible refine Below.trans ?_ (Below.mono (by with_reducible assumption) ?_)); rotate_left; focus (go_size; done)))))) (dg_one (Bk.new_ rfl)) HQ.out.small (Small.of_le HO.out (by omega))).mono ?_
    rintro _ w4 ⟨v4, rfl, hd4, hb4⟩
    have HD4 := Lib.hid hd4
    clear hd4
    go_wp2_with fail
    go_ret
    exact ⟨_, rfl, by rw [HZ.out]; exact HD4.out, by (repeat' (first | (with_reducible exact Below.refl _ _) | (with_reducible assumption) | (with_reducible refine Below.drew ?_) | (with_reducible refine below_drewN ?_ _) | ((with_reducible refine Below.alloc ?_ ?_ _); rotate_left; focus (go_size; done)) | ((with_reducible refine Below.setCell ?_ ?_ _); rotate_left; focus (go_size; done)) | ((with_reducible refine Below.trans ?_ (Below.mono (by with_reducible assumption) ?_)); rotate_left; focus (go_size; done))))⟩
end Go.Proofs.Ythkgjodidkpaeaa
