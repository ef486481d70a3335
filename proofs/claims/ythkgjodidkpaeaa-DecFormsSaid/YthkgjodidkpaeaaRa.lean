/- The reference's lists of digits: what each call computes of numbers. -/
import Derived.Test.YthkgjodidkpaeaaSl
set_option linter.unusedSimpArgs false
set_option linter.unusedVariables false
namespace Go.Proofs.Ythkgjodidkpaeaa
open Go.RowKit

/-- the answer lies where the argument lay -/
def RetCut (A : Option Addr) (n : Nat) (w : World) (e : Ending) (w' : World) : Prop := ∃ k c, e = .returned (.slice A k c) ∧ Dg w' (.slice A k c) n ∧ Below w.heap.size w w'
set_option maxHeartbeats 1000000 in
theorem cut_at (xs : List Int) (A : Option Addr) (c : Nat) (w : World) (hc : xs.length ≤ c) (hs : Sl w A xs) (hd : Digs xs) (hl : xs.length ≤ 100000) :
    Calls Try.prog 93 #[.slice A xs.length c] w (RetCut A (dval xs).toNat w) := by
  have HD := Lib.hid hd
  have HS := Lib.hid hs
  clear hd hs
  go_enter Try.func93, Try.ntmps93
  go_wp2_with fail
  go_loopg [3] xs.length (fun k i wr => k ≤ xs.length ∧ i = .int .i64 k ∧ (∀ j, k ≤ j → j < xs.length → xs.getD j 0 = 0) ∧ ∃ nn, wr = w.drewN nn)
  case atStart => exact ⟨Nat.le_refl _, rfl, fun j h1 h2 => absurd h2 (by omega), 0, rfl⟩
  case round =>
    obtain ⟨hn, rfl, hz, nn, rfl⟩ := hrel
    have HZ := Lib.hid hz
    clear hz
    by_cases h0 : gk = 0
    · subst h0
      go_wp2_with fail
      go_ret
      refine ⟨0, c, rfl, ⟨xs.take 0, ⟨A, c, by simp, by simp, fun h => absurd rfl h⟩, ?_⟩, by (repeat' (first | (with_reducible exact Below.refl _ _) | (with_reducible assumption) | (with_reducible refine Below.drew ?_) | (with_reducible refine below_drewN ?_ _) | ((with_reducible refine Below.alloc ?_ ?_ _); rotate_left; focus (go_size; done)) | ((with_reducible refine Below.setCell ?_ ?_ _); rotate_left; focus (go_size; done)) | ((with_reducible refine Below.trans ?_ (Below.mono (by with_reducible assumption) ?_)); rotate_left; focus (go_size; done))))⟩
      have e := dval_take_zeros xs 0 HZ.out
      rw [← e]
      exact IsDg.nil
    · obtain ⟨m, rfl⟩ : ∃ m, gk = m + 1 := ⟨gk - 1, by omega⟩
      obtain ⟨g, o, rfl, hg, hcell⟩ := HS.out.at_ (k := m) (by omega)
      obtain ⟨d, hd⟩ : ∃ d, d = xs.getD m 0 := ⟨_, rfl⟩
      rw [← hd] at hcell
      have HE := Lib.hid hd
      have hp : (0 : Int) < ((m + 1 : Nat) : Int) := by omega
      have hx : ((m + 1 : Nat) : Int) - 1 = (m : Int) := by omega
      clear h0 hd
      go_wp2_with fail
      · go_roundg m
        case measure => omega
        case rel =>
          refine ⟨by omega, rfl, ?_, nn, rfl⟩
          intro j h1 h2
          by_cases hj : j = m
          · subst hj
            rw [← HE.out]
            simpa using (by assumption : (d == 0) = true)
          · exact HZ.out j (by omega) h2
      · have hne : d ≠ 0 := by simpa using (by assumption : (d == 0) = false)
        go_ret
        have hlen : (xs.take (m + 1)).length = m + 1 := by rw [List.length_take, Nat.min_eq_left hn]
        refine ⟨m + 1, c, rfl, ⟨xs.take (m + 1), ⟨some ⟨g, o, none⟩, c, by (first | (rw [hlen]; done) | (rw [hlen]; rfl)), by rw [hlen]; omega, (HS.out.take (m + 1)).below (by (repeat' (first | (with_reducible exact Below.refl _ _) | (with_reducible assumption) | (with_reducible refine Below.drew ?_) | (with_reducible refine below_drewN ?_ _) | ((with_reducible refine Below.alloc ?_ ?_ _); rotate_left; focus (go_size; done)) | ((with_reducible refine Below.setCell ?_ ?_ _); rotate_left; focus (go_size; done)) | ((with_reducible refine Below.trans ?_ (Below.mono (by with_reducible assumption) ?_)); rotate_left; focus (go_size; done)))))⟩, HD.out.take _, ?_, ?_⟩, by (repeat' (first | (with_reducible exact Below.refl _ _) | (with_reducible assumption) | (with_reducible refine Below.drew ?_) | (with_reducible refine below_drewN ?_ _) | ((with_reducible refine Below.alloc ?_ ?_ _); rotate_left; focus (go_size; done)) | ((with_reducible refine Below.setCell ?_ ?_ _); rotate_left; focus (go_size; done)) | ((with_reducible refine Below.trans ?_ (Below.mono (by with_reducible assumption) ?_)); rotate_left; focus (go_size; done))))⟩
        · exact top_take xs (m + 1) hn (.inr (by rw [Nat.add_sub_cancel, ← HE.out]; exact hne))
        · rw [dval_take_zeros xs (m + 1) HZ.out]
          have := (dval_bd HD.out).1
          omega
theorem cut_any (xs : List Int) (v : Value) (w : World) (hv : IsSl w v xs) (hd : Digs xs) (hl : xs.length ≤ 100000) :
    Calls Try.prog 93 #[v] w (RetDg (dval xs).toNat w) := by
  obtain ⟨A, c, rfl, hc, hs⟩ := hv
  exact (cut_at xs A c w hc hs hd hl).mono fun e w' ⟨k, c', he, hdg, hb⟩ => ⟨_, he, hdg, hb⟩

theorem cut_is (xs : List Int) (A : Option Addr) (n c : Nat) (w : World) (hv : IsSl w (.slice A n c) xs) (hd : Digs xs) (hl : xs.length ≤ 100000) :
    Calls Try.prog 93 #[.slice A n c] w (RetCut A (dval xs).toNat w) := by
  obtain ⟨A', c', e, hc, hs⟩ := hv
  injection e with e1 e2 e3
  subst e1 e2 e3
  exact cut_at xs A c w hc hs hd hl
theorem pow_big {n : Nat} (h : Small n) {l : List Int} (hl : IsDg l n) : l.length ≤ 1000 := hl.len_le (h trivial)
set_option maxHeartbeats 1000000 in
theorem twice_any (N : Nat) (b0 : Int) (hb0 : 0 ≤ b0) (hb1 : b0 ≤ 1) (v : Value) (w : World) (hv : Dg w v N) (hN : Small N) :
    Calls Try.prog 98 #[v, .int .i64 b0] w (RetDg (2 * N + b0.toNat) w) := by
  obtain ⟨xs, ⟨A, c, rfl, hc, hs⟩, hd⟩ := hv
  have hlen := pow_big hN hd
  have HD := Lib.hid hd
  have HS := Lib.hid hs
  clear hd hs hN
  go_enter Try.func98, Try.ntmps98
  go_wp2_with fail
  go_loopg [1, 5, 6] xs.length (fun k b out i wr => ∃ (n : Nat) (bb : Int) (ds : List Int), k + n = xs.length ∧ i = .int .i64 n ∧ b = .int .i64 bb ∧ 0 ≤ bb ∧ bb ≤ 1 ∧
    wr.ownsRow w.heap.size 3 1 out ds.length (ds.map (Value.int .i64)) ∧ ds.length = n ∧ Digs ds ∧ dval ds + 10 ^ n * bb = 2 * dval (xs.take n) + b0 ∧ Below w.heap.size w wr)
  case atStart =>
    exact ⟨0, b0, [], by omega, rfl, rfl, hb0, hb1, World.ownsRow_nil _ _ _ _, rfl, Digs.nil, by simp [dval], Below.refl _ _⟩
  case round =>
    obtain ⟨n, bb, ds, hk, rfl, rfl, hbb0, hbb1, hown, hdl, hdd, hval, hbel⟩ := hrel
    have HK := Lib.hid hk
    have HL := Lib.hid hdl
    have HDD := Lib.hid hdd
    have HV := Lib.hid hval
    have hn : n ≤ xs.length := by omega
    have hwr := hbel.size
    clear hk hdl hdd hval
    by_cases hlt : n < xs.length
    · obtain ⟨g, o, rfl, hg, hcell⟩ := HS.out.at_ hlt
      have hx := HD.out.get n
      have hcell2 := (hbel.cell (p := ⟨g, o + n, none⟩) hg).trans hcell
      obtain ⟨d, hd⟩ : ∃ d, d = xs.getD n 0 := ⟨_, rfl⟩
      rw [← hd] at hcell2 hx
      obtain ⟨hx0, hx9⟩ := hx
      have HE := Lib.hid hd
      clear hd hcell
      go_wp2_with (at_builtin; refine wpList_push rfl (.tmp 21) (.tmp 24) rfl w.heap.size u5 ds rfl (hown.alloc _) wr.heap.size ((2 * d + bb) % 10) rfl ?hc ?hl ?hb ?_; rotate_left 3; intro v1 w1 hown1 hg1)
      case hc => simp [go_sem]
      case hl => have := HL.out; omega
      case hb => go_size
      go_roundg (gk - 1)
      case measure => have := HK.out; omega
      case rel =>
        refine ⟨n + 1, (2 * d + bb) / 10, ds ++ [(2 * d + bb) % 10], by have := HK.out; omega, by go_num, rfl, by omega, by omega, hown1, by rw [List.length_append, HL.out]; rfl, HDD.out.snoc (by omega) (by omega), ?_, below_push (hbel.alloc (by go_size) _) (hown.alloc _) hg1 (by go_size)⟩
        rw [dval_snoc, HL.out, dval_take_succ xs n hlt, ← HE.out, Int.pow_succ]
        have e1 := carry_step (10 ^ n) (2 * d + bb)
        have e2 : (10 : Int) ^ n * (2 * d + bb) = 2 * (10 ^ n * d) + 10 ^ n * bb := by rw [Int.mul_add, Int.mul_left_comm]
        have e3 := HV.out
        omega
    · obtain rfl : n = xs.length := by omega
      have hbz : bb = 0 ∨ bb = 1 := by omega
      have hv : dval ds + 10 ^ ds.length * bb = 2 * N + b0.toNat := by
        have := HV.out
        rw [List.take_length, HD.out.2.2, ← HL.out] at this
        omega
      have HW := Lib.hid hv
      clear hv
      rcases hbz with rfl | rfl
      · go_wp2_with fail
        go_ret
        refine ⟨u5, rfl, ⟨ds, IsSl.of_own hown, HDD.out, ?_, ?_⟩, hbel⟩
        · refine top_of_val HDD.out ?_
          by_cases hne : xs = []
          · left
            have := HL.out
            subst hne
            exact List.length_eq_zero_iff.1 this
          · right
            have h1 := HD.out.le_of_ne hne
            have h2 := HW.out
            rw [Int.mul_zero, Int.add_zero] at h2
            rw [HL.out, h2]
            have h3 : ((10 ^ (xs.length - 1) : Nat) : Int) ≤ (N : Int) := by exact_mod_cast h1
            rw [Int.natCast_pow] at h3
            have h4 : ((10 : Nat) : Int) = 10 := rfl
            rw [h4] at h3
            omega
        · have h2 := HW.out
          rw [Int.mul_zero, Int.add_zero] at h2
          rw [h2]; omega
      · go_wp2_with (at_builtin; refine wpList_push rfl (.tmp 30) (.tmp 32) rfl w.heap.size u5 ds rfl (hown.alloc _) wr.heap.size 1 rfl ?hc ?hl ?hb ?_; rotate_left 3; intro v1 w1 hown1 hg1)
        case hc => simp [go_sem]
        case hl => have := HL.out; omega
        case hb => go_size
        go_ret
        have h2 := HW.out
        have h0 := (dval_bd HDD.out).1
        refine ⟨v1, rfl, ⟨ds ++ [1], IsSl.of_own hown1, HDD.out.snoc (by decide) (by decide), ?_, ?_⟩, below_push (hbel.alloc (by go_size) _) (hown.alloc _) hg1 (by go_size)⟩
        · simp [Top]
        · rw [dval_snoc, h2]; omega
end Go.Proofs.Ythkgjodidkpaeaa
