/- A number without the noughts at its end: the program's Trim. -/
import Derived.Test.YthkgjodidkpaeaaWc
import Derived.Test.YthkgjodidkpaeaaEq
import Derived.Test.YthkgjodidkpaeaaLc
import Derived.Test.YthkgjodidkpaeaaTp
set_option linter.unusedSimpArgs false
set_option linter.unusedVariables false
namespace Go.Proofs.Ythkgjodidkpaeaa
open Go.RowKit

/-- N is T and k noughts behind it -/
def IsTz (N T k : Nat) : Prop := N = T * 10 ^ k ∧ T % 10 ≠ 0
theorem tz_upto (N b : Nat) (h0 : N ≠ 0) (h : N < 10 ^ b) : ∃ T k, IsTz N T k := by
  induction b generalizing N with
  | zero => simp at h; omega
  | succ b ih =>
    by_cases hd : N % 10 = 0
    · obtain ⟨T, k, e, ht⟩ := ih (N / 10) (by omega) (by rw [Nat.pow_succ] at h; omega)
      refine ⟨T, k + 1, ?_, ht⟩
      rw [Nat.pow_succ, ← Nat.mul_assoc, ← e]; omega
    · exact ⟨N, 0, by simp, hd⟩
theorem IsTz.k_le {N T k : Nat} (h : IsTz N T k) (hN : N < 2 ^ 128) : k ≤ 38 := by
  obtain ⟨e, ht⟩ := h
  have h1 : 1 ≤ T := by
    rcases Nat.eq_zero_or_pos T with h0 | h0
    · subst h0; exact absurd rfl ht
    · exact h0
  have h2 : 10 ^ k ≤ N := by rw [e]; exact Nat.le_mul_of_pos_left _ h1
  have h3 : (10 : Nat) ^ k < 10 ^ 39 := Nat.lt_of_le_of_lt h2 (Nat.lt_trans hN (by decide))
  have := pow_lt10 h3
  omega
theorem IsTz.at_ {N T k t : Nat} (h : IsTz N T k) (ht : t ≤ k) : N / 10 ^ t = T * 10 ^ (k - t) := by
  have e : 10 ^ k = 10 ^ (k - t) * 10 ^ t := by rw [← Nat.pow_add]; congr 1; omega
  rw [h.1, e, ← Nat.mul_assoc, Nat.mul_div_cancel _ (Nat.pow_pos (by decide))]
theorem IsTz.mod_lt {N T k t : Nat} (h : IsTz N T k) (ht : t < k) : N / 10 ^ t % 10 = 0 := by
  rw [h.at_ (by omega), show k - t = k - t - 1 + 1 by omega, Nat.pow_succ, ← Nat.mul_assoc, Nat.mul_mod_left]
theorem IsTz.mod_eq {N T k : Nat} (h : IsTz N T k) : N / 10 ^ k = T := by
  rw [h.at_ (Nat.le_refl _), Nat.sub_self, Nat.pow_zero, Nat.mul_one]
set_option maxHeartbeats 1000000 in
theorem trim_zero (w : World) : Calls Try.prog 57 #[.agg #[.int .u64 0, .int .u64 0]] w fun e w' => e = .returned (.tuple #[.agg #[.int .u64 0, .int .u64 0], .int .i64 0]) ∧ Below w.heap.size w w' := by
  go_enter Try.func57, Try.ntmps57
  go_wp2_with fail
  refine bodyPost_ret (by simp [results, Try.results57, go_sem, *]; try rfl) rfl ?_
  exact ⟨rfl, by (repeat' (first | (with_reducible exact Below.refl _ _) | (with_reducible assumption) | (with_reducible refine Below.drew ?_) | (with_reducible refine below_drewN ?_ _) | ((with_reducible refine Below.alloc ?_ ?_ _); rotate_left; focus (go_size; done)) | ((with_reducible refine Below.setCell ?_ ?_ _); rotate_left; focus (go_size; done)) | ((with_reducible refine Below.trans ?_ (Below.mono (by with_reducible assumption) ?_)); rotate_left; focus (go_size; done))))⟩
set_option maxHeartbeats 1000000 in
theorem trim_any (N T k : Nat) (hN : N < 2 ^ 128) (h : IsTz N T k) (w : World) : Calls Try.prog 57 #[.agg #[.int .u64 (wd N 1), .int .u64 (wd N 0)]] w fun e w' => e = .returned (.tuple #[.agg #[.int .u64 (wd T 1), .int .u64 (wd T 0)], .int .i64 k]) ∧ Below w.heap.size w w' := by
  have hk38 := h.k_le hN
  have h0 : N ≠ 0 := by
    rintro rfl
    have h1 := h.1
    have h2 := h.2
    rcases Nat.mul_eq_zero.1 h1.symm with h3 | h3
    · subst h3; exact h2 rfl
    · exact absurd h3 (Nat.ne_of_gt (Nat.pow_pos (by decide)))
  have qz : ∀ W, (binOp .eql 24 (.agg #[.int .u64 (wd N 1), .int .u64 (wd N 0)]) (.agg #[.int .u64 0, .int .u64 0])).run Try.prog W = .ok (.bool false) W := fun W => by
    rw [eq_wide]
    have e := wd_eq_iff hN (show 0 < 2 ^ 128 by decide)
    rw [wd_zero, wd_zero] at e
    rw [e, decide_eq_false h0]
  have e2 : wd N 2 = 0 := wd_past (k := 2) (by simpa using hN) (Nat.le_refl _)
  have e3 : wd N 3 = 0 := wd_past (k := 3) (Nat.lt_of_lt_of_le hN (Nat.pow_le_pow_right (by decide) (by decide))) (Nat.le_refl _)
  have E2 := Lib.hid e2
  have E3 := Lib.hid e3
  have HN := Far.mk hN
  have HZ := Far.mk h
  clear hN h h0 e2 e3
  go_enter Try.func57, Try.ntmps57
  go_wp2_with fail
  go_loopg [5] k (fun kk c wr => ∃ t : Nat, kk + t = k ∧ c = .int .i64 t ∧ Bk wr (w.heap.size + 1 + 1) 45 (lcells (N / 10 ^ t)) ∧ Bk wr (w.heap.size + 1) 24 [.int .u64 0, .int .u64 0] ∧ w.heap.size + 3 ≤ wr.heap.size ∧ Below w.heap.size w wr)
  case atStart =>
    refine ⟨0, by omega, rfl, ?_, by (repeat (first | (with_reducible assumption) | ((with_reducible refine Bk.new_ ?_); (first | rfl | (simp only [World.size_alloc, World.size_setCell, World.size_drew, World.heap_drewN]; done))) | (with_reducible refine Bk.alloc ?_ _) | (with_reducible refine Bk.drew ?_) | (with_reducible refine Bk.drewN ?_ _) | ((with_reducible refine Bk.far ?_ ?_ _); rotate_left; focus (simp only []; omega)) | ((with_reducible refine Bk.below ?_ (by with_reducible assumption) ?_); rotate_left; focus (go_size; done)))), by go_size, by (repeat' (first | (with_reducible exact Below.refl _ _) | (with_reducible assumption) | (with_reducible refine Below.drew ?_) | (with_reducible refine below_drewN ?_ _) | ((with_reducible refine Below.alloc ?_ ?_ _); rotate_left; focus (go_size; done)) | ((with_reducible refine Below.setCell ?_ ?_ _); rotate_left; focus (go_size; done)) | ((with_reducible refine Below.trans ?_ (Below.mono (by with_reducible assumption) ?_)); rotate_left; focus (go_size; done))))⟩
    rw [Nat.pow_zero, Nat.div_one, lcells_eq, E2.out, E3.out]
    (repeat (first | (with_reducible assumption) | ((with_reducible refine Bk.new_ ?_); (first | rfl | (simp only [World.size_alloc, World.size_setCell, World.size_drew, World.heap_drewN]; done))) | (with_reducible refine Bk.alloc ?_ _) | (with_reducible refine Bk.drew ?_) | (with_reducible refine Bk.drewN ?_ _) | ((with_reducible refine Bk.far ?_ ?_ _); rotate_left; focus (simp only []; omega)) | ((with_reducible refine Bk.below ?_ (by with_reducible assumption) ?_); rotate_left; focus (go_size; done))))
  case round =>
    obtain ⟨t, hn, rfl, b2, b1, hsz, hbel⟩ := hrel
    have HK := Lib.hid hn
    have ht : t ≤ k := by omega
    have B2 := Lib.hid b2
    have B1 := Lib.hid b1
    have b2' := b2
    rw [lcells_eq] at b2'
    have c0 := b2'.cell 0 rfl
    have c1 := b2'.cell 1 rfl
    have c2 := b2'.cell 2 rfl
    have c3 := b2'.cell 3 rfl
    have f0 := b2.frozen 0
    have f1 := b2.frozen 1
    have f2 := b2.frozen 2
    have f3 := b2.frozen 3
    have d0 := b1.cell 0 rfl
    have d1 := b1.cell 1 rfl
    have g0 := b1.frozen 0
    have g1 := b1.frozen 1
    (try have : w.heap.size < wr.heap.size := by omega); (try have : w.heap.size + 1 < wr.heap.size := by omega); (try have : w.heap.size + 1 + 1 < wr.heap.size := by omega); (try have : w.heap.size + 1 + 1 + 1 < wr.heap.size := by omega)
    have HT := Lib.hid (fun W => tenth_any (N / 10 ^ t) (Nat.lt_of_le_of_lt (Nat.div_le_self _ _) (Nat.lt_trans HN.out (by decide))) W)
    clear hn b2 b1 b2'
    by_cases hlt : t < k
    · have hm := HZ.out.mod_lt hlt
      rw [hm] at HT
      obtain ⟨X, hX⟩ : ∃ X, X = N / 10 ^ t := ⟨_, rfl⟩
      rw [← hX] at HT c0 c1 c2 c3 B2
      have EX := Far.mk hX
      clear hX hm
      go_wp2_with ((go_at_call 89; with_reducible refine (HT.out _).mono ?_); rintro _ w1 ⟨rfl, hb1⟩; have hb1s := hb1.size; (try simp only [World.size_alloc, World.size_setCell, World.size_drew, World.heap_drewN] at hb1s); obtain ⟨hb1c, hb1f⟩ := bcell hb1; (try have : w.heap.size < w1.heap.size := by omega); (try have : w.heap.size + 1 < w1.heap.size := by omega); (try have : w.heap.size + 1 + 1 < w1.heap.size := by omega); (try have : w.heap.size + 1 + 1 + 1 < w1.heap.size := by omega))
      go_roundg (gk - 1)
      case measure => have := HK.out; omega
      case rel =>
        have b1 := B1.out
        refine ⟨t + 1, by have := HK.out; omega, by go_num, ?_, by (repeat (first | (with_reducible assumption) | ((with_reducible refine Bk.new_ ?_); (first | rfl | (simp only [World.size_alloc, World.size_setCell, World.size_drew, World.heap_drewN]; done))) | (with_reducible refine Bk.alloc ?_ _) | (with_reducible refine Bk.drew ?_) | (with_reducible refine Bk.drewN ?_ _) | ((with_reducible refine Bk.far ?_ ?_ _); rotate_left; focus (simp only []; omega)) | ((with_reducible refine Bk.below ?_ (by with_reducible assumption) ?_); rotate_left; focus (go_size; done)))), by go_size, by (repeat' (first | (with_reducible exact Below.refl _ _) | (with_reducible assumption) | (with_reducible refine Below.drew ?_) | (with_reducible refine below_drewN ?_ _) | ((with_reducible refine Below.alloc ?_ ?_ _); rotate_left; focus (go_size; done)) | ((with_reducible refine Below.setCell ?_ ?_ _); rotate_left; focus (go_size; done)) | ((with_reducible refine Below.trans ?_ (Below.mono (by with_reducible assumption) ?_)); rotate_left; focus (go_size; done))))⟩
        have e : N / 10 ^ (t + 1) = X / 10 := by rw [EX.out, Nat.div_div_eq_div_mul, Nat.pow_succ]
        rw [e, lcells_eq]
        refine Bk.alloc ?_ _
        refine ((((?_ : Bk w1 _ _ [.int .u64 (wd X 0), .int .u64 (wd X 1), .int .u64 (wd X 2), .int .u64 (wd X 3)]).set_ 0 _).set_ 1 _).set_ 2 _).set_ 3 _
        have b2 := B2.out
        rw [lcells_eq] at b2
        (repeat (first | (with_reducible assumption) | ((with_reducible refine Bk.new_ ?_); (first | rfl | (simp only [World.size_alloc, World.size_setCell, World.size_drew, World.heap_drewN]; done))) | (with_reducible refine Bk.alloc ?_ _) | (with_reducible refine Bk.drew ?_) | (with_reducible refine Bk.drewN ?_ _) | ((with_reducible refine Bk.far ?_ ?_ _); rotate_left; focus (simp only []; omega)) | ((with_reducible refine Bk.below ?_ (by with_reducible assumption) ?_); rotate_left; focus (go_size; done))))
    · obtain rfl : t = k := by omega
      have hm := HZ.out.mod_eq
      rw [hm] at HT c0 c1 c2 c3 B2
      have hne : (((T % 10 : Nat) : Int) != 0) = true := by
        have := HZ.out.2
        simp; omega
      obtain ⟨dd, hdd⟩ : ∃ dd : Int, dd = ((T % 10 : Nat) : Int) := ⟨_, rfl⟩
      rw [← hdd] at HT hne
      clear hm hdd
      go_wp2_with ((go_at_call 89; with_reducible refine (HT.out _).mono ?_); rintro _ w1 ⟨rfl, hb1⟩; have hb1s := hb1.size; (try simp only [World.size_alloc, World.size_setCell, World.size_drew, World.heap_drewN] at hb1s); obtain ⟨hb1c, hb1f⟩ := bcell hb1; (try have : w.heap.size < w1.heap.size := by omega); (try have : w.heap.size + 1 < w1.heap.size := by omega); (try have : w.heap.size + 1 + 1 < w1.heap.size := by omega); (try have : w.heap.size + 1 + 1 + 1 < w1.heap.size := by omega))
      refine bodyPost_ret (by simp [results, Try.results57, go_sem, *]; try rfl) rfl ?_
      exact ⟨rfl, by (repeat' (first | (with_reducible exact Below.refl _ _) | (with_reducible assumption) | (with_reducible refine Below.drew ?_) | (with_reducible refine below_drewN ?_ _) | ((with_reducible refine Below.alloc ?_ ?_ _); rotate_left; focus (go_size; done)) | ((with_reducible refine Below.setCell ?_ ?_ _); rotate_left; focus (go_size; done)) | ((with_reducible refine Below.trans ?_ (Below.mono (by with_reducible assumption) ?_)); rotate_left; focus (go_size; done))))⟩
end Go.Proofs.Ythkgjodidkpaeaa
