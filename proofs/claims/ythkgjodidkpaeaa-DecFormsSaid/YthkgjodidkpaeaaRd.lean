/- The reference: digits of a number, and words of digits. -/
import Derived.Test.YthkgjodidkpaeaaRc
import Derived.Test.YthkgjodidkpaeaaLc
import Derived.RegionTactic
import Derived.ChangeAlike
set_option linter.unusedSimpArgs false
set_option linter.unusedVariables false
namespace Go.Proofs.Ythkgjodidkpaeaa
open Go.RowKit

set_option maxHeartbeats 1000000 in
theorem of_any (n : Nat) (hn : n < 2 ^ 128) (w : World) : Calls Try.prog 49 #[.agg #[.int .u64 (wd n 1), .int .u64 (wd n 0)]] w (RetDg n w) := by
  have HN := Lib.hid hn
  clear hn
  have H := Lib.hid (fun (W : World) (b : Nat) (hb : b < W.heap.size) (hw : ∀ i, i < 2 → W.cell? ⟨b, i, none⟩ = some (.int .u64 (wd n i))) =>
    words_any n b 2 2 W (Nat.lt_of_lt_of_le HN.out (Nat.pow_le_pow_right (by decide) (by decide))) HN.out (by decide) hb (Nat.le_refl _) hw)
  go_enter Try.func49, Try.ntmps49
  go_wp2_with fail
  refine (H.out _ _ (by go_size) ?_).mono ?_
  · intro i hi
    match i, hi with
    | 0, _ => simp [go_sem]
    | 1, _ => simp [go_sem]
  rintro _ w1 ⟨v, rfl, hdg, hb⟩
  have HD := Lib.hid hdg
  clear hdg
  go_wp2_with fail
  go_ret
  exact ⟨v, rfl, HD.out, by (repeat' (first | (with_reducible exact Below.refl _ _) | (with_reducible assumption) | (with_reducible refine Below.drew ?_) | (with_reducible refine below_drewN ?_ _) | ((with_reducible refine Below.alloc ?_ ?_ _); rotate_left; focus (go_size; done)) | ((with_reducible refine Below.setCell ?_ ?_ _); rotate_left; focus (go_size; done)) | ((with_reducible refine Below.trans ?_ (Below.mono (by with_reducible assumption) ?_)); rotate_left; focus (go_size; done))))⟩
theorem bit_top (N n : Nat) : N % 2 ^ (n + 1) = N % 2 ^ n + 2 ^ n * (N / 2 ^ n % 2) := by
  rw [Nat.pow_succ, Nat.mod_mul]
theorem or_gen2 (i a b : Nat) (hb : b < 2 ^ i) : b ||| a * 2 ^ i = b + a * 2 ^ i := by
  rw [Nat.or_comm, Nat.mul_comm, Nat.add_comm b]; exact (Nat.two_pow_add_eq_or_of_lt hb a).symm
theorem word_here (N n t : Nat) (ht : t = N / 2 ^ n % 2) : bits .or .u64 (wd (N % 2 ^ n) (n / 64)) (IntKind.u64.wrap ((t : Int) * 2 ^ (n % 64))) = wd (N % 2 ^ (n + 1)) (n / 64) := by
  have ht2 : t < 2 := by omega
  have hr : n % 64 < 64 := Nat.mod_lt _ (by decide)
  have en : 2 ^ n = 2 ^ (64 * (n / 64)) * 2 ^ (n % 64) := by rw [← Nat.pow_add]; congr 1; omega
  have hM : N % 2 ^ n < 2 ^ n := Nat.mod_lt _ (Nat.two_pow_pos n)
  have e1 : (N % 2 ^ (n + 1)) / 2 ^ (64 * (n / 64)) = N % 2 ^ n / 2 ^ (64 * (n / 64)) + t * 2 ^ (n % 64) := by
    rw [bit_top N n, ← ht]
    generalize N % 2 ^ n = M
    rw [en, Nat.mul_assoc, Nat.add_mul_div_left _ _ (Nat.two_pow_pos _), Nat.mul_comm t]
  have hA : N % 2 ^ n / 2 ^ (64 * (n / 64)) < 2 ^ (n % 64) := Nat.div_lt_of_lt_mul (by rw [← en]; exact hM)
  unfold wd
  rw [e1]
  generalize N % 2 ^ n / 2 ^ (64 * (n / 64)) = A at *
  have h2 : 2 ^ (n % 64) ≤ 2 ^ 63 := Nat.pow_le_pow_right (by decide) (by omega)
  have hor := or_gen2 (n % 64) t A hA
  have e2 : (t : Int) * 2 ^ (n % 64) = ((t * 2 ^ (n % 64) : Nat) : Int) := by rw [Int.natCast_mul, Int.natCast_pow]; rfl
  rw [e2]
  have hle : t * 2 ^ (n % 64) ≤ 2 ^ (n % 64) := by
    have : t = 0 ∨ t = 1 := by omega
    rcases this with rfl | rfl <;> simp
  generalize t * 2 ^ (n % 64) = T at *
  generalize 2 ^ (n % 64) = P at *
  have e3 : IntKind.u64.wrap (T : Int) = (T : Int) := by rw [IntKind.wrap_u64]; omega
  rw [e3, Nat.mod_eq_of_lt (show A < 2 ^ 64 by omega), bits_or_u64_nat A T (by omega) (by omega), hor, Nat.mod_eq_of_lt (show A + T < 2 ^ 64 by omega)]
theorem word_else (N n j : Nat) (hj : j ≠ n / 64) : wd (N % 2 ^ (n + 1)) j = wd (N % 2 ^ n) j := by
  unfold wd
  congr 1
  rw [bit_top N n]
  have hM : N % 2 ^ n < 2 ^ n := Nat.mod_lt _ (Nat.two_pow_pos n)
  have ht : N / 2 ^ n % 2 < 2 := Nat.mod_lt _ (by decide)
  generalize N % 2 ^ n = M at *
  generalize N / 2 ^ n % 2 = t at *
  rcases Nat.lt_or_ge j (n / 64) with h | h
  · have en : 2 ^ n = 2 ^ (64 * j) * (2 ^ 64 * 2 ^ (n - 64 * j - 64)) := by rw [← Nat.pow_add, ← Nat.pow_add]; congr 1; omega
    rw [en, Nat.mul_assoc, Nat.add_mul_div_left _ _ (Nat.two_pow_pos _), Nat.mul_assoc, Nat.add_mul_mod_self_left]
  · have hp : 2 ^ (n + 1) ≤ 2 ^ (64 * j) := Nat.pow_le_pow_right (by decide) (by omega)
    rw [Nat.pow_succ] at hp
    have h1 : 2 ^ n * t ≤ 2 ^ n := by
      have : t = 0 ∨ t = 1 := by omega
      rcases this with rfl | rfl <;> simp
    rw [Nat.div_eq_of_lt (by omega), Nat.div_eq_of_lt (by omega)]
theorem lcells_step (N n : Nat) (x : Int) (hx : x = wd (N % 2 ^ (n + 1)) (n / 64)) : (lcells (N % 2 ^ n)).set (n / 64) (.int .u64 x) = lcells (N % 2 ^ (n + 1)) := by
  apply List.ext_getElem
  · simp [lcells]
  · intro j h1 h2
    simp only [lcells, List.getElem_set, List.getElem_map, List.getElem_range]
    by_cases hj : n / 64 = j
    · rw [if_pos hj, hx, hj]
    · rw [if_neg hj, word_else N n j (fun e => hj e.symm)]
def fitsL (N : Nat) : Bool := decide (N < 2 ^ 256)
def RetLong (N : Nat) (w : World) (e : Ending) (w' : World) : Prop := e = .returned (.tuple #[.agg #[.int .u64 (wd (N % 2 ^ 256) 0), .int .u64 (wd (N % 2 ^ 256) 1), .int .u64 (wd (N % 2 ^ 256) 2), .int .u64 (wd (N % 2 ^ 256) 3)], .bool (fitsL N)]) ∧ Below w.heap.size w w'
set_option maxHeartbeats 2000000 in
set_option maxRecDepth 100000 in
theorem tolong_any (N : Nat) (v : Value) (w : World) (hv : Dg w v N) (hN : Small N) :
    Calls Try.prog 101 #[v] w (RetLong N w) := by
  have HV := Lib.hid hv
  have HN := Lib.hid hN
  clear hv hN
  go_enter Try.func101, Try.ntmps101
  go_wp2_with fail
  go_loopg [0, 5] 256 (fun k v i wr => ∃ n : Nat, k + n = 256 ∧ i = .int .i64 n ∧ Dg wr v (N / 2 ^ n) ∧ Bk wr (w.heap.size + 1) 45 (lcells (N % 2 ^ n)) ∧
    Bk wr w.heap.size 45 [.int .u64 0, .int .u64 0, .int .u64 0, .int .u64 0] ∧ w.heap.size + 2 ≤ wr.heap.size ∧ Below w.heap.size w wr)
  case atStart =>
    refine ⟨0, rfl, rfl, ?_, ?_, by (repeat (first | (with_reducible assumption) | ((with_reducible refine Bk.new_ ?_); (first | rfl | (simp only [World.size_alloc, World.size_setCell, World.size_drew, World.heap_drewN]; done))) | (with_reducible refine Bk.alloc ?_ _) | (with_reducible refine Bk.drew ?_) | (with_reducible refine Bk.drewN ?_ _) | ((with_reducible refine Bk.far ?_ ?_ _); rotate_left; focus (simp only []; omega)) | ((with_reducible refine Bk.below ?_ (by with_reducible assumption) ?_); rotate_left; focus (go_size; done)))), by go_size, by (repeat' (first | (with_reducible exact Below.refl _ _) | (with_reducible assumption) | (with_reducible refine Below.drew ?_) | (with_reducible refine below_drewN ?_ _) | ((with_reducible refine Below.alloc ?_ ?_ _); rotate_left; focus (go_size; done)) | ((with_reducible refine Below.setCell ?_ ?_ _); rotate_left; focus (go_size; done)) | ((with_reducible refine Below.trans ?_ (Below.mono (by with_reducible assumption) ?_)); rotate_left; focus (go_size; done))))⟩
    · rw [Nat.pow_zero, Nat.div_one]
      exact HV.out.below (by (repeat' (first | (with_reducible exact Below.refl _ _) | (with_reducible assumption) | (with_reducible refine Below.drew ?_) | (with_reducible refine below_drewN ?_ _) | ((with_reducible refine Below.alloc ?_ ?_ _); rotate_left; focus (go_size; done)) | ((with_reducible refine Below.setCell ?_ ?_ _); rotate_left; focus (go_size; done)) | ((with_reducible refine Below.trans ?_ (Below.mono (by with_reducible assumption) ?_)); rotate_left; focus (go_size; done)))))
    · rw [Nat.pow_zero, Nat.mod_one]
      show Bk _ _ _ [.int .u64 0, .int .u64 0, .int .u64 0, .int .u64 0]
      (repeat (first | (with_reducible assumption) | ((with_reducible refine Bk.new_ ?_); (first | rfl | (simp only [World.size_alloc, World.size_setCell, World.size_drew, World.heap_drewN]; done))) | (with_reducible refine Bk.alloc ?_ _) | (with_reducible refine Bk.drew ?_) | (with_reducible refine Bk.drewN ?_ _) | ((with_reducible refine Bk.far ?_ ?_ _); rotate_left; focus (simp only []; omega)) | ((with_reducible refine Bk.below ?_ (by with_reducible assumption) ?_); rotate_left; focus (go_size; done))))
  case round =>
    obtain ⟨n, hk, rfl, hdg, b1, b0, hsz, hbel⟩ := hrel
    have HK := Lib.hid hk
    have HD := Lib.hid hdg
    have H1 := Lib.hid b1
    have hn : n ≤ 256 := by omega
    have hlt0 : Small (N / 2 ^ n) := HN.out.of_le (Nat.div_le_self _ _)
    have HT := Lib.hid hlt0
    clear hk hdg b1 hlt0
    (try have : w.heap.size < wr.heap.size := by omega); (try have : w.heap.size + 1 < wr.heap.size := by omega); (try have : w.heap.size + 1 + 1 < wr.heap.size := by omega); (try have : w.heap.size + 1 + 1 + 1 < wr.heap.size := by omega)
    by_cases hlt : n < 256
    · go_wp2_with fail
      refine (half_any _ _ _ HD.out HT.out).mono ?_
      rintro _ w1 ⟨v1, rfl, hdg1, hb1⟩
      have hb1s := hb1.size
      have HD1 := Lib.hid hdg1
      obtain ⟨t, ht⟩ : ∃ t, t = N / 2 ^ n % 2 := ⟨_, rfl⟩
      rw [← ht]
      have ht2 : t < 2 := by omega
      have GT := Lib.hid ht
      have hq : n / 64 < 4 := by omega
      have hc1 : w1.cell? ⟨w.heap.size + 1, n / 64, none⟩ = some (.int .u64 (wd (N % 2 ^ n) (n / 64))) := by
        refine (hb1.cell (p := ⟨w.heap.size + 1, n / 64, none⟩) (by show w.heap.size + 1 < _; omega)).trans (H1.out.cell _ ?_)
        unfold lcells
        rw [List.getElem?_map, List.getElem?_range hq]; rfl
      have hf1 : w1.frozen? ⟨w.heap.size + 1, n / 64, none⟩ = false := (hb1.frozen (p := ⟨w.heap.size + 1, n / 64, none⟩) (by show w.heap.size + 1 < _; omega)).trans (H1.out.frozen _)
      clear hdg1 ht
      go_wp2_with fail
      go_region
      go_wp2_with fail
      go_roundg (gk - 1)
      case measure => have := HK.out; omega
      case rel =>
        refine ⟨n + 1, by have := HK.out; omega, by go_num, ?_, ?_, by (repeat (first | (with_reducible assumption) | ((with_reducible refine Bk.new_ ?_); (first | rfl | (simp only [World.size_alloc, World.size_setCell, World.size_drew, World.heap_drewN]; done))) | (with_reducible refine Bk.alloc ?_ _) | (with_reducible refine Bk.drew ?_) | (with_reducible refine Bk.drewN ?_ _) | ((with_reducible refine Bk.far ?_ ?_ _); rotate_left; focus (simp only []; omega)) | ((with_reducible refine Bk.below ?_ (by with_reducible assumption) ?_); rotate_left; focus (go_size; done)))), by go_size, by (repeat' (first | (with_reducible exact Below.refl _ _) | (with_reducible assumption) | (with_reducible refine Below.drew ?_) | (with_reducible refine below_drewN ?_ _) | ((with_reducible refine Below.alloc ?_ ?_ _); rotate_left; focus (go_size; done)) | ((with_reducible refine Below.setCell ?_ ?_ _); rotate_left; focus (go_size; done)) | ((with_reducible refine Below.trans ?_ (Below.mono (by with_reducible assumption) ?_)); rotate_left; focus (go_size; done))))⟩
        · have := HD1.out
          rw [Nat.div_div_eq_div_mul, ← Nat.pow_succ] at this
          exact (this.far (H1.out.below hb1 (by go_size)) (by decide) _ _).drew
        · rw [← lcells_step N n _ (word_here N n t GT.out)]
          refine (Bk.set_ ?_ _ _).drew
          exact H1.out.below hb1 (by go_size)
    · obtain rfl : n = 256 := by omega
      have c0 : wr.cell? ⟨w.heap.size + 1, 0, none⟩ = some (.int .u64 (wd (N % 2 ^ 256) 0)) := H1.out.cell 0 rfl
      have c1 : wr.cell? ⟨w.heap.size + 1, 1, none⟩ = some (.int .u64 (wd (N % 2 ^ 256) 1)) := H1.out.cell 1 rfl
      have c2 : wr.cell? ⟨w.heap.size + 1, 2, none⟩ = some (.int .u64 (wd (N % 2 ^ 256) 2)) := H1.out.cell 2 rfl
      have c3 : wr.cell? ⟨w.heap.size + 1, 3, none⟩ = some (.int .u64 (wd (N % 2 ^ 256) 3)) := H1.out.cell 3 rfl
      have d0 := b0.cell 0 rfl
      have d1 := b0.cell 1 rfl
      have d2 := b0.cell 2 rfl
      have d3 := b0.cell 3 rfl
      have e0 := b0.frozen 0
      have e1 := b0.frozen 1
      have e2 := b0.frozen 2
      have e3 := b0.frozen 3
      obtain ⟨ys, ⟨A2, c2', rfl, hc2, hs2⟩, hd2⟩ := HD.out
      have hz := hd2.zero_iff
      have hb : ((ys.length : Int) == 0) = decide (N < 2 ^ 256) := by
        rw [Bool.eq_iff_iff]
        simp only [beq_iff_eq, decide_eq_true_eq]
        constructor
        · intro h
          have h0 := hz.1 (by omega)
          exact Nat.lt_of_div_eq_zero (Nat.two_pow_pos _) h0
        · intro h
          have := hz.2 (Nat.div_eq_of_lt h)
          omega
      have HB : Hid (((ys.length : Int) == 0) = fitsL N) := Lib.hid hb
      clear hb hz hd2 hs2
      obtain ⟨M, hM⟩ : ∃ M, M = N % 2 ^ 256 := ⟨_, rfl⟩
      rw [← hM] at c0 c1 c2 c3
      have HM := Lib.hid hM
      clear hM H1
      go_wp2_with fail
      refine bodyPost_ret (by simp [results, Try.results101, go_sem, *]; try rfl) rfl ?_
      unfold RetLong
      rw [HB.out, HM.out]
      exact ⟨rfl, by (repeat' (first | (with_reducible exact Below.refl _ _) | (with_reducible assumption) | (with_reducible refine Below.drew ?_) | (with_reducible refine below_drewN ?_ _) | ((with_reducible refine Below.alloc ?_ ?_ _); rotate_left; focus (go_size; done)) | ((with_reducible refine Below.setCell ?_ ?_ _); rotate_left; focus (go_size; done)) | ((with_reducible refine Below.trans ?_ (Below.mono (by with_reducible assumption) ?_)); rotate_left; focus (go_size; done))))⟩

def RetWide (N : Nat) (w : World) (e : Ending) (w' : World) : Prop := e = .returned (.tuple #[.agg #[.int .u64 (wd (N % 2 ^ 256) 1), .int .u64 (wd (N % 2 ^ 256) 0)], .bool (decide (N < 2 ^ 128))]) ∧ Below w.heap.size w w'
theorem wide_flag (N : Nat) : (fitsL N && ((wd (N % 2 ^ 256) 2 == 0) && (wd (N % 2 ^ 256) 3 == 0))) = decide (N < 2 ^ 128) := by
  unfold fitsL
  rw [Bool.eq_iff_iff]
  simp only [Bool.and_eq_true, beq_iff_eq, decide_eq_true_eq]
  have h := wd_low4 (n := N % 2 ^ 256) (Nat.mod_lt _ (by decide))
  constructor
  · rintro ⟨h1, h2⟩
    have := h.1 h2
    rwa [Nat.mod_eq_of_lt h1] at this
  · intro h1
    have h2 : N < 2 ^ 256 := Nat.lt_trans h1 (by decide)
    refine ⟨h2, h.2 ?_⟩
    rwa [Nat.mod_eq_of_lt h2]
set_option maxHeartbeats 2000000 in
set_option maxRecDepth 100000 in
theorem to_any (N : Nat) (v : Value) (w : World) (hv : Dg w v N) (hN : Small N) :
    Calls Try.prog 90 #[v] w (RetWide N w) := by
  have HV := Lib.hid hv
  have HN := Lib.hid hN
  have HF := Lib.hid (wide_flag N)
  clear hv hN
  go_enter Try.func90, Try.ntmps90
  go_wp2_with fail
  refine (tolong_any N v _ (HV.out.below (by (repeat' (first | (with_reducible exact Below.refl _ _) | (with_reducible assumption) | (with_reducible refine Below.drew ?_) | (with_reducible refine below_drewN ?_ _) | ((with_reducible refine Below.alloc ?_ ?_ _); rotate_left; focus (go_size; done)) | ((with_reducible refine Below.setCell ?_ ?_ _); rotate_left; focus (go_size; done)) | ((with_reducible refine Below.trans ?_ (Below.mono (by with_reducible assumption) ?_)); rotate_left; focus (go_size; done)))))) HN.out).mono ?_
  rintro _ w1 ⟨rfl, hb⟩
  have hbs := hb.size
  simp only [World.size_alloc] at hbs
  obtain ⟨hbc, hbf⟩ := bcell hb
  obtain ⟨M, hM⟩ : ∃ M, M = N % 2 ^ 256 := ⟨_, rfl⟩
  rw [← hM] at HF ⊢
  have HM := Lib.hid hM
  clear hM
  (try have : w.heap.size < w1.heap.size := by omega); (try have : w.heap.size + 1 < w1.heap.size := by omega); (try have : w.heap.size + 1 + 1 < w1.heap.size := by omega); (try have : w.heap.size + 1 + 1 + 1 < w1.heap.size := by omega)
  generalize fitsL N = fl at *
  cases fl
  · go_wp2_with fail
    go_region
    all_goals
      go_wp2_with fail
      refine bodyPost_ret (by simp [results, Try.results90, go_sem, *]; try rfl) rfl ?_
      exact ⟨by rw [← HF.out, HM.out]; rfl, by (repeat' (first | (with_reducible exact Below.refl _ _) | (with_reducible assumption) | (with_reducible refine Below.drew ?_) | (with_reducible refine below_drewN ?_ _) | ((with_reducible refine Below.alloc ?_ ?_ _); rotate_left; focus (go_size; done)) | ((with_reducible refine Below.setCell ?_ ?_ _); rotate_left; focus (go_size; done)) | ((with_reducible refine Below.trans ?_ (Below.mono (by with_reducible assumption) ?_)); rotate_left; focus (go_size; done))))⟩
  · cases h2 : (wd M 2 == 0)
    · rw [h2] at HF
      go_wp2_with fail
      go_region
      all_goals
        go_wp2_with fail
        refine bodyPost_ret (by simp [results, Try.results90, go_sem, *]; try rfl) rfl ?_
        exact ⟨by rw [← HF.out, HM.out]; rfl, by (repeat' (first | (with_reducible exact Below.refl _ _) | (with_reducible assumption) | (with_reducible refine Below.drew ?_) | (with_reducible refine below_drewN ?_ _) | ((with_reducible refine Below.alloc ?_ ?_ _); rotate_left; focus (go_size; done)) | ((with_reducible refine Below.setCell ?_ ?_ _); rotate_left; focus (go_size; done)) | ((with_reducible refine Below.trans ?_ (Below.mono (by with_reducible assumption) ?_)); rotate_left; focus (go_size; done))))⟩
    · cases h3 : (wd M 3 == 0)
      all_goals
        rw [h2, h3] at HF
        go_wp2_with fail
        go_region
        all_goals
          go_wp2_with fail
          refine bodyPost_ret (by simp [results, Try.results90, go_sem, *]; try rfl) rfl ?_
          exact ⟨by rw [← HF.out, HM.out]; rfl, by (repeat' (first | (with_reducible exact Below.refl _ _) | (with_reducible assumption) | (with_reducible refine Below.drew ?_) | (with_reducible refine below_drewN ?_ _) | ((with_reducible refine Below.alloc ?_ ?_ _); rotate_left; focus (go_size; done)) | ((with_reducible refine Below.setCell ?_ ?_ _); rotate_left; focus (go_size; done)) | ((with_reducible refine Below.trans ?_ (Below.mono (by with_reducible assumption) ?_)); rotate_left; focus (go_size; done))))⟩
end Go.Proofs.Ythkgjodidkpaeaa
