/- A number rounded to its tenths: the program's Round. -/
import Derived.Test.YthkgjodidkpaeaaWc
set_option linter.unusedSimpArgs false
set_option linter.unusedVariables false
namespace Go.Proofs.Ythkgjodidkpaeaa
open Go.RowKit

/-- N / d to the nearest, half to even -/
def near (N d : Nat) : Nat := N / d + if 2 * (N % d) > d ∨ (2 * (N % d) = d ∧ N / d % 2 = 1) then 1 else 0
def lastD (N n : Nat) : Int := if n = 0 then 0 else ((N / 10 ^ (n - 1) % 10 : Nat) : Int)
def belD (N n : Nat) : Bool := decide (n ≠ 0 ∧ N % 10 ^ (n - 1) ≠ 0)
theorem lastD_succ (N n : Nat) : lastD N (n + 1) = ((N / 10 ^ n % 10 : Nat) : Int) := by
  unfold lastD; rw [if_neg (by omega), Nat.add_sub_cancel]
theorem lastD_bd (N n : Nat) : 0 ≤ lastD N n ∧ lastD N n ≤ 9 := by
  unfold lastD; split <;> omega
theorem mod_step (N n : Nat) : N % 10 ^ (n + 1) = N % 10 ^ n + 10 ^ n * (N / 10 ^ n % 10) := by
  rw [Nat.pow_succ, Nat.mod_mul]
theorem belD_succ (N n : Nat) : belD N (n + 1) = (belD N n || (lastD N n != 0)) := by
  rw [Bool.eq_iff_iff]
  simp only [belD, Bool.or_eq_true, decide_eq_true_eq, bne_iff_ne, Nat.add_sub_cancel]
  cases n with
  | zero => simp [lastD]; omega
  | succ m =>
    rw [lastD_succ, mod_step]
    have hp : 0 < 10 ^ m := Nat.pow_pos (by decide)
    constructor
    · rintro ⟨_, h⟩
      by_cases h0 : N % 10 ^ m = 0
      · right; intro hz
        have hz' : N / 10 ^ m % 10 = 0 := by omega
        rw [h0, hz'] at h; exact h rfl
      · left; exact ⟨by omega, by simpa using h0⟩
    · rintro (⟨_, h⟩ | h)
      · refine ⟨by omega, ?_⟩
        simp only [Nat.add_sub_cancel] at h
        omega
      · refine ⟨by omega, fun hz => h ?_⟩
        have h1 : 10 ^ m * (N / 10 ^ m % 10) = 0 := by omega
        rcases Nat.mul_eq_zero.1 h1 with h2 | h2 <;> omega
theorem near_of (N n : Nat) (up : Prop) [Decidable up] (h : up ↔ (lastD N n > 5 ∨ (lastD N n = 5 ∧ (belD N n = true ∨ N / 10 ^ n % 2 = 1)))) :
    near N (10 ^ n) = N / 10 ^ n + if up then 1 else 0 := by
  unfold near
  congr 1
  have key : (2 * (N % 10 ^ n) > 10 ^ n ∨ (2 * (N % 10 ^ n) = 10 ^ n ∧ N / 10 ^ n % 2 = 1)) ↔ up := by
    rw [h]
    cases n with
    | zero => simp [lastD, Nat.mod_one]
    | succ m =>
      rw [lastD_succ, mod_step]
      simp only [belD, decide_eq_true_eq, Nat.add_sub_cancel]
      have hp : 0 < 10 ^ m := Nat.pow_pos (by decide)
      have hl : N % 10 ^ m < 10 ^ m := Nat.mod_lt _ hp
      have hd : N / 10 ^ m % 10 < 10 := Nat.mod_lt _ (by decide)
      generalize N / 10 ^ (m + 1) % 2 = par
      generalize N / 10 ^ m % 10 = d at *
      rw [Nat.pow_succ]
      generalize N % 10 ^ m = low at *
      generalize 10 ^ m = P at *
      have hc : d = 0 ∨ d = 1 ∨ d = 2 ∨ d = 3 ∨ d = 4 ∨ d = 5 ∨ d = 6 ∨ d = 7 ∨ d = 8 ∨ d = 9 := by omega
      rcases hc with rfl | rfl | rfl | rfl | rfl | rfl | rfl | rfl | rfl | rfl <;> simp <;> omega
  by_cases hu : up
  · rw [if_pos hu, if_pos (key.2 hu)]
  · rw [if_neg hu, if_neg (fun x => hu (key.1 x))]
theorem div_lt_256 {N : Nat} (hN : N < 2 ^ 256) (d : Nat) : N / d < 2 ^ 256 := Nat.lt_of_le_of_lt (Nat.div_le_self _ _) hN

theorem wd_odd (X : Nat) : bits .and .u64 (wd X 0) 1 = ((X % 2 : Nat) : Int) := by
  have h := bits_and_u64_nat (X % 18446744073709551616) 1 (by omega) (by omega)
  rw [Nat.and_one_is_mod] at h
  have e : ((1 : Nat) : Int) = 1 := rfl
  rw [e] at h
  rw [wd0, h]
  omega
set_option maxHeartbeats 2000000 in
theorem round_bad (N : Nat) (k : Int) (hk : k < 0 ∨ 76 < k) (w : World) : Calls Try.prog 74 #[.agg #[.int .u64 (wd N 0), .int .u64 (wd N 1), .int .u64 (wd N 2), .int .u64 (wd N 3)], .int .i64 k] w fun e w' => e = .returned (.tuple #[.agg #[.int .u64 0, .int .u64 0], .int .i64 1]) ∧ Below w.heap.size w w' := by
  generalize wd N 0 = x0 at *
  generalize wd N 1 = x1 at *
  generalize wd N 2 = x2 at *
  generalize wd N 3 = x3 at *
  rcases hk with hk | hk
  · go_enter Try.func74, Try.ntmps74
    go_wp2_with fail
    refine bodyPost_ret (by simp [results, Try.results74, go_sem, *]; try rfl) rfl ?_
    exact ⟨rfl, by (repeat' (first | (with_reducible exact Below.refl _ _) | (with_reducible assumption) | (with_reducible refine Below.drew ?_) | (with_reducible refine below_drewN ?_ _) | ((with_reducible refine Below.alloc ?_ ?_ _); rotate_left; focus (go_size; done)) | ((with_reducible refine Below.setCell ?_ ?_ _); rotate_left; focus (go_size; done)) | ((with_reducible refine Below.trans ?_ (Below.mono (by with_reducible assumption) ?_)); rotate_left; focus (go_size; done))))⟩
  · have h0 : ¬ k < 0 := by omega
    go_enter Try.func74, Try.ntmps74
    go_wp2_with fail
    refine bodyPost_ret (by simp [results, Try.results74, go_sem, *]; try rfl) rfl ?_
    exact ⟨rfl, by (repeat' (first | (with_reducible exact Below.refl _ _) | (with_reducible assumption) | (with_reducible refine Below.drew ?_) | (with_reducible refine below_drewN ?_ _) | ((with_reducible refine Below.alloc ?_ ?_ _); rotate_left; focus (go_size; done)) | ((with_reducible refine Below.setCell ?_ ?_ _); rotate_left; focus (go_size; done)) | ((with_reducible refine Below.trans ?_ (Below.mono (by with_reducible assumption) ?_)); rotate_left; focus (go_size; done))))⟩

set_option maxHeartbeats 4000000 in
theorem round_any (N : Nat) (hN : N < 2 ^ 256) (k : Nat) (hk : k ≤ 76) (w : World) : Calls Try.prog 74 #[.agg #[.int .u64 (wd N 0), .int .u64 (wd N 1), .int .u64 (wd N 2), .int .u64 (wd N 3)], .int .i64 k] w fun e w' => e = .returned (.tuple #[.agg #[.int .u64 (wd (fitW (near N (10 ^ k))) 1), .int .u64 (wd (fitW (near N (10 ^ k))) 0)], .int .i64 (over (near N (10 ^ k)))]) ∧ Below w.heap.size w w' := by
  have k0 : (0 : Int) ≤ (k : Int) := by omega
  have k1 : (k : Int) ≤ 76 := by omega
  have HN := Lib.hid hN
  clear hN
  go_enter Try.func74, Try.ntmps74
  go_wp2_with fail
  go_loopg [6, 7, 18] k (fun kk l b i wr => ∃ n : Nat, kk + n = k ∧ l = .int .u64 (lastD N n) ∧ b = .bool (belD N n) ∧ i = .int .i64 n ∧ w.heap.size + 2 ≤ wr.heap.size ∧ Below w.heap.size w wr ∧
    Bk wr w.heap.size 45 [.int .u64 (wd (N / 10 ^ n) 0), .int .u64 (wd (N / 10 ^ n) 1), .int .u64 (wd (N / 10 ^ n) 2), .int .u64 (wd (N / 10 ^ n) 3)] ∧ Bk wr (w.heap.size + 1) 24 [.int .u64 0, .int .u64 0])
  case atStart =>
    refine ⟨0, by omega, rfl, rfl, rfl, by go_size, by (repeat' (first | (with_reducible exact Below.refl _ _) | (with_reducible assumption) | (with_reducible refine Below.drew ?_) | (with_reducible refine below_drewN ?_ _) | ((with_reducible refine Below.alloc ?_ ?_ _); rotate_left; focus (go_size; done)) | ((with_reducible refine Below.setCell ?_ ?_ _); rotate_left; focus (go_size; done)) | ((with_reducible refine Below.trans ?_ (Below.mono (by with_reducible assumption) ?_)); rotate_left; focus (go_size; done)))), ?_, by (repeat (first | (with_reducible assumption) | ((with_reducible refine Bk.new_ ?_); (first | rfl | (simp only [World.size_alloc, World.size_setCell, World.size_drew, World.heap_drewN]; done))) | (with_reducible refine Bk.alloc ?_ _) | (with_reducible refine Bk.drew ?_) | (with_reducible refine Bk.drewN ?_ _) | ((with_reducible refine Bk.far ?_ ?_ _); rotate_left; focus (simp only []; omega)) | ((with_reducible refine Bk.below ?_ (by with_reducible assumption) ?_); rotate_left; focus (go_size; done))))⟩
    rw [Nat.pow_zero, Nat.div_one]
    (repeat (first | (with_reducible assumption) | ((with_reducible refine Bk.new_ ?_); (first | rfl | (simp only [World.size_alloc, World.size_setCell, World.size_drew, World.heap_drewN]; done))) | (with_reducible refine Bk.alloc ?_ _) | (with_reducible refine Bk.drew ?_) | (with_reducible refine Bk.drewN ?_ _) | ((with_reducible refine Bk.far ?_ ?_ _); rotate_left; focus (simp only []; omega)) | ((with_reducible refine Bk.below ?_ (by with_reducible assumption) ?_); rotate_left; focus (go_size; done))))
  case round =>
    obtain ⟨n, hn, rfl, rfl, rfl, hsz, hbel, b0, b1⟩ := hrel
    have HK := Lib.hid hn
    have hle : (n : Int) ≤ (k : Int) := by omega
    have HB := Lib.hid (belD_succ N n)
    have HL := Lib.hid (lastD_bd N n)
    have HX := Lib.hid (div_lt_256 HN.out (10 ^ n))
    have hlb := lastD_bd N n
    obtain ⟨l0, l9⟩ := hlb
    obtain ⟨X, hX⟩ : ∃ X, X = N / 10 ^ n := ⟨_, rfl⟩
    rw [← hX] at b0 HX
    obtain ⟨L, hL⟩ : ∃ L, L = lastD N n := ⟨_, rfl⟩
    obtain ⟨bb, hbb⟩ : ∃ bb, bb = belD N n := ⟨_, rfl⟩
    rw [← hL] at HL HB l0 l9 ⊢
    rw [← hbb] at HB ⊢
    have GX := Lib.hid hX
    have GL := Lib.hid hL
    have GB := Lib.hid hbb
    clear hX hL hbb hn
    have c00 := b0.cell 0 rfl
    have c01 := b0.cell 1 rfl
    have c02 := b0.cell 2 rfl
    have c03 := b0.cell 3 rfl
    have c10 := b1.cell 0 rfl
    have c11 := b1.cell 1 rfl
    have f00 := b0.frozen 0
    have f01 := b0.frozen 1
    have f02 := b0.frozen 2
    have f03 := b0.frozen 3
    have f10 := b1.frozen 0
    have f11 := b1.frozen 1
    (try have : w.heap.size < wr.heap.size := by omega); (try have : w.heap.size + 1 < wr.heap.size := by omega); (try have : w.heap.size + 1 + 1 < wr.heap.size := by omega); (try have : w.heap.size + 1 + 1 + 1 < wr.heap.size := by omega)
    have HT := Lib.hid (fun W => tenth_any X HX.out W)
    have HR := Lib.hid (fun W => narrow_any X HX.out W)
    by_cases hlt : (n : Int) < (k : Int)
    · cases bb
      · go_wp2_with ((go_at_call 89; with_reducible refine (HT.out _).mono ?_); rintro _ w1 ⟨rfl, hb1⟩; have hb1s := hb1.size; (try simp only [World.size_alloc, World.size_setCell, World.size_drew, World.heap_drewN] at hb1s); obtain ⟨hb1c, hb1f⟩ := bcell hb1; (try have : w.heap.size < w1.heap.size := by omega); (try have : w.heap.size + 1 < w1.heap.size := by omega); (try have : w.heap.size + 1 + 1 < w1.heap.size := by omega); (try have : w.heap.size + 1 + 1 + 1 < w1.heap.size := by omega))
        go_roundg (gk - 1)
        case measure => have := HK.out; omega
        case rel =>
          refine ⟨n + 1, by have := HK.out; omega, ?_, ?_, by go_num, by go_size, by (repeat' (first | (with_reducible exact Below.refl _ _) | (with_reducible assumption) | (with_reducible refine Below.drew ?_) | (with_reducible refine below_drewN ?_ _) | ((with_reducible refine Below.alloc ?_ ?_ _); rotate_left; focus (go_size; done)) | ((with_reducible refine Below.setCell ?_ ?_ _); rotate_left; focus (go_size; done)) | ((with_reducible refine Below.trans ?_ (Below.mono (by with_reducible assumption) ?_)); rotate_left; focus (go_size; done)))), ?_, by (repeat (first | (with_reducible assumption) | ((with_reducible refine Bk.new_ ?_); (first | rfl | (simp only [World.size_alloc, World.size_setCell, World.size_drew, World.heap_drewN]; done))) | (with_reducible refine Bk.alloc ?_ _) | (with_reducible refine Bk.drew ?_) | (with_reducible refine Bk.drewN ?_ _) | ((with_reducible refine Bk.far ?_ ?_ _); rotate_left; focus (simp only []; omega)) | ((with_reducible refine Bk.below ?_ (by with_reducible assumption) ?_); rotate_left; focus (go_size; done))))⟩
          · rw [lastD_succ, ← GX.out]; rfl
          · rw [HB.out]; rfl
          · rw [show N / 10 ^ (n + 1) = X / 10 from by rw [GX.out, Nat.div_div_eq_div_mul, Nat.pow_succ]]
            refine (((((?_ : Bk w1 _ _ [.int .u64 (wd X 0), .int .u64 (wd X 1), .int .u64 (wd X 2), .int .u64 (wd X 3)]).set_ 0 _).set_ 1 _).set_ 2 _).set_ 3 _)
            (repeat (first | (with_reducible assumption) | ((with_reducible refine Bk.new_ ?_); (first | rfl | (simp only [World.size_alloc, World.size_setCell, World.size_drew, World.heap_drewN]; done))) | (with_reducible refine Bk.alloc ?_ _) | (with_reducible refine Bk.drew ?_) | (with_reducible refine Bk.drewN ?_ _) | ((with_reducible refine Bk.far ?_ ?_ _); rotate_left; focus (simp only []; omega)) | ((with_reducible refine Bk.below ?_ (by with_reducible assumption) ?_); rotate_left; focus (go_size; done))))
      · go_wp2_with ((go_at_call 89; with_reducible refine (HT.out _).mono ?_); rintro _ w1 ⟨rfl, hb1⟩; have hb1s := hb1.size; (try simp only [World.size_alloc, World.size_setCell, World.size_drew, World.heap_drewN] at hb1s); obtain ⟨hb1c, hb1f⟩ := bcell hb1; (try have : w.heap.size < w1.heap.size := by omega); (try have : w.heap.size + 1 < w1.heap.size := by omega); (try have : w.heap.size + 1 + 1 < w1.heap.size := by omega); (try have : w.heap.size + 1 + 1 + 1 < w1.heap.size := by omega))
        go_roundg (gk - 1)
        case measure => have := HK.out; omega
        case rel =>
          refine ⟨n + 1, by have := HK.out; omega, ?_, ?_, by go_num, by go_size, by (repeat' (first | (with_reducible exact Below.refl _ _) | (with_reducible assumption) | (with_reducible refine Below.drew ?_) | (with_reducible refine below_drewN ?_ _) | ((with_reducible refine Below.alloc ?_ ?_ _); rotate_left; focus (go_size; done)) | ((with_reducible refine Below.setCell ?_ ?_ _); rotate_left; focus (go_size; done)) | ((with_reducible refine Below.trans ?_ (Below.mono (by with_reducible assumption) ?_)); rotate_left; focus (go_size; done)))), ?_, by (repeat (first | (with_reducible assumption) | ((with_reducible refine Bk.new_ ?_); (first | rfl | (simp only [World.size_alloc, World.size_setCell, World.size_drew, World.heap_drewN]; done))) | (with_reducible refine Bk.alloc ?_ _) | (with_reducible refine Bk.drew ?_) | (with_reducible refine Bk.drewN ?_ _) | ((with_reducible refine Bk.far ?_ ?_ _); rotate_left; focus (simp only []; omega)) | ((with_reducible refine Bk.below ?_ (by with_reducible assumption) ?_); rotate_left; focus (go_size; done))))⟩
          · rw [lastD_succ, ← GX.out]; rfl
          · rw [HB.out]; rfl
          · rw [show N / 10 ^ (n + 1) = X / 10 from by rw [GX.out, Nat.div_div_eq_div_mul, Nat.pow_succ]]
            refine (((((?_ : Bk w1 _ _ [.int .u64 (wd X 0), .int .u64 (wd X 1), .int .u64 (wd X 2), .int .u64 (wd X 3)]).set_ 0 _).set_ 1 _).set_ 2 _).set_ 3 _)
            (repeat (first | (with_reducible assumption) | ((with_reducible refine Bk.new_ ?_); (first | rfl | (simp only [World.size_alloc, World.size_setCell, World.size_drew, World.heap_drewN]; done))) | (with_reducible refine Bk.alloc ?_ _) | (with_reducible refine Bk.drew ?_) | (with_reducible refine Bk.drewN ?_ _) | ((with_reducible refine Bk.far ?_ ?_ _); rotate_left; focus (simp only []; omega)) | ((with_reducible refine Bk.below ?_ (by with_reducible assumption) ?_); rotate_left; focus (go_size; done))))
    · obtain rfl : n = k := by omega
      by_cases hx : X < 2 ^ 128
      · have e6 : fitW X = X := by unfold fitW; rw [if_pos hx]
        have e7 : over X = 0 := by unfold over; rw [if_pos hx]
        rw [e6, e7] at HR
        have w11 : wd 1 1 = 0 := by decide
        have w10 : wd 1 0 = 1 := by decide
        have HA := Lib.hid (fun W => add_any X 1 hx (by decide) W)
        rw [w11, w10] at HA
        have hodd := wd_odd X
        have HO := Lib.hid hodd
        clear hodd w11 w10 hx
        by_cases c1 : 5 < L
        · have E6 := Lib.hid e6
          have E7 := Lib.hid e7
          clear e6 e7
          have hf := near_of N n True (by rw [← GL.out, ← GB.out, ← GX.out]; simp; left; exact c1)
          rw [if_pos trivial, ← GX.out] at hf
          have HF := Lib.hid hf
          clear hf
          clear hlt
          go_wp2_with (first
            | ((go_at_call 94; with_reducible refine (HR.out _).mono ?_); rintro _ w1 ⟨rfl, hb1⟩; have hb1s := hb1.size; (try simp only [World.size_alloc, World.size_setCell, World.size_drew, World.heap_drewN] at hb1s); obtain ⟨hb1c, hb1f⟩ := bcell hb1; (try have : w.heap.size < w1.heap.size := by omega); (try have : w.heap.size + 1 < w1.heap.size := by omega); (try have : w.heap.size + 1 + 1 < w1.heap.size := by omega); (try have : w.heap.size + 1 + 1 + 1 < w1.heap.size := by omega))
            | ((go_at_call 95; with_reducible refine (HA.out _).mono ?_); rintro _ w2 ⟨rfl, hb2⟩; have hb2s := hb2.size; (try simp only [World.size_alloc, World.size_setCell, World.size_drew, World.heap_drewN] at hb2s); obtain ⟨hb2c, hb2f⟩ := bcell hb2; (try have : w.heap.size < w2.heap.size := by omega); (try have : w.heap.size + 1 < w2.heap.size := by omega); (try have : w.heap.size + 1 + 1 < w2.heap.size := by omega); (try have : w.heap.size + 1 + 1 + 1 < w2.heap.size := by omega)))
          refine bodyPost_ret (by simp [results, Try.results74, go_sem, *]; try rfl) rfl ?_
          rw [HF.out]
          exact ⟨rfl, by (repeat' (first | (with_reducible exact Below.refl _ _) | (with_reducible assumption) | (with_reducible refine Below.drew ?_) | (with_reducible refine below_drewN ?_ _) | ((with_reducible refine Below.alloc ?_ ?_ _); rotate_left; focus (go_size; done)) | ((with_reducible refine Below.setCell ?_ ?_ _); rotate_left; focus (go_size; done)) | ((with_reducible refine Below.trans ?_ (Below.mono (by with_reducible assumption) ?_)); rotate_left; focus (go_size; done))))⟩
        · by_cases c2 : L = 5
          · have g1 : (L == 5) = true := by simp [c2]
            have C2 := Lib.hid c2
            cases bb
            · by_cases c3 : X % 2 = 1
              · have g2 : (bits .and .u64 (wd X 0) 1 == 1) = true := by rw [HO.out, c3]; rfl
                have C3 := Lib.hid c3
                have E6 := Lib.hid e6
                have E7 := Lib.hid e7
                clear e6 e7 c2 c3
                have hf := near_of N n True (by rw [← GL.out, ← GB.out, ← GX.out]; simp; right; exact ⟨C2.out, C3.out⟩)
                rw [if_pos trivial, ← GX.out] at hf
                have HF := Lib.hid hf
                clear hf
                clear hlt
                go_wp2_with (first
                  | ((go_at_call 94; with_reducible refine (HR.out _).mono ?_); rintro _ w1 ⟨rfl, hb1⟩; have hb1s := hb1.size; (try simp only [World.size_alloc, World.size_setCell, World.size_drew, World.heap_drewN] at hb1s); obtain ⟨hb1c, hb1f⟩ := bcell hb1; (try have : w.heap.size < w1.heap.size := by omega); (try have : w.heap.size + 1 < w1.heap.size := by omega); (try have : w.heap.size + 1 + 1 < w1.heap.size := by omega); (try have : w.heap.size + 1 + 1 + 1 < w1.heap.size := by omega))
                  | ((go_at_call 95; with_reducible refine (HA.out _).mono ?_); rintro _ w2 ⟨rfl, hb2⟩; have hb2s := hb2.size; (try simp only [World.size_alloc, World.size_setCell, World.size_drew, World.heap_drewN] at hb2s); obtain ⟨hb2c, hb2f⟩ := bcell hb2; (try have : w.heap.size < w2.heap.size := by omega); (try have : w.heap.size + 1 < w2.heap.size := by omega); (try have : w.heap.size + 1 + 1 < w2.heap.size := by omega); (try have : w.heap.size + 1 + 1 + 1 < w2.heap.size := by omega)))
                refine bodyPost_ret (by simp [results, Try.results74, go_sem, *]; try rfl) rfl ?_
                rw [HF.out]
                exact ⟨rfl, by (repeat' (first | (with_reducible exact Below.refl _ _) | (with_reducible assumption) | (with_reducible refine Below.drew ?_) | (with_reducible refine below_drewN ?_ _) | ((with_reducible refine Below.alloc ?_ ?_ _); rotate_left; focus (go_size; done)) | ((with_reducible refine Below.setCell ?_ ?_ _); rotate_left; focus (go_size; done)) | ((with_reducible refine Below.trans ?_ (Below.mono (by with_reducible assumption) ?_)); rotate_left; focus (go_size; done))))⟩
              · have g2 : (bits .and .u64 (wd X 0) 1 == 1) = false := by rw [HO.out]; simp; omega
                have C3 := Lib.hid c3
                clear c2 c3
                have hf := near_of N n False (by rw [← GL.out, ← GB.out, ← GX.out]; simp; exact ⟨by omega, fun _ => by have := C3.out; omega⟩)
                rw [if_neg not_false, ← GX.out, Nat.add_zero] at hf
                have HF := Lib.hid hf
                clear hf
                clear hlt
                have E6 := Lib.hid e6
                have E7 := Lib.hid e7
                clear e6 e7
                go_wp2_with ((go_at_call 94; with_reducible refine (HR.out _).mono ?_); rintro _ w1 ⟨rfl, hb1⟩; have hb1s := hb1.size; (try simp only [World.size_alloc, World.size_setCell, World.size_drew, World.heap_drewN] at hb1s); obtain ⟨hb1c, hb1f⟩ := bcell hb1; (try have : w.heap.size < w1.heap.size := by omega); (try have : w.heap.size + 1 < w1.heap.size := by omega); (try have : w.heap.size + 1 + 1 < w1.heap.size := by omega); (try have : w.heap.size + 1 + 1 + 1 < w1.heap.size := by omega))
                refine bodyPost_ret (by simp [results, Try.results74, go_sem, *]; try rfl) rfl ?_
                rw [HF.out, E6.out, E7.out]
                exact ⟨rfl, by (repeat' (first | (with_reducible exact Below.refl _ _) | (with_reducible assumption) | (with_reducible refine Below.drew ?_) | (with_reducible refine below_drewN ?_ _) | ((with_reducible refine Below.alloc ?_ ?_ _); rotate_left; focus (go_size; done)) | ((with_reducible refine Below.setCell ?_ ?_ _); rotate_left; focus (go_size; done)) | ((with_reducible refine Below.trans ?_ (Below.mono (by with_reducible assumption) ?_)); rotate_left; focus (go_size; done))))⟩
            · have E6 := Lib.hid e6
              have E7 := Lib.hid e7
              clear e6 e7 c2
              have hf := near_of N n True (by rw [← GL.out, ← GB.out, ← GX.out]; simp; right; exact C2.out)
              rw [if_pos trivial, ← GX.out] at hf
              have HF := Lib.hid hf
              clear hf
              clear hlt
              go_wp2_with (first
                | ((go_at_call 94; with_reducible refine (HR.out _).mono ?_); rintro _ w1 ⟨rfl, hb1⟩; have hb1s := hb1.size; (try simp only [World.size_alloc, World.size_setCell, World.size_drew, World.heap_drewN] at hb1s); obtain ⟨hb1c, hb1f⟩ := bcell hb1; (try have : w.heap.size < w1.heap.size := by omega); (try have : w.heap.size + 1 < w1.heap.size := by omega); (try have : w.heap.size + 1 + 1 < w1.heap.size := by omega); (try have : w.heap.size + 1 + 1 + 1 < w1.heap.size := by omega))
                | ((go_at_call 95; with_reducible refine (HA.out _).mono ?_); rintro _ w2 ⟨rfl, hb2⟩; have hb2s := hb2.size; (try simp only [World.size_alloc, World.size_setCell, World.size_drew, World.heap_drewN] at hb2s); obtain ⟨hb2c, hb2f⟩ := bcell hb2; (try have : w.heap.size < w2.heap.size := by omega); (try have : w.heap.size + 1 < w2.heap.size := by omega); (try have : w.heap.size + 1 + 1 < w2.heap.size := by omega); (try have : w.heap.size + 1 + 1 + 1 < w2.heap.size := by omega)))
              refine bodyPost_ret (by simp [results, Try.results74, go_sem, *]; try rfl) rfl ?_
              rw [HF.out]
              exact ⟨rfl, by (repeat' (first | (with_reducible exact Below.refl _ _) | (with_reducible assumption) | (with_reducible refine Below.drew ?_) | (with_reducible refine below_drewN ?_ _) | ((with_reducible refine Below.alloc ?_ ?_ _); rotate_left; focus (go_size; done)) | ((with_reducible refine Below.setCell ?_ ?_ _); rotate_left; focus (go_size; done)) | ((with_reducible refine Below.trans ?_ (Below.mono (by with_reducible assumption) ?_)); rotate_left; focus (go_size; done))))⟩
          · have g1 : (L == 5) = false := by simp [c2]
            have C2 := Lib.hid c2
            clear c2
            have hf := near_of N n False (by rw [← GL.out, ← GB.out, ← GX.out]; simp; exact ⟨by omega, fun h => absurd h C2.out⟩)
            rw [if_neg not_false, ← GX.out, Nat.add_zero] at hf
            have HF := Lib.hid hf
            clear hf
            clear hlt
            have E6 := Lib.hid e6
            have E7 := Lib.hid e7
            clear e6 e7
            go_wp2_with ((go_at_call 94; with_reducible refine (HR.out _).mono ?_); rintro _ w1 ⟨rfl, hb1⟩; have hb1s := hb1.size; (try simp only [World.size_alloc, World.size_setCell, World.size_drew, World.heap_drewN] at hb1s); obtain ⟨hb1c, hb1f⟩ := bcell hb1; (try have : w.heap.size < w1.heap.size := by omega); (try have : w.heap.size + 1 < w1.heap.size := by omega); (try have : w.heap.size + 1 + 1 < w1.heap.size := by omega); (try have : w.heap.size + 1 + 1 + 1 < w1.heap.size := by omega))
            refine bodyPost_ret (by simp [results, Try.results74, go_sem, *]; try rfl) rfl ?_
            rw [HF.out, E6.out, E7.out]
            exact ⟨rfl, by (repeat' (first | (with_reducible exact Below.refl _ _) | (with_reducible assumption) | (with_reducible refine Below.drew ?_) | (with_reducible refine below_drewN ?_ _) | ((with_reducible refine Below.alloc ?_ ?_ _); rotate_left; focus (go_size; done)) | ((with_reducible refine Below.setCell ?_ ?_ _); rotate_left; focus (go_size; done)) | ((with_reducible refine Below.trans ?_ (Below.mono (by with_reducible assumption) ?_)); rotate_left; focus (go_size; done))))⟩
      · have e6 : fitW X = 0 := by unfold fitW; rw [if_neg hx]
        have e7 : over X = 3 := by unfold over; rw [if_neg hx]
        rw [e6, e7] at HR
        have hbig : ¬ near N (10 ^ n) < 2 ^ 128 := by
          have : N / 10 ^ n ≤ near N (10 ^ n) := Nat.le_add_right _ _
          rw [← GX.out] at this
          omega
        have e8 : fitW (near N (10 ^ n)) = 0 := by unfold fitW; rw [if_neg hbig]
        have e9 : over (near N (10 ^ n)) = 3 := by unfold over; rw [if_neg hbig]
        have E8 := Lib.hid e8
        have E9 := Lib.hid e9
        rw [wd_zero, wd_zero] at HR
        clear e6 e7 e8 e9 hbig hx hlt
        go_wp2_with ((go_at_call 94; with_reducible refine (HR.out _).mono ?_); rintro _ w1 ⟨rfl, hb1⟩; have hb1s := hb1.size; (try simp only [World.size_alloc, World.size_setCell, World.size_drew, World.heap_drewN] at hb1s); obtain ⟨hb1c, hb1f⟩ := bcell hb1; (try have : w.heap.size < w1.heap.size := by omega); (try have : w.heap.size + 1 < w1.heap.size := by omega); (try have : w.heap.size + 1 + 1 < w1.heap.size := by omega); (try have : w.heap.size + 1 + 1 + 1 < w1.heap.size := by omega))
        refine bodyPost_ret (by simp [results, Try.results74, go_sem, *]; try rfl) rfl ?_
        rw [E8.out, E9.out, wd_zero, wd_zero]
        exact ⟨rfl, by (repeat' (first | (with_reducible exact Below.refl _ _) | (with_reducible assumption) | (with_reducible refine Below.drew ?_) | (with_reducible refine below_drewN ?_ _) | ((with_reducible refine Below.alloc ?_ ?_ _); rotate_left; focus (go_size; done)) | ((with_reducible refine Below.setCell ?_ ?_ _); rotate_left; focus (go_size; done)) | ((with_reducible refine Below.trans ?_ (Below.mono (by with_reducible assumption) ?_)); rotate_left; focus (go_size; done))))⟩
end Go.Proofs.Ythkgjodidkpaeaa
