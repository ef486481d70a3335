/- The decimal text of a number, by the program. -/
import Derived.Test.YtnjiibeomailhaaWc
import Derived.Test.YtnjiibeomailhaaEq
import Derived.Test.YtnjiibeomailhaaLc
import Derived.Test.YtnjiibeomailhaaTp
import Derived.Laws.IdiomStrings
import Derived.RegionTactic
set_option linter.unusedSimpArgs false
set_option linter.unusedVariables false
namespace Go.Proofs.Ytnjiibeomailhaa
open Go.RowKit

def OutAt (cs : List Value) (N t : Nat) : Prop := cs.length = 40 ∧ ∀ s, s < t → cs[39 - s]? = some (.int .u8 ((tch N s : Nat) : Int))
theorem OutAt.step {cs : List Value} {N t : Nat} (h : OutAt cs N t) (ht : t < 40) : OutAt (cs.set (39 - t) (.int .u8 ((tch N t : Nat) : Int))) N (t + 1) := by
  refine ⟨by rw [List.length_set]; exact h.1, fun s hs => ?_⟩
  rw [List.getElem?_set]
  by_cases hst : s = t
  · subst hst
    rw [if_pos rfl, if_pos (by rw [h.1]; omega)]
  · rw [if_neg (by omega)]
    exact h.2 s (by omega)
theorem OutAt.step' {cs : List Value} {N t : Nat} {d : Int} (h : OutAt cs N t) (ht : t < 40) (hd : ((tch N t : Nat) : Int) = 48 + d) : OutAt (cs.set (40 - t - 1) (.int .u8 (48 + d))) N (t + 1) := by
  have := h.step ht
  rw [hd, show 39 - t = 40 - t - 1 by omega] at this
  exact this
theorem slice_out (B t : Nat) (ht : t < 40) (W : World) : (Instr.sliceAt 72 (.pointer (some ⟨B, 0, none⟩)) (some (.int .i64 (40 - (t : Int) - 1))) none none).run Try.prog W = .ok (.slice (some ⟨B, 40 - t - 1, none⟩) (t + 1) (t + 1)) W := by
  have hl : Try.prog.arrayLen 72 = 40 := by kernel_rfl
  have hz : ∀ W, (sizeOf (Try.prog.elem 72)).run Try.prog W = .ok 1 W := fun W => by kernel_rfl
  rw [run_sliceAt_array_l W 72 _ (by kernel_rfl) .i64 _ (by omega) (by rw [hl]; omega), hz, hl]
  simp only [Result.andThen, slicedAt]
  have e : (40 - (t : Int) - 1).toNat = 40 - t - 1 := by omega
  rw [e, if_neg (by omega), show 40 - (40 - t - 1) = t + 1 by omega, Nat.mul_one]
  congr 3
  unfold Addr.add
  split
  · next h => rw [h]
  · rw [Nat.zero_add]
theorem conv_out {W : World} {B N t : Nat} {cs : List Value} (hb : Bk W B 72 cs) (ho : OutAt cs N (t + 1)) (ht : t < 40) :
    (convert 73 9 (.slice (some ⟨B, 40 - t - 1, none⟩) (t + 1) (t + 1))).run Try.prog W = .ok (.string (txt N (t + 1))) W := by
  have h := run_convert_bytes_back (P := Try.prog) W 73 9 5 ⟨B, 40 - t - 1, none⟩ (t + 1) (txl N (t + 1)) Try.underlying73 Try.underlying5 Try.underlying9 (fun j hj => by
    rw [txl_length] at hj
    rw [txl_get]
    have e : (⟨B, 40 - t - 1, none⟩ : Addr).add j = ⟨B, 39 - (t + 1 - 1 - j), none⟩ := by
      unfold Addr.add
      split
      · next h => subst h; congr 1; omega
      · congr 1; simp only []; omega
    rw [e]
    exact hb.cell _ (ho.2 _ (by omega)))
  rw [txl_length] at h
  exact h
set_option maxHeartbeats 1000000 in
set_option maxRecDepth 100000 in
theorem text_any (N L : Nat) (hN : N < 2 ^ 128) (hL : IsNd N L) (hL39 : L ≤ 39) (w : World) : Calls Try.prog 25 #[.agg #[.int .u64 (wd N 1), .int .u64 (wd N 0)]] w fun e w' => e = .returned (.string (txt N L)) ∧ Below w.heap.size w w' := by
  have HN := Far.mk hN
  have HL := Far.mk hL
  have h1L : 1 ≤ L := hL.1
  have e2 : wd N 2 = 0 := wd_past (k := 2) (by simpa using hN) (Nat.le_refl _)
  have e3 : wd N 3 = 0 := wd_past (k := 3) (Nat.lt_of_lt_of_le hN (Nat.pow_le_pow_right (by decide) (by decide))) (Nat.le_refl _)
  have E2 := Lib.hid e2
  have E3 := Lib.hid e3
  clear hN hL e2 e3
  go_enter Try.func25, Try.ntmps25
  go_wp2_with fail
  go_loopg [5] L (fun k a wr => ∃ (t : Nat) (cs : List Value), k + t = L ∧ t < L ∧ a = .int .i64 ((40 - t : Nat) : Int) ∧ Bk wr (w.heap.size + 1) 24 (lcells (N / 10 ^ t)) ∧ Bk wr (w.heap.size + 1 + 1) 72 cs ∧ OutAt cs N t ∧ w.heap.size + 3 ≤ wr.heap.size ∧ Below w.heap.size w wr)
  case atStart =>
    refine ⟨0, List.replicate 40 (.int .u8 0), by omega, by omega, rfl, ?_, Bk.new_ (by simp), ⟨by simp, fun s hs => absurd hs (by omega)⟩, by go_size, by (repeat' (first | (with_reducible exact Below.refl _ _) | (with_reducible assumption) | (with_reducible refine Below.drew ?_) | (with_reducible refine below_drewN ?_ _) | ((with_reducible refine Below.alloc ?_ ?_ _); rotate_left; focus (go_size; done)) | ((with_reducible refine Below.setCell ?_ ?_ _); rotate_left; focus (go_size; done)) | ((with_reducible refine Below.trans ?_ (Below.mono (by with_reducible assumption) ?_)); rotate_left; focus (go_size; done))))⟩
    rw [Nat.pow_zero, Nat.div_one, lcells_eq, E2.out, E3.out]
    (repeat (first | (with_reducible assumption) | ((with_reducible refine Bk.new_ ?_); (first | rfl | (simp only [World.size_alloc, World.size_setCell, World.size_drew, World.heap_drewN]; done))) | (with_reducible refine Bk.alloc ?_ _) | (with_reducible refine Bk.drew ?_) | (with_reducible refine Bk.drewN ?_ _) | ((with_reducible refine Bk.far ?_ ?_ _); rotate_left; focus (simp only []; omega)) | ((with_reducible refine Bk.below ?_ (by with_reducible assumption) ?_); rotate_left; focus (go_size; done))))
  case round =>
    obtain ⟨t, cs, hn, htL, rfl, b1, b2, hout, hsz, hbel⟩ := hrel
    have HK := Lib.hid hn
    have B1 := Lib.hid b1
    have B2 := Lib.hid b2
    have HO := Lib.hid hout
    have b1' := b1
    rw [lcells_eq] at b1'
    have c0 := b1'.cell 0 rfl
    have c1 := b1'.cell 1 rfl
    have c2 := b1'.cell 2 rfl
    have c3 := b1'.cell 3 rfl
    have f0 := b1.frozen 0
    have f1 := b1.frozen 1
    have f2 := b1.frozen 2
    have f3 := b1.frozen 3
    (try have : w.heap.size < wr.heap.size := by omega); (try have : w.heap.size + 1 < wr.heap.size := by omega); (try have : w.heap.size + 1 + 1 < wr.heap.size := by omega); (try have : w.heap.size + 1 + 1 + 1 < wr.heap.size := by omega)
    have HT := Lib.hid (fun W => tenth_any (N / 10 ^ t) (Nat.lt_of_le_of_lt (Nat.div_le_self _ _) (Nat.lt_trans HN.out (by decide))) W)
    have h40 : ((40 - t : Nat) : Int) = 40 - (t : Int) := by omega
    have hnx : N / 10 ^ t / 10 = N / 10 ^ (t + 1) := by rw [Nat.div_div_eq_div_mul, Nat.pow_succ]
    obtain ⟨X, hX⟩ : ∃ X, X = N / 10 ^ t := ⟨_, rfl⟩
    have hch : ((tch N t : Nat) : Int) = 48 + ((X % 10 : Nat) : Int) := by unfold tch; rw [← hX]; omega
    rw [← hX] at HT c0 c1 c2 c3 B1 hnx
    have hst := nd_stop HL.out htL
    rw [← hnx] at hst
    have EX := Far.mk hX
    have EN := Far.mk hnx
    have EC := Lib.hid hch
    obtain ⟨d, hd⟩ : ∃ d : Int, d = ((X % 10 : Nat) : Int) := ⟨_, rfl⟩
    rw [← hd] at HT EC
    have d0 : 0 ≤ d := by omega
    have d9 : d ≤ 9 := by omega
    rw [h40]
    have t40 : (t : Int) < 39 := by omega
    have hcell := B2.out.frozen (40 - t - 1)
    obtain ⟨old, hold⟩ : ∃ v, cs[40 - t - 1]? = some v := ⟨_, List.getElem?_eq_getElem (by rw [hout.1]; omega)⟩
    have hoc := B2.out.cell (40 - t - 1) hold
    clear hn b1 b2 b1' hout h40 hnx hX hch hd hold
    have hY256 : X / 10 < 2 ^ 256 := Nat.lt_of_le_of_lt (Nat.div_le_self _ _) (by rw [EX.out]; exact Nat.lt_of_le_of_lt (Nat.div_le_self _ _) (Nat.lt_trans HN.out (by decide)))
    have qY : ∀ W, (binOp .eql 24 (.agg #[.int .u64 (wd (X / 10) 0), .int .u64 (wd (X / 10) 1), .int .u64 (wd (X / 10) 2), .int .u64 (wd (X / 10) 3)]) (.agg #[.int .u64 0, .int .u64 0, .int .u64 0, .int .u64 0])).run Try.prog W = .ok (.bool (decide (X / 10 = 0))) W := fun W => by rw [eq_long, wd_eq0 hY256]
    clear hY256
    obtain ⟨Y, hY⟩ : ∃ Y, Y = X / 10 := ⟨_, rfl⟩
    rw [← hY] at qY HT hst EN
    have EY := Far.mk hY
    clear hY
    by_cases hend : Y = 0
    · rw [decide_eq_true hend] at qY
      have hL1 := Lib.hid (hst.1 hend)
      clear hst hend
      obtain rfl : L = t + 1 := hL1.out.symm
      have hsl := slice_out (w.heap.size + 1 + 1) t (by omega)
      go_wp2_with fail
      refine (HT.out _).mono ?_
      rintro _ w1 ⟨rfl, hb1⟩; have hb1s := hb1.size; (try simp only [World.size_alloc, World.size_setCell, World.size_drew, World.heap_drewN] at hb1s); obtain ⟨hb1c, hb1f⟩ := bcell hb1; (try have : w.heap.size < w1.heap.size := by omega); (try have : w.heap.size + 1 < w1.heap.size := by omega); (try have : w.heap.size + 1 + 1 < w1.heap.size := by omega); (try have : w.heap.size + 1 + 1 + 1 < w1.heap.size := by omega)
      have hbk : Bk (((((w1.setCell ⟨w.heap.size + 1, 0, none⟩ (.int .u64 (wd Y 0))).setCell ⟨w.heap.size + 1, 1, none⟩ (.int .u64 (wd Y 1))).setCell ⟨w.heap.size + 1, 2, none⟩ (.int .u64 (wd Y 2))).setCell ⟨w.heap.size + 1, 3, none⟩ (.int .u64 (wd Y 3))).setCell ⟨w.heap.size + 1 + 1, 40 - t - 1, none⟩ (.int .u8 (48 + d))) (w.heap.size + 1 + 1) 72 (cs.set (40 - t - 1) (.int .u8 (48 + d))) := by
        refine Bk.set_ ?_ _ _
        have b2 := B2.out
        (repeat (first | (with_reducible assumption) | ((with_reducible refine Bk.new_ ?_); (first | rfl | (simp only [World.size_alloc, World.size_setCell, World.size_drew, World.heap_drewN]; done))) | (with_reducible refine Bk.alloc ?_ _) | (with_reducible refine Bk.drew ?_) | (with_reducible refine Bk.drewN ?_ _) | ((with_reducible refine Bk.far ?_ ?_ _); rotate_left; focus (simp only []; omega)) | ((with_reducible refine Bk.below ?_ (by with_reducible assumption) ?_); rotate_left; focus (go_size; done))))
      have hcv := conv_out hbk (HO.out.step' (by omega) EC.out) (by omega)
      have HK1 := Lib.hid hbk
      clear hbk
      go_wp2_with fail
      go_ret
      exact ⟨rfl, by (repeat' (first | (with_reducible exact Below.refl _ _) | (with_reducible assumption) | (with_reducible refine Below.drew ?_) | (with_reducible refine below_drewN ?_ _) | ((with_reducible refine Below.alloc ?_ ?_ _); rotate_left; focus (go_size; done)) | ((with_reducible refine Below.setCell ?_ ?_ _); rotate_left; focus (go_size; done)) | ((with_reducible refine Below.trans ?_ (Below.mono (by with_reducible assumption) ?_)); rotate_left; focus (go_size; done))))⟩
    · rw [decide_eq_false hend] at qY
      have hL1 : Hid (t + 1 < L) := Lib.hid (by
        have : ¬ t + 1 = L := fun e => hend (hst.2 e)
        omega)
      clear hst hend
      go_wp2_with ((go_at_call 39; with_reducible refine (HT.out _).mono ?_); rintro _ w1 ⟨rfl, hb1⟩; have hb1s := hb1.size; (try simp only [World.size_alloc, World.size_setCell, World.size_drew, World.heap_drewN] at hb1s); obtain ⟨hb1c, hb1f⟩ := bcell hb1; (try have : w.heap.size < w1.heap.size := by omega); (try have : w.heap.size + 1 < w1.heap.size := by omega); (try have : w.heap.size + 1 + 1 < w1.heap.size := by omega); (try have : w.heap.size + 1 + 1 + 1 < w1.heap.size := by omega))
      go_roundg (gk - 1)
      case measure => have := HK.out; omega
      case rel =>
        have b1 := B1.out
        have b2 := B2.out
        refine ⟨t + 1, cs.set (40 - t - 1) (.int .u8 (48 + d)), by have := HK.out; omega, hL1.out, ?_, ?_, ?_, HO.out.step' (by omega) EC.out, by go_size, by (repeat' (first | (with_reducible exact Below.refl _ _) | (with_reducible assumption) | (with_reducible refine Below.drew ?_) | (with_reducible refine below_drewN ?_ _) | ((with_reducible refine Below.alloc ?_ ?_ _); rotate_left; focus (go_size; done)) | ((with_reducible refine Below.setCell ?_ ?_ _); rotate_left; focus (go_size; done)) | ((with_reducible refine Below.trans ?_ (Below.mono (by with_reducible assumption) ?_)); rotate_left; focus (go_size; done))))⟩
        · have : ((40 - (t + 1) : Nat) : Int) = 40 - (t : Int) - 1 := by omega
          rw [this]
        · rw [← EN.out, lcells_eq]
          rw [lcells_eq] at b1
          refine Bk.far ?_ (by simp only []; omega) _
          refine ((((?_ : Bk w1 _ _ [.int .u64 (wd X 0), .int .u64 (wd X 1), .int .u64 (wd X 2), .int .u64 (wd X 3)]).set_ 0 _).set_ 1 _).set_ 2 _).set_ 3 _
          (repeat (first | (with_reducible assumption) | ((with_reducible refine Bk.new_ ?_); (first | rfl | (simp only [World.size_alloc, World.size_setCell, World.size_drew, World.heap_drewN]; done))) | (with_reducible refine Bk.alloc ?_ _) | (with_reducible refine Bk.drew ?_) | (with_reducible refine Bk.drewN ?_ _) | ((with_reducible refine Bk.far ?_ ?_ _); rotate_left; focus (simp only []; omega)) | ((with_reducible refine Bk.below ?_ (by with_reducible assumption) ?_); rotate_left; focus (go_size; done))))
        · refine Bk.set_ ?_ _ _
          (repeat (first | (with_reducible assumption) | ((with_reducible refine Bk.new_ ?_); (first | rfl | (simp only [World.size_alloc, World.size_setCell, World.size_drew, World.heap_drewN]; done))) | (with_reducible refine Bk.alloc ?_ _) | (with_reducible refine Bk.drew ?_) | (with_reducible refine Bk.drewN ?_ _) | ((with_reducible refine Bk.far ?_ ?_ _); rotate_left; focus (simp only []; omega)) | ((with_reducible refine Bk.below ?_ (by with_reducible assumption) ?_); rotate_left; focus (go_size; done))))
end Go.Proofs.Ytnjiibeomailhaa
