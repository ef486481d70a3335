/- The reference: the form, a decimal out of digits, a number in units. -/
import Derived.Test.YthkgjodidkpaeaaFs
import Derived.Test.YthkgjodidkpaeaaRk
import Derived.Test.YthkgjodidkpaeaaRs
import Derived.Test.YthkgjodidkpaeaaDt
import Derived.Test.YthkgjodidkpaeaaNw
import Derived.Test.YthkgjodidkpaeaaFc
set_option linter.unusedSimpArgs false
set_option linter.unusedVariables false
namespace Go.Proofs.Ythkgjodidkpaeaa
open Go.RowKit

theorem len_34 {l : List Int} {n : Nat} (h : IsDg l n) : l.length ≤ 34 ↔ n < B34 := ⟨fun hl => h.lt_of_len hl, fun hn => h.len_le hn⟩
theorem B34_small {n : Nat} (h : n < B34) : Tiny n := lt_128_tiny (Nat.lt_trans h B34_lt)
set_option maxHeartbeats 1000000 in
theorem one_any (k : Nat) (hk : k ≤ 998) (w : World) : Calls Try.prog 61 #[.int .i64 k] w (RetDg (10 ^ k) w) := by
  have HS := Lib.hid (fun W v hv => shift_any 1 k (by omega) v W hv small_one)
  rw [Nat.one_mul] at HS
  go_enter Try.func61, Try.ntmps61
  go_wp2_with fail
  refine (HS.out _ _ (dg_one (Bk.new_ rfl))).mono ?_
  rintro _ w1 ⟨v1, rfl, d1, hb1⟩; have hb1s := hb1.size; (try simp only [World.size_alloc, World.size_setCell, World.size_drew, World.heap_drewN] at hb1s); obtain ⟨hb1c, hb1f⟩ := bcell hb1; (try have : w.heap.size < w1.heap.size := by omega); (try have : w.heap.size + 1 < w1.heap.size := by omega); (try have : w.heap.size + 1 + 1 < w1.heap.size := by omega); (try have : w.heap.size + 1 + 1 + 1 < w1.heap.size := by omega); have Hd1 := Lib.hid d1; clear d1
  go_wp2_with fail
  go_ret
  exact ⟨v1, rfl, Hd1.out, by (repeat' (first | (with_reducible exact Below.refl _ _) | (with_reducible assumption) | (with_reducible refine Below.drew ?_) | (with_reducible refine below_drewN ?_ _) | ((with_reducible refine Below.alloc ?_ ?_ _); rotate_left; focus (go_size; done)) | ((with_reducible refine Below.setCell ?_ ?_ _); rotate_left; focus (go_size; done)) | ((with_reducible refine Below.trans ?_ (Below.mono (by with_reducible assumption) ?_)); rotate_left; focus (go_size; done))))⟩
set_option maxHeartbeats 4000000 in
theorem make1_any (neg : Bool) (n s : Nat) (v : Value) (w : World) (hv : Dg w v n) (hn : n < B34) (hs : s ≤ 1000) : Calls Try.prog 58 #[.bool neg, v, .int .i64 s] w fun e w' => e = .returned (.agg #[.bool (sg neg (stripC n s)), .int .u64 (wd ((stripC n s)) 1), .int .u64 (wd ((stripC n s)) 0), .int .i64 (stripS n s)]) ∧ Below w.heap.size w w' := by
  have HB := B34_small hn
  by_cases h0 : n = 0
  · have e1 : stripC n s = 0 := stripC_zero.2 h0
    have e2 : stripS n s = 0 := by rw [h0]; exact (strip_nil s).2
    rw [e1, e2, wd_zero, wd_zero, sg_zero]
    obtain ⟨A, k, c, rfl, hk, hkc⟩ := dg_len hv
    obtain rfl : k = 0 := hk.2 h0
    clear hk hv h0 hn HB e1 e2
    go_enter Try.func58, Try.ntmps58
    go_wp2_with fail
    refine bodyPost_ret (by simp [results, Try.results58, go_sem, *]; try rfl) rfl ?_
    exact ⟨rfl, by (repeat' (first | (with_reducible exact Below.refl _ _) | (with_reducible assumption) | (with_reducible refine Below.drew ?_) | (with_reducible refine below_drewN ?_ _) | ((with_reducible refine Below.alloc ?_ ?_ _); rotate_left; focus (go_size; done)) | ((with_reducible refine Below.setCell ?_ ?_ _); rotate_left; focus (go_size; done)) | ((with_reducible refine Below.trans ?_ (Below.mono (by with_reducible assumption) ?_)); rotate_left; focus (go_size; done))))⟩
  · have hne : sg neg (stripC n s) = neg := sg_pos (fun e => h0 (stripC_zero.1 e))
    rw [hne]
    obtain ⟨C, hC⟩ : ∃ C, C = stripC n s := ⟨_, rfl⟩
    obtain ⟨S, hS⟩ : ∃ S, S = stripS n s := ⟨_, rfl⟩
    rw [← hC, ← hS]
    have EC := Far.mk hC
    have ES := Far.mk hS
    obtain ⟨A, k, c, rfl, hk, hkc⟩ := dg_len hv
    have hk0 : ((k : Int) == 0) = false := by simp; omega
    have hkp : (0 : Int) < (k : Int) := by omega
    have HV := Lib.hid hv
    have HH0 := Lib.hid h0
    have HN := Far.mk hn
    clear hC hS hv hn hne h0 hk
    go_enter Try.func58, Try.ntmps58
    go_wp2_with fail
    clear hkp hk0
    go_loopg [1, 2] s (fun kk v sv wr => ∃ m : Nat, sv = .int .i64 (kk : Int) ∧ kk ≤ 1000 ∧ Hid (m ≠ 0) ∧ Far (m < B34) ∧ Far (C = stripC m kk ∧ S = stripS m kk) ∧ Dg wr v m ∧ Bk wr w.heap.size 26 [.bool false, .int .u64 0, .int .u64 0, .int .i64 0] ∧ Below w.heap.size w wr)
    case atStart => exact ⟨n, rfl, hs, HH0, HN, Far.mk ⟨EC.out, ES.out⟩, HV.out.below (by (repeat' (first | (with_reducible exact Below.refl _ _) | (with_reducible assumption) | (with_reducible refine Below.drew ?_) | (with_reducible refine below_drewN ?_ _) | ((with_reducible refine Below.alloc ?_ ?_ _); rotate_left; focus (go_size; done)) | ((with_reducible refine Below.setCell ?_ ?_ _); rotate_left; focus (go_size; done)) | ((with_reducible refine Below.trans ?_ (Below.mono (by with_reducible assumption) ?_)); rotate_left; focus (go_size; done))))), by (repeat (first | (with_reducible assumption) | ((with_reducible refine Bk.new_ ?_); (first | rfl | (simp only [World.size_alloc, World.size_setCell, World.size_drew, World.heap_drewN]; done))) | (with_reducible refine Bk.alloc ?_ _) | (with_reducible refine Bk.drew ?_) | (with_reducible refine Bk.drewN ?_ _) | ((with_reducible refine Bk.far ?_ ?_ _); rotate_left; focus (simp only []; omega)) | ((with_reducible refine Bk.below ?_ (by with_reducible assumption) ?_); rotate_left; focus (go_size; done)))), by (repeat' (first | (with_reducible exact Below.refl _ _) | (with_reducible assumption) | (with_reducible refine Below.drew ?_) | (with_reducible refine below_drewN ?_ _) | ((with_reducible refine Below.alloc ?_ ?_ _); rotate_left; focus (go_size; done)) | ((with_reducible refine Below.setCell ?_ ?_ _); rotate_left; focus (go_size; done)) | ((with_reducible refine Below.trans ?_ (Below.mono (by with_reducible assumption) ?_)); rotate_left; focus (go_size; done))))⟩
    case round =>
      obtain ⟨m, rfl, hk1, hm0, hmb, hcs, hdg, b0, hbel⟩ := hrel
      have HB0 := Lib.hid b0
      have l0 := b0.lt
      obtain ⟨xs, ⟨A, c, rfl, hc, hs⟩, hd⟩ := hdg
      have hlen : xs.length ≤ 34 := (len_34 hd).2 hmb.out
      have hpos : 0 < xs.length := Nat.pos_of_ne_zero (fun e => hm0.out (hd.zero_iff.1 e))
      obtain ⟨g, o, rfl, hg, hcell⟩ := hs.at_ (k := 0) hpos
      have hdig := dval_digit hd.1 0 hpos
      rw [hd.2.2, Int.pow_zero, Int.ediv_one] at hdig
      have hdig2 : xs.getD 0 0 = ((m % 10 : Nat) : Int) := by rw [hdig]; rfl
      rw [hdig2, Nat.add_zero] at hcell
      have hl0 : (0 : Int) < (xs.length : Int) := by omega
      have HS := Lib.hid hs
      have HD := Lib.hid hd
      have HC := Lib.hid hc
      clear hs hd hdig hdig2 b0 hc
      by_cases hz : gk = 0
      · subst hz
        have hm10 : Far (C = m ∧ S = 0) := hcs
        have ht := hm10.out
        have HT := Lib.hid (fun W h => to_any m (.slice (some ⟨g, o, none⟩) xs.length c) W h (B34_small hmb.out).small)
        unfold RetWide at HT
        rw [Nat.mod_eq_of_lt (Nat.lt_trans (Nat.lt_trans hmb.out B34_lt) (by decide))] at HT
        generalize decide (m < 2 ^ 128) = fr at *
        have HDG : Hid (Dg wr (.slice (some ⟨g, o, none⟩) xs.length c) m) := Lib.hid ⟨xs, ⟨_, c, rfl, HC.out, HS.out⟩, HD.out⟩
        have hng : ¬ (0 : Int) < ((0 : Nat) : Int) := by omega
        clear ht
        go_wp2_with fail
        refine (HT.out _ HDG.out).mono ?_
        rintro _ w2 ⟨rfl, hb2⟩; have hb2s := hb2.size; (try simp only [World.size_alloc, World.size_setCell, World.size_drew, World.heap_drewN] at hb2s); obtain ⟨hb2c, hb2f⟩ := bcell hb2; (try have : w.heap.size < w2.heap.size := by omega); (try have : w.heap.size + 1 < w2.heap.size := by omega); (try have : w.heap.size + 1 + 1 < w2.heap.size := by omega); (try have : w.heap.size + 1 + 1 + 1 < w2.heap.size := by omega)
        have b0 := HB0.out
        have k0 : Bk w2 w.heap.size 26 [.bool false, .int .u64 0, .int .u64 0, .int .i64 0] := by (repeat (first | (with_reducible assumption) | ((with_reducible refine Bk.new_ ?_); (first | rfl | (simp only [World.size_alloc, World.size_setCell, World.size_drew, World.heap_drewN]; done))) | (with_reducible refine Bk.alloc ?_ _) | (with_reducible refine Bk.drew ?_) | (with_reducible refine Bk.drewN ?_ _) | ((with_reducible refine Bk.far ?_ ?_ _); rotate_left; focus (simp only []; omega)) | ((with_reducible refine Bk.below ?_ (by with_reducible assumption) ?_); rotate_left; focus (go_size; done))))
        have k_0 := k0.cell 0 rfl
        have k_1 := k0.cell 1 rfl
        have k_2 := k0.cell 2 rfl
        have k_3 := k0.cell 3 rfl
        have k_4 := k0.frozen 0
        have k_5 := k0.frozen 1
        have k_6 := k0.frozen 2
        have k_7 := k0.frozen 3
        have k0l := k0.lt
        clear b0 k0 hb2c hb2f
        go_wp2_with fail
        refine bodyPost_ret (by simp [results, Try.results58, go_sem, *]; try rfl) rfl ?_
        obtain ⟨e1, e2⟩ := hm10.out
        exact ⟨by rw [e1, e2]; rfl, by (repeat' (first | (with_reducible exact Below.refl _ _) | (with_reducible assumption) | (with_reducible refine Below.drew ?_) | (with_reducible refine below_drewN ?_ _) | ((with_reducible refine Below.alloc ?_ ?_ _); rotate_left; focus (go_size; done)) | ((with_reducible refine Below.setCell ?_ ?_ _); rotate_left; focus (go_size; done)) | ((with_reducible refine Below.trans ?_ (Below.mono (by with_reducible assumption) ?_)); rotate_left; focus (go_size; done))))⟩
      · obtain ⟨j, rfl⟩ : ∃ j, gk = j + 1 := ⟨gk - 1, by omega⟩
        have hj : (0 : Int) < ((j + 1 : Nat) : Int) := by omega
        by_cases hd10 : m % 10 = 0
        · have hcs' : Far (C = stripC (m / 10) j ∧ S = stripS (m / 10) j) := Far.mk (by
            obtain ⟨e1, e2⟩ := hcs.out
            rw [e1, e2]; exact strip_yes hd10 j)
          rw [hd10] at hcell
          obtain ⟨hdd, _⟩ := HD.out.drop_zeros 1 hpos (by
            intro t ht
            obtain rfl : t = 0 := by omega
            have := dval_digit HD.out.1 0 hpos
            rw [HD.out.2.2, Int.pow_zero, Int.ediv_one] at this
            rw [this]; omega)
          have hm1 : m / 10 ≠ 0 := by have := hm0.out; omega
          have hlen2 : 1 < xs.length := by
            rcases Nat.lt_or_ge 1 xs.length with h | h
            · exact h
            · have := HD.out.lt_of_len (k := 1) h
              omega
          have hsl : IsSl wr (.slice (some ⟨g, o + 1, none⟩) (xs.length - 1) (c - 1)) (xs.drop 1) := sl_drop HS.out hlen2 HC.out
          have HDG : Hid (Dg wr (.slice (some ⟨g, o + 1, none⟩) (xs.length - 1) (c - 1)) (m / 10)) := Lib.hid ⟨_, hsl, by rw [Nat.pow_one] at hdd; exact hdd⟩
          have hc1 : (1 : Int) ≤ (c : Int) := by have := HC.out; omega
          have hcne : ¬ c = 1 := by have := HC.out; omega
          have hl1 : (1 : Int) ≤ (xs.length : Int) := by omega
          have hmb' : Far (m / 10 < B34) := Far.mk (by have := hmb.out; omega)
          have HM1 := Lib.hid hm1
          clear hdd hsl hm1 hd10 hcs hmb hm0
          go_wp2_with fail
          go_roundg j
          case measure => omega
          case rel =>
            refine ⟨m / 10, ?_, by omega, HM1, hmb', hcs', ?_, HB0.out, hbel⟩
            · congr 1
            · exact HDG.out
        · have hm10 : Far (C = m ∧ S = j + 1) := Far.mk (by
            obtain ⟨e1, e2⟩ := hcs.out
            rw [e1, e2]; exact strip_no hd10 (j + 1))
          have hne : ((((m % 10 : Nat) : Int)) == 0) = false := by simp; omega
          obtain ⟨d, hdd⟩ : ∃ d : Int, d = ((m % 10 : Nat) : Int) := ⟨_, rfl⟩
          rw [← hdd] at hcell hne
          have HT := Lib.hid (fun W h => to_any m (.slice (some ⟨g, o, none⟩) xs.length c) W h (B34_small hmb.out).small)
          unfold RetWide at HT
          rw [Nat.mod_eq_of_lt (Nat.lt_trans (Nat.lt_trans hmb.out B34_lt) (by decide))] at HT
          generalize decide (m < 2 ^ 128) = fr at *
          have HDG : Hid (Dg wr (.slice (some ⟨g, o, none⟩) xs.length c) m) := Lib.hid ⟨xs, ⟨_, c, rfl, HC.out, HS.out⟩, HD.out⟩
          clear hdd hd10 hcs
          go_wp2_with fail
          refine (HT.out _ HDG.out).mono ?_
          rintro _ w2 ⟨rfl, hb2⟩; have hb2s := hb2.size; (try simp only [World.size_alloc, World.size_setCell, World.size_drew, World.heap_drewN] at hb2s); obtain ⟨hb2c, hb2f⟩ := bcell hb2; (try have : w.heap.size < w2.heap.size := by omega); (try have : w.heap.size + 1 < w2.heap.size := by omega); (try have : w.heap.size + 1 + 1 < w2.heap.size := by omega); (try have : w.heap.size + 1 + 1 + 1 < w2.heap.size := by omega)
          have b0 := HB0.out
          have k0 : Bk w2 w.heap.size 26 [.bool false, .int .u64 0, .int .u64 0, .int .i64 0] := by (repeat (first | (with_reducible assumption) | ((with_reducible refine Bk.new_ ?_); (first | rfl | (simp only [World.size_alloc, World.size_setCell, World.size_drew, World.heap_drewN]; done))) | (with_reducible refine Bk.alloc ?_ _) | (with_reducible refine Bk.drew ?_) | (with_reducible refine Bk.drewN ?_ _) | ((with_reducible refine Bk.far ?_ ?_ _); rotate_left; focus (simp only []; omega)) | ((with_reducible refine Bk.below ?_ (by with_reducible assumption) ?_); rotate_left; focus (go_size; done))))
          have k_0 := k0.cell 0 rfl
          have k_1 := k0.cell 1 rfl
          have k_2 := k0.cell 2 rfl
          have k_3 := k0.cell 3 rfl
          have k_4 := k0.frozen 0
          have k_5 := k0.frozen 1
          have k_6 := k0.frozen 2
          have k_7 := k0.frozen 3
          have k0l := k0.lt
          clear b0 k0 hb2c hb2f
          go_wp2_with fail
          refine bodyPost_ret (by simp [results, Try.results58, go_sem, *]; try rfl) rfl ?_
          obtain ⟨e1, e2⟩ := hm10.out
          exact ⟨by rw [e1, e2]; first | rfl | (congr; omega), by (repeat' (first | (with_reducible exact Below.refl _ _) | (with_reducible assumption) | (with_reducible refine Below.drew ?_) | (with_reducible refine below_drewN ?_ _) | ((with_reducible refine Below.alloc ?_ ?_ _); rotate_left; focus (go_size; done)) | ((with_reducible refine Below.setCell ?_ ?_ _); rotate_left; focus (go_size; done)) | ((with_reducible refine Below.trans ?_ (Below.mono (by with_reducible assumption) ?_)); rotate_left; focus (go_size; done))))⟩
end Go.Proofs.Ythkgjodidkpaeaa
