/- The decimal text of a number, by the document's digits. -/
import Derived.Test.YtnjiibeomailhaaRe
import Derived.Test.YtnjiibeomailhaaTp
set_option linter.unusedSimpArgs false
set_option linter.unusedVariables false
namespace Go.Proofs.Ytnjiibeomailhaa
open Go.RowKit

theorem nd_len {l : List Int} {N L : Nat} (h : IsDg l N) (hL : IsNd N L) : L = max l.length 1 := hL.uniq (nd_of_dg h)
theorem digit_slice (d : Int) (h0 : 0 ≤ d) (h9 : d ≤ 9) (W : World) :
    (Instr.slice 9 (.string ⟨#[48, 49, 50, 51, 52, 53, 54, 55, 56, 57]⟩) (some (.int .i64 d)) (some (.int .i64 (d + 1))) none).run Try.prog W = .ok (.string ⟨#[UInt8.ofNat (48 + d.toNat)]⟩) W := by
  have e0 : (Instr.slice 9 (.string ⟨#[48, 49, 50, 51, 52, 53, 54, 55, 56, 57]⟩) (some (.int .i64 0)) (some (.int .i64 1)) none).run Try.prog W = .ok (.string ⟨#[48]⟩) W := by kernel_rfl
  have e1 : (Instr.slice 9 (.string ⟨#[48, 49, 50, 51, 52, 53, 54, 55, 56, 57]⟩) (some (.int .i64 1)) (some (.int .i64 2)) none).run Try.prog W = .ok (.string ⟨#[49]⟩) W := by kernel_rfl
  have e2 : (Instr.slice 9 (.string ⟨#[48, 49, 50, 51, 52, 53, 54, 55, 56, 57]⟩) (some (.int .i64 2)) (some (.int .i64 3)) none).run Try.prog W = .ok (.string ⟨#[50]⟩) W := by kernel_rfl
  have e3 : (Instr.slice 9 (.string ⟨#[48, 49, 50, 51, 52, 53, 54, 55, 56, 57]⟩) (some (.int .i64 3)) (some (.int .i64 4)) none).run Try.prog W = .ok (.string ⟨#[51]⟩) W := by kernel_rfl
  have e4 : (Instr.slice 9 (.string ⟨#[48, 49, 50, 51, 52, 53, 54, 55, 56, 57]⟩) (some (.int .i64 4)) (some (.int .i64 5)) none).run Try.prog W = .ok (.string ⟨#[52]⟩) W := by kernel_rfl
  have e5 : (Instr.slice 9 (.string ⟨#[48, 49, 50, 51, 52, 53, 54, 55, 56, 57]⟩) (some (.int .i64 5)) (some (.int .i64 6)) none).run Try.prog W = .ok (.string ⟨#[53]⟩) W := by kernel_rfl
  have e6 : (Instr.slice 9 (.string ⟨#[48, 49, 50, 51, 52, 53, 54, 55, 56, 57]⟩) (some (.int .i64 6)) (some (.int .i64 7)) none).run Try.prog W = .ok (.string ⟨#[54]⟩) W := by kernel_rfl
  have e7 : (Instr.slice 9 (.string ⟨#[48, 49, 50, 51, 52, 53, 54, 55, 56, 57]⟩) (some (.int .i64 7)) (some (.int .i64 8)) none).run Try.prog W = .ok (.string ⟨#[55]⟩) W := by kernel_rfl
  have e8 : (Instr.slice 9 (.string ⟨#[48, 49, 50, 51, 52, 53, 54, 55, 56, 57]⟩) (some (.int .i64 8)) (some (.int .i64 9)) none).run Try.prog W = .ok (.string ⟨#[56]⟩) W := by kernel_rfl
  have e9 : (Instr.slice 9 (.string ⟨#[48, 49, 50, 51, 52, 53, 54, 55, 56, 57]⟩) (some (.int .i64 9)) (some (.int .i64 10)) none).run Try.prog W = .ok (.string ⟨#[57]⟩) W := by kernel_rfl
  have hc : d = 0 ∨ d = 1 ∨ d = 2 ∨ d = 3 ∨ d = 4 ∨ d = 5 ∨ d = 6 ∨ d = 7 ∨ d = 8 ∨ d = 9 := by omega
  rcases hc with rfl | rfl | rfl | rfl | rfl | rfl | rfl | rfl | rfl | rfl
  · exact e0
  · exact e1
  · exact e2
  · exact e3
  · exact e4
  · exact e5
  · exact e6
  · exact e7
  · exact e8
  · exact e9
theorem tx_snoc (N L m : Nat) (d : Int) (hm : m < L) (h0 : 0 ≤ d) (hd : d = (N : Int) / 10 ^ m % 10) :
    Value.string ((⟨((txl N L).take (L - (m + 1))).toArray⟩ : ByteArray) ++ (⟨#[48 + UInt8.ofNat d.toNat]⟩ : ByteArray)) = .string ⟨((txl N L).take (L - m)).toArray⟩ := by
  have hl : L - (m + 1) < (txl N L).length := by rw [txl_length]; omega
  have e1 : L - m = L - (m + 1) + 1 := by omega
  rw [e1, List.take_succ_eq_append_getElem hl]
  have e2 : (txl N L)[L - (m + 1)] = 48 + UInt8.ofNat d.toNat := by
    apply UInt8.toNat_inj.1
    rw [txl_get, show L - 1 - (L - (m + 1)) = m by omega]
    have e3 : d.toNat = N / 10 ^ m % 10 := by
      have : ((N / 10 ^ m % 10 : Nat) : Int) = d := by rw [hd, Int.natCast_emod, Int.natCast_ediv, Int.natCast_pow]; rfl
      omega
    rw [e3]
    unfold tch
    have h9 : N / 10 ^ m % 10 < 10 := Nat.mod_lt _ (by decide)
    generalize N / 10 ^ m % 10 = q at *
    rw [UInt8.toNat_add, UInt8.toNat_ofNat']
    show 48 + q = (48 + q % 2 ^ 8) % 2 ^ 8
    omega
  rw [e2]
  congr 1
set_option maxHeartbeats 1000000 in
theorem tx_any (N L : Nat) (hL : IsNd N L) (v : Value) (w : World) (hv : Dg w v N) (hN : Small N) : Calls Try.prog 52 #[v] w fun e w' => e = .returned (.string (txt N L)) ∧ Below w.heap.size w w' := by
  obtain ⟨xs, ⟨A, c, rfl, hc, hs⟩, hd⟩ := hv
  have hlen := pow_big hN hd
  have hLx := nd_len hd hL
  by_cases h0 : xs = []
  · subst h0
    have hz := hd.zero_iff.1 rfl
    subst hz
    obtain rfl : L = 1 := hLx
    have e : txt 0 1 = ⟨#[48]⟩ := rfl
    rw [e]
    clear e hL hN hs hd
    go_enter Try.func52, Try.ntmps52
    go_wp2_with fail
    go_ret
    exact ⟨rfl, by (repeat' (first | (with_reducible exact Below.refl _ _) | (with_reducible assumption) | (with_reducible refine Below.drew ?_) | (with_reducible refine below_drewN ?_ _) | ((with_reducible refine Below.alloc ?_ ?_ _); rotate_left; focus (go_size; done)) | ((with_reducible refine Below.setCell ?_ ?_ _); rotate_left; focus (go_size; done)) | ((with_reducible refine Below.trans ?_ (Below.mono (by with_reducible assumption) ?_)); rotate_left; focus (go_size; done))))⟩
  · have hpos : 0 < xs.length := List.length_pos_iff.2 h0
    have hLx' : L = xs.length := by rw [hLx, Nat.max_eq_left hpos]
    have g1 : ((xs.length : Int) == 0) = false := by simp; exact h0
    have HD := Lib.hid hd
    have HS := Lib.hid hs
    have HL := Lib.hid hLx'
    clear hd hs hN hL hLx hLx' h0
    go_enter Try.func52, Try.ntmps52
    go_wp2_with fail
    go_loopg [3, 4] xs.length (fun k s i wr => k ≤ xs.length ∧ i = .int .i64 ((k : Int) - 1) ∧ s = .string ⟨((txl N L).take (L - k)).toArray⟩ ∧ ∃ nn, wr = w.drewN nn)
    case atStart => exact ⟨Nat.le_refl _, rfl, by rw [HL.out, Nat.sub_self]; rfl, 0, rfl⟩
    case round =>
      obtain ⟨hk, rfl, rfl, nn, rfl⟩ := hrel
      by_cases h0 : gk = 0
      · subst h0
        have hm : ¬ (0 : Int) ≤ ((0 : Nat) : Int) - 1 := by omega
        go_wp2_with fail
        go_ret
        refine ⟨?_, by (repeat' (first | (with_reducible exact Below.refl _ _) | (with_reducible assumption) | (with_reducible refine Below.drew ?_) | (with_reducible refine below_drewN ?_ _) | ((with_reducible refine Below.alloc ?_ ?_ _); rotate_left; focus (go_size; done)) | ((with_reducible refine Below.setCell ?_ ?_ _); rotate_left; focus (go_size; done)) | ((with_reducible refine Below.trans ?_ (Below.mono (by with_reducible assumption) ?_)); rotate_left; focus (go_size; done))))⟩
        have e := List.take_of_length_le (l := txl N L) (i := L) (by rw [txl_length]; exact Nat.le_refl _)
        rw [e]
        rfl
      · obtain ⟨m, rfl⟩ : ∃ m, gk = m + 1 := ⟨gk - 1, by omega⟩
        obtain ⟨g, o, rfl, hg, hcell⟩ := HS.out.at_ (k := m) (by omega)
        obtain ⟨d0, d9⟩ := HD.out.get m
        have hdd := dval_digit HD.out.1 m (by omega)
        rw [HD.out.2.2] at hdd
        obtain ⟨d, hd⟩ : ∃ d, d = xs.getD m 0 := ⟨_, rfl⟩
        rw [← hd] at hcell d0 d9 hdd
        have HDD := Lib.hid hdd
        have hp : (0 : Int) < ((m + 1 : Nat) : Int) := by omega
        have hx : ((m + 1 : Nat) : Int) - 1 = (m : Int) := by omega
        have m0 : (0 : Int) ≤ (m : Int) := by omega
        have m1 : (m : Int) < (xs.length : Int) := by omega
        have hsl := digit_slice d d0 d9
        clear h0 hd hdd
        obtain ⟨s0, hs0⟩ : ∃ s0 : ByteArray, s0 = ⟨((txl N L).take (L - (m + 1))).toArray⟩ := ⟨_, rfl⟩
        rw [← hs0]
        have hsz : s0.size ≤ 1000 := by
          rw [hs0]
          show (List.take _ _).toArray.size ≤ _
          rw [List.size_toArray, List.length_take, txl_length]
          have := HL.out; omega
        have H0 := Lib.hid hs0
        clear hs0
        go_wp2_with fail
        go_quiet (fail)
        go_wp2_with fail
        go_roundg m
        case measure => omega
        case rel =>
          refine ⟨by omega, rfl, ?_, by (try simp only [World.drewN_drewN]); exact ⟨_, rfl⟩⟩
          rw [H0.out]
          exact tx_snoc N L m d (by have := HL.out; omega) d0 HDD.out
set_option maxHeartbeats 1000000 in
theorem doctext_any (N L : Nat) (hN : N < 2 ^ 128) (hL : IsNd N L) (w : World) : Calls Try.prog 26 #[.agg #[.int .u64 (wd N 1), .int .u64 (wd N 0)]] w fun e w' => e = .returned (.string (txt N L)) ∧ Below w.heap.size w w' := by
  have HO := Lib.hid (fun W => of_any N hN W)
  have HT := Lib.hid (fun W v h => tx_any N L hL v W h (lt_ten_1000 (Nat.lt_trans hN (by decide))))
  clear hN hL
  go_enter Try.func26, Try.ntmps26
  go_wp2_with fail
  refine (HO.out _).mono ?_
  rintro _ w1 ⟨v1, rfl, d1, hb1⟩; have hb1s := hb1.size; (try simp only [World.size_alloc, World.size_setCell, World.size_drew, World.heap_drewN] at hb1s); obtain ⟨hb1c, hb1f⟩ := bcell hb1; (try have : w.heap.size < w1.heap.size := by omega); (try have : w.heap.size + 1 < w1.heap.size := by omega); (try have : w.heap.size + 1 + 1 < w1.heap.size := by omega); (try have : w.heap.size + 1 + 1 + 1 < w1.heap.size := by omega); have Hd1 := Lib.hid d1; clear d1
  go_wp2_with fail
  refine (HT.out _ _ (by (first | exact Hid.out (by assumption) | exact Dg.below (Hid.out (by assumption)) (by (repeat' (first | (with_reducible exact Below.refl _ _) | (with_reducible assumption) | (with_reducible refine Below.drew ?_) | (with_reducible refine below_drewN ?_ _) | ((with_reducible refine Below.alloc ?_ ?_ _); rotate_left; focus (go_size; done)) | ((with_reducible refine Below.setCell ?_ ?_ _); rotate_left; focus (go_size; done)) | ((with_reducible refine Below.trans ?_ (Below.mono (by with_reducible assumption) ?_)); rotate_left; focus (go_size; done)))))))).mono ?_
  rintro _ w2 ⟨rfl, hb2⟩; have hb2s := hb2.size; (try simp only [World.size_alloc, World.size_setCell, World.size_drew, World.heap_drewN] at hb2s); obtain ⟨hb2c, hb2f⟩ := bcell hb2; (try have : w.heap.size < w2.heap.size := by omega); (try have : w.heap.size + 1 < w2.heap.size := by omega); (try have : w.heap.size + 1 + 1 < w2.heap.size := by omega); (try have : w.heap.size + 1 + 1 + 1 < w2.heap.size := by omega)
  go_wp2_with fail
  go_ret
  exact ⟨rfl, by (repeat' (first | (with_reducible exact Below.refl _ _) | (with_reducible assumption) | (with_reducible refine Below.drew ?_) | (with_reducible refine below_drewN ?_ _) | ((with_reducible refine Below.alloc ?_ ?_ _); rotate_left; focus (go_size; done)) | ((with_reducible refine Below.setCell ?_ ?_ _); rotate_left; focus (go_size; done)) | ((with_reducible refine Below.trans ?_ (Below.mono (by with_reducible assumption) ?_)); rotate_left; focus (go_size; done))))⟩
theorem dg_nd {w : World} {v : Value} {n : Nat} (h : Dg w v n) : ∃ (A : Option Addr) (k c : Nat), v = .slice A k c ∧ IsNd n (max k 1) ∧ k ≤ c := by
  obtain ⟨xs, ⟨A, c, rfl, hc, hs⟩, hd⟩ := h
  exact ⟨A, xs.length, c, rfl, nd_of_dg hd, hc⟩
set_option maxHeartbeats 1000000 in
theorem docdigits_any (N L : Nat) (hN : N < 2 ^ 128) (hL : IsNd N L) (w : World) : Calls Try.prog 34 #[.agg #[.int .u64 (wd N 1), .int .u64 (wd N 0)]] w fun e w' => e = .returned (.int .i64 L) ∧ Below w.heap.size w w' := by
  have HO := Lib.hid (fun W => of_any N hN W)
  have HL := Far.mk hL
  clear hN hL
  go_enter Try.func34, Try.ntmps34
  go_wp2_with fail
  refine (HO.out _).mono ?_
  rintro _ w1 ⟨v1, rfl, d1, hb1⟩; have hb1s := hb1.size; (try simp only [World.size_alloc, World.size_setCell, World.size_drew, World.heap_drewN] at hb1s); obtain ⟨hb1c, hb1f⟩ := bcell hb1; (try have : w.heap.size < w1.heap.size := by omega); (try have : w.heap.size + 1 < w1.heap.size := by omega); (try have : w.heap.size + 1 + 1 < w1.heap.size := by omega); (try have : w.heap.size + 1 + 1 + 1 < w1.heap.size := by omega); have Hd1 := Lib.hid d1; clear d1
  obtain ⟨A, k, c, rfl, hk, hkc⟩ := dg_nd Hd1.out
  have he := HL.out.uniq hk
  clear hk
  go_wp2_with fail
  go_ret
  exact ⟨ret_int (by omega), by (repeat' (first | (with_reducible exact Below.refl _ _) | (with_reducible assumption) | (with_reducible refine Below.drew ?_) | (with_reducible refine below_drewN ?_ _) | ((with_reducible refine Below.alloc ?_ ?_ _); rotate_left; focus (go_size; done)) | ((with_reducible refine Below.setCell ?_ ?_ _); rotate_left; focus (go_size; done)) | ((with_reducible refine Below.trans ?_ (Below.mono (by with_reducible assumption) ?_)); rotate_left; focus (go_size; done))))⟩
end Go.Proofs.Ytnjiibeomailhaa
