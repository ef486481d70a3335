/- The reference's difference, walked. -/
import Derived.Test.YthkgjodidkpaeaaRg
set_option linter.unusedSimpArgs false
set_option linter.unusedVariables false
namespace Go.Proofs.Ythkgjodidkpaeaa
open Go.RowKit

theorem empty_own (w : World) : (w.alloc (.cells #[] 3)).ownsRow w.heap.size 3 1 (.slice (some ⟨w.heap.size, 0, none⟩) 0 0) ([] : List Int).length (([] : List Int).map (Value.int .i64)) :=
  World.ownsRow_made w #[] 0 (Nat.le_refl _) (by unfold maxLen; omega) (by simp)
/-- the digits of n, in memory of its own -/
def RetNew (n : Nat) (w : World) (e : Ending) (w' : World) : Prop := ∃ v, e = .returned v ∧ New w.heap.size v ∧ Dg w' v n ∧ Below w.heap.size w w'
set_option maxHeartbeats 4000000 in
theorem rless_new (N M : Nat) (hle : M ≤ N) (u v : Value) (w : World) (hu : Dg w u N) (hv : Dg w v M) (hN : Small N) (hM : Small M) :
    Calls Try.prog 83 #[u, v] w (RetNew (N - M) w) := by
  obtain ⟨xs, ⟨A, c, rfl, hc, hs⟩, hd⟩ := hu
  obtain ⟨ys, ⟨B, d, rfl, hc2, hs2⟩, hd2⟩ := hv
  have hlx := pow_big hN hd
  have hly := len_mono hd hd2 hle
  have HX := Lib.hid hd
  have HY := Lib.hid hd2
  have HS := Lib.hid hs
  have HT := Lib.hid hs2
  have HLE := Lib.hid hle
  clear hd hd2 hs hs2 hN hM hle
  go_enter Try.func83, Try.ntmps83
  go_wp2_with (at_builtin; refine wpList_join rfl (.tmp 8) (.tmp 9) rfl w.heap.size (.slice (some ⟨w.heap.size, 0, none⟩) 0 0) [] rfl (empty_own w) A c xs rfl ?hs ?hl ?hb ?_; rotate_left 3; intro v1 w1 hown1 hg1)
  case hs => exact HS.out.below (by (repeat' (first | (with_reducible exact Below.refl _ _) | (with_reducible assumption) | (with_reducible refine Below.drew ?_) | (with_reducible refine below_drewN ?_ _) | ((with_reducible refine Below.alloc ?_ ?_ _); rotate_left; focus (go_size; done)) | ((with_reducible refine Below.setCell ?_ ?_ _); rotate_left; focus (go_size; done)) | ((with_reducible refine Below.trans ?_ (Below.mono (by with_reducible assumption) ?_)); rotate_left; focus (go_size; done)))))
  case hl => simp; omega
  case hb => go_size
  have hbel1 : Below w.heap.size w w1 := below_push ((Below.refl _ _).alloc (Nat.le_refl _) _) (empty_own w) hg1 (by go_size)
  clear hg1
  rw [List.nil_append] at hown1
  by_cases hx : xs = []
  · subst hx
    have hy : ys = [] := List.length_eq_zero_iff.1 (by simpa using hly)
    subst hy
    have h1 := HX.out.zero_iff.1 rfl
    have hnew := New.own hown1
    have hsl := IsSl.of_own hown1
    obtain ⟨A1, c1, rfl, hc1, hs1⟩ := hsl
    have HNW := Lib.hid hnew
    clear hnew
    have HS1 := Lib.hid hs1
    refine wp_loop_rounds 1 ?_
    rw [rounds_succ]
    go_wp2_with fail
    refine wp_loop_rounds 1 ?_
    rw [rounds_succ]
    go_wp2_with fail
    refine (cut_at [] A1 c1 _ hc1 HS1.out Digs.nil (by simp)).mono ?_
    rintro _ w2 ⟨k2, c2, rfl, hdg, hb2⟩
    have HD := Lib.hid hdg
    have hbs := hbel1.size
    clear hdg
    go_wp2_with fail
    go_ret
    refine ⟨_, rfl, HNW.out.same _ _, ?_, by (repeat' (first | (with_reducible exact Below.refl _ _) | (with_reducible assumption) | (with_reducible refine Below.drew ?_) | (with_reducible refine below_drewN ?_ _) | ((with_reducible refine Below.alloc ?_ ?_ _); rotate_left; focus (go_size; done)) | ((with_reducible refine Below.setCell ?_ ?_ _); rotate_left; focus (go_size; done)) | ((with_reducible refine Below.trans ?_ (Below.mono (by with_reducible assumption) ?_)); rotate_left; focus (go_size; done))))⟩
    have e : N - M = (dval []).toNat := by rw [h1, Nat.zero_sub]; rfl
    rw [e]
    exact HD.out
  · obtain ⟨g, cap, rest, rfl, hg, hbk, hcap⟩ := own_bk hown1 hx
    have HB := Lib.hid hbk
    have hglt := hbk.lt
    have hpos : 0 < xs.length := List.length_pos_iff.2 hx
    clear hown1 hbk hx
    go_loopg [6] ys.length (fun k i wr => ∃ (n : Nat) (zs : List Int), k + n = ys.length ∧ i = .int .i64 n ∧ zs.length = xs.length ∧ Bk wr g 3 (zs.map (Value.int .i64) ++ rest) ∧
      (∀ j, -9 ≤ zs.getD j 0 ∧ zs.getD j 0 ≤ 9) ∧ zs.drop n = xs.drop n ∧ dval zs = dval xs - dval (ys.take n) ∧ w1.heap.size ≤ wr.heap.size ∧ Below w.heap.size w wr)
    case atStart =>
      refine ⟨0, xs, by omega, rfl, rfl, HB.out, fun j => ?_, rfl, by simp [dval], Nat.le_refl _, hbel1⟩
      have := HX.out.get j
      omega
    case round =>
      obtain ⟨n, zs, hk, rfl, hzl, hbk, hbd, hdr, hval, hsz, hbel⟩ := hrel
      have HK := Lib.hid hk
      have HZ := Lib.hid hzl
      have HB2 := Lib.hid hbk
      have HBD := Lib.hid hbd
      have HDR := Lib.hid hdr
      have HV := Lib.hid hval
      have hn : n ≤ ys.length := by omega
      clear hk hzl hbk hbd hdr hval
      by_cases hlt : n < ys.length
      · obtain ⟨g2, o2, rfl, hg2, hcell⟩ := HT.out.at_ hlt
        have hcell2 := (hbel.cell (p := ⟨g2, o2 + n, none⟩) hg2).trans hcell
        have hnz : n < zs.length := by have := HZ.out; omega
        have hcz := bk_at HB2.out hnz
        have hfz := HB2.out.frozen n
        have hzx : zs.getD n 0 = xs.getD n 0 := by
          have e := HDR.out
          rw [List.drop_eq_getElem_cons hnz, List.drop_eq_getElem_cons (l := xs) (by omega)] at e
          injection e with e _
          rw [getD_lt _ _ hnz, getD_lt _ _ (by omega), e]
        obtain ⟨p, hp⟩ : ∃ p, p = zs.getD n 0 := ⟨_, rfl⟩
        obtain ⟨q, hq⟩ : ∃ q, q = ys.getD n 0 := ⟨_, rfl⟩
        have hpb := HX.out.get n
        have hqb := HY.out.get n
        rw [← hzx, ← hp] at hpb
        rw [← hq] at hqb
        rw [← hp] at hcz
        rw [← hq] at hcell2
        obtain ⟨p0, p9⟩ := hpb
        obtain ⟨q0, q9⟩ := hqb
        have HP := Lib.hid hp
        have HQ := Lib.hid hq
        have n0 : (0 : Int) ≤ (n : Int) := by omega
        have n1 : (n : Int) < (xs.length : Int) := by omega
        have n2 : (n : Int) < (ys.length : Int) := by omega
        clear hp hq hcell hzx hnz
        go_wp2_with fail
        go_region
        go_wp2_with fail
        go_roundg (gk - 1)
        case measure => have := HK.out; omega
        case rel =>
          have hnz : n < zs.length := by have := HZ.out; omega
          refine ⟨n + 1, zs.set n (p - q), by have := HK.out; omega, by go_num, by rw [List.length_set]; exact HZ.out, (bk_set HB2.out hnz _).drew, ?_, ?_, ?_, by go_size, by (repeat' (first | (with_reducible exact Below.refl _ _) | (with_reducible assumption) | (with_reducible refine Below.drew ?_) | (with_reducible refine below_drewN ?_ _) | ((with_reducible refine Below.alloc ?_ ?_ _); rotate_left; focus (go_size; done)) | ((with_reducible refine Below.setCell ?_ ?_ _); rotate_left; focus (go_size; done)) | ((with_reducible refine Below.trans ?_ (Below.mono (by with_reducible assumption) ?_)); rotate_left; focus (go_size; done))))⟩
          · intro j
            rw [getD_set _ _ _ _ hnz]
            split
            · omega
            · exact HBD.out j
          · rw [List.drop_set_of_lt (by omega)]
            have e := HDR.out
            rw [List.drop_eq_getElem_cons hnz, List.drop_eq_getElem_cons (l := xs) (by have := HZ.out; omega)] at e
            injection e
          · rw [dval_set _ _ _ hnz, dval_take_any, ← HP.out, ← HQ.out, HV.out]
            have e : (10 : Int) ^ n * (p - q - p) = - (10 ^ n * q) := by rw [show p - q - p = -q by omega, Int.mul_neg]
            omega
      · obtain rfl : n = ys.length := by omega
        go_wp2_with fail
        obtain ⟨wo, hwo⟩ : ∃ wo : World, wo = wr := ⟨_, rfl⟩
        go_loopg [7] (xs.length - 1) (fun k i wr => ∃ (n : Nat) (zs : List Int), k + n = xs.length - 1 ∧ i = .int .i64 n ∧ zs.length = xs.length ∧ Bk wr g 3 (zs.map (Value.int .i64) ++ rest) ∧
          (∀ j, zs.getD j 0 ≤ 9) ∧ (∀ j, j < n → 0 ≤ zs.getD j 0) ∧ -10 ≤ zs.getD n 0 ∧ (∀ j, n < j → -9 ≤ zs.getD j 0) ∧ dval zs = (N : Int) - M ∧ w1.heap.size ≤ wr.heap.size ∧ Below w.heap.size w wr)
        case atStart =>
          refine ⟨0, zs, by omega, rfl, HZ.out, HB2.out, fun j => (HBD.out j).2, fun j hj => absurd hj (by omega), by have := HBD.out 0; omega, fun j _ => (HBD.out j).1, ?_, hsz, hbel⟩
          have := HV.out
          rw [List.take_length, HX.out.2.2, HY.out.2.2] at this
          exact this
        case round =>
          obtain ⟨n, zs, hk, rfl, hzl, hbk, h9, h0, hm10, hm9, hval, hsz, hbel⟩ := hrel
          have HK := Lib.hid hk
          have HZ := Lib.hid hzl
          have HB2 := Lib.hid hbk
          have H9 := Lib.hid h9
          have H0 := Lib.hid h0
          have HM9 := Lib.hid hm9
          have HV := Lib.hid hval
          have hn : n ≤ xs.length - 1 := by omega
          clear hk hzl hbk h9 h0 hm9 hval
          by_cases hlt : n + 1 < xs.length
          · have hnz : n < zs.length := by have := HZ.out; omega
            have hnz2 : n + 1 < zs.length := by have := HZ.out; omega
            have hcz := bk_at HB2.out hnz
            have hcz2 := bk_at HB2.out hnz2
            have hfz := HB2.out.frozen n
            have hfz2 := HB2.out.frozen (n + 1)
            obtain ⟨p, hp⟩ : ∃ p, p = zs.getD n 0 := ⟨_, rfl⟩
            obtain ⟨q, hq⟩ : ∃ q, q = zs.getD (n + 1) 0 := ⟨_, rfl⟩
            have p9 := H9.out n
            have q9 := H9.out (n + 1)
            have qm := HM9.out (n + 1) (by omega)
            rw [← hp] at hcz p9 hm10
            rw [← hq] at hcz2 q9 qm
            have HP := Lib.hid hp
            have HQ := Lib.hid hq
            have n0 : (0 : Int) ≤ (n : Int) := by omega
            have n1 : (n : Int) < (xs.length : Int) := by omega
            have n2 : (n : Int) + 1 < (xs.length : Int) := by omega
            clear hp hq hnz hnz2
            by_cases hneg : p < 0
            · go_wp2_with fail
              go_roundg (gk - 1)
              case measure => have := HK.out; omega
              case rel =>
                have hnz : n < zs.length := by have := HZ.out; omega
                have hnz2 : n + 1 < zs.length := by have := HZ.out; omega
                have hnz3 : n + 1 < (zs.set n (p + 10)).length := by rw [List.length_set]; exact hnz2
                refine ⟨n + 1, (zs.set n (p + 10)).set (n + 1) (q - 1), by have := HK.out; omega, by go_num, by rw [List.length_set, List.length_set]; exact HZ.out, bk_set (bk_set HB2.out hnz _) hnz3 _, ?_, ?_, ?_, ?_, ?_, by go_size, by (repeat' (first | (with_reducible exact Below.refl _ _) | (with_reducible assumption) | (with_reducible refine Below.drew ?_) | (with_reducible refine below_drewN ?_ _) | ((with_reducible refine Below.alloc ?_ ?_ _); rotate_left; focus (go_size; done)) | ((with_reducible refine Below.setCell ?_ ?_ _); rotate_left; focus (go_size; done)) | ((with_reducible refine Below.trans ?_ (Below.mono (by with_reducible assumption) ?_)); rotate_left; focus (go_size; done))))⟩
                · intro j
                  rw [getD_set _ _ _ _ hnz3, getD_set _ _ _ _ hnz]
                  split
                  · omega
                  · split
                    · omega
                    · exact H9.out j
                · intro j hj
                  rw [getD_set _ _ _ _ hnz3, getD_set _ _ _ _ hnz, if_neg (by omega)]
                  split
                  · omega
                  · exact H0.out j (by omega)
                · rw [getD_set _ _ _ _ hnz3, if_pos rfl]; omega
                · intro j hj
                  rw [getD_set _ _ _ _ hnz3, getD_set _ _ _ _ hnz, if_neg (by omega), if_neg (by omega)]
                  exact HM9.out j (by omega)
                · rw [dval_set _ _ _ hnz3, dval_set _ _ _ hnz, getD_set _ _ _ _ hnz, if_neg (by omega), ← HP.out, ← HQ.out, HV.out, Int.pow_succ]
                  have e1 : (10 : Int) ^ n * (p + 10 - p) = 10 ^ n * 10 := by rw [show p + 10 - p = 10 by omega]
                  have e2 : (10 : Int) ^ n * 10 * (q - 1 - q) = - (10 ^ n * 10) := by rw [show q - 1 - q = -1 by omega, Int.mul_neg, Int.mul_one]
                  omega
            · go_wp2_with fail
              go_roundg (gk - 1)
              case measure => have := HK.out; omega
              case rel =>
                refine ⟨n + 1, zs, by have := HK.out; omega, by go_num, HZ.out, HB2.out, H9.out, ?_, by rw [← HQ.out]; omega, fun j hj => HM9.out j (by omega), HV.out, hsz, hbel⟩
                intro j hj
                by_cases hj2 : j = n
                · rw [hj2, ← HP.out]; omega
                · exact H0.out j (by omega)
          · have hn2 : n = xs.length - 1 := by omega
            have hle := HLE.out
            have hdig : Digs zs := digs_end zs n (by have := HZ.out; omega) H0.out H9.out (by rw [HV.out]; omega)
            have hnn : ¬ (n : Int) + 1 < (xs.length : Int) := by omega
            have HD := Lib.hid hdig
            clear hdig hn2 hle
            go_wp2_with fail
            refine (cut_is zs (some ⟨g, 0, none⟩) _ _ _ (IsSl.of_bk2 HB2.out HZ.out hcap) HD.out (by have := HZ.out; omega)).mono ?_
            rintro _ w2 ⟨k2, c2, rfl, hdg, hb2⟩
            have HDG := Lib.hid hdg
            clear hdg
            go_wp2_with fail
            go_ret
            refine ⟨_, rfl, New.at_ hg _ _ _ _, ?_, by (repeat' (first | (with_reducible exact Below.refl _ _) | (with_reducible assumption) | (with_reducible refine Below.drew ?_) | (with_reducible refine below_drewN ?_ _) | ((with_reducible refine Below.alloc ?_ ?_ _); rotate_left; focus (go_size; done)) | ((with_reducible refine Below.setCell ?_ ?_ _); rotate_left; focus (go_size; done)) | ((with_reducible refine Below.trans ?_ (Below.mono (by with_reducible assumption) ?_)); rotate_left; focus (go_size; done))))⟩
            have e : N - M = (dval zs).toNat := by rw [HV.out]; omega
            rw [e]
            exact HDG.out
theorem rless_any (N M : Nat) (hle : M ≤ N) (u v : Value) (w : World) (hu : Dg w u N) (hv : Dg w v M) (hN : Small N) (hM : Small M) :
    Calls Try.prog 83 #[u, v] w (RetDg (N - M) w) :=
  (rless_new N M hle u v w hu hv hN hM).mono fun e w' ⟨v, he, _, hdg, hb⟩ => ⟨v, he, hdg, hb⟩
end Go.Proofs.Ythkgjodidkpaeaa
