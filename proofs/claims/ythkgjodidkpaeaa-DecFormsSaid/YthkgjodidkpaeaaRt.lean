/- The reference: the product of lists of digits. -/
import Derived.Test.YthkgjodidkpaeaaRj
import Derived.RegionTactic
import Derived.BigRegion
set_option linter.unusedSimpArgs false
set_option linter.unusedVariables false
namespace Go.Proofs.Ythkgjodidkpaeaa
open Go.RowKit

theorem mul_bd {d e : Int} (d0 : 0 ≤ d) (d9 : d ≤ 9) (e0 : 0 ≤ e) (e9 : e ≤ 9) : 0 ≤ d * e ∧ d * e ≤ 81 :=
  ⟨Int.mul_nonneg d0 e0, by have h := Int.mul_le_mul d9 e9 e0 (by omega : (0 : Int) ≤ 9); omega⟩
/-- where no place is below nought, the top place times its weight is not above the value -/
theorem dval_top_le (zs : List Int) (L : Nat) (hL : zs.length = L + 1) (h0 : ∀ j, 0 ≤ zs.getD j 0) : 10 ^ L * zs.getD L 0 ≤ dval zs := by
  have a := dval_append (zs.take L) (zs.drop L)
  rw [List.take_append_drop, List.length_take, Nat.min_eq_left (by omega), dval_drop zs L (by omega), List.drop_of_length_le (by omega)] at a
  have hb : 0 ≤ dval (zs.take L) := by
    have key : ∀ l : List Int, (∀ d ∈ l, 0 ≤ d) → 0 ≤ dval l := by
      intro l
      induction l with
      | nil => intro _; simp [dval]
      | cons d r ih =>
        intro h
        have h1 := h d List.mem_cons_self
        have h2 := ih fun x hx => h x (List.mem_cons_of_mem _ hx)
        simp only [dval]; omega
    refine key _ fun d hd => ?_
    obtain ⟨i, hi, rfl⟩ := List.getElem_of_mem hd
    rw [List.length_take] at hi
    rw [List.getElem_take, ← getD_lt _ _ (by omega)]
    exact h0 i
  rw [a]
  show _ ≤ dval (zs.take L) + 10 ^ L * (zs.getD L 0 + 10 * dval [])
  simp only [dval]
  have e : zs.getD L 0 + 10 * 0 = zs.getD L 0 := by omega
  rw [e]; omega
theorem digs_of (zs : List Int) (h : ∀ j, j < zs.length → 0 ≤ zs.getD j 0 ∧ zs.getD j 0 ≤ 9) : Digs zs := by
  intro d hd
  obtain ⟨i, hi, rfl⟩ := List.getElem_of_mem hd
  rw [← getD_lt _ _ hi]
  exact h i hi
theorem IsDg.getD_zero {l : List Int} {n : Nat} (h : IsDg l n) (j : Nat) : 0 ≤ l.getD j 0 ∧ l.getD j 0 ≤ 9 := h.get j
theorem rep_getD (n j : Nat) : (List.replicate n (0 : Int)).getD j 0 = 0 := by
  rw [List.getD_eq_getElem?_getD, List.getElem?_replicate]
  split <;> rfl
set_option maxHeartbeats 4000000 in
theorem times_any (N M : Nat) (u v : Value) (w : World) (hu : Dg w u N) (hv : Dg w v M) (hN : Small N) (hM : Small M) :
    Calls Try.prog 76 #[u, v] w (RetDg (N * M) w) := by
  obtain ⟨xs, ⟨A, c, rfl, hc, hs⟩, hd⟩ := hu
  obtain ⟨ys, ⟨B, d, rfl, hc2, hs2⟩, hd2⟩ := hv
  have hlx := pow_big hN hd
  have hly := pow_big hM hd2
  have HX := Lib.hid hd
  have HY := Lib.hid hd2
  have HS := Lib.hid hs
  have HT := Lib.hid hs2
  obtain ⟨lx, ex⟩ : ∃ n, n = xs.length := ⟨_, rfl⟩
  obtain ⟨ly, ey⟩ : ∃ n, n = ys.length := ⟨_, rfl⟩
  rw [← ex] at hc hlx ⊢
  rw [← ey] at hc2 hly ⊢
  have hmk := fun W => make_ints (lx + ly + 1) (by omega) W
  have e1 : ((lx + ly + 1 : Nat) : Int) = (lx : Int) + (ly : Int) + 1 := by omega
  rw [e1] at hmk
  have EX := Lib.hid ex
  have EY := Lib.hid ey
  clear hd hd2 hs hs2 hN hM ex ey e1
  go_enter Try.func76, Try.ntmps76
  go_wp2_with fail
  clear hmk
  go_loopg [6] lx (fun k i wr => ∃ (t : Nat) (zs : List Int), k + t = lx ∧ i = .int .i64 t ∧ zs.length = lx + ly + 1 ∧ Bk wr w.heap.size 3 (zs.map (Value.int .i64)) ∧ (∀ j, 0 ≤ zs.getD j 0 ∧ zs.getD j 0 ≤ 81 * t) ∧
    dval zs = dval (xs.take t) * dval ys ∧ w.heap.size < wr.heap.size ∧ Below w.heap.size w wr)
  case atStart =>
    refine ⟨0, List.replicate (lx + ly + 1) 0, by omega, rfl, by simp, Bk.new_ rfl, fun j => by rw [rep_getD]; omega, ?_, by go_size, by (repeat' (first | (with_reducible exact Below.refl _ _) | (with_reducible assumption) | (with_reducible refine Below.drew ?_) | (with_reducible refine below_drewN ?_ _) | ((with_reducible refine Below.alloc ?_ ?_ _); rotate_left; focus (go_size; done)) | ((with_reducible refine Below.setCell ?_ ?_ _); rotate_left; focus (go_size; done)) | ((with_reducible refine Below.trans ?_ (Below.mono (by with_reducible assumption) ?_)); rotate_left; focus (go_size; done))))⟩
    rw [dval_replicate]; simp [dval]
  case round =>
    obtain ⟨t, zs, hk, rfl, hzl, hbk, hbd, hval, hsz, hbel⟩ := hrel
    have HK := Lib.hid hk
    have HZ := Lib.hid hzl
    have HB := Lib.hid hbk
    have HBD := Lib.hid hbd
    have HV := Lib.hid hval
    have ht : t ≤ lx := by omega
    clear hk hzl hbk hbd hval
    by_cases hlt : t < lx
    · obtain ⟨g, o, rfl, hg, hcell⟩ := HS.out.at_ (k := t) (by have := EX.out; omega)
      have hgx := HX.out.get t
      obtain ⟨p, hp⟩ : ∃ p, p = xs.getD t 0 := ⟨_, rfl⟩
      rw [← hp] at hcell hgx
      obtain ⟨p0, p9⟩ := hgx
      have HP := Lib.hid hp
      clear hp
      go_wp2_with fail
      obtain ⟨wo, hwo⟩ : ∃ wo : World, wo = wr := ⟨_, rfl⟩
      clear hwo
      obtain ⟨go, hgo⟩ : ∃ go : Nat, go = gk := ⟨_, rfl⟩
      rw [← hgo] at HK
      have HGO := Lib.hid hgo
      clear hgo
      go_loopg [7] ly (fun k i wr => ∃ (s : Nat) (zs : List Int), k + s = ly ∧ i = .int .i64 s ∧ zs.length = lx + ly + 1 ∧ Bk wr w.heap.size 3 (zs.map (Value.int .i64)) ∧ (∀ j, 0 ≤ zs.getD j 0 ∧ zs.getD j 0 ≤ 81 * t + if j < t + s then 81 else 0) ∧
        dval zs = dval (xs.take t) * dval ys + 10 ^ t * (p * dval (ys.take s)) ∧ w.heap.size < wr.heap.size ∧ Below w.heap.size w wr)
      case atStart =>
        refine ⟨0, zs, by omega, rfl, HZ.out, HB.out, fun j => ?_, ?_, hsz, hbel⟩
        · have := HBD.out j
          split <;> omega
        · rw [HV.out]; simp [dval]
      case round =>
        obtain ⟨s, zs2, hk2, rfl, hzl2, hbk2, hbd2, hval2, hsz2, hbel2⟩ := hrel
        have HK2 := Lib.hid hk2
        have HZ2 := Lib.hid hzl2
        have HB2 := Lib.hid hbk2
        have HBD2 := Lib.hid hbd2
        have HV2 := Lib.hid hval2
        have hs' : s ≤ ly := by omega
        clear hk2 hzl2 hbk2 hbd2 hval2
        by_cases hls : s < ly
        · obtain ⟨g2, o2, rfl, hg2, hcell2⟩ := HT.out.at_ (k := s) (by have := EY.out; omega)
          have hgy := HY.out.get s
          obtain ⟨q, hq⟩ : ∃ q, q = ys.getD s 0 := ⟨_, rfl⟩
          rw [← hq] at hcell2 hgy
          obtain ⟨q0, q9⟩ := hgy
          have HQ := Lib.hid hq
          have ca := (hbel2.cell (p := ⟨g, o + t, none⟩) hg).trans hcell
          have cb := (hbel2.cell (p := ⟨g2, o2 + s, none⟩) hg2).trans hcell2
          have hzi : t + s < zs2.length := by have := HZ2.out; omega
          have cz : wr.cell? ⟨w.heap.size, t + s, none⟩ = some (.int .i64 (zs2.getD (t + s) 0)) := by
            refine HB2.out.cell _ ?_
            rw [List.getElem?_map, List.getElem?_eq_getElem hzi, getD_lt _ _ hzi]; rfl
          have fz := HB2.out.frozen (t + s)
          have hzb := HBD2.out (t + s)
          rw [if_neg (by omega)] at hzb
          obtain ⟨z, hz⟩ : ∃ z, z = zs2.getD (t + s) 0 := ⟨_, rfl⟩
          rw [← hz] at cz hzb
          obtain ⟨z0, z9⟩ := hzb
          obtain ⟨m0, m9⟩ := mul_bd p0 p9 q0 q9
          have HZZ := Lib.hid hz
          have HZI := Lib.hid hzi
          have i0 : (t : Int) + (s : Int) < (lx : Int) + (ly : Int) + 1 := by omega
          clear hq hz hcell2 hzi
          go_wp2_with fail
          go_region
          go_wp2_with fail
          go_roundg (gk - 1)
          case measure => have := HK2.out; omega
          case rel =>
            have hzi := HZI.out
            refine ⟨s + 1, zs2.set (t + s) (z + p * q), by have := HK2.out; omega, by go_num, by rw [List.length_set]; exact HZ2.out, ?_, ?_, ?_, by go_size, by (repeat' (first | (with_reducible exact Below.refl _ _) | (with_reducible assumption) | (with_reducible refine Below.drew ?_) | (with_reducible refine below_drewN ?_ _) | ((with_reducible refine Below.alloc ?_ ?_ _); rotate_left; focus (go_size; done)) | ((with_reducible refine Below.setCell ?_ ?_ _); rotate_left; focus (go_size; done)) | ((with_reducible refine Below.trans ?_ (Below.mono (by with_reducible assumption) ?_)); rotate_left; focus (go_size; done))))⟩
            · have h6 := (HB2.out.set_ (t + s) (.int .i64 (z + p * q))).drew
              rw [← List.map_set] at h6
              exact h6
            · intro j
              rw [getD_set _ _ _ _ hzi]
              by_cases hj : j = t + s
              · rw [if_pos hj, if_pos (by omega)]; omega
              · rw [if_neg hj]
                have := HBD2.out j
                by_cases hj2 : j < t + s
                · rw [if_pos hj2] at this; rw [if_pos (by omega)]; exact this
                · rw [if_neg hj2] at this; rw [if_neg (by omega)]; exact this
            · rw [dval_set _ _ _ hzi, ← HZZ.out, HV2.out, dval_take_succ ys s (by have := EY.out; omega), ← HQ.out, Int.pow_add]
              have e : z + p * q - z = p * q := by omega
              rw [e]
              generalize dval (ys.take s) = Y
              generalize dval (xs.take t) * dval ys = XY
              grind
        · obtain rfl : s = ly := by omega
          go_wp2_with fail
          go_roundg (go - 1)
          case measure => have := HK.out; have := HGO.out; omega
          case rel =>
            refine ⟨t + 1, zs2, by have := HK.out; omega, by go_num, HZ2.out, HB2.out, fun j => ?_, ?_, hsz2, hbel2⟩
            · have := HBD2.out j
              split at this <;> omega
            · rw [HV2.out, dval_take_succ xs t (by have := EX.out; omega), ← HP.out, EY.out, List.take_length, Int.add_mul, Int.mul_assoc]
    · obtain rfl : t = lx := by omega
      have hval : dval zs = ((N * M : Nat) : Int) := by
        rw [HV.out, EX.out, List.take_length, HX.out.2.2, HY.out.2.2, Int.natCast_mul]
      have HV := Far.mk hval
      clear hval
      go_wp2_with fail
      obtain ⟨wo, hwo⟩ : ∃ wo : World, wo = wr := ⟨_, rfl⟩
      clear hwo
      go_loopg [8] (t + ly) (fun k i wr => ∃ (s : Nat) (zs : List Int), k + s = t + ly ∧ i = .int .i64 s ∧ zs.length = t + ly + 1 ∧ Bk wr w.heap.size 3 (zs.map (Value.int .i64)) ∧ (∀ j, 0 ≤ zs.getD j 0) ∧ (∀ j, j < s → zs.getD j 0 ≤ 9) ∧ zs.getD s 0 ≤ 100000 ∧
        (∀ j, s < j → zs.getD j 0 ≤ 81000) ∧ dval zs = ((N * M : Nat) : Int) ∧ w.heap.size < wr.heap.size ∧ Below w.heap.size w wr)
      case atStart =>
        refine ⟨0, zs, by omega, rfl, HZ.out, HB.out, fun j => (HBD.out j).1, fun j hj => absurd hj (by omega), ?_, fun j _ => ?_, HV.out, hsz, hbel⟩
        · have := HBD.out 0; omega
        · have := HBD.out j; omega
      case round =>
        obtain ⟨s, zs2, hk2, rfl, hzl2, hbk2, hnn, h9, hs9, hgt, hval2, hsz2, hbel2⟩ := hrel
        have HK2 := Lib.hid hk2
        have HZ2 := Lib.hid hzl2
        have HB2 := Lib.hid hbk2
        have HNN := Lib.hid hnn
        have H9 := Lib.hid h9
        have HGT := Lib.hid hgt
        have HV2 := Far.mk hval2
        have hs' : s ≤ t + ly := by omega
        clear hk2 hzl2 hbk2 hnn h9 hgt hval2
        by_cases hls : s < t + ly
        · have hzi : s < zs2.length := by have := HZ2.out; omega
          have hzi2 : s + 1 < zs2.length := by have := HZ2.out; omega
          have cz : wr.cell? ⟨w.heap.size, s, none⟩ = some (.int .i64 (zs2.getD s 0)) := by
            refine HB2.out.cell _ ?_
            rw [List.getElem?_map, List.getElem?_eq_getElem hzi, getD_lt _ _ hzi]; rfl
          have cz2 : wr.cell? ⟨w.heap.size, s + 1, none⟩ = some (.int .i64 (zs2.getD (s + 1) 0)) := by
            refine HB2.out.cell _ ?_
            rw [List.getElem?_map, List.getElem?_eq_getElem hzi2, getD_lt _ _ hzi2]; rfl
          have fz := HB2.out.frozen s
          have fz2 := HB2.out.frozen (s + 1)
          have a0 := HNN.out s
          have b0 := HNN.out (s + 1)
          have b9 := HGT.out (s + 1) (by omega)
          obtain ⟨a, ha⟩ : ∃ z, z = zs2.getD s 0 := ⟨_, rfl⟩
          obtain ⟨b, hb⟩ : ∃ z, z = zs2.getD (s + 1) 0 := ⟨_, rfl⟩
          rw [← ha] at cz a0 hs9
          rw [← hb] at cz2 b0 b9
          have HA := Lib.hid ha
          have HBB := Lib.hid hb
          have HZI := Lib.hid hzi
          have HZI2 := Lib.hid hzi2
          have i0 : (s : Int) + 1 < (t : Int) + (ly : Int) + 1 := by omega
          clear ha hb hzi hzi2
          go_wp2_with fail
          go_region
          go_wp2_with fail
          go_roundg (gk - 1)
          case measure => have := HK2.out; omega
          case rel =>
            have hzi := HZI.out
            have hzi2 := HZI2.out
            have hzi3 : s < (zs2.set (s + 1) (b + a / 10)).length := by rw [List.length_set]; exact hzi
            refine ⟨s + 1, (zs2.set (s + 1) (b + a / 10)).set s (a % 10), by have := HK2.out; omega, by go_num, by rw [List.length_set, List.length_set]; exact HZ2.out, ?_, ?_, ?_, ?_, ?_, ?_, by go_size, by (repeat' (first | (with_reducible exact Below.refl _ _) | (with_reducible assumption) | (with_reducible refine Below.drew ?_) | (with_reducible refine below_drewN ?_ _) | ((with_reducible refine Below.alloc ?_ ?_ _); rotate_left; focus (go_size; done)) | ((with_reducible refine Below.setCell ?_ ?_ _); rotate_left; focus (go_size; done)) | ((with_reducible refine Below.trans ?_ (Below.mono (by with_reducible assumption) ?_)); rotate_left; focus (go_size; done))))⟩
            · have h6 := ((HB2.out.set_ (s + 1) (.int .i64 (b + a / 10))).drew).set_ s (.int .i64 (a % 10))
              rw [← List.map_set, ← List.map_set] at h6
              exact h6
            · intro j
              rw [getD_set _ _ _ _ hzi3, getD_set _ _ _ _ hzi2]
              split
              · omega
              · split
                · omega
                · exact HNN.out j
            · intro j hj
              rw [getD_set _ _ _ _ hzi3, getD_set _ _ _ _ hzi2]
              split
              · omega
              · rw [if_neg (by omega)]
                exact H9.out j (by omega)
            · rw [getD_set _ _ _ _ hzi3, getD_set _ _ _ _ hzi2, if_neg (by omega), if_pos rfl]; omega
            · intro j hj
              rw [getD_set _ _ _ _ hzi3, getD_set _ _ _ _ hzi2, if_neg (by omega), if_neg (by omega)]
              exact HGT.out j (by omega)
            · rw [dval_set _ _ _ hzi3, getD_set _ _ _ _ hzi2, if_neg (by omega), dval_set _ _ _ hzi2, ← HA.out, ← HBB.out, HV2.out, Int.pow_succ]
              have e1 := carry_step (10 ^ s) a
              have e2 : (10 : Int) ^ s * 10 * (b + a / 10 - b) = 10 ^ s * 10 * (a / 10) := by congr 1; omega
              have e3 : (10 : Int) ^ s * (a % 10 - a) = 10 ^ s * (a % 10) - 10 ^ s * a := Int.mul_sub _ _ _
              rw [e2, e3]; omega
        · have hs2 : s = t + ly := by omega
          have hnn' : ¬ (s : Int) + 1 < (t : Int) + (ly : Int) + 1 := by omega
          have hdig : Digs zs2 := by
            refine digs_of zs2 fun j hj => ⟨HNN.out j, ?_⟩
            have hl := HZ2.out
            by_cases hj2 : j < s
            · exact H9.out j hj2
            · have hj3 : j = t + ly := by omega
              rw [hj3]
              have h1 := dval_top_le zs2 (t + ly) hl HNN.out
              have h2 : dval zs2 < 10 ^ (t + ly) := by
                rw [HV2.out, Int.natCast_mul, Int.pow_add]
                have a1 := (dval_bd HX.out.1)
                have b1 := (dval_bd HY.out.1)
                rw [HX.out.2.2, ← EX.out] at a1
                rw [HY.out.2.2, ← EY.out] at b1
                have c1 : (N : Int) * M ≤ 10 ^ t * M := Int.mul_le_mul_of_nonneg_right (Int.le_of_lt a1.2) b1.1
                have c2 : (10 : Int) ^ t * M < 10 ^ t * 10 ^ ly := Int.mul_lt_mul_of_pos_left b1.2 (ten_pos t)
                omega
              have h3 : zs2.getD (t + ly) 0 < 1 := by
                have h4 : (10 : Int) ^ (t + ly) * zs2.getD (t + ly) 0 < 10 ^ (t + ly) * 1 := by omega
                exact Int.lt_of_mul_lt_mul_left h4 (Int.le_of_lt (ten_pos _))
              omega
          have HD := Lib.hid hdig
          clear hdig hs2
          go_wp2_with fail
          refine (cut_any zs2 _ _ (IsSl.of_bk HB2.out HZ2.out (Nat.le_refl _)) HD.out (by rw [HZ2.out]; omega)).mono ?_
          rintro _ w2 ⟨v2, rfl, hdg, hb2⟩
          have HDG := Lib.hid hdg
          clear hdg
          go_wp2_with fail
          go_ret
          refine ⟨_, rfl, ?_, by (repeat' (first | (with_reducible exact Below.refl _ _) | (with_reducible assumption) | (with_reducible refine Below.drew ?_) | (with_reducible refine below_drewN ?_ _) | ((with_reducible refine Below.alloc ?_ ?_ _); rotate_left; focus (go_size; done)) | ((with_reducible refine Below.setCell ?_ ?_ _); rotate_left; focus (go_size; done)) | ((with_reducible refine Below.trans ?_ (Below.mono (by with_reducible assumption) ?_)); rotate_left; focus (go_size; done))))⟩
          have e : N * M = (dval zs2).toNat := by rw [HV2.out]; rfl
          rw [e]
          exact HDG.out
end Go.Proofs.Ythkgjodidkpaeaa
