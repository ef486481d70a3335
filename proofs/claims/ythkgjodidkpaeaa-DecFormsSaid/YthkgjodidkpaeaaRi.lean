/- The reference's quotient: a digit at a time, from the top. -/
import Derived.Test.YthkgjodidkpaeaaRh
set_option linter.unusedSimpArgs false
set_option linter.unusedVariables false
namespace Go.Proofs.Ythkgjodidkpaeaa
open Go.RowKit

/-- the digits n of xs lie above place k: what they are -/
theorem quo_head {xs : List Int} {N : Nat} (h : IsDg xs N) (k : Nat) (hk : k < xs.length) : N / 10 ^ k = 10 * (N / 10 ^ (k + 1)) + (xs.getD k 0).toNat := by
  have hd := dval_digit h.1 k hk
  have hg := h.get k
  rw [h.2.2] at hd
  have e : ((N / 10 ^ k % 10 : Nat) : Int) = xs.getD k 0 := by
    rw [hd, Int.natCast_emod, Int.natCast_ediv, Int.natCast_pow]; rfl
  have e2 : (xs.getD k 0).toNat = N / 10 ^ k % 10 := by rw [← e]; rfl
  rw [e2, Nat.pow_succ, ← Nat.div_div_eq_div_mul]
  omega
theorem quo_top {xs : List Int} {N : Nat} (h : IsDg xs N) : N / 10 ^ xs.length = 0 := Nat.div_eq_of_lt (h.lt_of_len (Nat.le_refl _))
/-- one digit more of the quotient -/
theorem quo_step (P M d t r : Nat) (hM : 0 < M) (hr : r < M) (h : 10 * (P % M) + d = t * M + r) : (10 * P + d) / M = 10 * (P / M) + t ∧ (10 * P + d) % M = r := by
  have e : 10 * P + d = r + M * (10 * (P / M) + t) := by
    have h1 := Nat.div_add_mod P M
    rw [Nat.mul_add, Nat.mul_comm M t, Nat.mul_left_comm]
    omega
  rw [e, Nat.add_mul_div_left _ _ hM, Nat.div_eq_of_lt hr, Nat.zero_add, Nat.add_mul_mod_self_left, Nat.mod_eq_of_lt hr]
  exact ⟨rfl, rfl⟩
theorem cons_dg {l : List Int} {n : Nat} (h : IsDg l n) (d : Int) (h0 : 0 ≤ d) (h9 : d ≤ 9) : Digs (d :: l) ∧ dval (d :: l) = ((10 * n + d.toNat : Nat) : Int) := by
  refine ⟨fun x hx => ?_, ?_⟩
  · rcases List.mem_cons.1 hx with rfl | hx
    · exact ⟨h0, h9⟩
    · exact h.1 x hx
  · simp only [dval, h.2.2]; omega
theorem below_trans_drewN {w w' : World} {n : Nat} (h : Below (w.drewN n).heap.size (w.drewN n) w') : Below w.heap.size w w' := (below_drewN (Below.refl _ w) n).trans h
theorem one_own (w : World) (d : Int) (hb : Bk w w.heap.size 3 [.int .i64 d]) : True := trivial
def RetTwo (n m : Nat) (w : World) (e : Ending) (w' : World) : Prop := ∃ u v, e = .returned (.tuple #[u, v]) ∧ Dg w' u n ∧ Dg w' v m ∧ Below w.heap.size w w'
theorem own_of_bk1 {w : World} {g B : Nat} {d : Int} (hg : B ≤ g) (h : Bk w g 3 [.int .i64 d]) : w.ownsRow B 3 1 (.slice (some ⟨g, 0, none⟩) 1 1) ([d] : List Int).length (([d] : List Int).map (Value.int .i64)) := by
  refine ⟨by simp, .inr ⟨g, 1, #[.int .i64 d], by simp, hg, h, by simp, by unfold maxLen; omega, by simp, by simp⟩⟩
set_option maxHeartbeats 4000000 in
theorem quo_any (N M : Nat) (hM : 0 < M) (u v : Value) (w : World) (hu : Dg w u N) (hv : Dg w v M) (hN : Small N) (hMs : Small M) :
    Calls Try.prog 82 #[u, v] w (RetTwo (N / M) (N % M) w) := by
  obtain ⟨xs, ⟨A, c, rfl, hc, hs⟩, hd⟩ := hu
  have hlen := pow_big hN hd
  have HD := Lib.hid hd
  have HS := Lib.hid hs
  have HV := Lib.hid hv
  have HN := Lib.hid hN
  have HM := Lib.hid hMs
  have HP := Lib.hid hM
  have hmk := fun W => make_ints xs.length (by omega) W
  clear hd hs hN hv hMs hM
  go_enter Try.func82, Try.ntmps82
  go_wp2_with fail
  clear hmk
  go_loopg [7, 8] xs.length (fun k l i wr => ∃ (ds : List Int), k ≤ xs.length ∧ i = .int .i64 ((k : Int) - 1) ∧ Dg wr l (N / 10 ^ k % M) ∧ New (w.heap.size + 1) l ∧
    Bk wr w.heap.size 3 (ds.map (Value.int .i64)) ∧ ds.length = xs.length ∧ Digs ds ∧ (∀ j, j < k → ds.getD j 0 = 0) ∧ dval (ds.drop k) = ((N / 10 ^ k / M : Nat) : Int) ∧ w.heap.size < wr.heap.size ∧ Below w.heap.size w wr)
  case atStart =>
    refine ⟨List.replicate xs.length 0, Nat.le_refl _, rfl, ⟨[], ⟨none, 0, rfl, Nat.le_refl _, fun h => absurd rfl h⟩, ?_⟩, New.nil _ _ _, Bk.new_ rfl, by simp, Digs.zeros _, ?_, ?_, by go_size, by (repeat' (first | (with_reducible exact Below.refl _ _) | (with_reducible assumption) | (with_reducible refine Below.drew ?_) | (with_reducible refine below_drewN ?_ _) | ((with_reducible refine Below.alloc ?_ ?_ _); rotate_left; focus (go_size; done)) | ((with_reducible refine Below.setCell ?_ ?_ _); rotate_left; focus (go_size; done)) | ((with_reducible refine Below.trans ?_ (Below.mono (by with_reducible assumption) ?_)); rotate_left; focus (go_size; done))))⟩
    · rw [quo_top HD.out, Nat.zero_mod]; exact IsDg.nil
    · intro j hj
      rw [getD_lt _ _ (by simpa using hj)]; simp
    · rw [List.drop_of_length_le (by simp), quo_top HD.out, Nat.zero_div]; rfl
  case round =>
    obtain ⟨ds, hk, rfl, hl, hnew, hbk, hdl, hdd, hz, hval, hsz, hbel⟩ := hrel
    have HB := Lib.hid hbk
    have HL := Lib.hid hdl
    have HDD := Lib.hid hdd
    have HZ := Lib.hid hz
    have HVL := Lib.hid hval
    have HDL := Lib.hid hl
    have HNW := Lib.hid hnew
    clear hbk hdl hdd hz hval hl hnew
    by_cases h0 : gk = 0
    · subst h0
      have hm : ¬ (0 : Int) ≤ ((0 : Nat) : Int) - 1 := by omega
      go_wp2_with fail
      refine (cut_any ds _ _ (IsSl.of_bk HB.out HL.out (Nat.le_refl _)) HDD.out (by rw [HL.out]; omega)).mono ?_
      rintro _ w2 ⟨v2, rfl, hdg, hb2⟩
      have HDG := Lib.hid hdg
      clear hdg
      go_wp2_with fail
      go_ret2
      have hv := HVL.out
      rw [List.drop_zero, Nat.pow_zero, Nat.div_one] at hv
      have e1 : (dval ds).toNat = N / M := by rw [hv]; exact Int.toNat_natCast _
      have hdg := HDG.out
      have hl := HDL.out
      rw [e1] at hdg
      rw [Nat.pow_zero, Nat.div_one] at hl
      exact ⟨v2, _, rfl, hdg, hl.below (by (repeat' (first | (with_reducible exact Below.refl _ _) | (with_reducible assumption) | (with_reducible refine Below.drew ?_) | (with_reducible refine below_drewN ?_ _) | ((with_reducible refine Below.alloc ?_ ?_ _); rotate_left; focus (go_size; done)) | ((with_reducible refine Below.setCell ?_ ?_ _); rotate_left; focus (go_size; done)) | ((with_reducible refine Below.trans ?_ (Below.mono (by with_reducible assumption) ?_)); rotate_left; focus (go_size; done))))), by (repeat' (first | (with_reducible exact Below.refl _ _) | (with_reducible assumption) | (with_reducible refine Below.drew ?_) | (with_reducible refine below_drewN ?_ _) | ((with_reducible refine Below.alloc ?_ ?_ _); rotate_left; focus (go_size; done)) | ((with_reducible refine Below.setCell ?_ ?_ _); rotate_left; focus (go_size; done)) | ((with_reducible refine Below.trans ?_ (Below.mono (by with_reducible assumption) ?_)); rotate_left; focus (go_size; done))))⟩
    · obtain ⟨m, rfl⟩ : ∃ m, gk = m + 1 := ⟨gk - 1, by omega⟩
      obtain ⟨g, o, rfl, hg, hcell⟩ := HS.out.at_ (k := m) (by omega)
      have hcell2 := (hbel.cell (p := ⟨g, o + m, none⟩) hg).trans hcell
      obtain ⟨d0, d9⟩ := HD.out.get m
      have hqh := quo_head HD.out m (by omega)
      obtain ⟨d, hd⟩ : ∃ d, d = xs.getD m 0 := ⟨_, rfl⟩
      rw [← hd] at hcell2 d0 d9 hqh
      obtain ⟨P, hP⟩ : ∃ P, P = N / 10 ^ (m + 1) := ⟨_, rfl⟩
      rw [← hP] at hqh HDL HVL
      obtain ⟨ls, ⟨A2, c2, rfl, hc2, hs2⟩, hld⟩ := HDL.out
      have hll := pow_big (HN.out.of_le (Nat.le_trans (Nat.mod_le _ _) (by rw [hP]; exact Nat.div_le_self _ _))) hld
      have HS2 := Lib.hid hs2
      have HLD := Lib.hid hld
      have HQH := Lib.hid hqh
      have HPP := Lib.hid hP
      have hp : (0 : Int) < ((m + 1 : Nat) : Int) := by omega
      have hx : ((m + 1 : Nat) : Int) - 1 = (m : Int) := by omega
      have m0 : (0 : Int) ≤ (m : Int) := by omega
      have m1 : (m : Int) < (xs.length : Int) := by omega
      clear h0 hd hcell hqh hP hs2 hld
      go_wp2_with (at_builtin; refine wpList_join rfl (.tmp 23) (.tmp 24) rfl wr.heap.size (.slice (some ⟨wr.heap.size, 0, none⟩) 1 1) [d] rfl (own_of_bk1 (Nat.le_refl _) (Bk.new_ rfl)) A2 c2 ls rfl ?hs ?hl ?hb ?_; rotate_left 3; intro v1 w1 hown1 hg1)
      case hs => exact HS2.out.below (by (repeat' (first | (with_reducible exact Below.refl _ _) | (with_reducible assumption) | (with_reducible refine Below.drew ?_) | (with_reducible refine below_drewN ?_ _) | ((with_reducible refine Below.alloc ?_ ?_ _); rotate_left; focus (go_size; done)) | ((with_reducible refine Below.setCell ?_ ?_ _); rotate_left; focus (go_size; done)) | ((with_reducible refine Below.trans ?_ (Below.mono (by with_reducible assumption) ?_)); rotate_left; focus (go_size; done)))))
      case hl => simp only [List.length_cons, List.length_nil]; omega
      case hb => go_size
      have hbel1 : Below wr.heap.size wr w1 := below_push ((Below.refl _ _).alloc (Nat.le_refl _) _) (own_of_bk1 (Nat.le_refl _) (Bk.new_ rfl)) hg1 (by go_size)
      have hnw1 := New.own hown1
      have hb1s := hbel1.size
      obtain ⟨hcd, hcv⟩ := cons_dg HLD.out d d0 d9
      have hsl := IsSl.of_own hown1
      obtain ⟨A1, c1, rfl, hc1, hs1⟩ := hsl
      have HNW1 := Lib.hid hnw1
      have HS1 := Lib.hid hs1
      have HCD := Lib.hid hcd
      have HCV := Lib.hid hcv
      clear hnw1 hs1 hcd hcv hown1 hg1
      go_wp2_with fail
      refine (cut_at ([d] ++ ls) A1 c1 _ hc1 HS1.out HCD.out (by simp only [List.length_append, List.length_cons, List.length_nil]; omega)).mono ?_
      rintro _ w2 ⟨k2, c2', rfl, hdg2, hb2⟩
      have hb2s := hb2.size
      obtain ⟨X, hX⟩ : ∃ X, X = 10 * (P % M) + d.toNat := ⟨_, rfl⟩
      have hdg2' : Dg w2 (.slice A1 k2 c2') X := by
        have e : (dval ([d] ++ ls)).toNat = X := by
          rw [show [d] ++ ls = d :: ls from rfl, HCV.out, hX]; omega
        rw [← e]; exact hdg2
      have hXM : X / M ≤ 9 := by
        have h1 := Nat.mod_lt P HP.out
        have h2 : X < M * 10 := by omega
        have := Nat.div_lt_of_lt_mul h2
        omega
      have HDG2 := Lib.hid hdg2'
      have HX := Lib.hid hX
      have hw2 : w.heap.size < w2.heap.size := by omega
      have hbel2 : Below w.heap.size w w2 := by (repeat' (first | (with_reducible exact Below.refl _ _) | (with_reducible assumption) | (with_reducible refine Below.drew ?_) | (with_reducible refine below_drewN ?_ _) | ((with_reducible refine Below.alloc ?_ ?_ _); rotate_left; focus (go_size; done)) | ((with_reducible refine Below.setCell ?_ ?_ _); rotate_left; focus (go_size; done)) | ((with_reducible refine Below.trans ?_ (Below.mono (by with_reducible assumption) ?_)); rotate_left; focus (go_size; done))))
      have hbk2 : Bk w2 w.heap.size 3 (ds.map (Value.int .i64)) := by
        have : Bk w1 w.heap.size 3 (ds.map (Value.int .i64)) := HB.out.below hbel1 hsz
        exact this.below hb2 (by omega)
      have HBK2 := Lib.hid hbk2
      clear hdg2 hdg2' hX hbk2
      have hnew2 : New (w.heap.size + 1) (.slice A1 k2 c2') := (HNW1.out.same _ _).mono (by omega)
      have HN2 := Lib.hid hnew2
      clear hnew2
      go_wp2_with fail
      obtain ⟨wo, hwo⟩ : ∃ wo : World, wo = wr := ⟨_, rfl⟩
      clear hwo
      go_loopg [7] (X / M) (fun k l wr => ∃ (t : Nat), k + t = X / M ∧ Dg wr l (X - t * M) ∧ New (w.heap.size + 1) l ∧ Bk wr w.heap.size 3 ((ds.set m (t : Int)).map (Value.int .i64)) ∧ w.heap.size < wr.heap.size ∧ Below w.heap.size w wr)
      case atStart =>
        refine ⟨0, by omega, by rw [Nat.zero_mul]; exact HDG2.out, HN2.out, ?_, hw2, hbel2⟩
        have e : ds.set m ((0 : Nat) : Int) = ds := by
          have hz := HZ.out m (by omega)
          have hl := HL.out
          apply List.ext_getElem
          · simp
          · intro j h1 h2
            rw [List.getElem_set]
            split
            · next e => subst e; rw [← getD_lt _ _ h2, hz]; rfl
            · rfl
        rw [e]; exact HBK2.out
      case round =>
        obtain ⟨t, hk2, hdl, hnl, hbki, hwi, hbeli⟩ := hrel
        have HK2 := Lib.hid hk2
        have HDL2 := Lib.hid hdl
        have HNL := Lib.hid hnl
        have HBKI := Lib.hid hbki
        have ht9 : t ≤ 9 := by omega
        have HSX : Hid (Small (X - t * M)) := Lib.hid (by
          intro _
          have h1 := HN.out trivial
          have h2 : X ≤ N := by
            rw [HX.out]
            have h3 := HQH.out
            have h4 : 10 * (P % M) ≤ 10 * P := Nat.mul_le_mul_left _ (Nat.mod_le _ _)
            have h5 : N / 10 ^ m ≤ N := Nat.div_le_self _ _
            omega
          exact Nat.lt_of_le_of_lt (Nat.le_trans (Nat.sub_le _ _) h2) h1)
        have hdsl : m < ds.length := by rw [HL.out]; omega
        have hci : wr.cell? ⟨w.heap.size, m, none⟩ = some (.int .i64 (t : Int)) := by
          refine HBKI.out.cell _ ?_
          rw [List.getElem?_map, List.getElem?_set_self hdsl]; rfl
        have HCI := Lib.hid hci
        have HDSL := Lib.hid hdsl
        clear hk2 hdl hnl hbki hci hdsl
        go_wp2_with fail
        refine (rcmp_any (X - t * M) M _ _ _ HDL2.out (HV.out.below hbeli) HSX.out HM.out).mono ?_
        rintro _ w3 ⟨rfl, nn, rfl⟩
        by_cases hge : M ≤ X - t * M
        · have hcc : (0 : Int) ≤ cmpN (X - t * M) M := by unfold cmpN; split; omega; split; omega; omega
          generalize cmpN (X - t * M) M = cc at *
          have HGE := Lib.hid hge
          clear hge
          go_wp2_with fail
          refine (rless_new (X - t * M) M HGE.out _ _ _ (HDL2.out.drewN nn) ((HV.out.below hbeli).drewN nn) HSX.out HM.out).mono ?_
          rintro _ w4 ⟨v4, rfl, hnw4, hdg4, hb4⟩
          have hb4s : wr.heap.size ≤ w4.heap.size := hb4.size
          have hb4' : Below wr.heap.size wr w4 := below_trans_drewN hb4
          have HNW4 := Lib.hid hnw4
          have HDG4 := Lib.hid hdg4
          have hc4 : w4.cell? ⟨w.heap.size, m, none⟩ = some (.int .i64 (t : Int)) := (hb4'.cell (p := ⟨w.heap.size, m, none⟩) hwi).trans HCI.out
          have hf4 : w4.frozen? ⟨w.heap.size, m, none⟩ = false := (hb4'.frozen (p := ⟨w.heap.size, m, none⟩) hwi).trans (HBKI.out.frozen m)
          clear hnw4 hdg4 hb4
          go_wp2_with fail
          go_roundg (gk - 1)
          case measure =>
            have h1 := HK2.out
            have h2 := HGE.out
            have h3 := HP.out
            have h4 : (t + 1) * M ≤ X := by rw [Nat.add_mul, Nat.one_mul]; omega
            have h5 := (Nat.le_div_iff_mul_le h3).2 h4
            omega
          case rel =>
            have h1 := HK2.out
            have h2 := HGE.out
            have h3 := HP.out
            have h4 : (t + 1) * M ≤ X := by rw [Nat.add_mul, Nat.one_mul]; omega
            have h5 := (Nat.le_div_iff_mul_le h3).2 h4
            refine ⟨t + 1, by omega, ?_, ?_, ?_, by go_size, ?_⟩
            · have h6 := HDG4.out
              rw [Nat.sub_sub, ← Nat.succ_mul] at h6
              exact h6.away (HNW4.out.mono (Nat.le_refl _)) hwi _ _
            · exact HNW4.out.mono hwi
            · have h6 := (HBKI.out.below hb4' hwi).set_ m (.int .i64 ((t : Int) + 1))
              rw [← List.map_set, List.set_set] at h6
              exact h6
            · exact (hbeli.trans (hb4'.mono (Nat.le_of_lt hwi))).setCell (Nat.le_refl _) _
        · have hcc : ¬ (0 : Int) ≤ cmpN (X - t * M) M := by unfold cmpN; split; omega; split; omega; omega
          generalize cmpN (X - t * M) M = cc at *
          have HGE := Lib.hid hge
          clear hge
          go_wp2_with fail
          go_roundg m
          case measure => omega
          case rel =>
            have h0 : X = t * M + (X - t * M) := by
              have h1 : t * M ≤ X := by
                have h2 := HK2.out
                have h3 : t * M ≤ X / M * M := Nat.mul_le_mul_right _ (by omega)
                have h4 := Nat.div_mul_le_self X M
                omega
              omega
            have hq := quo_step P M d.toNat t (X - t * M) HP.out (by have := HGE.out; omega) (by rw [← HX.out]; exact h0)
            rw [← HQH.out] at hq
            obtain ⟨hq1, hq2⟩ := hq
            have hdsl := HDSL.out
            refine ⟨ds.set m (t : Int), by omega, rfl, ?_, HNL.out, HBKI.out.drewN nn, by rw [List.length_set]; exact HL.out, HDD.out.set_ m (by omega) (by omega), ?_, ?_, hwi, by (repeat' (first | (with_reducible exact Below.refl _ _) | (with_reducible assumption) | (with_reducible refine Below.drew ?_) | (with_reducible refine below_drewN ?_ _) | ((with_reducible refine Below.alloc ?_ ?_ _); rotate_left; focus (go_size; done)) | ((with_reducible refine Below.setCell ?_ ?_ _); rotate_left; focus (go_size; done)) | ((with_reducible refine Below.trans ?_ (Below.mono (by with_reducible assumption) ?_)); rotate_left; focus (go_size; done))))⟩
            · rw [hq2]; exact HDL2.out.drewN nn
            · intro j hj
              rw [getD_set _ _ _ _ hdsl, if_neg (by omega)]
              exact HZ.out j (by omega)
            · rw [drop_set _ _ _ hdsl, hq1]
              have h5 := HVL.out
              show (t : Int) + 10 * dval (ds.drop (m + 1)) = _
              rw [h5]
              generalize P / M = Y
              omega
end Go.Proofs.Ythkgjodidkpaeaa
