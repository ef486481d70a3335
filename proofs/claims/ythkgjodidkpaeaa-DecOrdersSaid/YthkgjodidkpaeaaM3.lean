/- The contracts of the functions that the law reaches, part 3: what each returns and what becomes of memory. -/
import Derived.RegionTactic
import Derived.BigRegion
import Derived.Deep.RegionHeld3
import Derived.IntWalk
import Derived.ProofKit
import Derived.OpenShut
import Derived.Lib.SmallJoins
import Derived.Laws.IdiomArrays
import Derived.ChangeArms
import Derived.WideShapes
import Derived.Test.YthkgjodidkpaeaaM1
import Derived.Test.YthkgjodidkpaeaaM2
set_option linter.unusedSimpArgs false
set_option linter.unusedVariables false
namespace Go.Proofs.Ythkgjodidkpaeaa
open Go.RowKit

/-- the digits n of xs lie above place k: what they are -/
theorem quo_head {xs : List Int} {N : Nat} (h : IsDg xs N) (k : Nat) (hk : k < xs.length) : N / 10 ^ k = 10 * (N / 10 ^ (k + 1)) + (xs.getD k 0).toNat := by
  have hd := dval_digit h.1 k hk
  have hg := h.get k
  rw [h.2.2] at hd
  have e : ((N / 10 ^ k % 10 : Nat) : Int) = xs.getD k 0 := by
    rw [hd, Int.natCast_emod, Int.natCast_ediv, Int.natCast_pow]; rfl
  have e2 : (xs.getD k 0).toNat = N / 10 ^ k % 10 := by rw [← e]; rfl
  rw [e2, Nat.pow_succ, ← Nat.div_div_eq_div_mul]
  omega
theorem quo_top {xs : List Int} {N : Nat} (h : IsDg xs N) : N / 10 ^ xs.length = 0 := Nat.div_eq_of_lt (h.lt_of_len (Nat.le_refl _))
/-- one digit more of the quotient -/
theorem quo_step (P M d t r : Nat) (hM : 0 < M) (hr : r < M) (h : 10 * (P % M) + d = t * M + r) : (10 * P + d) / M = 10 * (P / M) + t ∧ (10 * P + d) % M = r := by
  have e : 10 * P + d = r + M * (10 * (P / M) + t) := by
    have h1 := Nat.div_add_mod P M
    rw [Nat.mul_add, Nat.mul_comm M t, Nat.mul_left_comm]
    omega
  rw [e, Nat.add_mul_div_left _ _ hM, Nat.div_eq_of_lt hr, Nat.zero_add, Nat.add_mul_mod_self_left, Nat.mod_eq_of_lt hr]
  exact ⟨rfl, rfl⟩
theorem cons_dg {l : List Int} {n : Nat} (h : IsDg l n) (d : Int) (h0 : 0 ≤ d) (h9 : d ≤ 9) : Digs (d :: l) ∧ dval (d :: l) = ((10 * n + d.toNat : Nat) : Int) := by
  refine ⟨fun x hx => ?_, ?_⟩
  · rcases List.mem_cons.1 hx with rfl | hx
    · exact ⟨h0, h9⟩
    · exact h.1 x hx
  · simp only [dval, h.2.2]; omega
theorem below_trans_drewN {w w' : World} {n : Nat} (h : Below (w.drewN n).heap.size (w.drewN n) w') : Below w.heap.size w w' := (below_drewN (Below.refl _ w) n).trans h
theorem one_own (w : World) (d : Int) (hb : Bk w w.heap.size 3 [.int .i64 d]) : True := trivial
def RetTwo (n m : Nat) (w : World) (e : Ending) (w' : World) : Prop := ∃ u v, e = .returned (.tuple #[u, v]) ∧ Dg w' u n ∧ Dg w' v m ∧ Below w.heap.size w w'
theorem own_of_bk1 {w : World} {g B : Nat} {d : Int} (hg : B ≤ g) (h : Bk w g 3 [.int .i64 d]) : w.ownsRow B 3 1 (.slice (some ⟨g, 0, none⟩) 1 1) ([d] : List Int).length (([d] : List Int).map (Value.int .i64)) := by
  refine ⟨by simp, .inr ⟨g, 1, #[.int .i64 d], by simp, hg, h, by simp, by unfold maxLen; omega, by simp, by simp⟩⟩
set_option maxHeartbeats 4000000 in
theorem quo_any (N M : Nat) (hM : 0 < M) (u v : Value) (w : World) (hu : Dg w u N) (hv : Dg w v M) (hN : Small N) (hMs : Small M) :
    Calls Try.prog 82 #[u, v] w (RetTwo (N / M) (N % M) w) := by
  obtain ⟨xs, ⟨A, c, rfl, hc, hs⟩, hd⟩ := hu
  have hlen := pow_big hN hd
  have HD := Lib.hid hd
  have HS := Lib.hid hs
  have HV := Lib.hid hv
  have HN := Lib.hid hN
  have HM := Lib.hid hMs
  have HP := Lib.hid hM
  have hmk := fun W => make_ints xs.length (by omega) W
  clear hd hs hN hv hMs hM
  go_enter Try.func82, Try.ntmps82
  go_wp2_with fail
  clear hmk
  go_loopg [7, 8] xs.length (fun k l i wr => ∃ (ds : List Int), k ≤ xs.length ∧ i = .int .i64 ((k : Int) - 1) ∧ Dg wr l (N / 10 ^ k % M) ∧ New (w.heap.size + 1) l ∧
    Bk wr w.heap.size 3 (ds.map (Value.int .i64)) ∧ ds.length = xs.length ∧ Digs ds ∧ (∀ j, j < k → ds.getD j 0 = 0) ∧ dval (ds.drop k) = ((N / 10 ^ k / M : Nat) : Int) ∧ w.heap.size < wr.heap.size ∧ Below w.heap.size w wr)
  case atStart =>
    refine ⟨List.replicate xs.length 0, Nat.le_refl _, rfl, ⟨[], ⟨none, 0, rfl, Nat.le_refl _, fun h => absurd rfl h⟩, ?_⟩, New.nil _ _ _, Bk.new_ rfl, by simp, Digs.zeros _, ?_, ?_, by go_size, by (repeat' (first | (with_reducible exact Below.refl _ _) | (with_reducible assumption) | (with_reducible refine Below.drew ?_) | (with_reducible refine below_drewN ?_ _) | ((with_reducible refine Below.alloc ?_ ?_ _); rotate_left; focus (go_size; done)) | ((with_reducible refine Below.setCell ?_ ?_ _); rotate_left; focus (go_size; done)) | ((with_reducible refine Below.trans ?_ (Below.mono (by with_reducible assumption) ?_)); rotate_left; focus (go_size; done))))⟩
    · rw [quo_top HD.out, Nat.zero_mod]; exact IsDg.nil
    · intro j hj
      rw [getD_lt _ _ (by simpa using hj)]; simp
    · rw [List.drop_of_length_le (by simp), quo_top HD.out, Nat.zero_div]; rfl
  case round =>
    obtain ⟨ds, hk, rfl, hl, hnew, hbk, hdl, hdd, hz, hval, hsz, hbel⟩ := hrel
    have HB := Lib.hid hbk
    have HL := Lib.hid hdl
    have HDD := Lib.hid hdd
    have HZ := Lib.hid hz
    have HVL := Lib.hid hval
    have HDL := Lib.hid hl
    have HNW := Lib.hid hnew
    clear hbk hdl hdd hz hval hl hnew
    by_cases h0 : gk = 0
    · subst h0
      have hm : ¬ (0 : Int) ≤ ((0 : Nat) : Int) - 1 := by omega
      go_wp2_with fail
      refine (cut_any ds _ _ (IsSl.of_bk HB.out HL.out (Nat.le_refl _)) HDD.out (by rw [HL.out]; omega)).mono ?_
      rintro _ w2 ⟨v2, rfl, hdg, hb2⟩
      have HDG := Lib.hid hdg
      clear hdg
      go_wp2_with fail
      go_ret2
      have hv := HVL.out
      rw [List.drop_zero, Nat.pow_zero, Nat.div_one] at hv
      have e1 : (dval ds).toNat = N / M := by rw [hv]; exact Int.toNat_natCast _
      have hdg := HDG.out
      have hl := HDL.out
      rw [e1] at hdg
      rw [Nat.pow_zero, Nat.div_one] at hl
      exact ⟨v2, _, rfl, hdg, hl.below (by (repeat' (first | (with_reducible exact Below.refl _ _) | (with_reducible assumption) | (with_reducible refine Below.drew ?_) | (with_reducible refine below_drewN ?_ _) | ((with_reducible refine Below.alloc ?_ ?_ _); rotate_left; focus (go_size; done)) | ((with_reducible refine Below.setCell ?_ ?_ _); rotate_left; focus (go_size; done)) | ((with_reducible refine Below.trans ?_ (Below.mono (by with_reducible assumption) ?_)); rotate_left; focus (go_size; done))))), by (repeat' (first | (with_reducible exact Below.refl _ _) | (with_reducible assumption) | (with_reducible refine Below.drew ?_) | (with_reducible refine below_drewN ?_ _) | ((with_reducible refine Below.alloc ?_ ?_ _); rotate_left; focus (go_size; done)) | ((with_reducible refine Below.setCell ?_ ?_ _); rotate_left; focus (go_size; done)) | ((with_reducible refine Below.trans ?_ (Below.mono (by with_reducible assumption) ?_)); rotate_left; focus (go_size; done))))⟩
    · obtain ⟨m, rfl⟩ : ∃ m, gk = m + 1 := ⟨gk - 1, by omega⟩
      obtain ⟨g, o, rfl, hg, hcell⟩ := HS.out.at_ (k := m) (by omega)
      have hcell2 := (hbel.cell (p := ⟨g, o + m, none⟩) hg).trans hcell
      obtain ⟨d0, d9⟩ := HD.out.get m
      have hqh := quo_head HD.out m (by omega)
      obtain ⟨d, hd⟩ : ∃ d, d = xs.getD m 0 := ⟨_, rfl⟩
      rw [← hd] at hcell2 d0 d9 hqh
      obtain ⟨P, hP⟩ : ∃ P, P = N / 10 ^ (m + 1) := ⟨_, rfl⟩
      rw [← hP] at hqh HDL HVL
      obtain ⟨ls, ⟨A2, c2, rfl, hc2, hs2⟩, hld⟩ := HDL.out
      have hll := pow_big (HN.out.of_le (Nat.le_trans (Nat.mod_le _ _) (by rw [hP]; exact Nat.div_le_self _ _))) hld
      have HS2 := Lib.hid hs2
      have HLD := Lib.hid hld
      have HQH := Lib.hid hqh
      have HPP := Lib.hid hP
      have hp : (0 : Int) < ((m + 1 : Nat) : Int) := by omega
      have hx : ((m + 1 : Nat) : Int) - 1 = (m : Int) := by omega
      have m0 : (0 : Int) ≤ (m : Int) := by omega
      have m1 : (m : Int) < (xs.length : Int) := by omega
      clear h0 hd hcell hqh hP hs2 hld
      go_wp2_with (at_builtin; refine wpList_join rfl (.tmp 23) (.tmp 24) rfl wr.heap.size (.slice (some ⟨wr.heap.size, 0, none⟩) 1 1) [d] rfl (own_of_bk1 (Nat.le_refl _) (Bk.new_ rfl)) A2 c2 ls rfl ?hs ?hl ?hb ?_; rotate_left 3; intro v1 w1 hown1 hg1)
      case hs => exact HS2.out.below (by (repeat' (first | (with_reducible exact Below.refl _ _) | (with_reducible assumption) | (with_reducible refine Below.drew ?_) | (with_reducible refine below_drewN ?_ _) | ((with_reducible refine Below.alloc ?_ ?_ _); rotate_left; focus (go_size; done)) | ((with_reducible refine Below.setCell ?_ ?_ _); rotate_left; focus (go_size; done)) | ((with_reducible refine Below.trans ?_ (Below.mono (by with_reducible assumption) ?_)); rotate_left; focus (go_size; done)))))
      case hl => simp only [List.length_cons, List.length_nil]; omega
      case hb => go_size
      have hbel1 : Below wr.heap.size wr w1 := below_push ((Below.refl _ _).alloc (Nat.le_refl _) _) (own_of_bk1 (Nat.le_refl _) (Bk.new_ rfl)) hg1 (by go_size)
      have hnw1 := New.own hown1
      have hb1s := hbel1.size
      obtain ⟨hcd, hcv⟩ := cons_dg HLD.out d d0 d9
      have hsl := IsSl.of_own hown1
      obtain ⟨A1, c1, rfl, hc1, hs1⟩ := hsl
      have HNW1 := Lib.hid hnw1
      have HS1 := Lib.hid hs1
      have HCD := Lib.hid hcd
      have HCV := Lib.hid hcv
      clear hnw1 hs1 hcd hcv hown1 hg1
      go_wp2_with fail
      refine (cut_at ([d] ++ ls) A1 c1 _ hc1 HS1.out HCD.out (by simp only [List.length_append, List.length_cons, List.length_nil]; omega)).mono ?_
      rintro _ w2 ⟨k2, c2', rfl, hdg2, hb2⟩
      have hb2s := hb2.size
      obtain ⟨X, hX⟩ : ∃ X, X = 10 * (P % M) + d.toNat := ⟨_, rfl⟩
      have hdg2' : Dg w2 (.slice A1 k2 c2') X := by
        have e : (dval ([d] ++ ls)).toNat = X := by
          rw [show [d] ++ ls = d :: ls from rfl, HCV.out, hX]; omega
        rw [← e]; exact hdg2
      have hXM : X / M ≤ 9 := by
        have h1 := Nat.mod_lt P HP.out
        have h2 : X < M * 10 := by omega
        have := Nat.div_lt_of_lt_mul h2
        omega
      have HDG2 := Lib.hid hdg2'
      have HX := Lib.hid hX
      have hw2 : w.heap.size < w2.heap.size := by omega
      have hbel2 : Below w.heap.size w w2 := by (repeat' (first | (with_reducible exact Below.refl _ _) | (with_reducible assumption) | (with_reducible refine Below.drew ?_) | (with_reducible refine below_drewN ?_ _) | ((with_reducible refine Below.alloc ?_ ?_ _); rotate_left; focus (go_size; done)) | ((with_reducible refine Below.setCell ?_ ?_ _); rotate_left; focus (go_size; done)) | ((with_reducible refine Below.trans ?_ (Below.mono (by with_reducible assumption) ?_)); rotate_left; focus (go_size; done))))
      have hbk2 : Bk w2 w.heap.size 3 (ds.map (Value.int .i64)) := by
        have : Bk w1 w.heap.size 3 (ds.map (Value.int .i64)) := HB.out.below hbel1 hsz
        exact this.below hb2 (by omega)
      have HBK2 := Lib.hid hbk2
      clear hdg2 hdg2' hX hbk2
      have hnew2 : New (w.heap.size + 1) (.slice A1 k2 c2') := (HNW1.out.same _ _).mono (by omega)
      have HN2 := Lib.hid hnew2
      clear hnew2
      go_wp2_with fail
      obtain ⟨wo, hwo⟩ : ∃ wo : World, wo = wr := ⟨_, rfl⟩
      clear hwo
      go_loopg [7] (X / M) (fun k l wr => ∃ (t : Nat), k + t = X / M ∧ Dg wr l (X - t * M) ∧ New (w.heap.size + 1) l ∧ Bk wr w.heap.size 3 ((ds.set m (t : Int)).map (Value.int .i64)) ∧ w.heap.size < wr.heap.size ∧ Below w.heap.size w wr)
      case atStart =>
        refine ⟨0, by omega, by rw [Nat.zero_mul]; exact HDG2.out, HN2.out, ?_, hw2, hbel2⟩
        have e : ds.set m ((0 : Nat) : Int) = ds := by
          have hz := HZ.out m (by omega)
          have hl := HL.out
          apply List.ext_getElem
          · simp
          · intro j h1 h2
            rw [List.getElem_set]
            split
            · next e => subst e; rw [← getD_lt _ _ h2, hz]; rfl
            · rfl
        rw [e]; exact HBK2.out
      case round =>
        obtain ⟨t, hk2, hdl, hnl, hbki, hwi, hbeli⟩ := hrel
        have HK2 := Lib.hid hk2
        have HDL2 := Lib.hid hdl
        have HNL := Lib.hid hnl
        have HBKI := Lib.hid hbki
        have ht9 : t ≤ 9 := by omega
        have HSX : Hid (Small (X - t * M)) := Lib.hid (by
          intro _
          have h1 := HN.out trivial
          have h2 : X ≤ N := by
            rw [HX.out]
            have h3 := HQH.out
            have h4 : 10 * (P % M) ≤ 10 * P := Nat.mul_le_mul_left _ (Nat.mod_le _ _)
            have h5 : N / 10 ^ m ≤ N := Nat.div_le_self _ _
            omega
          exact Nat.lt_of_le_of_lt (Nat.le_trans (Nat.sub_le _ _) h2) h1)
        have hdsl : m < ds.length := by rw [HL.out]; omega
        have hci : wr.cell? ⟨w.heap.size, m, none⟩ = some (.int .i64 (t : Int)) := by
          refine HBKI.out.cell _ ?_
          rw [List.getElem?_map, List.getElem?_set_self hdsl]; rfl
        have HCI := Lib.hid hci
        have HDSL := Lib.hid hdsl
        clear hk2 hdl hnl hbki hci hdsl
        go_wp2_with fail
        refine (rcmp_any (X - t * M) M _ _ _ HDL2.out (HV.out.below hbeli) HSX.out HM.out).mono ?_
        rintro _ w3 ⟨rfl, nn, rfl⟩
        by_cases hge : M ≤ X - t * M
        · have hcc : (0 : Int) ≤ cmpN (X - t * M) M := by unfold cmpN; split; omega; split; omega; omega
          generalize cmpN (X - t * M) M = cc at *
          have HGE := Lib.hid hge
          clear hge
          go_wp2_with fail
          refine (rless_new (X - t * M) M HGE.out _ _ _ (HDL2.out.drewN nn) ((HV.out.below hbeli).drewN nn) HSX.out HM.out).mono ?_
          rintro _ w4 ⟨v4, rfl, hnw4, hdg4, hb4⟩
          have hb4s : wr.heap.size ≤ w4.heap.size := hb4.size
          have hb4' : Below wr.heap.size wr w4 := below_trans_drewN hb4
          have HNW4 := Lib.hid hnw4
          have HDG4 := Lib.hid hdg4
          have hc4 : w4.cell? ⟨w.heap.size, m, none⟩ = some (.int .i64 (t : Int)) := (hb4'.cell (p := ⟨w.heap.size, m, none⟩) hwi).trans HCI.out
          have hf4 : w4.frozen? ⟨w.heap.size, m, none⟩ = false := (hb4'.frozen (p := ⟨w.heap.size, m, none⟩) hwi).trans (HBKI.out.frozen m)
          clear hnw4 hdg4 hb4
          go_wp2_with fail
          go_roundg (gk - 1)
          case measure =>
            have h1 := HK2.out
            have h2 := HGE.out
            have h3 := HP.out
            have h4 : (t + 1) * M ≤ X := by rw [Nat.add_mul, Nat.one_mul]; omega
            have h5 := (Nat.le_div_iff_mul_le h3).2 h4
            omega
          case rel =>
            have h1 := HK2.out
            have h2 := HGE.out
            have h3 := HP.out
            have h4 : (t + 1) * M ≤ X := by rw [Nat.add_mul, Nat.one_mul]; omega
            have h5 := (Nat.le_div_iff_mul_le h3).2 h4
            refine ⟨t + 1, by omega, ?_, ?_, ?_, by go_size, ?_⟩
            · have h6 := HDG4.out
              rw [Nat.sub_sub, ← Nat.succ_mul] at h6
              exact h6.away (HNW4.out.mono (Nat.le_refl _)) hwi _ _
            · exact HNW4.out.mono hwi
            · have h6 := (HBKI.out.below hb4' hwi).set_ m (.int .i64 ((t : Int) + 1))
              rw [← List.map_set, List.set_set] at h6
              exact h6
            · exact (hbeli.trans (hb4'.mono (Nat.le_of_lt hwi))).setCell (Nat.le_refl _) _
        · have hcc : ¬ (0 : Int) ≤ cmpN (X - t * M) M := by unfold cmpN; split; omega; split; omega; omega
          generalize cmpN (X - t * M) M = cc at *
          have HGE := Lib.hid hge
          clear hge
          go_wp2_with fail
          go_roundg m
          case measure => omega
          case rel =>
            have h0 : X = t * M + (X - t * M) := by
              have h1 : t * M ≤ X := by
                have h2 := HK2.out
                have h3 : t * M ≤ X / M * M := Nat.mul_le_mul_right _ (by omega)
                have h4 := Nat.div_mul_le_self X M
                omega
              omega
            have hq := quo_step P M d.toNat t (X - t * M) HP.out (by have := HGE.out; omega) (by rw [← HX.out]; exact h0)
            rw [← HQH.out] at hq
            obtain ⟨hq1, hq2⟩ := hq
            have hdsl := HDSL.out
            refine ⟨ds.set m (t : Int), by omega, rfl, ?_, HNL.out, HBKI.out.drewN nn, by rw [List.length_set]; exact HL.out, HDD.out.set_ m (by omega) (by omega), ?_, ?_, hwi, by (repeat' (first | (with_reducible exact Below.refl _ _) | (with_reducible assumption) | (with_reducible refine Below.drew ?_) | (with_reducible refine below_drewN ?_ _) | ((with_reducible refine Below.alloc ?_ ?_ _); rotate_left; focus (go_size; done)) | ((with_reducible refine Below.setCell ?_ ?_ _); rotate_left; focus (go_size; done)) | ((with_reducible refine Below.trans ?_ (Below.mono (by with_reducible assumption) ?_)); rotate_left; focus (go_size; done))))⟩
            · rw [hq2]; exact HDL2.out.drewN nn
            · intro j hj
              rw [getD_set _ _ _ _ hdsl, if_neg (by omega)]
              exact HZ.out j (by omega)
            · rw [drop_set _ _ _ hdsl, hq1]
              have h5 := HVL.out
              show (t : Int) + 10 * dval (ds.drop (m + 1)) = _
              rw [h5]
              generalize P / M = Y
              omega
end Go.Proofs.Ythkgjodidkpaeaa

set_option linter.unusedSimpArgs false
set_option linter.unusedVariables false
namespace Go.Proofs.Ythkgjodidkpaeaa
open Go.RowKit

theorem IsDg.one : IsDg [1] 1 := ⟨by intro d hd; rw [List.mem_singleton.1 hd]; decide, by simp [Top], rfl⟩
theorem dg_one {w : World} {g : Nat} (h : Bk w g 3 [.int .i64 1]) : Dg w (.slice (some ⟨g, 0, none⟩) 1 1) 1 :=
  ⟨[1], IsSl.of_bk (ds := [1]) h rfl (Nat.le_refl _), IsDg.one⟩
theorem near_up (N M : Nat) (h : M < N % M + N % M ∨ (N % M + N % M = M ∧ N / M % 2 = 1)) : near N M = N / M + 1 := by
  unfold near; rw [if_pos (by omega)]
theorem near_stay (N M : Nat) (h : N % M + N % M < M ∨ (N % M + N % M = M ∧ N / M % 2 = 0)) : near N M = N / M := by
  unfold near; rw [if_neg (by omega)]; rfl
theorem dg_first {w : World} {v : Value} {n : Nat} (h : Dg w v n) (hn : n ≠ 0) : ∃ g o k c, v = .slice (some ⟨g, o, none⟩) (k + 1) c ∧ k + 1 ≤ c ∧ w.cell? ⟨g, o, none⟩ = some (.int .i64 ((n % 10 : Nat) : Int)) ∧ g < w.heap.size := by
  obtain ⟨xs, ⟨A, c, rfl, hc, hs⟩, hd⟩ := h
  have hz := hd.zero_iff
  obtain ⟨k, hk⟩ : ∃ k, xs.length = k + 1 := ⟨xs.length - 1, by omega⟩
  obtain ⟨g, o, rfl, hg, hcell⟩ := hs.at_ (k := 0) (by omega)
  refine ⟨g, o, k, c, by rw [hk], by omega, ?_, hg⟩
  rw [Nat.add_zero] at hcell
  rw [hcell, dval_digit hd.1 0 (by omega), hd.2.2, Int.pow_zero, Int.ediv_one]
  rfl
/-- a bound that is a little nearer -/
def Tiny (n : Nat) : Prop := True → n < 10 ^ 999
theorem ten_lt (a b : Nat) (h : a < b) : (10 : Nat) ^ a < 10 ^ b := Nat.pow_lt_pow_right (by decide) h
theorem one_lt_ten (a : Nat) (h : 0 < a) : 1 < (10 : Nat) ^ a := Nat.one_lt_pow (by omega) (by decide)
theorem ten_next (a b : Nat) (h : b = a + 1) : (10 : Nat) ^ b = 10 * 10 ^ a := by rw [h, Nat.pow_succ, Nat.mul_comm]
theorem small_add {n m : Nat} (hn : Tiny n) (hm : Tiny m) : Small (n + m) := by
  intro _
  have e := ten_next 999 1000 rfl
  have h1 := hn trivial
  have h2 := hm trivial
  rw [e]
  generalize (10 : Nat) ^ 999 = T at *
  omega
theorem Tiny.of_le {n m : Nat} (h : Tiny n) (hm : m ≤ n) : Tiny m := fun t => Nat.lt_of_le_of_lt hm (h t)
theorem Tiny.small {n : Nat} (h : Tiny n) : Small n := fun t => Nat.lt_trans (h t) (ten_lt 999 1000 (by decide))
theorem near_le (N M : Nat) : near N M ≤ N + 1 := by
  unfold near
  have := Nat.div_le_self N M
  split <;> omega
set_option maxHeartbeats 2000000 in
theorem near_any (N M : Nat) (hM : 0 < M) (u v : Value) (w : World) (hu : Dg w u N) (hv : Dg w v M) (hN : Tiny N) (hMs : Tiny M) :
    Calls Try.prog 73 #[u, v] w (RetDg (near N M) w) := by
  have HU := Lib.hid hu
  have HV := Lib.hid hv
  have HN := Lib.hid hN
  have HM := Lib.hid hMs
  have HP := Lib.hid hM
  have HR : Hid (Tiny (N % M)) := Lib.hid (hN.of_le (Nat.mod_le _ _))
  have HQ : Hid (Tiny (N / M)) := Lib.hid (hN.of_le (Nat.div_le_self _ _))
  have HO : Hid (Small (N / M + 1)) := Lib.hid (small_add HQ.out (fun _ => one_lt_ten 999 (by decide)))
  have hup := near_up N M
  have hst := near_stay N M
  clear hu hv hN hMs hM
  obtain ⟨q, hq⟩ : ∃ q, q = N / M := ⟨_, rfl⟩
  obtain ⟨r, hr⟩ : ∃ r, r = N % M := ⟨_, rfl⟩
  obtain ⟨z, hz⟩ : ∃ z, z = near N M := ⟨_, rfl⟩
  rw [← hz, ← hq, ← hr] at hup hst
  rw [← hr] at HR
  rw [← hq] at HQ HO
  rw [← hz]
  have H1 := Lib.hid hq
  have H2 := Lib.hid hr
  have H3 := Lib.hid hup
  have H4 := Lib.hid hst
  clear hq hr hz hup hst
  go_enter Try.func73, Try.ntmps73
  go_wp2_with fail
  refine (quo_any N M HP.out _ _ _ HU.out HV.out HN.out.small HM.out.small).mono ?_
  rw [← H1.out, ← H2.out]
  rintro _ w1 ⟨v1, v2, rfl, hq1, hr1, hb1⟩
  have HQ1 := Lib.hid hq1
  have HR1 := Lib.hid hr1
  have HV1 := Lib.hid (HV.out.below hb1)
  have hb1s := hb1.size
  clear hq1 hr1
  go_wp2_with fail
  refine (plus_any r r _ _ _ HR1.out HR1.out HR.out.small HR.out.small).mono ?_
  rintro _ w2 ⟨v3, rfl, hd3, hb2⟩
  have HD3 := Lib.hid hd3
  have HV2 := Lib.hid (HV1.out.below hb2)
  have HQ2 := Lib.hid (HQ1.out.below hb2)
  have hb2s := hb2.size
  clear hd3
  go_wp2_with fail
  refine (rcmp_any (r + r) M _ _ _ HD3.out HV2.out (small_add HR.out HR.out) HM.out.small).mono ?_
  rcases Nat.lt_trichotomy (r + r) M with hlt | heq | hgt
  · have hc : cmpN (r + r) M = -1 := by unfold cmpN; rw [if_neg (by omega), if_pos hlt]
    have hz := H4.out (.inl hlt)
    rw [hc]
    have HZ := Lib.hid hz
    clear hc hz hlt
    rintro _ w3 ⟨rfl, nn, rfl⟩
    go_wp2_with fail
    go_ret
    exact ⟨_, rfl, by rw [HZ.out]; exact HQ2.out.drewN nn, by (repeat' (first | (with_reducible exact Below.refl _ _) | (with_reducible assumption) | (with_reducible refine Below.drew ?_) | (with_reducible refine below_drewN ?_ _) | ((with_reducible refine Below.alloc ?_ ?_ _); rotate_left; focus (go_size; done)) | ((with_reducible refine Below.setCell ?_ ?_ _); rotate_left; focus (go_size; done)) | ((with_reducible refine Below.trans ?_ (Below.mono (by with_reducible assumption) ?_)); rotate_left; focus (go_size; done))))⟩
  · have hc : cmpN (r + r) M = 0 := by unfold cmpN; rw [if_pos heq]
    rw [hc]
    have HE := Lib.hid heq
    clear hc heq
    rintro _ w3 ⟨rfl, nn, rfl⟩
    by_cases h0 : q = 0
    · have hz := H4.out (.inr ⟨HE.out, by rw [h0]⟩)
      have HZ := Lib.hid hz
      clear hz
      subst h0
      obtain ⟨xs, ⟨A, c, rfl, hc, hs⟩, hd⟩ := HQ2.out
      have hx0 := hd.zero_iff.2 rfl
      obtain rfl : xs = [] := List.length_eq_zero_iff.1 hx0
      have HS := Lib.hid hs
      have HD := Lib.hid hd
      clear hs hd hx0
      go_wp2_with fail
      go_ret
      exact ⟨_, rfl, by rw [HZ.out]; exact HQ2.out.drewN nn, by (repeat' (first | (with_reducible exact Below.refl _ _) | (with_reducible assumption) | (with_reducible refine Below.drew ?_) | (with_reducible refine below_drewN ?_ _) | ((with_reducible refine Below.alloc ?_ ?_ _); rotate_left; focus (go_size; done)) | ((with_reducible refine Below.setCell ?_ ?_ _); rotate_left; focus (go_size; done)) | ((with_reducible refine Below.trans ?_ (Below.mono (by with_reducible assumption) ?_)); rotate_left; focus (go_size; done))))⟩
    · obtain ⟨g, o, k, c, rfl, hkc, hcell, hg⟩ := dg_first HQ2.out h0
      have k0 : (0 : Int) < (k : Int) + 1 := by omega
      have e1 : ((k + 1 : Nat) : Int) = (k : Int) + 1 := by omega
      rcases Nat.mod_two_eq_zero_or_one q with hp | hp
      · have hz := H4.out (.inr ⟨HE.out, hp⟩)
        have HZ := Lib.hid hz
        have g1 : (((q % 10 : Nat) : Int) % 2 == 1) = false := by simp; omega
        have d0 : (0 : Int) ≤ ((q % 10 : Nat) : Int) := by omega
        obtain ⟨d, hd⟩ : ∃ d : Int, d = ((q % 10 : Nat) : Int) := ⟨_, rfl⟩
        rw [← hd] at g1 hcell d0
        clear hz hp h0 hd
        go_wp2_with fail
        go_ret
        exact ⟨_, rfl, by rw [HZ.out]; exact HQ2.out.drewN nn, by (repeat' (first | (with_reducible exact Below.refl _ _) | (with_reducible assumption) | (with_reducible refine Below.drew ?_) | (with_reducible refine below_drewN ?_ _) | ((with_reducible refine Below.alloc ?_ ?_ _); rotate_left; focus (go_size; done)) | ((with_reducible refine Below.setCell ?_ ?_ _); rotate_left; focus (go_size; done)) | ((with_reducible refine Below.trans ?_ (Below.mono (by with_reducible assumption) ?_)); rotate_left; focus (go_size; done))))⟩
      · have hz := H3.out (.inr ⟨HE.out, hp⟩)
        have HZ := Lib.hid hz
        have g1 : (((q % 10 : Nat) : Int) % 2 == 1) = true := by simp; omega
        have d0 : (0 : Int) ≤ ((q % 10 : Nat) : Int) := by omega
        obtain ⟨d, hd⟩ : ∃ d : Int, d = ((q % 10 : Nat) : Int) := ⟨_, rfl⟩
        rw [← hd] at g1 hcell d0
        clear hz hp h0 hd
        go_wp2_with fail
        refine (plus_any q 1 _ _ _ (HQ2.out.below (by (repeat' (first | (with_reducible exact Below.refl _ _) | (with_reducible assumption) | (with_reducible refine Below.drew ?_) | (with_reducible refine below_drewN ?_ _) | ((with_reducible refine Below.alloc ?_ ?_ _); rotate_left; focus (go_size; done)) | ((with_reducible refine Below.setCell ?_ ?_ _); rotate_left; focus (go_size; done)) | ((with_reducible refine Below.trans ?_ (Below.mono (by with_reducible assumption) ?_)); rotate_left; focus (go_size; done)))))) (dg_one (Bk.new_ rfl)) HQ.out.small (Small.of_le HO.out (by omega))).mono ?_
        rintro _ w4 ⟨v4, rfl, hd4, hb4⟩
        have HD4 := Lib.hid hd4
        clear hd4
        go_wp2_with fail
        go_ret
        exact ⟨_, rfl, by rw [HZ.out]; exact HD4.out, by (repeat' (first | (with_reducible exact Below.refl _ _) | (with_reducible assumption) | (with_reducible refine Below.drew ?_) | (with_reducible refine below_drewN ?_ _) | ((with_reducible refine Below.alloc ?_ ?_ _); rotate_left; focus (go_size; done)) | ((with_reducible refine Below.setCell ?_ ?_ _); rotate_left; focus (go_size; done)) | ((with_reducible refine Below.trans ?_ (Below.mono (by with_reducible assumption) ?_)); rotate_left; focus (go_size; done))))⟩
  · have hc : cmpN (r + r) M = 1 := by unfold cmpN; rw [if_neg (by omega), if_neg (by omega)]
    have hz := H3.out (.inl hgt)
    rw [hc]
    have HZ := Lib.hid hz
    clear hc hz hgt
    rintro _ w3 ⟨rfl, nn, rfl⟩
    go_wp2_with fail
    refine (plus_any q 1 _ _ _ (HQ2.out.below (by (repeat' (first | (with_reducible exact Below.refl _ _) | (with_reducible assumption) | (with_reducible refine Below.drew ?_) | (with_reducible refine below_drewN ?_ _) | ((with_reducible refine Below.alloc ?_ ?_ _); rotate_left; focus (go_size; done)) | ((with_reducible refine Below.setCell ?_ ?_ _); rotate_left; focus (go_size; done)) | ((with_reducible refine Below.trans ?_ (Below.mono (by with_reducible assumption) ?_)); rotate_left; focus (go_size; done)))))) (dg_one (Bk.new_ rfl)) HQ.out.small (Small.of_le HO.out (by omega))).mono ?_
    rintro _ w4 ⟨v4, rfl, hd4, hb4⟩
    have HD4 := Lib.hid hd4
    clear hd4
    go_wp2_with fail
    go_ret
    exact ⟨_, rfl, by rw [HZ.out]; exact HD4.out, by (repeat' (first | (with_reducible exact Below.refl _ _) | (with_reducible assumption) | (with_reducible refine Below.drew ?_) | (with_reducible refine below_drewN ?_ _) | ((with_reducible refine Below.alloc ?_ ?_ _); rotate_left; focus (go_size; done)) | ((with_reducible refine Below.setCell ?_ ?_ _); rotate_left; focus (go_size; done)) | ((with_reducible refine Below.trans ?_ (Below.mono (by with_reducible assumption) ?_)); rotate_left; focus (go_size; done))))⟩
end Go.Proofs.Ythkgjodidkpaeaa

set_option linter.unusedSimpArgs false
set_option linter.unusedVariables false
namespace Go.Proofs.Ythkgjodidkpaeaa
open Go.RowKit

theorem ten_le (a b : Nat) (h : a ≤ b) : (10 : Nat) ^ a ≤ 10 ^ b := Nat.pow_le_pow_right (by decide) h
theorem lt_256_tiny {N : Nat} (h : N < 2 ^ 256) : Tiny N := fun _ => by
  have h1 : (2 : Nat) ^ 256 ≤ 10 ^ 78 := by decide
  exact Nat.lt_of_lt_of_le h (Nat.le_trans h1 (ten_le 78 999 (by decide)))
theorem ten_tiny {k : Nat} (h : k < 999) : Tiny (10 ^ k) := fun _ => ten_lt k 999 h
theorem small_one : Small 1 := fun _ => one_lt_ten 1000 (by decide)
theorem near_small {N : Nat} (h : Tiny N) (M : Nat) : Small (near N M) := (small_add h (fun _ => one_lt_ten 999 (by decide))).of_le (near_le N M)
end Go.Proofs.Ythkgjodidkpaeaa

set_option linter.unusedSimpArgs false
set_option linter.unusedVariables false
namespace Go.Proofs.Ythkgjodidkpaeaa
open Go.RowKit

theorem mul_bd {d e : Int} (d0 : 0 ≤ d) (d9 : d ≤ 9) (e0 : 0 ≤ e) (e9 : e ≤ 9) : 0 ≤ d * e ∧ d * e ≤ 81 :=
  ⟨Int.mul_nonneg d0 e0, by have h := Int.mul_le_mul d9 e9 e0 (by omega : (0 : Int) ≤ 9); omega⟩
/-- where no place is below nought, the top place times its weight is not above the value -/
theorem dval_top_le (zs : List Int) (L : Nat) (hL : zs.length = L + 1) (h0 : ∀ j, 0 ≤ zs.getD j 0) : 10 ^ L * zs.getD L 0 ≤ dval zs := by
  have a := dval_append (zs.take L) (zs.drop L)
  rw [List.take_append_drop, List.length_take, Nat.min_eq_left (by omega), dval_drop zs L (by omega), List.drop_of_length_le (by omega)] at a
  have hb : 0 ≤ dval (zs.take L) := by
    have key : ∀ l : List Int, (∀ d ∈ l, 0 ≤ d) → 0 ≤ dval l := by
      intro l
      induction l with
      | nil => intro _; simp [dval]
      | cons d r ih =>
        intro h
        have h1 := h d List.mem_cons_self
        have h2 := ih fun x hx => h x (List.mem_cons_of_mem _ hx)
        simp only [dval]; omega
    refine key _ fun d hd => ?_
    obtain ⟨i, hi, rfl⟩ := List.getElem_of_mem hd
    rw [List.length_take] at hi
    rw [List.getElem_take, ← getD_lt _ _ (by omega)]
    exact h0 i
  rw [a]
  show _ ≤ dval (zs.take L) + 10 ^ L * (zs.getD L 0 + 10 * dval [])
  simp only [dval]
  have e : zs.getD L 0 + 10 * 0 = zs.getD L 0 := by omega
  rw [e]; omega
theorem digs_of (zs : List Int) (h : ∀ j, j < zs.length → 0 ≤ zs.getD j 0 ∧ zs.getD j 0 ≤ 9) : Digs zs := by
  intro d hd
  obtain ⟨i, hi, rfl⟩ := List.getElem_of_mem hd
  rw [← getD_lt _ _ hi]
  exact h i hi
theorem IsDg.getD_zero {l : List Int} {n : Nat} (h : IsDg l n) (j : Nat) : 0 ≤ l.getD j 0 ∧ l.getD j 0 ≤ 9 := h.get j
theorem rep_getD (n j : Nat) : (List.replicate n (0 : Int)).getD j 0 = 0 := by
  rw [List.getD_eq_getElem?_getD, List.getElem?_replicate]
  split <;> rfl
set_option maxHeartbeats 4000000 in
theorem times_any (N M : Nat) (u v : Value) (w : World) (hu : Dg w u N) (hv : Dg w v M) (hN : Small N) (hM : Small M) :
    Calls Try.prog 76 #[u, v] w (RetDg (N * M) w) := by
  obtain ⟨xs, ⟨A, c, rfl, hc, hs⟩, hd⟩ := hu
  obtain ⟨ys, ⟨B, d, rfl, hc2, hs2⟩, hd2⟩ := hv
  have hlx := pow_big hN hd
  have hly := pow_big hM hd2
  have HX := Lib.hid hd
  have HY := Lib.hid hd2
  have HS := Lib.hid hs
  have HT := Lib.hid hs2
  obtain ⟨lx, ex⟩ : ∃ n, n = xs.length := ⟨_, rfl⟩
  obtain ⟨ly, ey⟩ : ∃ n, n = ys.length := ⟨_, rfl⟩
  rw [← ex] at hc hlx ⊢
  rw [← ey] at hc2 hly ⊢
  have hmk := fun W => make_ints (lx + ly + 1) (by omega) W
  have e1 : ((lx + ly + 1 : Nat) : Int) = (lx : Int) + (ly : Int) + 1 := by omega
  rw [e1] at hmk
  have EX := Lib.hid ex
  have EY := Lib.hid ey
  clear hd hd2 hs hs2 hN hM ex ey e1
  go_enter Try.func76, Try.ntmps76
  go_wp2_with fail
  clear hmk
  go_loopg [6] lx (fun k i wr => ∃ (t : Nat) (zs : List Int), k + t = lx ∧ i = .int .i64 t ∧ zs.length = lx + ly + 1 ∧ Bk wr w.heap.size 3 (zs.map (Value.int .i64)) ∧ (∀ j, 0 ≤ zs.getD j 0 ∧ zs.getD j 0 ≤ 81 * t) ∧
    dval zs = dval (xs.take t) * dval ys ∧ w.heap.size < wr.heap.size ∧ Below w.heap.size w wr)
  case atStart =>
    refine ⟨0, List.replicate (lx + ly + 1) 0, by omega, rfl, by simp, Bk.new_ rfl, fun j => by rw [rep_getD]; omega, ?_, by go_size, by (repeat' (first | (with_reducible exact Below.refl _ _) | (with_reducible assumption) | (with_reducible refine Below.drew ?_) | (with_reducible refine below_drewN ?_ _) | ((with_reducible refine Below.alloc ?_ ?_ _); rotate_left; focus (go_size; done)) | ((with_reducible refine Below.setCell ?_ ?_ _); rotate_left; focus (go_size; done)) | ((with_reducible refine Below.trans ?_ (Below.mono (by with_reducible assumption) ?_)); rotate_left; focus (go_size; done))))⟩
    rw [dval_replicate]; simp [dval]
  case round =>
    obtain ⟨t, zs, hk, rfl, hzl, hbk, hbd, hval, hsz, hbel⟩ := hrel
    have HK := Lib.hid hk
    have HZ := Lib.hid hzl
    have HB := Lib.hid hbk
    have HBD := Lib.hid hbd
    have HV := Lib.hid hval
    have ht : t ≤ lx := by omega
    clear hk hzl hbk hbd hval
    by_cases hlt : t < lx
    · obtain ⟨g, o, rfl, hg, hcell⟩ := HS.out.at_ (k := t) (by have := EX.out; omega)
      have hgx := HX.out.get t
      obtain ⟨p, hp⟩ : ∃ p, p = xs.getD t 0 := ⟨_, rfl⟩
      rw [← hp] at hcell hgx
      obtain ⟨p0, p9⟩ := hgx
      have HP := Lib.hid hp
      clear hp
      go_wp2_with fail
      obtain ⟨wo, hwo⟩ : ∃ wo : World, wo = wr := ⟨_, rfl⟩
      clear hwo
      obtain ⟨go, hgo⟩ : ∃ go : Nat, go = gk := ⟨_, rfl⟩
      rw [← hgo] at HK
      have HGO := Lib.hid hgo
      clear hgo
      go_loopg [7] ly (fun k i wr => ∃ (s : Nat) (zs : List Int), k + s = ly ∧ i = .int .i64 s ∧ zs.length = lx + ly + 1 ∧ Bk wr w.heap.size 3 (zs.map (Value.int .i64)) ∧ (∀ j, 0 ≤ zs.getD j 0 ∧ zs.getD j 0 ≤ 81 * t + if j < t + s then 81 else 0) ∧
        dval zs = dval (xs.take t) * dval ys + 10 ^ t * (p * dval (ys.take s)) ∧ w.heap.size < wr.heap.size ∧ Below w.heap.size w wr)
      case atStart =>
        refine ⟨0, zs, by omega, rfl, HZ.out, HB.out, fun j => ?_, ?_, hsz, hbel⟩
        · have := HBD.out j
          split <;> omega
        · rw [HV.out]; simp [dval]
      case round =>
        obtain ⟨s, zs2, hk2, rfl, hzl2, hbk2, hbd2, hval2, hsz2, hbel2⟩ := hrel
        have HK2 := Lib.hid hk2
        have HZ2 := Lib.hid hzl2
        have HB2 := Lib.hid hbk2
        have HBD2 := Lib.hid hbd2
        have HV2 := Lib.hid hval2
        have hs' : s ≤ ly := by omega
        clear hk2 hzl2 hbk2 hbd2 hval2
        by_cases hls : s < ly
        · obtain ⟨g2, o2, rfl, hg2, hcell2⟩ := HT.out.at_ (k := s) (by have := EY.out; omega)
          have hgy := HY.out.get s
          obtain ⟨q, hq⟩ : ∃ q, q = ys.getD s 0 := ⟨_, rfl⟩
          rw [← hq] at hcell2 hgy
          obtain ⟨q0, q9⟩ := hgy
          have HQ := Lib.hid hq
          have ca := (hbel2.cell (p := ⟨g, o + t, none⟩) hg).trans hcell
          have cb := (hbel2.cell (p := ⟨g2, o2 + s, none⟩) hg2).trans hcell2
          have hzi : t + s < zs2.length := by have := HZ2.out; omega
          have cz : wr.cell? ⟨w.heap.size, t + s, none⟩ = some (.int .i64 (zs2.getD (t + s) 0)) := by
            refine HB2.out.cell _ ?_
            rw [List.getElem?_map, List.getElem?_eq_getElem hzi, getD_lt _ _ hzi]; rfl
          have fz := HB2.out.frozen (t + s)
          have hzb := HBD2.out (t + s)
          rw [if_neg (by omega)] at hzb
          obtain ⟨z, hz⟩ : ∃ z, z = zs2.getD (t + s) 0 := ⟨_, rfl⟩
          rw [← hz] at cz hzb
          obtain ⟨z0, z9⟩ := hzb
          obtain ⟨m0, m9⟩ := mul_bd p0 p9 q0 q9
          have HZZ := Lib.hid hz
          have HZI := Lib.hid hzi
          have i0 : (t : Int) + (s : Int) < (lx : Int) + (ly : Int) + 1 := by omega
          clear hq hz hcell2 hzi
          go_wp2_with fail
          go_region
          go_wp2_with fail
          go_roundg (gk - 1)
          case measure => have := HK2.out; omega
          case rel =>
            have hzi := HZI.out
            refine ⟨s + 1, zs2.set (t + s) (z + p * q), by have := HK2.out; omega, by go_num, by rw [List.length_set]; exact HZ2.out, ?_, ?_, ?_, by go_size, by (repeat' (first | (with_reducible exact Below.refl _ _) | (with_reducible assumption) | (with_reducible refine Below.drew ?_) | (with_reducible refine below_drewN ?_ _) | ((with_reducible refine Below.alloc ?_ ?_ _); rotate_left; focus (go_size; done)) | ((with_reducible refine Below.setCell ?_ ?_ _); rotate_left; focus (go_size; done)) | ((with_reducible refine Below.trans ?_ (Below.mono (by with_reducible assumption) ?_)); rotate_left; focus (go_size; done))))⟩
            · have h6 := (HB2.out.set_ (t + s) (.int .i64 (z + p * q))).drew
              rw [← List.map_set] at h6
              exact h6
            · intro j
              rw [getD_set _ _ _ _ hzi]
              by_cases hj : j = t + s
              · rw [if_pos hj, if_pos (by omega)]; omega
              · rw [if_neg hj]
                have := HBD2.out j
                by_cases hj2 : j < t + s
                · rw [if_pos hj2] at this; rw [if_pos (by omega)]; exact this
                · rw [if_neg hj2] at this; rw [if_neg (by omega)]; exact this
            · rw [dval_set _ _ _ hzi, ← HZZ.out, HV2.out, dval_take_succ ys s (by have := EY.out; omega), ← HQ.out, Int.pow_add]
              have e : z + p * q - z = p * q := by omega
              rw [e]
              generalize dval (ys.take s) = Y
              generalize dval (xs.take t) * dval ys = XY
              grind
        · obtain rfl : s = ly := by omega
          go_wp2_with fail
          go_roundg (go - 1)
          case measure => have := HK.out; have := HGO.out; omega
          case rel =>
            refine ⟨t + 1, zs2, by have := HK.out; omega, by go_num, HZ2.out, HB2.out, fun j => ?_, ?_, hsz2, hbel2⟩
            · have := HBD2.out j
              split at this <;> omega
            · rw [HV2.out, dval_take_succ xs t (by have := EX.out; omega), ← HP.out, EY.out, List.take_length, Int.add_mul, Int.mul_assoc]
    · obtain rfl : t = lx := by omega
      have hval : dval zs = ((N * M : Nat) : Int) := by
        rw [HV.out, EX.out, List.take_length, HX.out.2.2, HY.out.2.2, Int.natCast_mul]
      have HV := Far.mk hval
      clear hval
      go_wp2_with fail
      obtain ⟨wo, hwo⟩ : ∃ wo : World, wo = wr := ⟨_, rfl⟩
      clear hwo
      go_loopg [8] (t + ly) (fun k i wr => ∃ (s : Nat) (zs : List Int), k + s = t + ly ∧ i = .int .i64 s ∧ zs.length = t + ly + 1 ∧ Bk wr w.heap.size 3 (zs.map (Value.int .i64)) ∧ (∀ j, 0 ≤ zs.getD j 0) ∧ (∀ j, j < s → zs.getD j 0 ≤ 9) ∧ zs.getD s 0 ≤ 100000 ∧
        (∀ j, s < j → zs.getD j 0 ≤ 81000) ∧ dval zs = ((N * M : Nat) : Int) ∧ w.heap.size < wr.heap.size ∧ Below w.heap.size w wr)
      case atStart =>
        refine ⟨0, zs, by omega, rfl, HZ.out, HB.out, fun j => (HBD.out j).1, fun j hj => absurd hj (by omega), ?_, fun j _ => ?_, HV.out, hsz, hbel⟩
        · have := HBD.out 0; omega
        · have := HBD.out j; omega
      case round =>
        obtain ⟨s, zs2, hk2, rfl, hzl2, hbk2, hnn, h9, hs9, hgt, hval2, hsz2, hbel2⟩ := hrel
        have HK2 := Lib.hid hk2
        have HZ2 := Lib.hid hzl2
        have HB2 := Lib.hid hbk2
        have HNN := Lib.hid hnn
        have H9 := Lib.hid h9
        have HGT := Lib.hid hgt
        have HV2 := Far.mk hval2
        have hs' : s ≤ t + ly := by omega
        clear hk2 hzl2 hbk2 hnn h9 hgt hval2
        by_cases hls : s < t + ly
        · have hzi : s < zs2.length := by have := HZ2.out; omega
          have hzi2 : s + 1 < zs2.length := by have := HZ2.out; omega
          have cz : wr.cell? ⟨w.heap.size, s, none⟩ = some (.int .i64 (zs2.getD s 0)) := by
            refine HB2.out.cell _ ?_
            rw [List.getElem?_map, List.getElem?_eq_getElem hzi, getD_lt _ _ hzi]; rfl
          have cz2 : wr.cell? ⟨w.heap.size, s + 1, none⟩ = some (.int .i64 (zs2.getD (s + 1) 0)) := by
            refine HB2.out.cell _ ?_
            rw [List.getElem?_map, List.getElem?_eq_getElem hzi2, getD_lt _ _ hzi2]; rfl
          have fz := HB2.out.frozen s
          have fz2 := HB2.out.frozen (s + 1)
          have a0 := HNN.out s
          have b0 := HNN.out (s + 1)
          have b9 := HGT.out (s + 1) (by omega)
          obtain ⟨a, ha⟩ : ∃ z, z = zs2.getD s 0 := ⟨_, rfl⟩
          obtain ⟨b, hb⟩ : ∃ z, z = zs2.getD (s + 1) 0 := ⟨_, rfl⟩
          rw [← ha] at cz a0 hs9
          rw [← hb] at cz2 b0 b9
          have HA := Lib.hid ha
          have HBB := Lib.hid hb
          have HZI := Lib.hid hzi
          have HZI2 := Lib.hid hzi2
          have i0 : (s : Int) + 1 < (t : Int) + (ly : Int) + 1 := by omega
          clear ha hb hzi hzi2
          go_wp2_with fail
          go_region
          go_wp2_with fail
          go_roundg (gk - 1)
          case measure => have := HK2.out; omega
          case rel =>
            have hzi := HZI.out
            have hzi2 := HZI2.out
            have hzi3 : s < (zs2.set (s + 1) (b + a / 10)).length := by rw [List.length_set]; exact hzi
            refine ⟨s + 1, (zs2.set (s + 1) (b + a / 10)).set s (a % 10), by have := HK2.out; omega, by go_num, by rw [List.length_set, List.length_set]; exact HZ2.out, ?_, ?_, ?_, ?_, ?_, ?_, by go_size, by (repeat' (first | (with_reducible exact Below.refl _ _) | (with_reducible assumption) | (with_reducible refine Below.drew ?_) | (with_reducible refine below_drewN ?_ _) | ((with_reducible refine Below.alloc ?_ ?_ _); rotate_left; focus (go_size; done)) | ((with_reducible refine Below.setCell ?_ ?_ _); rotate_left; focus (go_size; done)) | ((with_reducible refine Below.trans ?_ (Below.mono (by with_reducible assumption) ?_)); rotate_left; focus (go_size; done))))⟩
            · have h6 := ((HB2.out.set_ (s + 1) (.int .i64 (b + a / 10))).drew).set_ s (.int .i64 (a % 10))
              rw [← List.map_set, ← List.map_set] at h6
              exact h6
            · intro j
              rw [getD_set _ _ _ _ hzi3, getD_set _ _ _ _ hzi2]
              split
              · omega
              · split
                · omega
                · exact HNN.out j
            · intro j hj
              rw [getD_set _ _ _ _ hzi3, getD_set _ _ _ _ hzi2]
              split
              · omega
              · rw [if_neg (by omega)]
                exact H9.out j (by omega)
            · rw [getD_set _ _ _ _ hzi3, getD_set _ _ _ _ hzi2, if_neg (by omega), if_pos rfl]; omega
            · intro j hj
              rw [getD_set _ _ _ _ hzi3, getD_set _ _ _ _ hzi2, if_neg (by omega), if_neg (by omega)]
              exact HGT.out j (by omega)
            · rw [dval_set _ _ _ hzi3, getD_set _ _ _ _ hzi2, if_neg (by omega), dval_set _ _ _ hzi2, ← HA.out, ← HBB.out, HV2.out, Int.pow_succ]
              have e1 := carry_step (10 ^ s) a
              have e2 : (10 : Int) ^ s * 10 * (b + a / 10 - b) = 10 ^ s * 10 * (a / 10) := by congr 1; omega
              have e3 : (10 : Int) ^ s * (a % 10 - a) = 10 ^ s * (a % 10) - 10 ^ s * a := Int.mul_sub _ _ _
              rw [e2, e3]; omega
        · have hs2 : s = t + ly := by omega
          have hnn' : ¬ (s : Int) + 1 < (t : Int) + (ly : Int) + 1 := by omega
          have hdig : Digs zs2 := by
            refine digs_of zs2 fun j hj => ⟨HNN.out j, ?_⟩
            have hl := HZ2.out
            by_cases hj2 : j < s
            · exact H9.out j hj2
            · have hj3 : j = t + ly := by omega
              rw [hj3]
              have h1 := dval_top_le zs2 (t + ly) hl HNN.out
              have h2 : dval zs2 < 10 ^ (t + ly) := by
                rw [HV2.out, Int.natCast_mul, Int.pow_add]
                have a1 := (dval_bd HX.out.1)
                have b1 := (dval_bd HY.out.1)
                rw [HX.out.2.2, ← EX.out] at a1
                rw [HY.out.2.2, ← EY.out] at b1
                have c1 : (N : Int) * M ≤ 10 ^ t * M := Int.mul_le_mul_of_nonneg_right (Int.le_of_lt a1.2) b1.1
                have c2 : (10 : Int) ^ t * M < 10 ^ t * 10 ^ ly := Int.mul_lt_mul_of_pos_left b1.2 (ten_pos t)
                omega
              have h3 : zs2.getD (t + ly) 0 < 1 := by
                have h4 : (10 : Int) ^ (t + ly) * zs2.getD (t + ly) 0 < 10 ^ (t + ly) * 1 := by omega
                exact Int.lt_of_mul_lt_mul_left h4 (Int.le_of_lt (ten_pos _))
              omega
          have HD := Lib.hid hdig
          clear hdig hs2
          go_wp2_with fail
          refine (cut_any zs2 _ _ (IsSl.of_bk HB2.out HZ2.out (Nat.le_refl _)) HD.out (by rw [HZ2.out]; omega)).mono ?_
          rintro _ w2 ⟨v2, rfl, hdg, hb2⟩
          have HDG := Lib.hid hdg
          clear hdg
          go_wp2_with fail
          go_ret
          refine ⟨_, rfl, ?_, by (repeat' (first | (with_reducible exact Below.refl _ _) | (with_reducible assumption) | (with_reducible refine Below.drew ?_) | (with_reducible refine below_drewN ?_ _) | ((with_reducible refine Below.alloc ?_ ?_ _); rotate_left; focus (go_size; done)) | ((with_reducible refine Below.setCell ?_ ?_ _); rotate_left; focus (go_size; done)) | ((with_reducible refine Below.trans ?_ (Below.mono (by with_reducible assumption) ?_)); rotate_left; focus (go_size; done))))⟩
          have e : N * M = (dval zs2).toNat := by rw [HV2.out]; rfl
          rw [e]
          exact HDG.out
end Go.Proofs.Ythkgjodidkpaeaa

set_option linter.unusedSimpArgs false
set_option linter.unusedVariables false
namespace Go.Proofs.Ythkgjodidkpaeaa
open Go.RowKit

theorem rcmp_bel (n m : Nat) (u v : Value) (w : World) (hu : Dg w u n) (hv : Dg w v m) (hn : Small n) (hm : Small m) :
    Calls Try.prog 92 #[u, v] w fun e w' => e = .returned (.int .i64 (cmpN n m)) ∧ Below w.heap.size w w' :=
  (rcmp_any n m u v w hu hv hn hm).mono fun _ _ ⟨he, nn, hw⟩ => ⟨he, by rw [hw]; exact below_drewN (Below.refl _ _) nn⟩
theorem lt_128_tiny {N : Nat} (h : N < 2 ^ 128) : Tiny N := lt_256_tiny (Nat.lt_of_lt_of_le h (Nat.pow_le_pow_right (by decide) (by decide)))
theorem mul_lt_256 {n m : Nat} (hn : n < 2 ^ 128) (hm : m < 2 ^ 128) : n * m < 2 ^ 256 := by
  have h := Nat.mul_lt_mul'' hn hm
  rwa [← Nat.pow_add] at h
end Go.Proofs.Ythkgjodidkpaeaa

set_option linter.unusedSimpArgs false
set_option linter.unusedVariables false
namespace Go.Proofs.Ythkgjodidkpaeaa
open Go.RowKit

/-- the digits' slice: empty at nought alone -/
theorem dg_len {w : World} {v : Value} {n : Nat} (h : Dg w v n) : ∃ (A : Option Addr) (k c : Nat), v = .slice A k c ∧ (k = 0 ↔ n = 0) ∧ k ≤ c := by
  obtain ⟨xs, ⟨A, c, rfl, hc, hs⟩, hd⟩ := h
  exact ⟨A, xs.length, c, rfl, hd.zero_iff, hc⟩
end Go.Proofs.Ythkgjodidkpaeaa

set_option linter.unusedSimpArgs false
set_option linter.unusedVariables false
namespace Go.Proofs.Ythkgjodidkpaeaa
open Go.RowKit

theorem IsDg.drop_zeros {l : List Int} {N : Nat} (h : IsDg l N) (k : Nat) (hk : k ≤ l.length) (hz : ∀ j, j < k → l.getD j 0 = 0) : IsDg (l.drop k) (N / 10 ^ k) ∧ N = N / 10 ^ k * 10 ^ k := by
  have e := dval_append (l.take k) (l.drop k)
  rw [List.take_append_drop, List.length_take, Nat.min_eq_left hk] at e
  have hz0 : dval (l.take k) = 0 := dval_zeros (fun d hd => by
    obtain ⟨i, hi, rfl⟩ := List.getElem_of_mem hd
    rw [List.length_take] at hi
    rw [List.getElem_take, ← getD_lt _ _ (by omega)]
    exact hz i (by omega))
  rw [hz0, Int.zero_add, h.2.2] at e
  have hb := dval_bd (h.1.drop k)
  obtain ⟨V, hV⟩ : ∃ V : Nat, dval (l.drop k) = (V : Int) := ⟨(dval (l.drop k)).toNat, by omega⟩
  rw [hV] at e
  have e2 : N = 10 ^ k * V := by exact_mod_cast e
  have e3 : N / 10 ^ k = V := by rw [e2, Nat.mul_div_cancel_left _ (Nat.pow_pos (by decide))]
  refine ⟨⟨h.1.drop k, ?_, by rw [hV, e3]⟩, by rw [e3, Nat.mul_comm]; exact e2⟩
  have ht := h.2.1
  unfold Top at *
  by_cases hlt : k < l.length
  · rw [List.getLast?_drop, if_neg (by omega)]; exact ht
  · rw [List.drop_of_length_le (by omega)]; simp
theorem tz_dig {l : List Int} {N T k : Nat} (h : IsDg l N) (hz : IsTz N T k) : k < l.length ∧ (∀ j, j < k → l.getD j 0 = 0) ∧ l.getD k 0 ≠ 0 := by
  have hk : k < l.length := by
    rcases Nat.lt_or_ge k l.length with hk | hk
    · exact hk
    · exfalso
      have h1 := h.lt_of_len hk
      have h2 : 1 ≤ T := by
        rcases Nat.eq_zero_or_pos T with h0 | h0
        · subst h0; exact absurd rfl hz.2
        · exact h0
      have h3 : 10 ^ k ≤ N := by rw [hz.1]; exact Nat.le_mul_of_pos_left _ h2
      omega
  have hd : ∀ j, j < l.length → l.getD j 0 = ((N / 10 ^ j % 10 : Nat) : Int) := fun j hj => by
    rw [dval_digit h.1 j hj, h.2.2, Int.natCast_emod, Int.natCast_ediv, Int.natCast_pow]; rfl
  refine ⟨hk, fun j hj => by rw [hd j (by omega), hz.mod_lt hj]; rfl, ?_⟩
  rw [hd k hk, hz.mod_eq]
  have := hz.2
  omega
theorem sl_drop {w : World} {g o t c : Nat} {xs : List Int} (h : Sl w (some ⟨g, o, none⟩) xs) (ht : t < xs.length) (hc : xs.length ≤ c) : IsSl w (.slice (some ⟨g, o + t, none⟩) (xs.length - t) (c - t)) (xs.drop t) := by
  refine ⟨_, _, by rw [List.length_drop], by rw [List.length_drop]; omega, fun _ => ?_⟩
  obtain ⟨g', o', cs, e, hb, hcs⟩ := h (by intro e; subst e; simp at ht)
  injection e with e
  injection e with e1 e2
  subst e1 e2
  refine ⟨g, o + t, cs, rfl, hb, fun j hj => ?_⟩
  rw [List.length_drop] at hj
  rw [Nat.add_assoc, hcs (t + j) (by omega), getD_lt _ _ (by omega), getD_lt _ _ (by rw [List.length_drop]; omega), List.getElem_drop]
end Go.Proofs.Ythkgjodidkpaeaa

set_option linter.unusedSimpArgs false
set_option linter.unusedVariables false
namespace Go.Proofs.Ythkgjodidkpaeaa
open Go.RowKit

theorem len_34 {l : List Int} {n : Nat} (h : IsDg l n) : l.length ≤ 34 ↔ n < B34 := ⟨fun hl => h.lt_of_len hl, fun hn => h.len_le hn⟩
theorem B34_small {n : Nat} (h : n < B34) : Tiny n := lt_128_tiny (Nat.lt_trans h B34_lt)
set_option maxHeartbeats 1000000 in
theorem one_any (k : Nat) (hk : k ≤ 998) (w : World) : Calls Try.prog 61 #[.int .i64 k] w (RetDg (10 ^ k) w) := by
  have HS := Lib.hid (fun W v hv => shift_any 1 k (by omega) v W hv small_one)
  rw [Nat.one_mul] at HS
  go_enter Try.func61, Try.ntmps61
  go_wp2_with fail
  refine (HS.out _ _ (dg_one (Bk.new_ rfl))).mono ?_
  rintro _ w1 ⟨v1, rfl, d1, hb1⟩; have hb1s := hb1.size; (try simp only [World.size_alloc, World.size_setCell, World.size_drew, World.heap_drewN] at hb1s); obtain ⟨hb1c, hb1f⟩ := bcell hb1; (try have : w.heap.size < w1.heap.size := by omega); (try have : w.heap.size + 1 < w1.heap.size := by omega); (try have : w.heap.size + 1 + 1 < w1.heap.size := by omega); (try have : w.heap.size + 1 + 1 + 1 < w1.heap.size := by omega); have Hd1 := Lib.hid d1; clear d1
  go_wp2_with fail
  go_ret
  exact ⟨v1, rfl, Hd1.out, by (repeat' (first | (with_reducible exact Below.refl _ _) | (with_reducible assumption) | (with_reducible refine Below.drew ?_) | (with_reducible refine below_drewN ?_ _) | ((with_reducible refine Below.alloc ?_ ?_ _); rotate_left; focus (go_size; done)) | ((with_reducible refine Below.setCell ?_ ?_ _); rotate_left; focus (go_size; done)) | ((with_reducible refine Below.trans ?_ (Below.mono (by with_reducible assumption) ?_)); rotate_left; focus (go_size; done))))⟩
set_option maxHeartbeats 4000000 in
theorem make1_any (neg : Bool) (n s : Nat) (v : Value) (w : World) (hv : Dg w v n) (hn : n < B34) (hs : s ≤ 1000) : Calls Try.prog 58 #[.bool neg, v, .int .i64 s] w fun e w' => e = .returned (.agg #[.bool (sg neg (stripC n s)), .int .u64 (wd ((stripC n s)) 1), .int .u64 (wd ((stripC n s)) 0), .int .i64 (stripS n s)]) ∧ Below w.heap.size w w' := by
  have HB := B34_small hn
  by_cases h0 : n = 0
  · have e1 : stripC n s = 0 := stripC_zero.2 h0
    have e2 : stripS n s = 0 := by rw [h0]; exact (strip_nil s).2
    rw [e1, e2, wd_zero, wd_zero, sg_zero]
    obtain ⟨A, k, c, rfl, hk, hkc⟩ := dg_len hv
    obtain rfl : k = 0 := hk.2 h0
    clear hk hv h0 hn HB e1 e2
    go_enter Try.func58, Try.ntmps58
    go_wp2_with fail
    refine bodyPost_ret (by simp [results, Try.results58, go_sem, *]; try rfl) rfl ?_
    exact ⟨rfl, by (repeat' (first | (with_reducible exact Below.refl _ _) | (with_reducible assumption) | (with_reducible refine Below.drew ?_) | (with_reducible refine below_drewN ?_ _) | ((with_reducible refine Below.alloc ?_ ?_ _); rotate_left; focus (go_size; done)) | ((with_reducible refine Below.setCell ?_ ?_ _); rotate_left; focus (go_size; done)) | ((with_reducible refine Below.trans ?_ (Below.mono (by with_reducible assumption) ?_)); rotate_left; focus (go_size; done))))⟩
  · have hne : sg neg (stripC n s) = neg := sg_pos (fun e => h0 (stripC_zero.1 e))
    rw [hne]
    obtain ⟨C, hC⟩ : ∃ C, C = stripC n s := ⟨_, rfl⟩
    obtain ⟨S, hS⟩ : ∃ S, S = stripS n s := ⟨_, rfl⟩
    rw [← hC, ← hS]
    have EC := Far.mk hC
    have ES := Far.mk hS
    obtain ⟨A, k, c, rfl, hk, hkc⟩ := dg_len hv
    have hk0 : ((k : Int) == 0) = false := by simp; omega
    have hkp : (0 : Int) < (k : Int) := by omega
    have HV := Lib.hid hv
    have HH0 := Lib.hid h0
    have HN := Far.mk hn
    clear hC hS hv hn hne h0 hk
    go_enter Try.func58, Try.ntmps58
    go_wp2_with fail
    clear hkp hk0
    go_loopg [1, 2] s (fun kk v sv wr => ∃ m : Nat, sv = .int .i64 (kk : Int) ∧ kk ≤ 1000 ∧ Hid (m ≠ 0) ∧ Far (m < B34) ∧ Far (C = stripC m kk ∧ S = stripS m kk) ∧ Dg wr v m ∧ Bk wr w.heap.size 26 [.bool false, .int .u64 0, .int .u64 0, .int .i64 0] ∧ Below w.heap.size w wr)
    case atStart => exact ⟨n, rfl, hs, HH0, HN, Far.mk ⟨EC.out, ES.out⟩, HV.out.below (by (repeat' (first | (with_reducible exact Below.refl _ _) | (with_reducible assumption) | (with_reducible refine Below.drew ?_) | (with_reducible refine below_drewN ?_ _) | ((with_reducible refine Below.alloc ?_ ?_ _); rotate_left; focus (go_size; done)) | ((with_reducible refine Below.setCell ?_ ?_ _); rotate_left; focus (go_size; done)) | ((with_reducible refine Below.trans ?_ (Below.mono (by with_reducible assumption) ?_)); rotate_left; focus (go_size; done))))), by (repeat (first | (with_reducible assumption) | ((with_reducible refine Bk.new_ ?_); (first | rfl | (simp only [World.size_alloc, World.size_setCell, World.size_drew, World.heap_drewN]; done))) | (with_reducible refine Bk.alloc ?_ _) | (with_reducible refine Bk.drew ?_) | (with_reducible refine Bk.drewN ?_ _) | ((with_reducible refine Bk.far ?_ ?_ _); rotate_left; focus (simp only []; omega)) | ((with_reducible refine Bk.below ?_ (by with_reducible assumption) ?_); rotate_left; focus (go_size; done)))), by (repeat' (first | (with_reducible exact Below.refl _ _) | (with_reducible assumption) | (with_reducible refine Below.drew ?_) | (with_reducible refine below_drewN ?_ _) | ((with_reducible refine Below.alloc ?_ ?_ _); rotate_left; focus (go_size; done)) | ((with_reducible refine Below.setCell ?_ ?_ _); rotate_left; focus (go_size; done)) | ((with_reducible refine Below.trans ?_ (Below.mono (by with_reducible assumption) ?_)); rotate_left; focus (go_size; done))))⟩
    case round =>
      obtain ⟨m, rfl, hk1, hm0, hmb, hcs, hdg, b0, hbel⟩ := hrel
      have HB0 := Lib.hid b0
      have l0 := b0.lt
      obtain ⟨xs, ⟨A, c, rfl, hc, hs⟩, hd⟩ := hdg
      have hlen : xs.length ≤ 34 := (len_34 hd).2 hmb.out
      have hpos : 0 < xs.length := Nat.pos_of_ne_zero (fun e => hm0.out (hd.zero_iff.1 e))
      obtain ⟨g, o, rfl, hg, hcell⟩ := hs.at_ (k := 0) hpos
      have hdig := dval_digit hd.1 0 hpos
      rw [hd.2.2, Int.pow_zero, Int.ediv_one] at hdig
      have hdig2 : xs.getD 0 0 = ((m % 10 : Nat) : Int) := by rw [hdig]; rfl
      rw [hdig2, Nat.add_zero] at hcell
      have hl0 : (0 : Int) < (xs.length : Int) := by omega
      have HS := Lib.hid hs
      have HD := Lib.hid hd
      have HC := Lib.hid hc
      clear hs hd hdig hdig2 b0 hc
      by_cases hz : gk = 0
      · subst hz
        have hm10 : Far (C = m ∧ S = 0) := hcs
        have ht := hm10.out
        have HT := Lib.hid (fun W h => to_any m (.slice (some ⟨g, o, none⟩) xs.length c) W h (B34_small hmb.out).small)
        unfold RetWide at HT
        rw [Nat.mod_eq_of_lt (Nat.lt_trans (Nat.lt_trans hmb.out B34_lt) (by decide))] at HT
        generalize decide (m < 2 ^ 128) = fr at *
        have HDG : Hid (Dg wr (.slice (some ⟨g, o, none⟩) xs.length c) m) := Lib.hid ⟨xs, ⟨_, c, rfl, HC.out, HS.out⟩, HD.out⟩
        have hng : ¬ (0 : Int) < ((0 : Nat) : Int) := by omega
        clear ht
        go_wp2_with fail
        refine (HT.out _ HDG.out).mono ?_
        rintro _ w2 ⟨rfl, hb2⟩; have hb2s := hb2.size; (try simp only [World.size_alloc, World.size_setCell, World.size_drew, World.heap_drewN] at hb2s); obtain ⟨hb2c, hb2f⟩ := bcell hb2; (try have : w.heap.size < w2.heap.size := by omega); (try have : w.heap.size + 1 < w2.heap.size := by omega); (try have : w.heap.size + 1 + 1 < w2.heap.size := by omega); (try have : w.heap.size + 1 + 1 + 1 < w2.heap.size := by omega)
        have b0 := HB0.out
        have k0 : Bk w2 w.heap.size 26 [.bool false, .int .u64 0, .int .u64 0, .int .i64 0] := by (repeat (first | (with_reducible assumption) | ((with_reducible refine Bk.new_ ?_); (first | rfl | (simp only [World.size_alloc, World.size_setCell, World.size_drew, World.heap_drewN]; done))) | (with_reducible refine Bk.alloc ?_ _) | (with_reducible refine Bk.drew ?_) | (with_reducible refine Bk.drewN ?_ _) | ((with_reducible refine Bk.far ?_ ?_ _); rotate_left; focus (simp only []; omega)) | ((with_reducible refine Bk.below ?_ (by with_reducible assumption) ?_); rotate_left; focus (go_size; done))))
        have k_0 := k0.cell 0 rfl
        have k_1 := k0.cell 1 rfl
        have k_2 := k0.cell 2 rfl
        have k_3 := k0.cell 3 rfl
        have k_4 := k0.frozen 0
        have k_5 := k0.frozen 1
        have k_6 := k0.frozen 2
        have k_7 := k0.frozen 3
        have k0l := k0.lt
        clear b0 k0 hb2c hb2f
        go_wp2_with fail
        refine bodyPost_ret (by simp [results, Try.results58, go_sem, *]; try rfl) rfl ?_
        obtain ⟨e1, e2⟩ := hm10.out
        exact ⟨by rw [e1, e2]; rfl, by (repeat' (first | (with_reducible exact Below.refl _ _) | (with_reducible assumption) | (with_reducible refine Below.drew ?_) | (with_reducible refine below_drewN ?_ _) | ((with_reducible refine Below.alloc ?_ ?_ _); rotate_left; focus (go_size; done)) | ((with_reducible refine Below.setCell ?_ ?_ _); rotate_left; focus (go_size; done)) | ((with_reducible refine Below.trans ?_ (Below.mono (by with_reducible assumption) ?_)); rotate_left; focus (go_size; done))))⟩
      · obtain ⟨j, rfl⟩ : ∃ j, gk = j + 1 := ⟨gk - 1, by omega⟩
        have hj : (0 : Int) < ((j + 1 : Nat) : Int) := by omega
        by_cases hd10 : m % 10 = 0
        · have hcs' : Far (C = stripC (m / 10) j ∧ S = stripS (m / 10) j) := Far.mk (by
            obtain ⟨e1, e2⟩ := hcs.out
            rw [e1, e2]; exact strip_yes hd10 j)
          rw [hd10] at hcell
          obtain ⟨hdd, _⟩ := HD.out.drop_zeros 1 hpos (by
            intro t ht
            obtain rfl : t = 0 := by omega
            have := dval_digit HD.out.1 0 hpos
            rw [HD.out.2.2, Int.pow_zero, Int.ediv_one] at this
            rw [this]; omega)
          have hm1 : m / 10 ≠ 0 := by have := hm0.out; omega
          have hlen2 : 1 < xs.length := by
            rcases Nat.lt_or_ge 1 xs.length with h | h
            · exact h
            · have := HD.out.lt_of_len (k := 1) h
              omega
          have hsl : IsSl wr (.slice (some ⟨g, o + 1, none⟩) (xs.length - 1) (c - 1)) (xs.drop 1) := sl_drop HS.out hlen2 HC.out
          have HDG : Hid (Dg wr (.slice (some ⟨g, o + 1, none⟩) (xs.length - 1) (c - 1)) (m / 10)) := Lib.hid ⟨_, hsl, by rw [Nat.pow_one] at hdd; exact hdd⟩
          have hc1 : (1 : Int) ≤ (c : Int) := by have := HC.out; omega
          have hcne : ¬ c = 1 := by have := HC.out; omega
          have hl1 : (1 : Int) ≤ (xs.length : Int) := by omega
          have hmb' : Far (m / 10 < B34) := Far.mk (by have := hmb.out; omega)
          have HM1 := Lib.hid hm1
          clear hdd hsl hm1 hd10 hcs hmb hm0
          go_wp2_with fail
          go_roundg j
          case measure => omega
          case rel =>
            refine ⟨m / 10, ?_, by omega, HM1, hmb', hcs', ?_, HB0.out, hbel⟩
            · congr 1
            · exact HDG.out
        · have hm10 : Far (C = m ∧ S = j + 1) := Far.mk (by
            obtain ⟨e1, e2⟩ := hcs.out
            rw [e1, e2]; exact strip_no hd10 (j + 1))
          have hne : ((((m % 10 : Nat) : Int)) == 0) = false := by simp; omega
          obtain ⟨d, hdd⟩ : ∃ d : Int, d = ((m % 10 : Nat) : Int) := ⟨_, rfl⟩
          rw [← hdd] at hcell hne
          have HT := Lib.hid (fun W h => to_any m (.slice (some ⟨g, o, none⟩) xs.length c) W h (B34_small hmb.out).small)
          unfold RetWide at HT
          rw [Nat.mod_eq_of_lt (Nat.lt_trans (Nat.lt_trans hmb.out B34_lt) (by decide))] at HT
          generalize decide (m < 2 ^ 128) = fr at *
          have HDG : Hid (Dg wr (.slice (some ⟨g, o, none⟩) xs.length c) m) := Lib.hid ⟨xs, ⟨_, c, rfl, HC.out, HS.out⟩, HD.out⟩
          clear hdd hd10 hcs
          go_wp2_with fail
          refine (HT.out _ HDG.out).mono ?_
          rintro _ w2 ⟨rfl, hb2⟩; have hb2s := hb2.size; (try simp only [World.size_alloc, World.size_setCell, World.size_drew, World.heap_drewN] at hb2s); obtain ⟨hb2c, hb2f⟩ := bcell hb2; (try have : w.heap.size < w2.heap.size := by omega); (try have : w.heap.size + 1 < w2.heap.size := by omega); (try have : w.heap.size + 1 + 1 < w2.heap.size := by omega); (try have : w.heap.size + 1 + 1 + 1 < w2.heap.size := by omega)
          have b0 := HB0.out
          have k0 : Bk w2 w.heap.size 26 [.bool false, .int .u64 0, .int .u64 0, .int .i64 0] := by (repeat (first | (with_reducible assumption) | ((with_reducible refine Bk.new_ ?_); (first | rfl | (simp only [World.size_alloc, World.size_setCell, World.size_drew, World.heap_drewN]; done))) | (with_reducible refine Bk.alloc ?_ _) | (with_reducible refine Bk.drew ?_) | (with_reducible refine Bk.drewN ?_ _) | ((with_reducible refine Bk.far ?_ ?_ _); rotate_left; focus (simp only []; omega)) | ((with_reducible refine Bk.below ?_ (by with_reducible assumption) ?_); rotate_left; focus (go_size; done))))
          have k_0 := k0.cell 0 rfl
          have k_1 := k0.cell 1 rfl
          have k_2 := k0.cell 2 rfl
          have k_3 := k0.cell 3 rfl
          have k_4 := k0.frozen 0
          have k_5 := k0.frozen 1
          have k_6 := k0.frozen 2
          have k_7 := k0.frozen 3
          have k0l := k0.lt
          clear b0 k0 hb2c hb2f
          go_wp2_with fail
          refine bodyPost_ret (by simp [results, Try.results58, go_sem, *]; try rfl) rfl ?_
          obtain ⟨e1, e2⟩ := hm10.out
          exact ⟨by rw [e1, e2]; first | rfl | (congr; omega), by (repeat' (first | (with_reducible exact Below.refl _ _) | (with_reducible assumption) | (with_reducible refine Below.drew ?_) | (with_reducible refine below_drewN ?_ _) | ((with_reducible refine Below.alloc ?_ ?_ _); rotate_left; focus (go_size; done)) | ((with_reducible refine Below.setCell ?_ ?_ _); rotate_left; focus (go_size; done)) | ((with_reducible refine Below.trans ?_ (Below.mono (by with_reducible assumption) ?_)); rotate_left; focus (go_size; done))))⟩
end Go.Proofs.Ythkgjodidkpaeaa

set_option linter.unusedSimpArgs false
set_option linter.unusedVariables false
namespace Go.Proofs.Ythkgjodidkpaeaa
open Go.RowKit

set_option maxHeartbeats 4000000 in
theorem rform_any (b : Bool) (c : Nat) (s : Int) (hc : c < 2 ^ 128) (w : World) : Calls Try.prog 13 #[.agg #[.bool b, .int .u64 (wd (c) 1), .int .u64 (wd (c) 0), .int .i64 s]] w fun e w' => e = .returned (.bool (dform b c s)) ∧ Below w.heap.size w w' := by
  have HO := Lib.hid (fun W => of_any c hc W)
  obtain ⟨x0, hx0⟩ : ∃ x, x = wd c 0 := ⟨_, rfl⟩
  obtain ⟨x1, hx1⟩ : ∃ x, x = wd c 1 := ⟨_, rfl⟩
  rw [← hx0, ← hx1] at HO
  rw [← hx0, ← hx1]
  obtain ⟨f, hf⟩ : ∃ f, f = dform b c s := ⟨_, rfl⟩
  rw [← hf]
  have HF := Far.mk hf
  clear hx0 hx1 hc hf
  go_enter Try.func13, Try.ntmps13
  go_wp2_with fail
  refine (HO.out _).mono ?_
  rintro _ w1 ⟨v1, rfl, d1, hb1⟩; have hb1s := hb1.size; (try simp only [World.size_alloc, World.size_setCell, World.size_drew, World.heap_drewN] at hb1s); obtain ⟨hb1c, hb1f⟩ := bcell hb1; (try have : w.heap.size < w1.heap.size := by omega); (try have : w.heap.size + 1 < w1.heap.size := by omega); (try have : w.heap.size + 1 + 1 < w1.heap.size := by omega); (try have : w.heap.size + 1 + 1 + 1 < w1.heap.size := by omega); have Hd1 := Lib.hid d1; clear d1
  have k0 : Bk w1 w.heap.size 26 [.bool b, .int .u64 x1, .int .u64 x0, .int .i64 s] := by (repeat (first | (with_reducible assumption) | ((with_reducible refine Bk.new_ ?_); (first | rfl | (simp only [World.size_alloc, World.size_setCell, World.size_drew, World.heap_drewN]; done))) | (with_reducible refine Bk.alloc ?_ _) | (with_reducible refine Bk.drew ?_) | (with_reducible refine Bk.drewN ?_ _) | ((with_reducible refine Bk.far ?_ ?_ _); rotate_left; focus (simp only []; omega)) | ((with_reducible refine Bk.below ?_ (by with_reducible assumption) ?_); rotate_left; focus (go_size; done))))
  have k0_0 := k0.cell 0 rfl
  have k0_1 := k0.cell 1 rfl
  have k0_2 := k0.cell 2 rfl
  have k0_3 := k0.cell 3 rfl
  have k0_4 := k0.frozen 0
  have k0_5 := k0.frozen 1
  have k0_6 := k0.frozen 2
  have k0_7 := k0.frozen 3
  have k0l := k0.lt
  have mb : Below w.heap.size w w1 := by (repeat' (first | (with_reducible exact Below.refl _ _) | (with_reducible assumption) | (with_reducible refine Below.drew ?_) | (with_reducible refine below_drewN ?_ _) | ((with_reducible refine Below.alloc ?_ ?_ _); rotate_left; focus (go_size; done)) | ((with_reducible refine Below.setCell ?_ ?_ _); rotate_left; focus (go_size; done)) | ((with_reducible refine Below.trans ?_ (Below.mono (by with_reducible assumption) ?_)); rotate_left; focus (go_size; done))))
  clear k0 hb1c hb1f hb1 hb1s
  obtain ⟨xs, ⟨A, k, rfl, hk, hs⟩, hd⟩ := Hd1.out
  have h34 := len_34 hd
  by_cases hb : c < B34
  · have hl : (xs.length : Int) ≤ 34 := by have := h34.2 hb; omega
    have hl' : ¬ (34 : Int) < (xs.length : Int) := by omega
    by_cases h0 : s < 0
    · have e := HF.out
      rw [dform_neg h0] at e
      subst e
      clear hb h34 hk hs hd
      go_wp2_with fail
      go_ret
      exact ⟨rfl, by (repeat' (first | (with_reducible exact Below.refl _ _) | (with_reducible assumption) | (with_reducible refine Below.drew ?_) | (with_reducible refine below_drewN ?_ _) | ((with_reducible refine Below.alloc ?_ ?_ _); rotate_left; focus (go_size; done)) | ((with_reducible refine Below.setCell ?_ ?_ _); rotate_left; focus (go_size; done)) | ((with_reducible refine Below.trans ?_ (Below.mono (by with_reducible assumption) ?_)); rotate_left; focus (go_size; done))))⟩
    · by_cases h1 : 18 < s
      · have e := HF.out
        rw [dform_deep h1] at e
        subst e
        clear hb h34 hk hs hd
        go_wp2_with fail
        go_ret
        exact ⟨rfl, by (repeat' (first | (with_reducible exact Below.refl _ _) | (with_reducible assumption) | (with_reducible refine Below.drew ?_) | (with_reducible refine below_drewN ?_ _) | ((with_reducible refine Below.alloc ?_ ?_ _); rotate_left; focus (go_size; done)) | ((with_reducible refine Below.setCell ?_ ?_ _); rotate_left; focus (go_size; done)) | ((with_reducible refine Below.trans ?_ (Below.mono (by with_reducible assumption) ?_)); rotate_left; focus (go_size; done))))⟩
      · have e := HF.out
        rw [dform_in hb (by omega) (by omega)] at e
        by_cases hz : c = 0
        · rw [if_pos hz] at e
          have hl0 : xs.length = 0 := hd.zero_iff.2 hz
          have E := Lib.hid e
          clear hb h34 hk hs hd hz e HF
          rw [hl0]
          cases b
          · go_wp2_with fail
            go_ret
            exact ⟨ret_bool (by rw [E.out]; simp; first | rfl | omega | (rw [Bool.eq_iff_iff]; simp)), by (repeat' (first | (with_reducible exact Below.refl _ _) | (with_reducible assumption) | (with_reducible refine Below.drew ?_) | (with_reducible refine below_drewN ?_ _) | ((with_reducible refine Below.alloc ?_ ?_ _); rotate_left; focus (go_size; done)) | ((with_reducible refine Below.setCell ?_ ?_ _); rotate_left; focus (go_size; done)) | ((with_reducible refine Below.trans ?_ (Below.mono (by with_reducible assumption) ?_)); rotate_left; focus (go_size; done))))⟩
          · go_wp2_with fail
            go_ret
            exact ⟨ret_bool (by rw [E.out]; rfl), by (repeat' (first | (with_reducible exact Below.refl _ _) | (with_reducible assumption) | (with_reducible refine Below.drew ?_) | (with_reducible refine below_drewN ?_ _) | ((with_reducible refine Below.alloc ?_ ?_ _); rotate_left; focus (go_size; done)) | ((with_reducible refine Below.setCell ?_ ?_ _); rotate_left; focus (go_size; done)) | ((with_reducible refine Below.trans ?_ (Below.mono (by with_reducible assumption) ?_)); rotate_left; focus (go_size; done))))⟩
        · rw [if_neg hz] at e
          have E := Lib.hid e
          obtain ⟨g, o, k', c', e', hkc, hcell, hg⟩ := dg_first Hd1.out hz
          injection e' with e1 e2 e3
          subst e1
          have hlp : ((xs.length : Int) == 0) = false := by rw [beq_eq_false_iff_ne]; omega
          have hlq : (0 : Int) < (xs.length : Int) := by omega
          obtain ⟨d, hdd⟩ : ∃ d : Int, d = ((c % 10 : Nat) : Int) := ⟨_, rfl⟩
          rw [← hdd] at hcell
          have HDD := Lib.hid hdd
          clear hb h34 hk hs hd hz e HF hdd e2 e3
          by_cases hs0 : s = 0
          · have g2 : (s == 0) = true := by simpa using hs0
            have HS := Lib.hid hs0
            clear hs0
            go_wp2_with fail
            go_ret
            exact ⟨ret_bool (by rw [E.out, HS.out]; rfl), by (repeat' (first | (with_reducible exact Below.refl _ _) | (with_reducible assumption) | (with_reducible refine Below.drew ?_) | (with_reducible refine below_drewN ?_ _) | ((with_reducible refine Below.alloc ?_ ?_ _); rotate_left; focus (go_size; done)) | ((with_reducible refine Below.setCell ?_ ?_ _); rotate_left; focus (go_size; done)) | ((with_reducible refine Below.trans ?_ (Below.mono (by with_reducible assumption) ?_)); rotate_left; focus (go_size; done))))⟩
          · have g2 : (s == 0) = false := by simpa using hs0
            have HS := Lib.hid hs0
            clear hs0
            go_wp2_with fail
            go_ret
            exact ⟨ret_bool (by rw [E.out, decide_eq_false HS.out, Bool.false_or, Bool.eq_iff_iff]; have := HDD.out; simp; omega), by (repeat' (first | (with_reducible exact Below.refl _ _) | (with_reducible assumption) | (with_reducible refine Below.drew ?_) | (with_reducible refine below_drewN ?_ _) | ((with_reducible refine Below.alloc ?_ ?_ _); rotate_left; focus (go_size; done)) | ((with_reducible refine Below.setCell ?_ ?_ _); rotate_left; focus (go_size; done)) | ((with_reducible refine Below.trans ?_ (Below.mono (by with_reducible assumption) ?_)); rotate_left; focus (go_size; done))))⟩
  · have e := HF.out
    rw [dform_hi hb] at e
    subst e
    have hl : (34 : Int) < (xs.length : Int) := by have := mt h34.1 hb; omega
    clear hb h34 hk hs hd
    go_wp2_with fail
    go_ret
    exact ⟨rfl, by (repeat' (first | (with_reducible exact Below.refl _ _) | (with_reducible assumption) | (with_reducible refine Below.drew ?_) | (with_reducible refine below_drewN ?_ _) | ((with_reducible refine Below.alloc ?_ ?_ _); rotate_left; focus (go_size; done)) | ((with_reducible refine Below.setCell ?_ ?_ _); rotate_left; focus (go_size; done)) | ((with_reducible refine Below.trans ?_ (Below.mono (by with_reducible assumption) ?_)); rotate_left; focus (go_size; done))))⟩
set_option maxHeartbeats 2000000 in
theorem flip_any (b : Bool) (c : Nat) (s : Int) (hc : c < 2 ^ 128) (w : World) : Calls Try.prog 65 #[.agg #[.bool b, .int .u64 (wd (c) 1), .int .u64 (wd (c) 0), .int .i64 s]] w fun e w' => e = .returned (.agg #[.bool (sg (!b) c), .int .u64 (wd (c) 1), .int .u64 (wd (c) 0), .int .i64 s]) ∧ Below w.heap.size w w' := by
  have qz : ∀ W, (binOp .neq 24 (.agg #[.int .u64 (wd c 1), .int .u64 (wd c 0)]) (.agg #[.int .u64 0, .int .u64 0])).run Try.prog W = .ok (.bool (!(decide (c = 0)))) W := fun W => by rw [neq_wide, eq_nil hc]
  obtain ⟨z, hz⟩ : ∃ z, z = decide (c = 0) := ⟨_, rfl⟩
  obtain ⟨r, hr⟩ : ∃ r, r = sg (!b) c := ⟨_, rfl⟩
  have HR := Lib.hid (show r = (!b && !z) by rw [hr, hz]; unfold sg; simp)
  rw [← hz] at qz
  rw [← hr]
  generalize wd c 0 = x0 at *
  generalize wd c 1 = x1 at *
  clear hc hz hr
  cases b
  · go_enter Try.func65, Try.ntmps65
    go_wp2_with fail
    refine bodyPost_ret (by simp [results, Try.results65, go_sem, *]; try rfl) rfl ?_
    exact ⟨by rw [HR.out]; rfl, by (repeat' (first | (with_reducible exact Below.refl _ _) | (with_reducible assumption) | (with_reducible refine Below.drew ?_) | (with_reducible refine below_drewN ?_ _) | ((with_reducible refine Below.alloc ?_ ?_ _); rotate_left; focus (go_size; done)) | ((with_reducible refine Below.setCell ?_ ?_ _); rotate_left; focus (go_size; done)) | ((with_reducible refine Below.trans ?_ (Below.mono (by with_reducible assumption) ?_)); rotate_left; focus (go_size; done))))⟩
  · go_enter Try.func65, Try.ntmps65
    go_wp2_with fail
    refine bodyPost_ret (by simp [results, Try.results65, go_sem, *]; try rfl) rfl ?_
    exact ⟨by rw [HR.out]; rfl, by (repeat' (first | (with_reducible exact Below.refl _ _) | (with_reducible assumption) | (with_reducible refine Below.drew ?_) | (with_reducible refine below_drewN ?_ _) | ((with_reducible refine Below.alloc ?_ ?_ _); rotate_left; focus (go_size; done)) | ((with_reducible refine Below.setCell ?_ ?_ _); rotate_left; focus (go_size; done)) | ((with_reducible refine Below.trans ?_ (Below.mono (by with_reducible assumption) ?_)); rotate_left; focus (go_size; done))))⟩
def RetUnits (b : Bool) (n : Nat) (w : World) (e : Ending) (w' : World) : Prop := ∃ v, e = .returned (.tuple #[.bool b, v]) ∧ Dg w' v n ∧ Below w.heap.size w w'
set_option maxHeartbeats 4000000 in
theorem units_any (b : Bool) (c s : Nat) (hc : c < 2 ^ 128) (hs : s ≤ 18) (w : World) : Calls Try.prog 66 #[.agg #[.bool b, .int .u64 (wd (c) 1), .int .u64 (wd (c) 0), .int .i64 s]] w (RetUnits b (unit c s) w) := by
  have HO := Lib.hid (fun W => of_any c hc W)
  have HSM := Lib.hid (lt_128_tiny hc).small
  generalize wd c 0 = x0 at *
  generalize wd c 1 = x1 at *
  have gw : IntKind.i64.wrap (18 - (s : Int)) = 18 - (s : Int) := IntWalk.i64_in _ (by omega)
  have HX : Hid (∀ W v, Dg W v c → Calls Try.prog 91 #[v, .int .i64 (18 - (s : Int))] W (RetDg (unit c s) W)) := Lib.hid (fun W v hv => by
    rw [show (18 : Int) - (s : Int) = ((18 - s : Nat) : Int) by omega]
    exact shift_any c (18 - s) (by omega) v W hv HSM.out)
  generalize unit c s = U at *
  clear hc
  go_enter Try.func66, Try.ntmps66
  go_wp2_with fail
  go_region_held3 (fun w' => (w'.cell? ⟨w.heap.size, 0, none⟩ = some (.bool b) ∧ w'.cell? ⟨w.heap.size, 1, none⟩ = some (.int .u64 x1) ∧ w'.cell? ⟨w.heap.size, 2, none⟩ = some (.int .u64 x0) ∧ w'.cell? ⟨w.heap.size, 3, none⟩ = some (.int .i64 ((s : Int))))) (first | (first | (go_keep; done) | (simp [go_sem]; done) | ((try dsimp only); (repeat' apply And.intro) <;> (first | (with_reducible assumption) | ((rw [World.cell?_alloc_lt _ _ _ (by show _ < _; omega)]); go_split_ands; (first | with_reducible assumption | (refine (World.cell?_alloc_lt _ _ _ (by show _ < _; omega)).symm.trans ?_; with_reducible assumption))) | ((rw [World.cell?_setCell_other _ _ _ _ (by intro e; injection e; omega)]); with_reducible assumption) | (go_keep; done) | (simp [go_sem]; done) | (simp (disch := go_size) [*, World.cell?_alloc_some, World.cell?_setCell_far]; done)))) | ((refine ⟨Bk.cell (t := 26) (cs := [.bool b, .int .u64 x1, .int .u64 x0, .int .i64 ((s : Int))]) ?_ 0 rfl, Bk.cell (t := 26) (cs := [.bool b, .int .u64 x1, .int .u64 x0, .int .i64 ((s : Int))]) ?_ 1 rfl, Bk.cell (t := 26) (cs := [.bool b, .int .u64 x1, .int .u64 x0, .int .i64 ((s : Int))]) ?_ 2 rfl, Bk.cell (t := 26) (cs := [.bool b, .int .u64 x1, .int .u64 x0, .int .i64 ((s : Int))]) ?_ 3 rfl⟩) <;> ((repeat (first | (with_reducible assumption) | ((with_reducible refine Bk.new_ ?_); (first | rfl | (simp only [World.size_alloc, World.size_setCell, World.size_drew, World.heap_drewN]; done))) | (with_reducible refine Bk.alloc ?_ _) | (with_reducible refine Bk.drew ?_) | (with_reducible refine Bk.drewN ?_ _) | ((with_reducible refine Bk.far ?_ ?_ _); rotate_left; focus (simp only []; omega)) | ((with_reducible refine Bk.below ?_ (by with_reducible assumption) ?_); rotate_left; focus (go_size; done)))); done))) (first | (go_at_call 49; (with_reducible refine (HO.out _).mono ?_); rintro _ w1 ⟨v1, rfl, d1, hb1⟩; have hb1s := hb1.size; (try simp only [World.size_alloc, World.size_setCell, World.size_drew, World.heap_drewN] at hb1s); obtain ⟨hb1c, hb1f⟩ := bcell hb1; (try have : w.heap.size < w1.heap.size := by omega); (try have : w.heap.size + 1 < w1.heap.size := by omega); (try have : w.heap.size + 1 + 1 < w1.heap.size := by omega); (try have : w.heap.size + 1 + 1 + 1 < w1.heap.size := by omega); have Hd1 := Lib.hid d1; clear d1) | (go_at_call 91; (with_reducible refine (HX.out _ _ ?hx).mono ?_); (case hx => ((first | exact Hid.out (by assumption) | exact Dg.below (Hid.out (by assumption)) (by (repeat' (first | (with_reducible exact Below.refl _ _) | (with_reducible assumption) | (with_reducible refine Below.drew ?_) | (with_reducible refine below_drewN ?_ _) | ((with_reducible refine Below.alloc ?_ ?_ _); rotate_left; focus (go_size; done)) | ((with_reducible refine Below.setCell ?_ ?_ _); rotate_left; focus (go_size; done)) | ((with_reducible refine Below.trans ?_ (Below.mono (by with_reducible assumption) ?_)); rotate_left; focus (go_size; done)))))))); rintro _ w2 ⟨v2, rfl, d2, hb2⟩; have hb2s := hb2.size; (try simp only [World.size_alloc, World.size_setCell, World.size_drew, World.heap_drewN] at hb2s); obtain ⟨hb2c, hb2f⟩ := bcell hb2; (try have : w.heap.size < w2.heap.size := by omega); (try have : w.heap.size + 1 < w2.heap.size := by omega); (try have : w.heap.size + 1 + 1 < w2.heap.size := by omega); (try have : w.heap.size + 1 + 1 + 1 < w2.heap.size := by omega); have Hd2 := Lib.hid d2; clear d2; (try have : w1.heap.size < w2.heap.size := by omega); (try have : w1.heap.size + 1 < w2.heap.size := by omega); (try have : w1.heap.size + 1 + 1 < w2.heap.size := by omega); (try have : w1.heap.size + 1 + 1 + 1 < w2.heap.size := by omega)))
  all_goals
    go_wp2_with fail
    go_ret2
    exact ⟨_, rfl, by (first | exact Hid.out (by assumption) | exact Dg.below (Hid.out (by assumption)) (by (repeat' (first | (with_reducible exact Below.refl _ _) | (with_reducible assumption) | (with_reducible refine Below.drew ?_) | (with_reducible refine below_drewN ?_ _) | ((with_reducible refine Below.alloc ?_ ?_ _); rotate_left; focus (go_size; done)) | ((with_reducible refine Below.setCell ?_ ?_ _); rotate_left; focus (go_size; done)) | ((with_reducible refine Below.trans ?_ (Below.mono (by with_reducible assumption) ?_)); rotate_left; focus (go_size; done)))))), by (repeat' (first | (with_reducible exact Below.refl _ _) | (with_reducible assumption) | (with_reducible refine Below.drew ?_) | (with_reducible refine below_drewN ?_ _) | ((with_reducible refine Below.alloc ?_ ?_ _); rotate_left; focus (go_size; done)) | ((with_reducible refine Below.setCell ?_ ?_ _); rotate_left; focus (go_size; done)) | ((with_reducible refine Below.trans ?_ (Below.mono (by with_reducible assumption) ?_)); rotate_left; focus (go_size; done))))⟩
def RetSum (an : Bool) (x : Nat) (bn : Bool) (y : Nat) (w : World) (e : Ending) (w' : World) : Prop := ∃ v, e = .returned (.tuple #[.bool (sgn an x bn y), v]) ∧ Dg w' v (sab an x bn y) ∧ Below w.heap.size w w'
set_option maxHeartbeats 4000000 in
theorem rsum_any (an : Bool) (x : Nat) (bn : Bool) (y : Nat) (u v : Value) (w : World) (hu : Dg w u x) (hv : Dg w v y) (hx : Tiny x) (hy : Tiny y) :
    Calls Try.prog 67 #[.bool an, u, .bool bn, v] w (RetSum an x bn y w) := by
  have HU := Lib.hid hu
  have HV := Lib.hid hv
  have HX := Lib.hid hx.small
  have HY := Lib.hid hy.small
  obtain ⟨N, hN⟩ : ∃ N, N = sgn an x bn y := ⟨_, rfl⟩
  obtain ⟨U, hU⟩ : ∃ U, U = sab an x bn y := ⟨_, rfl⟩
  unfold RetSum
  rw [← hN, ← hU]
  clear hu hv hx hy
  by_cases hb : an = bn
  · have hbe : (an == bn) = true := by simpa using hb
    have e1 : N = an := by rw [hN]; unfold sgn; rw [if_pos hb]
    have e2 : U = x + y := by rw [hU]; unfold sab; rw [if_pos hb]
    subst e1
    have E2 := Lib.hid e2
    clear hb hN hU e2
    go_enter Try.func67, Try.ntmps67
    go_wp2_with fail
    refine (plus_any x y _ _ _ HU.out HV.out HX.out HY.out).mono ?_
    rintro _ w1 ⟨v1, rfl, d1, hb1⟩; have hb1s := hb1.size; (try simp only [World.size_alloc, World.size_setCell, World.size_drew, World.heap_drewN] at hb1s); obtain ⟨hb1c, hb1f⟩ := bcell hb1; (try have : w.heap.size < w1.heap.size := by omega); (try have : w.heap.size + 1 < w1.heap.size := by omega); (try have : w.heap.size + 1 + 1 < w1.heap.size := by omega); (try have : w.heap.size + 1 + 1 + 1 < w1.heap.size := by omega); have Hd1 := Lib.hid d1; clear d1
    go_wp2_with fail
    go_ret2
    exact ⟨_, rfl, by rw [E2.out]; exact Hd1.out, by (repeat' (first | (with_reducible exact Below.refl _ _) | (with_reducible assumption) | (with_reducible refine Below.drew ?_) | (with_reducible refine below_drewN ?_ _) | ((with_reducible refine Below.alloc ?_ ?_ _); rotate_left; focus (go_size; done)) | ((with_reducible refine Below.setCell ?_ ?_ _); rotate_left; focus (go_size; done)) | ((with_reducible refine Below.trans ?_ (Below.mono (by with_reducible assumption) ?_)); rotate_left; focus (go_size; done))))⟩
  · have hbe : (an == bn) = false := by simpa using hb
    by_cases hl : y ≤ x
    · have hc : 0 ≤ cmpN x y := by unfold cmpN; split <;> (try split) <;> omega
      have e1 : N = an := by rw [hN]; unfold sgn; rw [if_neg hb, if_pos hl]
      have e2 : U = x - y := by rw [hU]; unfold sab; rw [if_neg hb, if_pos hl]
      subst e1
      have E2 := Lib.hid e2
      have HL := Lib.hid hl
      have HC := Lib.hid (fun W hu hv => rcmp_bel x y u v W hu hv HX.out HY.out)
      generalize cmpN x y = cc at *
      clear hb hN hU e2 hl
      go_enter Try.func67, Try.ntmps67
      go_wp2_with fail
      refine (HC.out _ HU.out HV.out).mono ?_
      rintro _ w1 ⟨rfl, hb1⟩; have hb1s := hb1.size; (try simp only [World.size_alloc, World.size_setCell, World.size_drew, World.heap_drewN] at hb1s); obtain ⟨hb1c, hb1f⟩ := bcell hb1; (try have : w.heap.size < w1.heap.size := by omega); (try have : w.heap.size + 1 < w1.heap.size := by omega); (try have : w.heap.size + 1 + 1 < w1.heap.size := by omega); (try have : w.heap.size + 1 + 1 + 1 < w1.heap.size := by omega)
      go_wp2_with fail
      refine (rless_any x y HL.out _ _ _ (HU.out.below hb1) (HV.out.below hb1) HX.out HY.out).mono ?_
      rintro _ w2 ⟨v2, rfl, d2, hb2⟩; have hb2s := hb2.size; (try simp only [World.size_alloc, World.size_setCell, World.size_drew, World.heap_drewN] at hb2s); obtain ⟨hb2c, hb2f⟩ := bcell hb2; (try have : w.heap.size < w2.heap.size := by omega); (try have : w.heap.size + 1 < w2.heap.size := by omega); (try have : w.heap.size + 1 + 1 < w2.heap.size := by omega); (try have : w.heap.size + 1 + 1 + 1 < w2.heap.size := by omega); have Hd2 := Lib.hid d2; clear d2
      go_wp2_with fail
      go_ret2
      exact ⟨_, rfl, by rw [E2.out]; exact Hd2.out, by (repeat' (first | (with_reducible exact Below.refl _ _) | (with_reducible assumption) | (with_reducible refine Below.drew ?_) | (with_reducible refine below_drewN ?_ _) | ((with_reducible refine Below.alloc ?_ ?_ _); rotate_left; focus (go_size; done)) | ((with_reducible refine Below.setCell ?_ ?_ _); rotate_left; focus (go_size; done)) | ((with_reducible refine Below.trans ?_ (Below.mono (by with_reducible assumption) ?_)); rotate_left; focus (go_size; done))))⟩
    · have hc : ¬ 0 ≤ cmpN x y := by unfold cmpN; rw [if_neg (by omega), if_pos (by omega)]; decide
      have e1 : N = bn := by rw [hN]; unfold sgn; rw [if_neg hb, if_neg hl]
      have e2 : U = y - x := by rw [hU]; unfold sab; rw [if_neg hb, if_neg hl]
      subst e1
      have E2 := Lib.hid e2
      have HL : Hid (x ≤ y) := Lib.hid (by omega)
      have HC := Lib.hid (fun W hu hv => rcmp_bel x y u v W hu hv HX.out HY.out)
      generalize cmpN x y = cc at *
      clear hb hN hU e2 hl
      go_enter Try.func67, Try.ntmps67
      go_wp2_with fail
      refine (HC.out _ HU.out HV.out).mono ?_
      rintro _ w1 ⟨rfl, hb1⟩; have hb1s := hb1.size; (try simp only [World.size_alloc, World.size_setCell, World.size_drew, World.heap_drewN] at hb1s); obtain ⟨hb1c, hb1f⟩ := bcell hb1; (try have : w.heap.size < w1.heap.size := by omega); (try have : w.heap.size + 1 < w1.heap.size := by omega); (try have : w.heap.size + 1 + 1 < w1.heap.size := by omega); (try have : w.heap.size + 1 + 1 + 1 < w1.heap.size := by omega)
      go_wp2_with fail
      refine (rless_any y x HL.out _ _ _ (HV.out.below hb1) (HU.out.below hb1) HY.out HX.out).mono ?_
      rintro _ w2 ⟨v2, rfl, d2, hb2⟩; have hb2s := hb2.size; (try simp only [World.size_alloc, World.size_setCell, World.size_drew, World.heap_drewN] at hb2s); obtain ⟨hb2c, hb2f⟩ := bcell hb2; (try have : w.heap.size < w2.heap.size := by omega); (try have : w.heap.size + 1 < w2.heap.size := by omega); (try have : w.heap.size + 1 + 1 < w2.heap.size := by omega); (try have : w.heap.size + 1 + 1 + 1 < w2.heap.size := by omega); have Hd2 := Lib.hid d2; clear d2
      go_wp2_with fail
      go_ret2
      exact ⟨_, rfl, by rw [E2.out]; exact Hd2.out, by (repeat' (first | (with_reducible exact Below.refl _ _) | (with_reducible assumption) | (with_reducible refine Below.drew ?_) | (with_reducible refine below_drewN ?_ _) | ((with_reducible refine Below.alloc ?_ ?_ _); rotate_left; focus (go_size; done)) | ((with_reducible refine Below.setCell ?_ ?_ _); rotate_left; focus (go_size; done)) | ((with_reducible refine Below.trans ?_ (Below.mono (by with_reducible assumption) ?_)); rotate_left; focus (go_size; done))))⟩
end Go.Proofs.Ythkgjodidkpaeaa

set_option linter.unusedSimpArgs false
set_option linter.unusedVariables false
namespace Go.Proofs.Ythkgjodidkpaeaa
open Go.RowKit
set_option maxRecDepth 100000 in
theorem open_long {H : Type} {enc : TypeId × Value → H} {W : World} {base b0 : Nat} {v : Value} {d : DataW H} {p : List MemPlace} {sp : Nat → Bool} {held : Bool}
    (hv : Value.okWide Try.prog W .any base 45 v) (h : DataW.Trod enc Try.prog W b0 sp held 45 v d p) :
    ∃ a0 a1 a2 a3 : Int, v = .agg #[.int .u64 a0, .int .u64 a1, .int .u64 a2, .int .u64 a3] ∧ (Lit.int .u64 a0).wf = true ∧ (Lit.int .u64 a1).wf = true ∧ (Lit.int .u64 a2).wf = true ∧ (Lit.int .u64 a3).wf = true := by
  obtain ⟨cs, rfl, hsz, _⟩ : ∃ cs, v = .agg cs ∧ cs.size = Try.prog.cellsOf 45 ∧ Row.okWide Try.prog W .any base 45 cs := by
    simpa [Value.okWide, Try.underlying45] using hv
  have hc : Try.prog.cellsOf 45 = 4 := by kernel_rfl
  have hce : Try.prog.cellsOf 22 = 1 := by kernel_rfl
  obtain ⟨c0, c1, c2, c3, rfl⟩ := Joins.array4 (hsz.trans hc)
  obtain ⟨fuel, hf⟩ := h
  obtain ⟨y0, y1, y2, y3, m, _, hy0, hy1, hy2, hy3⟩ := Go.ChangeShapes.trod_array4 Try.underlying45 hce hf
  obtain ⟨x0, e0, _, w0⟩ := DataW.trod_int Try.underlying22 hy0
  obtain ⟨x1, e1, _, w1⟩ := DataW.trod_int Try.underlying22 hy1
  obtain ⟨x2, e2, _, w2⟩ := DataW.trod_int Try.underlying22 hy2
  obtain ⟨x3, e3, _, w3⟩ := DataW.trod_int Try.underlying22 hy3
  simp at e0 e1 e2 e3
  subst e0 e1 e2 e3
  exact ⟨x0, x1, x2, x3, rfl, w0, w1, w2, w3⟩
/-- a word's bounds -/
theorem wf_word {a : Int} (h : (Lit.int .u64 a).wf = true) : 0 ≤ a ∧ a < 18446744073709551616 := by
  have := bounds_u64 h; omega
end Go.Proofs.Ythkgjodidkpaeaa

set_option linter.unusedSimpArgs false
set_option linter.unusedVariables false
namespace Go.Proofs.Ythkgjodidkpaeaa
open Go.RowKit

set_option maxRecDepth 100000 in
theorem eq_dec (b : Bool) (x y s : Int) (b' : Bool) (x' y' s' : Int) (W : World) : (binOp .eql 26 (.agg #[.bool b, .int .u64 x, .int .u64 y, .int .i64 s]) (.agg #[.bool b', .int .u64 x', .int .u64 y', .int .i64 s'])).run Try.prog W = .ok (.bool ((b == b') && ((x == x') && ((y == y') && (s == s'))))) W := by
  go_simp
  by_cases h0 : b = b' <;> by_cases h1 : x = x' <;> by_cases h2 : y = y' <;> by_cases h3 : s = s' <;> simp [h0, h1, h2, h3]
set_option maxRecDepth 100000 in
theorem neq_dec (b : Bool) (x y s : Int) (b' : Bool) (x' y' s' : Int) (W : World) : (binOp .neq 26 (.agg #[.bool b, .int .u64 x, .int .u64 y, .int .i64 s]) (.agg #[.bool b', .int .u64 x', .int .u64 y', .int .i64 s'])).run Try.prog W = .ok (.bool (!((b == b') && ((x == x') && ((y == y') && (s == s')))))) W := by
  go_simp
  by_cases h0 : b = b' <;> by_cases h1 : x = x' <;> by_cases h2 : y = y' <;> by_cases h3 : s = s' <;> simp [h0, h1, h2, h3]
theorem fit_exact {n t : Nat} (h : n < B34) (ht : t ≤ 18) : FitC n (10 ^ t) = stripC n t ∧ FitS n (10 ^ t) = stripS n t ∧ FitE n (10 ^ t) = 0 := by
  have e := near_high n t 0
  rw [Nat.add_zero, Nat.pow_zero, Nat.mul_one] at e
  unfold FitC FitS FitE
  rw [fit_top n t ht, fitK_yes (by rw [e]; exact h), e]
  exact ⟨rfl, rfl, rfl⟩
theorem kn_add (W : World) : Calls Try.prog 15 #[.agg #[.bool false, .int .u64 0, .int .u64 1, .int .i64 1], .agg #[.bool false, .int .u64 0, .int .u64 2, .int .i64 1]] W fun e w' => e = .returned (.tuple #[.agg #[.bool false, .int .u64 0, .int .u64 3, .int .i64 1], .int .i64 0]) ∧ Below W.heap.size W w' := by
  have hB : (3 : Nat) < B34 := by unfold B34; decide
  have h := add_ok false 1 1 false 2 1 ((dform_iff _ _ _).2 ⟨1, rfl, by omega, by decide, fun h => absurd h (by decide), .inr (by decide)⟩) ((dform_iff _ _ _).2 ⟨1, rfl, by omega, by decide, fun h => absurd h (by decide), .inr (by decide)⟩) (by omega) (by omega) (by decide) (by decide) W
  obtain ⟨e1, e2, e3, e4⟩ := add_units false false 1 2 1 1 1 (by decide) (by decide) rfl
  rw [e1, e2, e3, e4] at h
  obtain ⟨s1, s2⟩ := sgn_same (b := false) (b' := false) (x := 1 * 10 ^ (1 - 1)) (y := 2 * 10 ^ (1 - 1)) rfl
  rw [s1, s2] at h
  obtain ⟨f1, f2, f3⟩ := fit_exact (n := 3) (t := 1) hB (by decide)
  obtain ⟨g1, g2⟩ := strip_no (c := 3) (by decide) 1
  rw [g1] at f1
  rw [g2] at f2
  have e : 1 * 10 ^ (1 - 1) + 2 * 10 ^ (1 - 1) = 3 := by decide
  rw [e, f1, f2, f3] at h
  have a0 : wd 1 0 = 1 := by rw [wd0]; rfl
  have a1 : wd 1 1 = 0 := by rw [wd1]; rfl
  have b0 : wd 2 0 = 2 := by rw [wd0]; rfl
  have b1 : wd 2 1 = 0 := by rw [wd1]; rfl
  have c0 : wd 3 0 = 3 := by rw [wd0]; rfl
  have c1 : wd 3 1 = 0 := by rw [wd1]; rfl
  rw [a0, a1, b0, b1, c0, c1, sg_pos (by decide)] at h
  exact h
set_option maxHeartbeats 1000000 in
theorem known_any (w : World) : Calls Try.prog 11 #[] w fun e w' => e = .returned (.bool true) ∧ Below w.heap.size w w' := by
  have q : ∀ W, (binOp .eql 26 (.agg #[.bool false, .int .u64 0, .int .u64 3, .int .i64 1]) (.agg #[.bool false, .int .u64 0, .int .u64 3, .int .i64 1])).run Try.prog W = .ok (.bool true) W := fun W => eq_dec _ _ _ _ _ _ _ _ W
  go_enter Try.func11, Try.ntmps11
  go_wp2_with fail
  refine (kn_add _).mono ?_
  rintro _ w1 ⟨rfl, hb1⟩; have hb1s := hb1.size; (try simp only [World.size_alloc, World.size_setCell, World.size_drew, World.heap_drewN] at hb1s); obtain ⟨hb1c, hb1f⟩ := bcell hb1; (try have : w.heap.size < w1.heap.size := by omega); (try have : w.heap.size + 1 < w1.heap.size := by omega); (try have : w.heap.size + 1 + 1 < w1.heap.size := by omega); (try have : w.heap.size + 1 + 1 + 1 < w1.heap.size := by omega)
  go_wp2_with fail
  go_ret
  exact ⟨rfl, by (repeat' (first | (with_reducible exact Below.refl _ _) | (with_reducible assumption) | (with_reducible refine Below.drew ?_) | (with_reducible refine below_drewN ?_ _) | ((with_reducible refine Below.alloc ?_ ?_ _); rotate_left; focus (go_size; done)) | ((with_reducible refine Below.setCell ?_ ?_ _); rotate_left; focus (go_size; done)) | ((with_reducible refine Below.trans ?_ (Below.mono (by with_reducible assumption) ?_)); rotate_left; focus (go_size; done))))⟩
set_option maxRecDepth 100000 in
theorem open_dec {H : Type} {enc : TypeId × Value → H} {W : World} {base b0 : Nat} {v : Value} {d : DataW H} {p : List MemPlace} {sp : Nat → Bool} {held : Bool}
    (hv : Value.okWide Try.prog W .any base 26 v) (h : DataW.Trod enc Try.prog W b0 sp held 26 v d p) :
    ∃ (b : Bool) (a0 a1 a2 : Int), v = .agg #[.bool b, .int .u64 a0, .int .u64 a1, .int .i64 a2] ∧ (Lit.int .u64 a0).wf = true ∧ (Lit.int .u64 a1).wf = true ∧ (Lit.int .i64 a2).wf = true := by
  obtain ⟨cs, rfl, hsz⟩ := Go.WideShapes.okWide_struct Try.underlying26 hv
  have hc : Try.prog.cellsOf 26 = 4 := by kernel_rfl
  obtain ⟨c0, c1, c2, c3, rfl⟩ := Joins.array4 (hsz.trans hc)
  obtain ⟨fuel, hf⟩ := h
  obtain ⟨xs, n, _, hx, _, hlen, hg⟩ := DataW.trod_struct Try.underlying26 hf
  have n0 : Try.prog.cellsOf 4 = 1 := by kernel_rfl
  have n1 : Try.prog.cellsOf 24 = 2 := by kernel_rfl
  have n2 : Try.prog.cellsOf 3 = 1 := by kernel_rfl
  have n3 : Try.prog.cellsOf 22 = 1 := by kernel_rfl
  have g0 := hg 0 _ rfl
  have g1 := hg 1 _ rfl
  have g2 := hg 2 _ rfl
  clear hg hf hx
  match xs, hlen with
  | [y0, y1, y2], _ =>
    simp only [List.getElem_toArray, List.getElem_cons_zero, List.getElem_cons_succ, n0, n1, n2] at g0 g1 g2
    simp [Value.cells] at g0 g1 g2
    obtain ⟨b, e0, _⟩ := DataW.trod_bool Try.underlying4 g0
    obtain ⟨z2, e2, _, w2⟩ := DataW.trod_int Try.underlying3 g2
    obtain ⟨ys, n', _, _, _, hlen2, hg2⟩ := DataW.trod_struct Try.underlying24 g1
    have k0 := hg2 0 _ rfl
    have k1 := hg2 1 _ rfl
    match ys, hlen2 with
    | [q0, q1], _ =>
      simp only [List.getElem_toArray, List.getElem_cons_zero, List.getElem_cons_succ, n3] at k0 k1
      simp at k0 k1
      obtain ⟨z0, f0, _, v0⟩ := DataW.trod_int Try.underlying22 k0
      obtain ⟨z1, f1, _, v1⟩ := DataW.trod_int Try.underlying22 k1
      simp at e0 e2 f0 f1
      subst e0 e2 f0 f1
      exact ⟨b, z0, z1, z2, rfl, v0, v1, w2⟩
end Go.Proofs.Ythkgjodidkpaeaa

set_option linter.unusedSimpArgs false
set_option linter.unusedVariables false
namespace Go.Proofs.Ythkgjodidkpaeaa
open Go.RowKit

theorem near_bounds (N d : Nat) (hd : 0 < d) : 2 * N ≤ (2 * near N d + 1) * d ∧ 2 * near N d * d ≤ 2 * N + d := by
  have h1 := Nat.div_add_mod N d
  have h2 := Nat.mod_lt N hd
  have e1 : ∀ x, (2 * x + 1) * d = 2 * (d * x) + d := fun x => by rw [Nat.add_mul, Nat.one_mul, Nat.mul_assoc, Nat.mul_comm x d]
  have e2 : ∀ x, 2 * x * d = 2 * (d * x) := fun x => by rw [Nat.mul_assoc, Nat.mul_comm x d]
  rw [e1, e2]
  unfold near
  split
  · rw [Nat.mul_add, Nat.mul_one]
    generalize d * (N / d) = X at *
    omega
  · rw [Nat.add_zero]
    generalize d * (N / d) = X at *
    omega
theorem near_mono {N M d : Nat} (hd : 0 < d) (h : N ≤ M) : near N d ≤ near M d := by
  rcases Nat.lt_or_ge (near M d) (near N d) with hl | hl
  · exfalso
    have h1 := (near_bounds N d hd).2
    have h2 := (near_bounds M d hd).1
    have h3 : (2 * near M d + 2) * d ≤ 2 * near N d * d := Nat.mul_le_mul_right _ (by omega)
    have e : (2 * near M d + 2) * d = (2 * near M d + 1) * d + d := by rw [Nat.add_mul, Nat.add_mul]; omega
    have : N = M := by omega
    rw [this] at hl; omega
  · exact hl
/-- what does not fit at a scale is great at every lesser one -/
theorem near_great {n d k : Nat} (hd : 0 < d) (hk : 0 < k) (hk34 : k ≤ 34) (h : B34 ≤ near (n * 10 ^ k) d) : B34 ≤ near n d * 10 ^ k := by
  have hPQ : 10 ^ (34 - k) * 10 ^ k = B34 := by unfold B34; rw [← Nat.pow_add]; congr 1; omega
  have hP : 10 ≤ 10 ^ k := by
    calc (10 : Nat) = 10 ^ 1 := rfl
      _ ≤ 10 ^ k := Nat.pow_le_pow_right (by decide) hk
  rcases Nat.lt_or_ge (near n d) (10 ^ (34 - k)) with hz | hz
  · exfalso
    have h1 := (near_bounds (n * 10 ^ k) d hd).2
    have h2 := (near_bounds n d hd).1
    have h3 : 2 * B34 * d ≤ 2 * near (n * 10 ^ k) d * d := Nat.mul_le_mul_right _ (by omega)
    have h4 : 2 * n * 10 ^ k ≤ (2 * near n d + 1) * d * 10 ^ k := Nat.mul_le_mul_right _ h2
    have h5 : (2 * near n d + 1) * d * 10 ^ k + d * 10 ^ k ≤ 2 * 10 ^ (34 - k) * d * 10 ^ k := by
      rw [← Nat.add_mul, show (2 * near n d + 1) * d + d = (2 * near n d + 2) * d by rw [Nat.add_mul, Nat.add_mul]; omega]
      exact Nat.mul_le_mul_right _ (Nat.mul_le_mul_right _ (by omega))
    have h6 : 2 * 10 ^ (34 - k) * d * 10 ^ k = 2 * B34 * d := by rw [← hPQ, Nat.mul_right_comm, Nat.mul_assoc 2]
    have h7 : 2 * (n * 10 ^ k) = 2 * n * 10 ^ k := by rw [Nat.mul_assoc]
    have h8 : d * 10 ≤ d * 10 ^ k := Nat.mul_le_mul_left _ hP
    omega
  · rw [← hPQ]; exact Nat.mul_le_mul_right _ hz
/-- the size in units of 10^-18 of what is fitted -/
def rval (r : Nat × Nat × Int) : Nat := r.1 * 10 ^ (18 - r.2.1)
theorem fit_great {n d s : Nat} (hd : 0 < d) (hs : s ≤ 18) (h : B34 ≤ near (n * 10 ^ s) d) (k : Nat) (hk : k ≤ s) (he : (fitK n d k).2.2 = 0) : B34 * 10 ^ (18 - s) ≤ rval (fitK n d k) := by
  induction k with
  | zero => exact absurd he (show ¬ (3 : Int) = 0 by decide)
  | succ t ih =>
    by_cases ht : near (n * 10 ^ t) d < B34
    · rw [fitK_yes ht]
      unfold rval
      have e1 : n * 10 ^ s = n * 10 ^ t * 10 ^ (s - t) := by rw [Nat.mul_assoc, ← Nat.pow_add]; congr 2; omega
      rw [e1] at h
      have g := near_great hd (by omega) (by omega) h
      have e2 : 10 ^ (18 - t) = 10 ^ (s - t) * 10 ^ (18 - s) := by rw [← Nat.pow_add]; congr 1; omega
      show B34 * 10 ^ (18 - s) ≤ near (n * 10 ^ t) d * 10 ^ (18 - t)
      rw [e2, ← Nat.mul_assoc]
      exact Nat.mul_le_mul_right _ g
    · rw [fitK_no ht] at he ⊢
      exact ih (by omega) he
theorem fit_mono {n m d : Nat} (hd : 0 < d) (h : n ≤ m) (k : Nat) (hk : k ≤ 19) (he : (fitK m d k).2.2 = 0) : (fitK n d k).2.2 = 0 ∧ rval (fitK n d k) ≤ rval (fitK m d k) := by
  induction k with
  | zero => exact absurd he (show ¬ (3 : Int) = 0 by decide)
  | succ s ih =>
    have hm : near (n * 10 ^ s) d ≤ near (m * 10 ^ s) d := near_mono hd (Nat.mul_le_mul_right _ h)
    by_cases h1 : near (m * 10 ^ s) d < B34
    · rw [fitK_yes h1, fitK_yes (Nat.lt_of_le_of_lt hm h1)]
      exact ⟨rfl, Nat.mul_le_mul_right _ hm⟩
    · by_cases h2 : near (n * 10 ^ s) d < B34
      · rw [fitK_yes h2]
        rw [fitK_no h1] at he ⊢
        refine ⟨rfl, ?_⟩
        have g := fit_great hd (by omega) (by omega : B34 ≤ near (m * 10 ^ s) d) s (Nat.le_refl _) he
        exact Nat.le_trans (Nat.mul_le_mul_right _ (Nat.le_of_lt h2)) g
      · rw [fitK_no h1] at he ⊢
        rw [fitK_no h2]
        exact ih (by omega) he
/-- without noughts behind the point it is the same size -/
theorem unit_strip (c s : Nat) (h : s ≤ 18) : unit (stripC c s) (stripS c s) = c * 10 ^ (18 - s) := by
  obtain ⟨e, hl⟩ := strip_val c s
  unfold unit
  have e2 : 10 ^ (18 - stripS c s) = 10 ^ (s - stripS c s) * 10 ^ (18 - s) := by rw [← Nat.pow_add]; congr 1; omega
  rw [e2, ← Nat.mul_assoc, e]
theorem unit_fit (n d : Nat) : unit (FitC n d) (FitS n d) = rval (fitK n d (K19 n)) := by
  obtain ⟨_, h2, _⟩ := fitK_lt n d (K19 n)
  have h19 := K19_eq n
  exact unit_strip _ _ (by omega)
theorem fit_order {n m d : Nat} (hd : 0 < d) (h : n ≤ m) (he : FitE m d = 0) : FitE n d = 0 ∧ unit (FitC n d) (FitS n d) ≤ unit (FitC m d) (FitS m d) := by
  rw [unit_fit, unit_fit]
  have e : K19 m = K19 n := by rw [K19_eq, K19_eq]
  unfold FitE at he ⊢
  rw [e] at he
  rw [e]
  exact fit_mono hd h (K19 n) (by rw [K19_eq]; exact Nat.le_refl _) he
end Go.Proofs.Ythkgjodidkpaeaa

set_option linter.unusedSimpArgs false
set_option linter.unusedVariables false
namespace Go.Proofs.Ythkgjodidkpaeaa
open Go.RowKit

/-- the number in units, with its sign -/
def sval (b : Bool) (u : Nat) : Int := if b = true then -(u : Int) else (u : Int)
def ordS (x y : Int) : Int := if x = y then 0 else if x < y then -1 else 1
theorem ordD_sval {an bn : Bool} {x y : Nat} (ha : x = 0 → an = false) (hb : y = 0 → bn = false) : ordD an x bn y = ordS (sval an x) (sval bn y) := by
  cases an <;> cases bn <;> simp [ordD, ordS, sval, cmpN] at * <;> (repeat' split) <;> omega
theorem sval_sum (an bn : Bool) (x y : Nat) : sval (sgn an x bn y) (sab an x bn y) = sval an x + sval bn y := by
  cases an <;> cases bn <;> simp only [sgn, sab, sval, if_true, if_false, Bool.false_eq_true, reduceCtorEq] <;> (repeat' split) <;> simp_all <;> omega
theorem unit_nil {c s : Nat} : unit c s = 0 ↔ c = 0 := by
  unfold unit
  rw [Nat.mul_eq_zero]
  have : 10 ^ (18 - s) ≠ 0 := Nat.ne_of_gt (Nat.pow_pos (by decide))
  constructor
  · rintro (h | h)
    · exact h
    · exact absurd h this
  · exact .inl
theorem sval_sg (b : Bool) (c s : Nat) : sval (sg b c) (unit c s) = sval b (unit c s) := by
  by_cases h : c = 0
  · rw [h, sg_zero]
    have e : unit 0 s = 0 := unit_nil.2 rfl
    rw [e]; unfold sval; cases b <;> rfl
  · rw [sg_pos h]
theorem sval_neg {b : Bool} {c s : Nat} : sval (sg (!b) c) (unit c s) = -sval b (unit c s) := by
  rw [sval_sg]; unfold sval; cases b <;> simp
theorem ordS_swap (x y : Int) : ordS y x = -ordS x y := by
  unfold ordS; (repeat' split) <;> omega
theorem ordS_neg (x y : Int) : ordS (-y) (-x) = ordS x y := by
  unfold ordS; (repeat' split) <;> omega
theorem ordS_zero (x y : Int) : ordS x y = 0 ↔ x = y := by
  unfold ordS; (repeat' split) <;> omega
/-- one number, one decimal in form -/
theorem unit_inj {c s c' s' : Nat} (hs : s ≤ 18) (hs' : s' ≤ 18) (h : unit c s = unit c' s') (f1 : c = 0 → s = 0) (f2 : s = 0 ∨ c % 10 ≠ 0) (f3 : c' = 0 → s' = 0) (f4 : s' = 0 ∨ c' % 10 ≠ 0) : c = c' ∧ s = s' := by
  have key : ∀ {c s c' s' : Nat}, s < s' → s' ≤ 18 → unit c s = unit c' s' → (s' = 0 ∨ c' % 10 ≠ 0) → False := by
    intro c s c' s' hlt h18 h f4
    unfold unit at h
    rw [show 18 - s = s' - s - 1 + 1 + (18 - s') by omega, Nat.pow_add, ← Nat.mul_assoc] at h
    have e := Nat.eq_of_mul_eq_mul_right (Nat.pow_pos (by decide)) h
    rw [Nat.pow_succ, ← Nat.mul_assoc] at e
    have : c' % 10 = 0 := by rw [← e]; exact Nat.mul_mod_left _ _
    omega
  rcases Nat.lt_trichotomy s s' with hl | he | hg
  · exact (key hl hs' h f4).elim
  · subst he
    exact ⟨Nat.eq_of_mul_eq_mul_right (Nat.pow_pos (by decide)) h, rfl⟩
  · exact (key hg hs h.symm f2).elim
theorem sval_inj {b b' : Bool} {u v : Nat} (h : sval b u = sval b' v) (h1 : u = 0 → b = false) (h2 : v = 0 → b' = false) : b = b' ∧ u = v := by
  cases b <;> cases b' <;> simp [sval] at * <;> omega
/-- what is fitted, in units -/
def fitU (n : Nat) : Nat := unit (FitC n (10 ^ 18)) (FitS n (10 ^ 18))
theorem fitU_nil : fitU 0 = 0 := by
  have h := fitK_lt 0 (10 ^ 18) (K19 0)
  have g := fit_mono (n := 0) (m := 0) (d := 10 ^ 18) (Nat.pow_pos (by decide)) (Nat.le_refl _)
  unfold fitU
  rw [unit_fit]
  have e : ∀ k, rval (fitK 0 (10 ^ 18) k) = 0 := by
    intro k
    induction k with
    | zero => unfold rval fitK; exact Nat.zero_mul _
    | succ s ih =>
      have hn : near (0 * 10 ^ s) (10 ^ 18) = 0 := by
        have := near_exact 0 (10 ^ 18) (Nat.pow_pos (by decide))
        rwa [Nat.zero_mul] at this ⊢
      rw [fitK_yes (by rw [hn]; exact B34_pos), hn]
      unfold rval; exact Nat.zero_mul _
  exact e _
theorem fitU_mono {N M : Bool} {u v : Nat} (hu : FitE u (10 ^ 18) = 0) (hv : FitE v (10 ^ 18) = 0) (h : sval N u ≤ sval M v) : sval N (fitU u) ≤ sval M (fitU v) := by
  have hd : 0 < 10 ^ 18 := Nat.pow_pos (by decide)
  cases N <;> cases M <;> simp only [sval, if_true, if_false, Bool.false_eq_true] at *
  · have := (fit_order hd (show u ≤ v by omega) hv).2
    unfold fitU; omega
  · have e1 : u = 0 := by omega
    have e2 : v = 0 := by omega
    rw [e1, e2, fitU_nil]; decide
  · omega
  · have := (fit_order hd (show v ≤ u by omega) hu).2
    unfold fitU; omega
/-- the order of two sums is the order of what differs, or they are rounded alike -/
theorem sums_order {x y z : Int} {N M : Bool} {u v : Nat} (hN : sval N u = x + z) (hM : sval M v = y + z) (hu : FitE u (10 ^ 18) = 0) (hv : FitE v (10 ^ 18) = 0) :
    ordS (sval N (fitU u)) (sval M (fitU v)) = 0 ∨ ordS (sval N (fitU u)) (sval M (fitU v)) = ordS x y := by
  rcases Int.lt_trichotomy x y with h | h | h
  · have := fitU_mono (N := N) (M := M) hu hv (by omega)
    unfold ordS; (repeat' split) <;> omega
  · have h1 := fitU_mono (N := N) (M := M) hu hv (by omega)
    have h2 := fitU_mono (N := M) (M := N) hv hu (by omega)
    left; unfold ordS; (repeat' split) <;> omega
  · have := fitU_mono (N := M) (M := N) hv hu (by omega)
    unfold ordS; (repeat' split) <;> omega
end Go.Proofs.Ythkgjodidkpaeaa
