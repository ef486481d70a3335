/- Sweep, the program's: the grid; the place of a cell; the cell at a place. -/
import Derived.Test.YtlpoopmjgobnnaaAo
set_option linter.unusedSimpArgs false
set_option linter.unusedVariables false
namespace Go.Proofs.Ytlpoopmjgobnnaa
open Go.RowKit

def GridPost (ns : List Nat) (v : Value) (w : World) (e : Ending) (w' : World) : Prop := Below w.heap.size w w' ∧ e = .returned (if prodL ns ≤ 4000 then .tuple #[.agg #[v, .int .i64 (prodL ns : Nat)], .int .i64 0] else .tuple #[.agg #[.slice none 0 0, .int .i64 0], .int .i64 6])
set_option maxHeartbeats 1500000 in
theorem gridof_any (ns : List Nat) (v : Value) (w : World) (h : Lst w v (zs ns)) : Calls Try.prog 18 #[v] w (GridPost ns v w) := by
  have HN := Lib.hid h
  have HH := Lib.hid (fun (W : World) (hW : Below w.heap.size w W) => haszero_any ns v W (h.below hW))
  obtain ⟨A, C, rfl, ha, _⟩ := h
  rw [zs_len] at ha HN HH ⊢
  unfold maxLen at ha
  unfold GridPost
  by_cases h0 : prodL ns = 0
  · rw [decide_eq_true h0] at HH
    rw [h0, if_pos (by decide)]
    clear h0
    go_enter Try.func18, Try.ntmps18
    go_wp2_with (go_at_call 26; (with_reducible refine (HH.out _ (by (repeat' (first | (with_reducible exact Below.refl _ _) | (with_reducible assumption) | (with_reducible refine Below.drew ?_) | (with_reducible refine below_drewN ?_ _) | ((with_reducible refine Below.alloc ?_ ?_ _); rotate_left; focus (go_size; done)) | ((with_reducible refine Below.setCell ?_ ?_ _); rotate_left; focus (go_size; done)) | ((with_reducible refine Below.trans ?_ (Below.mono (by with_reducible assumption) ?_)); rotate_left; focus (go_size; done)))))).mono ?_); rintro _ _ ⟨rfl, rfl⟩)
    refine bodyPost_ret (by simp [results, Try.results18, go_sem, *]; try rfl) rfl ?_
    exact ⟨by (repeat' (first | (with_reducible exact Below.refl _ _) | (with_reducible assumption) | (with_reducible refine Below.drew ?_) | (with_reducible refine below_drewN ?_ _) | ((with_reducible refine Below.alloc ?_ ?_ _); rotate_left; focus (go_size; done)) | ((with_reducible refine Below.setCell ?_ ?_ _); rotate_left; focus (go_size; done)) | ((with_reducible refine Below.trans ?_ (Below.mono (by with_reducible assumption) ?_)); rotate_left; focus (go_size; done)))), rfl⟩
  · rw [decide_eq_false h0] at HH
    have HP0 : Hid (0 < prodL ns) := Lib.hid (by omega)
    obtain ⟨Y, hY⟩ : ∃ Y : Value, Y = if prodL ns ≤ 4000 then .tuple #[.agg #[.slice A ns.length C, .int .i64 (prodL ns : Nat)], .int .i64 0] else .tuple #[.agg #[.slice none 0 0, .int .i64 0], .int .i64 6] := ⟨_, rfl⟩
    have HY := Lib.hid hY
    rw [← hY]
    clear h0 hY
    go_enter Try.func18, Try.ntmps18
    go_wp2_with (go_at_call 26; (with_reducible refine (HH.out _ (by (repeat' (first | (with_reducible exact Below.refl _ _) | (with_reducible assumption) | (with_reducible refine Below.drew ?_) | (with_reducible refine below_drewN ?_ _) | ((with_reducible refine Below.alloc ?_ ?_ _); rotate_left; focus (go_size; done)) | ((with_reducible refine Below.setCell ?_ ?_ _); rotate_left; focus (go_size; done)) | ((with_reducible refine Below.trans ?_ (Below.mono (by with_reducible assumption) ?_)); rotate_left; focus (go_size; done)))))).mono ?_); rintro _ _ ⟨rfl, rfl⟩)
    obtain ⟨g0, hg0⟩ : ∃ g, g = w.heap.size := ⟨_, rfl⟩
    obtain ⟨w1, hw1⟩ : ∃ W, W = (w.alloc (Obj.cells #[.slice none 0 0, .int .i64 0] 46)).alloc (Obj.cells #[.slice A ns.length C, .int .i64 1] 46) := ⟨_, rfl⟩
    have HB1 : Hid (Below g0 w w1) := Lib.hid (by rw [hw1, hg0]; (repeat' (first | (with_reducible exact Below.refl _ _) | (with_reducible assumption) | (with_reducible refine Below.drew ?_) | (with_reducible refine below_drewN ?_ _) | ((with_reducible refine Below.alloc ?_ ?_ _); rotate_left; focus (go_size; done)) | ((with_reducible refine Below.setCell ?_ ?_ _); rotate_left; focus (go_size; done)) | ((with_reducible refine Below.trans ?_ (Below.mono (by with_reducible assumption) ?_)); rotate_left; focus (go_size; done)))))
    have HK0 : Hid (Bk w1 g0 46 [.slice none 0 0, .int .i64 0]) := Lib.hid (by rw [hw1, hg0]; exact (Bk.new w _ [.slice none 0 0, .int .i64 0]).alloc _)
    have HK1 : Hid (Bk w1 (g0 + 1) 46 [.slice A ns.length C, .int .i64 1]) := Lib.hid (by rw [hw1]; exact Bk.new_ (by rw [World.size_alloc, hg0]))
    rw [← hw1, ← hg0]
    have HG0 := Lib.hid hg0
    clear hw1 hg0
    go_loopg [15] ns.length (fun k i wr => ∃ t : Nat, k + t = ns.length ∧ i = .int .i64 t ∧ Hid (prodL (ns.take t) ≤ 4000) ∧ Hid (Bk wr g0 46 [.slice none 0 0, .int .i64 0]) ∧ Hid (Bk wr (g0 + 1) 46 [.slice A ns.length C, .int .i64 (prodL (ns.take t) : Nat)]) ∧ Hid (Below g0 w wr))
    case atStart => exact ⟨0, by omega, rfl, Lib.hid (by show 1 ≤ 4000; decide), HK0, HK1, HB1⟩
    case round =>
      obtain ⟨t, hk, rfl, HPT, HR0, HR1, HBR⟩ := hrel
      have HK := Lib.hid hk
      have htn : t ≤ ns.length := by omega
      clear hk HK0 HK1 HB1
      have c0 := HR0.out.cell 0 rfl
      have c1 := HR0.out.cell 1 rfl
      have d0 := HR1.out.cell 0 rfl
      have d1 := HR1.out.cell 1 rfl
      have f0 := HR0.out.frozen 0
      have f1 := HR0.out.frozen 1
      have f2 := HR1.out.frozen 1
      by_cases hlt : t < ns.length
      · obtain ⟨b1, p1, rfl, a0⟩ := HN.out.at (c := t) (by rw [zs_len]; exact hlt)
        have a1 := (HBR.out.cell (p := ⟨b1, p1 + t, none⟩) (by rw [HG0.out]; exact cell_lt2 a0)).trans a0
        rw [zs_get] at a1
        have hsn := prod_snoc hlt
        have htk := take_le HP0.out (t + 1)
        have hpos : 0 < prodL (ns.take t) := by
          have e := prod_cut ns t
          have := HP0.out
          rcases Nat.eq_zero_or_pos (prodL (ns.take t)) with e0 | e0
          · rw [e0, Nat.zero_mul] at e; omega
          · exact e0
        have hpt := HPT.out
        obtain ⟨P, hP⟩ : ∃ P, P = prodL (ns.take t) := ⟨_, rfl⟩
        obtain ⟨x, hx⟩ : ∃ x, x = ns.getD t 0 := ⟨_, rfl⟩
        rw [← hP] at hsn hpos hpt d1
        rw [← hx] at hsn a1
        have HPP := Lib.hid hP
        have HS := Lib.hid hsn
        have HTK := Lib.hid htk
        clear hP hx hsn htk a0
        have hdv : (4000 : Int) / (P : Int) = ((4000 / P : Nat) : Int) := (Int.natCast_ediv 4000 P).symm
        by_cases hb : 4000 / P < x
        · have hbig : 4000 < P * x := by
            have := (Nat.div_lt_iff_lt_mul hpos).1 hb
            rwa [Nat.mul_comm] at this
          have hy : Hid (Y = .tuple #[.agg #[.slice none 0 0, .int .i64 0], .int .i64 6]) := Lib.hid (by
            rw [HY.out, if_neg (by have := HTK.out; rw [HS.out] at this; omega)])
          have q1 : decide ((4000 : Int) / (P : Int) < (x : Int)) = true := by rw [hdv]; exact decide_eq_true (Int.ofNat_lt.2 hb)
          clear hdv hb hbig
          go_wp2_with fail
          have hc0 := HR0.out.set_ 0 (.slice none 0 0)
          have hc1 := hc0.set_ 1 (.int .i64 0)
          have e0 := hc1.cell 0 rfl
          have e1 := hc1.cell 1 rfl
          refine bodyPost_ret (by simp [results, Try.results18, go_sem, *]; try rfl) rfl ?_
          exact ⟨((HBR.out.setCell (p := ⟨g0, 0, none⟩) (Nat.le_refl g0) _).setCell (p := ⟨g0, 1, none⟩) (Nat.le_refl g0) _).mono (by rw [HG0.out]; exact Nat.le_refl _), by rw [hy.out]⟩
        · have hsm : P * x ≤ 4000 := by
            rcases Nat.lt_or_ge 4000 (P * x) with h' | h'
            · exact absurd ((Nat.div_lt_iff_lt_mul hpos).2 (by rwa [Nat.mul_comm] at h')) hb
            · exact h'
          have q1 : decide ((4000 : Int) / (P : Int) < (x : Int)) = false := by rw [hdv]; exact decide_eq_false (fun h => hb (Int.ofNat_lt.1 h))
          obtain ⟨y, hy⟩ : ∃ y, y = P * x := ⟨_, rfl⟩
          have hyi : (P : Int) * (x : Int) = (y : Int) := by rw [hy, Int.natCast_mul]
          have hyb : y ≤ 4000 := by omega
          have HYP : Hid (prodL (ns.take (t + 1)) = y) := Lib.hid (by rw [HS.out, hy])
          clear hdv hb hsm hy
          go_wp2_with fail
          have hn0 := HR0.out.far (p := ⟨g0 + 1, 1, none⟩) (by show g0 ≠ g0 + 1; omega) (.int .i64 (y : Int))
          have hn1 := HR1.out.set_ 1 (.int .i64 (y : Int))
          have HN0 := Lib.hid hn0
          have HN1 := Lib.hid hn1
          clear hn0 hn1
          go_roundg (gk - 1)
          case measure => have := HK.out; omega
          case rel => exact ⟨t + 1, by have := HK.out; omega, by go_num, Lib.hid (by rw [HYP.out]; exact hyb), HN0, by rw [HYP.out]; exact HN1, Lib.hid (HBR.out.setCell (p := ⟨g0 + 1, 1, none⟩) (by show g0 ≤ g0 + 1; omega) _)⟩
      · obtain rfl : t = ns.length := by omega
        have hpt := HPT.out
        rw [List.take_length] at hpt d1
        have hy : Hid (Y = .tuple #[.agg #[.slice A ns.length C, .int .i64 (prodL ns : Nat)], .int .i64 0]) := Lib.hid (by
          rw [HY.out, if_pos hpt])
        clear hpt
        go_wp2_with fail
        have hc0 := HR0.out.set_ 0 (.slice A ns.length C)
        have hc1 := hc0.set_ 1 (.int .i64 (prodL ns : Nat))
        have e0 := hc1.cell 0 rfl
        have e1 := hc1.cell 1 rfl
        refine bodyPost_ret (by simp [results, Try.results18, go_sem, *]; try rfl) rfl ?_
        exact ⟨((HBR.out.setCell (p := ⟨g0, 0, none⟩) (Nat.le_refl g0) _).setCell (p := ⟨g0, 1, none⟩) (Nat.le_refl g0) _).mono (by rw [HG0.out]; exact Nat.le_refl _), by rw [hy.out]⟩
set_option maxHeartbeats 1500000 in
theorem place_any (ns : List Nat) (c : List Int) (v u : Value) (n0 : Int) (w : World) (hp : prodL ns ≤ 4000) (h : Lst w v (zs ns)) (h2 : Lst w u c) : Calls Try.prog 19 #[.agg #[v, .int .i64 n0], u] w fun e w' => e = .returned (.int .i64 (plZ ns c)) ∧ Below w.heap.size w w' := by
  have HI := Lib.hid h
  have HJ := Lib.hid h2
  obtain ⟨A, C, rfl, ha, _⟩ := h
  obtain ⟨A2, C2, rfl, hb, _⟩ := h2
  rw [zs_len] at ha HI ⊢
  unfold maxLen at ha hb
  obtain ⟨R, hR⟩ : ∃ R, R = plZ ns c := ⟨_, rfl⟩
  have HR := Lib.hid hR
  rw [← hR]
  clear hR
  by_cases hl : c.length = ns.length
  · have HL := Lib.hid hl
    rw [hl] at HJ hb ⊢
    clear hl
    by_cases hz : 0 < prodL ns
    · go_enter Try.func19, Try.ntmps19
      go_wp2_with fail
      obtain ⟨w1, hw1⟩ : ∃ W, W = w.alloc (Obj.cells #[.slice A ns.length C, .int .i64 n0] 46) := ⟨_, rfl⟩
      have HB1 : Hid (Below w.heap.size w w1) := Lib.hid (by rw [hw1]; (repeat' (first | (with_reducible exact Below.refl _ _) | (with_reducible assumption) | (with_reducible refine Below.drew ?_) | (with_reducible refine below_drewN ?_ _) | ((with_reducible refine Below.alloc ?_ ?_ _); rotate_left; focus (go_size; done)) | ((with_reducible refine Below.setCell ?_ ?_ _); rotate_left; focus (go_size; done)) | ((with_reducible refine Below.trans ?_ (Below.mono (by with_reducible assumption) ?_)); rotate_left; focus (go_size; done)))))
      have c0 : w1.cell? ⟨w.heap.size, 0, none⟩ = some (.slice A ns.length C) := by rw [hw1]; exact (Bk.new w _ [.slice A ns.length C, .int .i64 n0]).cell 0 rfl
      rw [← hw1]
      clear hw1
      go_loopg [5, 16] ns.length (fun k x i wr => ∃ t a : Nat, k + t = ns.length ∧ x = .int .i64 a ∧ i = .int .i64 t ∧ Hid (PlS ns c R t a) ∧ w1 = wr)
      case atStart => exact ⟨0, 0, by omega, rfl, rfl, Lib.hid (by rw [HR.out]; exact PlS.start ns c), rfl⟩
      case round =>
        obtain ⟨t, a, hk, rfl, rfl, HS, rfl⟩ := hrel
        have HK := Lib.hid hk
        have htn : t ≤ ns.length := by omega
        clear hk
        by_cases hlt : t < ns.length
        · obtain ⟨b1, p1, rfl, a1⟩ := (HI.out.below HB1.out).at (c := t) (by rw [zs_len]; exact hlt)
          obtain ⟨b2, p2, rfl, a2⟩ := (HJ.out.below HB1.out).at (c := t) (by rw [HL.out]; exact hlt)
          rw [zs_get] at a1
          have hal := HS.out.lt hz
          have hst := prod_snoc hlt
          have htk := take_le hz (t + 1)
          obtain ⟨x, hx⟩ : ∃ x, x = ns.getD t 0 := ⟨_, rfl⟩
          obtain ⟨y, hy⟩ : ∃ y, y = c.getD t 0 := ⟨_, rfl⟩
          obtain ⟨P, hP⟩ : ∃ P, P = prodL (ns.take t) := ⟨_, rfl⟩
          rw [← hx] at a1 hst
          rw [← hy] at a2
          rw [← hP] at hst hal
          rw [hst] at htk
          have hax : a * x + x ≤ P * x := by have := Nat.mul_le_mul_right x hal; rwa [Nat.succ_mul] at this
          have hxy := Lib.hid (And.intro hx hy)
          have ho : a * x + x ≤ 4000 := by omega
          clear hx hy hP hst htk hax hal
          by_cases y0 : y < 0
          · have hr : R = -1 := HS.out.not HL.out hlt (by rw [← hxy.out.2]; omega)
            have d1 : decide (y < 0) = true := decide_eq_true y0
            go_wp2_with fail
            go_ret
            exact ⟨by first | rfl | (rw [hr]; rfl), HB1.out⟩
          · have d1 : decide (y < 0) = false := decide_eq_false y0
            by_cases y1 : (x : Int) ≤ y
            · have hr : R = -1 := HS.out.not HL.out hlt (by rw [← hxy.out.2, ← hxy.out.1]; omega)
              have d2 : decide ((x : Int) ≤ y) = true := decide_eq_true y1
              go_wp2_with fail
              go_ret
              exact ⟨by first | rfl | (rw [hr]; rfl), HB1.out⟩
            · have d2 : decide ((x : Int) ≤ y) = false := decide_eq_false y1
              obtain ⟨z, rfl⟩ : ∃ z : Nat, y = (z : Int) := ⟨y.toNat, by omega⟩
              have HS2 := Lib.hid (HS.out.step HL.out hlt (by rw [← hxy.out.2, ← hxy.out.1]; omega))
              rw [← hxy.out.2, ← hxy.out.1, Int.toNat_natCast] at HS2
              obtain ⟨q, hq⟩ : ∃ q, q = a * x := ⟨_, rfl⟩
              have hqi : (a : Int) * (x : Int) = (q : Int) := by rw [hq, Int.natCast_mul]
              rw [← hq] at HS2 ho
              clear hq
              go_wp2_with fail
              go_roundg (gk - 1)
              case measure => have := HK.out; omega
              case rel => exact ⟨t + 1, q + z, by have := HK.out; omega, by go_num, by go_num, HS2, rfl⟩
        · obtain rfl : t = ns.length := by omega
          have hr := HS.out.done HL.out
          go_wp2_with fail
          go_ret
          exact ⟨by first | rfl | (rw [hr]; rfl), HB1.out⟩
    · have hr : R = -1 := by
        rw [HR.out]
        unfold plZ
        rw [plI_zero (by omega)]
      have HZ := Lib.hid hz
      clear hz
      subst hr
      go_enter Try.func19, Try.ntmps19
      go_wp2_with fail
      obtain ⟨w1, hw1⟩ : ∃ W, W = w.alloc (Obj.cells #[.slice A ns.length C, .int .i64 n0] 46) := ⟨_, rfl⟩
      have HB1 : Hid (Below w.heap.size w w1) := Lib.hid (by rw [hw1]; (repeat' (first | (with_reducible exact Below.refl _ _) | (with_reducible assumption) | (with_reducible refine Below.drew ?_) | (with_reducible refine below_drewN ?_ _) | ((with_reducible refine Below.alloc ?_ ?_ _); rotate_left; focus (go_size; done)) | ((with_reducible refine Below.setCell ?_ ?_ _); rotate_left; focus (go_size; done)) | ((with_reducible refine Below.trans ?_ (Below.mono (by with_reducible assumption) ?_)); rotate_left; focus (go_size; done)))))
      have c0 : w1.cell? ⟨w.heap.size, 0, none⟩ = some (.slice A ns.length C) := by rw [hw1]; exact (Bk.new w _ [.slice A ns.length C, .int .i64 n0]).cell 0 rfl
      rw [← hw1]
      clear hw1
      go_loopg [5, 16] ns.length (fun k x i wr => ∃ (t : Nat) (z : Int), k + t = ns.length ∧ x = .int .i64 z ∧ i = .int .i64 t ∧ Hid (∀ r, r < t → 0 < ns.getD r 0) ∧ w1 = wr)
      case atStart => exact ⟨0, 0, by omega, rfl, rfl, Lib.hid (fun r hr => absurd hr (Nat.not_lt_zero _)), rfl⟩
      case round =>
        obtain ⟨t, z, hk, rfl, rfl, HP, rfl⟩ := hrel
        have HK := Lib.hid hk
        have htn : t ≤ ns.length := by omega
        clear hk
        by_cases hlt : t < ns.length
        · obtain ⟨b1, p1, rfl, a1⟩ := (HI.out.below HB1.out).at (c := t) (by rw [zs_len]; exact hlt)
          obtain ⟨b2, p2, rfl, a2⟩ := (HJ.out.below HB1.out).at (c := t) (by rw [HL.out]; exact hlt)
          rw [zs_get] at a1
          obtain ⟨x, hx⟩ : ∃ x, x = ns.getD t 0 := ⟨_, rfl⟩
          obtain ⟨y, hy⟩ : ∃ y, y = c.getD t 0 := ⟨_, rfl⟩
          rw [← hx] at a1
          rw [← hy] at a2
          have HX := Lib.hid hx
          clear hx hy
          by_cases y0 : y < 0
          · have d1 : decide (y < 0) = true := decide_eq_true y0
            go_wp2_with fail
            go_ret
            exact ⟨rfl, HB1.out⟩
          · have d1 : decide (y < 0) = false := decide_eq_false y0
            by_cases y1 : (x : Int) ≤ y
            · have d2 : decide ((x : Int) ≤ y) = true := decide_eq_true y1
              go_wp2_with fail
              go_ret
              exact ⟨rfl, HB1.out⟩
            · have d2 : decide ((x : Int) ≤ y) = false := decide_eq_false y1
              have HP2 : Hid (∀ r, r < t + 1 → 0 < ns.getD r 0) := Lib.hid (fun r hr => by
                by_cases e : r = t
                · subst e; rw [← HX.out]; omega
                · exact HP.out r (by omega))
              go_wp2_with fail
              go_roundg (gk - 1)
              case measure => have := HK.out; omega
              case rel => exact ⟨t + 1, _, by have := HK.out; omega, rfl, by go_num, HP2, rfl⟩
        · obtain rfl : t = ns.length := by omega
          refine absurd (prod_pos fun n hn => ?_) HZ.out
          obtain ⟨r, hr, rfl⟩ := List.mem_iff_getElem.1 hn
          have := HP.out r hr
          rwa [List.getD_eq_getElem?_getD, List.getElem?_eq_getElem hr] at this
  · have hr : R = -1 := by
      rw [HR.out]
      unfold plZ
      rw [plI_none hl]
    have hne : ((c.length : Int) != (ns.length : Int)) = true := by rw [bne_iff_ne]; omega
    go_enter Try.func19, Try.ntmps19
    go_wp2_with fail
    go_ret
    exact ⟨by first | rfl | (rw [hr]; rfl), by (repeat' (first | (with_reducible exact Below.refl _ _) | (with_reducible assumption) | (with_reducible refine Below.drew ?_) | (with_reducible refine below_drewN ?_ _) | ((with_reducible refine Below.alloc ?_ ?_ _); rotate_left; focus (go_size; done)) | ((with_reducible refine Below.setCell ?_ ?_ _); rotate_left; focus (go_size; done)) | ((with_reducible refine Below.trans ?_ (Below.mono (by with_reducible assumption) ?_)); rotate_left; focus (go_size; done))))⟩
set_option maxHeartbeats 1500000 in
theorem cell_any (ns : List Nat) (i : Nat) (v : Value) (n0 : Int) (w : World) (hp : ∀ n ∈ ns, 0 < n) (hn : ns.length ≤ 1000) (hi : i < 1000000) (h : Lst w v (zs ns)) : Calls Try.prog 34 #[.agg #[v, .int .i64 n0], .int .i64 i] w (CellPost ns i w) := by
  have HI := Lib.hid h
  obtain ⟨A, C, rfl, ha, _⟩ := h
  rw [zs_len] at ha HI ⊢
  unfold CellPost
  have HP := Lib.hid hp
  clear hp
  go_enter Try.func34, Try.ntmps34
  go_upto_region 1 with fail
  obtain ⟨w1, hw1⟩ : ∃ W, W = w.alloc (Obj.cells #[.slice A ns.length C, .int .i64 n0] 46) := ⟨_, rfl⟩
  have HB1 : Hid (Below w.heap.size w w1) := Lib.hid (by rw [hw1]; (repeat' (first | (with_reducible exact Below.refl _ _) | (with_reducible assumption) | (with_reducible refine Below.drew ?_) | (with_reducible refine below_drewN ?_ _) | ((with_reducible refine Below.alloc ?_ ?_ _); rotate_left; focus (go_size; done)) | ((with_reducible refine Below.setCell ?_ ?_ _); rotate_left; focus (go_size; done)) | ((with_reducible refine Below.trans ?_ (Below.mono (by with_reducible assumption) ?_)); rotate_left; focus (go_size; done)))))
  have hk1 : Bk w1 w.heap.size 46 [.slice A ns.length C, .int .i64 n0] := by rw [hw1]; exact Bk.new w _ [.slice A ns.length C, .int .i64 n0]
  have c0 := hk1.cell 0 rfl
  have HK1 := Lib.hid hk1
  rw [← hw1]
  clear hw1 hk1
  go_upto_region 2 with (at_make; refine wpList_makeM rfl _ _ 22 3 rfl (.int .i64 0) rfl 8 Try.underlying22 info_int1 (ob w1.heap.size) 1 ns.length rfl rfl (by omega) (by unfold maxLen; omega) ?_; intro w3 lw t3)
  rw [ob_re (Nat.le_refl _)] at lw t3
  have hB3 : Below w1.heap.size w1 w3 := ob_below (w0 := w1) (t3.mono (fun l hl => hl.elim)) (Below.refl _ _)
  obtain ⟨g, hgd⟩ : ∃ g, g = w1.heap.size := ⟨_, rfl⟩
  rw [← hgd] at lw ⊢
  have HGE : Hid (w.heap.size < g) := Lib.hid (by rw [hgd]; exact HK1.out.lt)
  have hbk : Bk w3 g 3 (ints (dgB ns i ns.length)) := by
    have e : ints (dgB ns i ns.length) = List.replicate ns.length (.int .i64 0) := by
      unfold dgB ints
      rw [← dg_len ns i, List.drop_length, List.append_nil, List.map_replicate, dg_len]
      rfl
    rw [e]; exact lw.1
  have HBK0 := Lib.hid hbk
  have HB30 : Hid (Below g w1 w3) := Lib.hid (hgd ▸ hB3)
  have c03 := (HB30.out.cell (p := ⟨w.heap.size, 0, none⟩) HGE.out).trans c0
  clear lw t3 hB3 hbk hgd
  go_wp2_with fail
  clear c03
  go_loopg [1, 6] ns.length (fun k x s wr => ∃ m : Nat, k = m ∧ m ≤ ns.length ∧ x = .int .i64 (i / prodL (ns.drop m) : Nat) ∧ s = .int .i64 ((m : Int) - 1) ∧ Hid (Bk wr g 3 (ints (dgB ns i m))) ∧ Hid (Below g w1 wr))
  case atStart => exact ⟨ns.length, rfl, Nat.le_refl _, by rw [List.drop_length]; show _ = Value.int .i64 ((i / 1 : Nat) : Int); rw [Nat.div_one], rfl, HBK0, HB30⟩
  case round =>
    obtain ⟨m, hk, hmn, rfl, rfl, HBK, HB⟩ := hrel
    have HK := Lib.hid hk
    have c3 := (HB.out.cell (p := ⟨w.heap.size, 0, none⟩) HGE.out).trans c0
    clear hk
    cases m with
    | zero =>
      have h0 := HBK.out
      have e0 : dgB ns i 0 = dgL ns i := rfl
      rw [e0] at h0
      have HB0 := Lib.hid h0
      clear h0 e0
      go_wp2_with fail
      go_ret
      exact ⟨g, rfl, Nat.le_of_lt HGE.out, HB0.out, HB1.out.trans (HB.out.mono (Nat.le_of_lt HGE.out))⟩
    | succ m =>
      obtain ⟨b1, p1, rfl, a0⟩ := HI.out.at (c := m) (by rw [zs_len]; exact hmn)
      have hb1g : b1 < g := Nat.lt_trans (cell_lt2 a0) HGE.out
      have a1 := (HB.out.cell (p := ⟨b1, p1 + m, none⟩) hb1g).trans ((HB1.out.cell (p := ⟨b1, p1 + m, none⟩) (cell_lt2 a0)).trans a0)
      rw [zs_get] at a1
      clear a0
      have hx0 := HP.out _ (getD_mem hmn)
      have HD := Lib.hid (div_step (i := i) hmn)
      have HS := Lib.hid (dgB_set (i := i) hmn)
      obtain ⟨x, hx⟩ : ∃ x, x = ns.getD m 0 := ⟨_, rfl⟩
      obtain ⟨q, hq⟩ : ∃ q, q = i / prodL (ns.drop (m + 1)) := ⟨_, rfl⟩
      have hqi : q ≤ i := by rw [hq]; exact Nat.div_le_self _ _
      rw [← hx] at a1 hx0 HD HS
      rw [← hq] at HD HS ⊢
      clear hx hq
      have fz := HBK.out.frozen m
      have cz := HBK.out.cell m (ints_get (by rw [dgB_len hmn]; exact hmn))
      have a2 := fun v => (((Below.refl g wr).setCell (p := ⟨g, m, none⟩) (Nat.le_refl g) v).cell (p := ⟨b1, p1 + m, none⟩) hb1g).trans a1
      have c4 := fun v => (((Below.refl g wr).setCell (p := ⟨g, m, none⟩) (Nat.le_refl g) v).cell (p := ⟨w.heap.size, 0, none⟩) HGE.out).trans c3
      have ed : wrap64 ((q : Int) / (x : Int)) = ((q / x : Nat) : Int) := by
        have h1 := Nat.div_le_self q x
        rw [← Int.natCast_ediv]
        generalize q / x = y at h1 ⊢
        unfold wrap64
        omega
      have em : (q : Int) % (x : Int) = ((q % x : Nat) : Int) := (Int.natCast_emod q x).symm
      have hnew : Bk (wr.setCell ⟨g, m, none⟩ (.int .i64 ((q : Int) % (x : Int)))) g 3 (ints (dgB ns i m)) := by
        have h1 := HBK.out.set_ m (.int .i64 ((q : Int) % (x : Int)))
        rw [em] at h1 ⊢
        rw [ints_set, HS.out] at h1
        exact h1
      have HNEW := Lib.hid hnew
      have HED := Lib.hid ed
      clear ed em hnew
      go_wp2_with fail
      go_roundg (gk - 1)
      case measure => have := HK.out; omega
      case rel => exact ⟨m, by have := HK.out; omega, by omega, by rw [HED.out, HD.out], rfl, HNEW, Lib.hid (HB.out.setCell (p := ⟨g, m, none⟩) (Nat.le_refl g) _)⟩
end Go.Proofs.Ytlpoopmjgobnnaa
