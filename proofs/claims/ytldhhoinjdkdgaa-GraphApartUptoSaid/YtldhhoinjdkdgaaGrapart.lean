/- GraphApart, where what is read is of bulk at most 1048576: what is handed in to the program's Order, Reach and Levels stays as it is, spare room too, and the answers are memory of their own: the law returns true, and what was handed in reads as it did. -/
import Derived.ProofKit
import Derived.OpenShut
import Derived.ShutString
import Derived.ChangeOld
import Derived.Below
import Derived.Lib.SmallJoins
import Derived.JoinedCond
import Derived.Deep.Matrix
import Derived.Test.YtldhhoinjdkdgaaM1
import Derived.Test.YtldhhoinjdkdgaaM2
set_option linter.unusedSimpArgs false
set_option linter.unusedVariables false
namespace Go.Proofs.Ytldhhoinjdkdgaa
open Go.RowKit
open Go.ChangeShapes Go.WideShapes Go.ChangeAt
open Go.ChangeMaps (open_string shut_string)
set_option linter.unusedVariables false

set_option maxRecDepth 100000 in
set_option maxHeartbeats 8000000 in
theorem walk_GraphApart (ns : List (List Int)) (v : Value) (w : World) (h : Mat w v ns) (hN : ns.length ≤ 1048576) (hR : ∀ r, r < ns.length → (nd ns r).length ≤ 1048576) (a : Int) (_ : (Lit.int .i64 a).wf = true) :
    Calls Try.prog 7 #[v, .int .i64 a] w fun e w' => e = .returned (.bool true) ∧ Below w.heap.size w w' := by
  have HM := Lib.hid h
  have HR := Lib.hid hR
  obtain ⟨A, C, rfl, m2, _⟩ := h
  clear hR m2
  go_enter Try.func7, Try.ntmps7
  go_wp2_with ((go_at_call 8; with_reducible refine (known_any _).mono ?_); rintro _ w1 ⟨rfl, hb1⟩; have hb1s := hb1.size; (try simp only [World.size_alloc, World.size_setCell, World.size_drew, World.heap_drewN] at hb1s); obtain ⟨hb1c, hb1f⟩ := bcell hb1; (try have : w.heap.size < w1.heap.size := by omega); (try have : w.heap.size + 1 < w1.heap.size := by omega); (try have : w.heap.size + 1 + 1 < w1.heap.size := by omega); (try have : w.heap.size + 1 + 1 + 1 < w1.heap.size := by omega))
  refine (copies_any ns _ w1 (HM.out.below hb1) hN HR.out).mono ?_
  rintro _ wI ⟨gI, G, rfl, cop, hbI⟩
  have HBI := Lib.hid (hb1.trans (hbI.mono hb1.size))
  have COP := Lib.hid cop
  have MAT := Lib.hid (cop.mat hN HR.out)
  clear hb1c hb1f hb1 hb1s hbI cop
  go_wp2_with fail
  refine (order_any ns _ _ MAT.out).mono ?_
  rintro _ wA ⟨oA, va, rfl, kA, tA⟩
  have SA := Lib.hid tA.bel
  have TA := Lib.hid tA
  have KA := Lib.hid kA
  obtain ⟨la, z, hq⟩ : ∃ l z, docOrd ns = (l, z) := ⟨_, _, rfl⟩
  have HQ := Lib.hid hq
  obtain ⟨lv, z2, hq2⟩ : ∃ l z, docLev ns = (l, z) := ⟨_, _, rfl⟩
  have HQ2 := Lib.hid hq2
  rw [hq] at KA ⊢
  clear tA kA hq hq2
  go_wp2_with fail
  refine (reach_any ns _ a _ (MAT.out.below SA.out)).mono ?_
  rintro _ wB ⟨oB, vb, lb, cb, rfl, kB, sB, tB⟩
  have SB := Lib.hid tB.bel
  have SIB := Lib.hid (SA.out.trans (SB.out.mono SA.out.size))
  have TB := Lib.hid tB
  have KB := Lib.hid kB
  have RB := Lib.hid sB
  clear tB kB sB
  go_wp2_with fail
  refine (levels_any ns _ _ (MAT.out.below SIB.out)).mono ?_
  rintro _ wC ⟨oC, vc, rfl, kC, tC⟩
  have SC := Lib.hid tC.bel
  have SIC := Lib.hid (SIB.out.trans (SC.out.mono SIB.out.size))
  have TC := Lib.hid tC
  have KC := Lib.hid kC
  rw [HQ2.out] at KC ⊢
  have HBC := Lib.hid (HBI.out.trans (SIC.out.mono HBI.out.size))
  clear tC kC
  go_wp2_with fail
  refine (docorder_any ns _ _ (HM.out.below HBC.out)).mono ?_
  rintro _ wX ⟨oX, vx, rfl, kX, tX⟩
  have SX := Lib.hid tX.bel
  have KX := Lib.hid kX
  have TX := Lib.hid tX
  rw [HQ.out] at KX ⊢
  have HBX := Lib.hid (HBC.out.trans (SX.out.mono HBC.out.size))
  clear tX kX
  go_wp2_with fail
  refine (docreach_any ns _ a _ (HM.out.below HBX.out)).mono ?_
  rintro _ wY ⟨oY, vy, ly, cy, rfl, kY, sY, tY⟩
  obtain ⟨rfl, rfl⟩ := RchSpec.eq RB.out sY
  have SY := Lib.hid tY.bel
  have KY := Lib.hid kY
  have HBY := Lib.hid (HBX.out.trans (SY.out.mono HBX.out.size))
  clear tY kY sY
  go_wp2_with fail
  refine (doclevels_any ns _ _ (HM.out.below HBY.out)).mono ?_
  rintro _ wZ ⟨oZ, vz, rfl, kZ, tZ⟩
  have SZ := Lib.hid tZ.bel
  have KZ := Lib.hid kZ
  rw [HQ2.out] at KZ ⊢
  have HBZ := Lib.hid (HBY.out.trans (SZ.out.mono HBY.out.size))
  clear tZ kZ
  have BXZ := Lib.hid (SX.out.trans ((SY.out.mono SX.out.size).trans (SZ.out.mono (Nat.le_trans SX.out.size SY.out.size))))
  have QXZ := Lib.hid ((SY.out.trans (SZ.out.mono SY.out.size)))
  have QCZ := BXZ
  have QBZ := Lib.hid (SC.out.trans (QCZ.out.mono SC.out.size))
  have QAZ := Lib.hid (SB.out.trans (QBZ.out.mono SB.out.size))
  have QIZ := Lib.hid (SA.out.trans (QAZ.out.mono SA.out.size))
  go_wp2_with fail
  refine (same_any va vx la la _ (KA.out.lst.below QAZ.out) (KX.out.lst.below QXZ.out)).mono ?_
  rintro _ _ ⟨rfl, n1, rfl⟩
  rw [decide_eq_true (rfl : la = la)]
  go_wp2_with fail
  refine (same_any vb vy lb lb _ ((KB.out.lst.below QBZ.out).drewN _) ((KY.out.lst.below SZ.out).drewN _)).mono ?_
  rintro _ _ ⟨rfl, n2, rfl⟩
  rw [decide_eq_true (rfl : lb = lb)]
  go_wp2_with fail
  refine (same_any vc vz lv lv _ ((KC.out.lst.below QCZ.out).drewN _) (KZ.out.lst.drewN _)).mono ?_
  rintro _ _ ⟨rfl, n3, rfl⟩
  rw [decide_eq_true (rfl : lv = lv)]
  go_wp2_with fail
  have hIA := SA.out.size
  have hAB := SB.out.size
  have hBC := SC.out.size
  have RA := Lib.hid (KA.out.relab (o' := five wI.heap.size wA.heap.size wB.heap.size wC.heap.size) (l' := 1) (below_drewN QAZ.out (n1 + n2 + n3)) (fun g hg ho => by
    have := new_lab TA.out ho
    unfold five; rw [if_neg (by omega), if_pos hg]))
  have RBB := Lib.hid (KB.out.relab (o' := five wI.heap.size wA.heap.size wB.heap.size wC.heap.size) (l' := 2) (below_drewN QBZ.out (n1 + n2 + n3)) (fun g hg ho => by
    have := new_lab TB.out ho
    unfold five; rw [if_neg (by omega), if_neg (by omega), if_pos hg]))
  have RC := Lib.hid (KC.out.relab (o' := five wI.heap.size wA.heap.size wB.heap.size wC.heap.size) (l' := 3) (below_drewN QCZ.out (n1 + n2 + n3)) (fun g hg ho => by
    have := new_lab TC.out ho
    unfold five; rw [if_neg (by omega), if_neg (by omega), if_neg (by omega), if_pos hg]))
  have RX := Lib.hid (KX.out.relab (o' := five wI.heap.size wA.heap.size wB.heap.size wC.heap.size) (l' := 4) (below_drewN QXZ.out (n1 + n2 + n3)) (fun g hg ho => by
    have := new_lab TX.out ho
    unfold five; rw [if_neg (by omega), if_neg (by omega), if_neg (by omega), if_neg (by omega)]))
  have QI := Lib.hid (below_drewN QIZ.out (n1 + n2 + n3))
  have HB := Lib.hid (below_drewN HBZ.out (n1 + n2 + n3))
  generalize wZ.drewN (n1 + n2 + n3) = W0 at *
  clear KA KB KC KX KY KZ SX SY SZ QXZ QCZ QBZ QAZ QIZ BXZ TA TB TC TX RB HBX HBY HBZ HBC SIB SIC SA SB SC
  have tk := trivial
  obtain ⟨Ax, cx, hvx⟩ := row_is RA.out
  obtain rfl := hvx
  have hlx := RA.out.lst.is
  obtain ⟨Ay, cy, hvy, hly⟩ := hlx
  unfold maxLen at hly
  clear hvy Ay cy
  go_wp2_with fail
  obtain ⟨wo, hwo⟩ : ∃ wo : World, wo = W0 := ⟨_, rfl⟩
  have RO := Lib.hid (Row.cong RA.out hwo.symm)
  go_loopg [18] (la).length (fun k i wr => ∃ (t : Nat) (xs : List Int), k + t = (la).length ∧ i = .int .i64 t ∧ xs.length = (la).length ∧ Hid (Row wr (five wI.heap.size wA.heap.size wB.heap.size wC.heap.size) 1 (.slice Ax (la).length cx) xs) ∧ Hid (Turn (· = 1) wo (five wI.heap.size wA.heap.size wB.heap.size wC.heap.size) wr (five wI.heap.size wA.heap.size wB.heap.size wC.heap.size)))
  case atStart => subst hwo; exact ⟨0, la, by omega, rfl, rfl, RO, Lib.hid (Turn.refl _ _ _)⟩
  case round =>
    clear RO
    obtain ⟨t, xs, hk, rfl, hxl, RW, TW⟩ := hrel
    have HK := Lib.hid hk
    have htn : t ≤ (la).length := by omega
    clear hk
    by_cases hlt : t < (la).length
    · obtain ⟨g9, cap9, u9, hv9, c9, f9, r9, t9⟩ := RW.out.store (show t < xs.length by omega) (-7)
      injection hv9 with e1 e2 e3
      subst e1
      have R9 := Lib.hid r9
      have T9 := Lib.hid t9
      have HXL := Lib.hid hxl
      clear r9 t9 e2 e3 hxl
      go_wp2_with fail
      go_roundg (gk - 1)
      case measure => have := HK.out; omega
      case rel => exact ⟨t + 1, xs.set t (-7), by have := HK.out; omega, by go_num, by rw [List.length_set]; exact HXL.out, R9, Lib.hid (TW.out.trans T9.out)⟩
    · obtain rfl : t = (la).length := by omega
      clear hlt htn HK hxl
      skip
      have TW1 := Lib.hid TW.out
      clear TW RW
      obtain rfl : wo = W0 := by assumption
      have hsz1 : wI.heap.size ≤ wo.heap.size := QI.out.size
      have tk' := tk
      have QI1 := Lib.hid (loop_below TW1.out (by decide) QI.out (Nat.le_refl _) hsz1)
      have HB1 := Lib.hid (loop_below TW1.out (by decide) HB.out HBI.out.size (Nat.le_trans HBI.out.size hsz1))
      have RX1 := Lib.hid (RX.out.turn TW1.out (by decide))
      have RB1 := Lib.hid (RBB.out.turn TW1.out (by decide))
      have RC1 := Lib.hid (RC.out.turn TW1.out (by decide))
      clear TW1 RBB RC RX QI HB RA
      generalize hWa : wr = Wa at *
      clear hWa
      obtain ⟨Ax, cx, hvx⟩ := row_is RB1.out
      obtain rfl := hvx
      have hlx := RB1.out.lst.is
      obtain ⟨Ay, cy, hvy, hly⟩ := hlx
      unfold maxLen at hly
      clear hvy Ay cy
      go_wp2_with fail
      obtain ⟨wo, hwo⟩ : ∃ wo : World, wo = Wa := ⟨_, rfl⟩
      have RO := Lib.hid (Row.cong RB1.out hwo.symm)
      go_loopg [19] (lb).length (fun k i wr => ∃ (t : Nat) (xs : List Int), k + t = (lb).length ∧ i = .int .i64 t ∧ xs.length = (lb).length ∧ Hid (Row wr (five wI.heap.size wA.heap.size wB.heap.size wC.heap.size) 2 (.slice Ax (lb).length cx) xs) ∧ Hid (Turn (· = 2) wo (five wI.heap.size wA.heap.size wB.heap.size wC.heap.size) wr (five wI.heap.size wA.heap.size wB.heap.size wC.heap.size)))
      case atStart => subst hwo; exact ⟨0, lb, by omega, rfl, rfl, RO, Lib.hid (Turn.refl _ _ _)⟩
      case round =>
        clear RO
        obtain ⟨t, xs, hk, rfl, hxl, RW, TW⟩ := hrel
        have HK := Lib.hid hk
        have htn : t ≤ (lb).length := by omega
        clear hk
        by_cases hlt : t < (lb).length
        · obtain ⟨g9, cap9, u9, hv9, c9, f9, r9, t9⟩ := RW.out.store (show t < xs.length by omega) (-8)
          injection hv9 with e1 e2 e3
          subst e1
          have R9 := Lib.hid r9
          have T9 := Lib.hid t9
          have HXL := Lib.hid hxl
          clear r9 t9 e2 e3 hxl
          go_wp2_with fail
          go_roundg (gk - 1)
          case measure => have := HK.out; omega
          case rel => exact ⟨t + 1, xs.set t (-8), by have := HK.out; omega, by go_num, by rw [List.length_set]; exact HXL.out, R9, Lib.hid (TW.out.trans T9.out)⟩
        · obtain rfl : t = (lb).length := by omega
          clear hlt htn HK hxl
          skip
          have TW2 := Lib.hid TW.out
          clear TW RW
          obtain rfl : wo = Wa := by assumption
          have hsz2 : wI.heap.size ≤ wo.heap.size := QI1.out.size
          have tk' := tk
          have QI2 := Lib.hid (loop_below TW2.out (by decide) QI1.out (Nat.le_refl _) hsz2)
          have HB2 := Lib.hid (loop_below TW2.out (by decide) HB1.out HBI.out.size (Nat.le_trans HBI.out.size hsz2))
          have RX2 := Lib.hid (RX1.out.turn TW2.out (by decide))
          have RC2 := Lib.hid (RC1.out.turn TW2.out (by decide))
          clear TW2 RC1 RX1 QI1 HB1 RB1
          generalize hWb : wr = Wb at *
          clear hWb
          obtain ⟨Ax, cx, hvx⟩ := row_is RC2.out
          obtain rfl := hvx
          have hlx := RC2.out.lst.is
          obtain ⟨Ay, cy, hvy, hly⟩ := hlx
          unfold maxLen at hly
          clear hvy Ay cy
          go_wp2_with fail
          obtain ⟨wo, hwo⟩ : ∃ wo : World, wo = Wb := ⟨_, rfl⟩
          have RO := Lib.hid (Row.cong RC2.out hwo.symm)
          go_loopg [20] (lv).length (fun k i wr => ∃ (t : Nat) (xs : List Int), k + t = (lv).length ∧ i = .int .i64 t ∧ xs.length = (lv).length ∧ Hid (Row wr (five wI.heap.size wA.heap.size wB.heap.size wC.heap.size) 3 (.slice Ax (lv).length cx) xs) ∧ Hid (Turn (· = 3) wo (five wI.heap.size wA.heap.size wB.heap.size wC.heap.size) wr (five wI.heap.size wA.heap.size wB.heap.size wC.heap.size)))
          case atStart => subst hwo; exact ⟨0, lv, by omega, rfl, rfl, RO, Lib.hid (Turn.refl _ _ _)⟩
          case round =>
            clear RO
            obtain ⟨t, xs, hk, rfl, hxl, RW, TW⟩ := hrel
            have HK := Lib.hid hk
            have htn : t ≤ (lv).length := by omega
            clear hk
            by_cases hlt : t < (lv).length
            · obtain ⟨g9, cap9, u9, hv9, c9, f9, r9, t9⟩ := RW.out.store (show t < xs.length by omega) (-9)
              injection hv9 with e1 e2 e3
              subst e1
              have R9 := Lib.hid r9
              have T9 := Lib.hid t9
              have HXL := Lib.hid hxl
              clear r9 t9 e2 e3 hxl
              go_wp2_with fail
              go_roundg (gk - 1)
              case measure => have := HK.out; omega
              case rel => exact ⟨t + 1, xs.set t (-9), by have := HK.out; omega, by go_num, by rw [List.length_set]; exact HXL.out, R9, Lib.hid (TW.out.trans T9.out)⟩
            · obtain rfl : t = (lv).length := by omega
              clear hlt htn HK hxl
              skip
              have TW3 := Lib.hid TW.out
              clear TW RW
              obtain rfl : wo = Wb := by assumption
              have hsz3 : wI.heap.size ≤ wo.heap.size := QI2.out.size
              have tk' := tk
              have QI3 := Lib.hid (loop_below TW3.out (by decide) QI2.out (Nat.le_refl _) hsz3)
              have HB3 := Lib.hid (loop_below TW3.out (by decide) HB2.out HBI.out.size (Nat.le_trans HBI.out.size hsz3))
              have RX3 := Lib.hid (RX2.out.turn TW3.out (by decide))
              clear TW3 RX2 QI2 HB2 RC2
              generalize hWc : wr = Wc at *
              clear hWc
              have COP3 := Lib.hid (COP.out.below QI3.out)
              have MAT3 := Lib.hid (COP3.out.mat hN HR.out)
              have HM3 := Lib.hid (HM.out.below (HBI.out.trans (QI3.out.mono HBI.out.size)))
              clear COP MAT HM QI3
              go_wp2_with fail
              obtain ⟨wd, hwd⟩ : ∃ wd : World, wd = Wc := ⟨_, rfl⟩
              rw [← hwd] at COP3 MAT3 HM3 HB3 RX3
              go_loopg [21] ns.length (fun k i W => ∃ t nn : Nat, k + t = ns.length ∧ i = .int .i64 t ∧ W = wd.drewN nn)
              case atStart => exact ⟨0, 0, by omega, rfl, hwd.symm⟩
              case round =>
                clear hwd
                obtain ⟨t, nn, hk, rfl, hW⟩ := hrel
                have HK := Lib.hid hk
                have htn : t ≤ ns.length := by omega
                clear hk
                by_cases hlt : t < ns.length
                · have cop : Cop wr gI G ns ns.length := by rw [hW]; exact ⟨COP3.out.top.drewN nn, fun r hr => (COP3.out.row r hr).drewN nn, COP3.out.far⟩
                  have mat : Mat wr (.slice A ns.length C) ns := by rw [hW]; exact HM3.out.drewN nn
                  have HW := Lib.hid hW
                  obtain ⟨b1, q1, u1, rfl, hc1, hl1⟩ := mat.at hlt
                  obtain ⟨A1, C1, rfl, hb1⟩ := hl1.is
                  have cI := cop.at hlt
                  have hRt := HR.out t hlt
                  have HS := Lib.hid (fun n => same_any (.slice (some ⟨G t, 0, none⟩) (nd ns t).length ((nd ns t).length + 2)) (.slice A1 (nd ns t).length C1) (nd ns t) (nd ns t) (wr.drewN n) ((cop.lst hlt hb1).drewN n) (hl1.drewN n))
                  rw [decide_eq_true (rfl : nd ns t = nd ns t)] at HS
                  have COPr := Lib.hid cop
                  have t0 : (0 : Int) ≤ (t : Int) := by omega
                  have t1 : (t : Int) < (ns.length : Int) := by omega
                  have t2 : (t : Int) < (ns.length : Int) + 2 := by omega
                  clear hW cop mat hl1 hb1
                  obtain ⟨wq, hwq⟩ : ∃ wq : World, wq = wr := ⟨_, rfl⟩
                  rw [← hwq] at hc1 cI HS COPr HW ⊢
                  clear hwq
                  go_wp2_with fail
                  go_quiet (fail)
                  go_wp2_with fail
                  go_quiet ((go_at_call 11; (first | exact Calls.quiet_of (HS.out 0) | exact Calls.quiet_of (HS.out _) | exact quiet_add (HS.out _))))
                  go_wp2_with fail
                  obtain ⟨go, hgo⟩ : ∃ go : Nat, go = gk := ⟨_, rfl⟩
                  rw [← hgo] at HK
                  have HGO := Lib.hid hgo
                  clear hgo hc1 cI HS
                  go_loopg [23] 2 (fun k p W => ∃ P m9 : Nat, p = .int .i64 P ∧ k + P = (nd ns t).length + 2 ∧ (nd ns t).length ≤ P ∧ W = wq.drewN m9)
                  case atStart => exact ⟨(nd ns t).length, _, rfl, by omega, Nat.le_refl _, rfl⟩
                  case round =>
                    obtain ⟨P, m9, rfl, hk, hP, hW9⟩ := hrel
                    have HK9 := Lib.hid hk
                    have hP2 : P ≤ (nd ns t).length + 2 := by omega
                    clear hk
                    by_cases hlp : P < (nd ns t).length + 2
                    · have c9 : wr.cell? ⟨G t, P, none⟩ = some (.int .i64 0) := by rw [hW9]; exact COPr.out.spare hlt hP hlp
                      have P0 : (0 : Int) ≤ (P : Int) := by omega
                      have P1 : (P : Int) < ((nd ns t).length : Int) + 2 := by omega
                      have HW9 := Lib.hid hW9
                      clear hW9
                      go_wp2_with fail
                      go_roundg (gk - 1)
                      case measure => have := HK9.out; omega
                      case rel => exact ⟨P + 1, m9, by go_num, by have := HK9.out; omega, by omega, HW9.out⟩
                    · have HW9 := Lib.hid hW9
                      clear hW9
                      go_wp2_with fail
                      go_roundg (go - 1)
                      case measure => have := HK.out; have := HGO.out; omega
                      case rel => exact ⟨t + 1, _, by have := HK.out; omega, by go_num, by rw [HW9.out, HW.out, World.drewN_drewN]⟩
                · have mat3 : Mat wr (.slice (some ⟨gI, 0, none⟩) ns.length (ns.length + 2)) ns := by rw [hW]; exact MAT3.out.drewN nn
                  have rx3 := Lib.hid (RX3.out.lst.drewN nn)
                  rw [← hW] at rx3
                  have hb3 : Below w.heap.size w wr := by rw [hW]; exact below_drewN HB3.out _
                  have HB4 := Lib.hid hb3
                  have M4 := Lib.hid mat3
                  clear mat3 hW hb3
                  go_wp2_with fail
                  refine (order_any ns _ _ M4.out).mono ?_
                  rintro _ wD ⟨oD, vd, rfl, kD, tD⟩
                  rw [HQ.out] at kD ⊢
                  have hb5 := HB4.out.trans (tD.bel.mono HB4.out.size)
                  have HB5 := Lib.hid hb5
                  have KD := Lib.hid kD.lst
                  have KX5 := Lib.hid (rx3.out.below tD.bel)
                  clear kD tD hb5
                  go_wp2_with fail
                  refine (same_any _ _ la la _ KD.out KX5.out).mono ?_
                  rintro _ _ ⟨rfl, n9, rfl⟩
                  rw [decide_eq_true (rfl : la = la)]
                  go_wp2_with fail
                  go_ret
                  exact ⟨rfl, below_drewN HB5.out _⟩

theorem bulk_one {H : Type} (d : DataW H) : 1 ≤ Rows.uptoBulk d := by
  cases d with
  | lit l => cases l <;> simp [Rows.uptoBulk]
  | nil => simp [Rows.uptoBulk]
  | ptr d => simp [Rows.uptoBulk]
  | slice elems spare => simp [Rows.uptoBulk]
  | agg parts => simp [Rows.uptoBulk]
  | iface t d => simp [Rows.uptoBulk]
  | map entries => simp [Rows.uptoBulk]
  | held h => simp [Rows.uptoBulk]
theorem bulk_part {H : Type} {d : DataW H} {l : List (DataW H)} (h : d ∈ l) : Rows.uptoBulk d ≤ Rows.uptoBulkAll l := by
  induction l with
  | nil => cases h
  | cons x r ih =>
    simp only [Rows.uptoBulkAll]
    cases List.mem_cons.1 h with
    | inl e => subst e; omega
    | inr e => have := ih e; omega
theorem bulk_len {H : Type} (l : List (DataW H)) : l.length ≤ Rows.uptoBulkAll l := by
  induction l with
  | nil => simp [Rows.uptoBulkAll]
  | cons x r ih => have := bulk_one x; simp only [Rows.uptoBulkAll, List.length_cons]; omega
theorem bulk_slice {H : Type} (elems spare : List (DataW H)) : Rows.uptoBulkAll elems ≤ Rows.uptoBulk (.slice elems spare) := by
  simp only [Rows.uptoBulk]
  omega
theorem open_mat_bulk {H : Type} {enc : TypeId × Value → H} {W : World} {base B : Nat} {v : Value} {d : DataW H} {p : List MemPlace} (hv : Value.okWide Try.prog W .any B 22 v)
    (h : DataW.Trod enc Try.prog W base (fun _ => true) true 22 v d p) : ∃ ns, Mat W v ns ∧ ns.length ≤ Rows.uptoBulk d ∧ ∀ r, r < ns.length → (nd ns r).length ≤ Rows.uptoBulk d := by
  obtain ⟨a0, len, cap, rfl⟩ := okWide_slice Try.underlying22 hv
  obtain ⟨fuel, hf⟩ := h
  rcases Deep.open_int_rows Try.underlying22 Try.underlying24 Try.underlying3 (by kernel_rfl) (by kernel_rfl) hf with ⟨hcs0, _⟩ | ⟨a, len', cap', A, L, C, Z, hcs0, _, hl, hm, hx, hrows⟩
  · simp [Value.cells] at hcs0
    obtain ⟨rfl, rfl, rfl⟩ := hcs0
    exact ⟨[], ⟨none, 0, rfl, Nat.zero_le _, fun r hr => absurd hr (Nat.not_lt_zero _)⟩, Nat.zero_le _, fun r hr => absurd hr (Nat.not_lt_zero _)⟩
  · simp [Value.cells] at hcs0
    obtain ⟨rfl, rfl, rfl⟩ := hcs0
    simp only [Prod.mk.injEq] at hx
    obtain ⟨rfl, rfl⟩ := hx
    have hn : ((List.range len).map fun r => (Z r).take (L r)).length = len := by simp
    have hbl : len ≤ Rows.uptoBulk (DataW.slice (H := H) ((List.range len).map fun r => Deep.intRow .i64 (A r) (L r) (Z r)) ((List.range (cap - len)).map fun j => Deep.intRow .i64 (A (len + j)) (L (len + j)) (Z (len + j)))) := by
      refine Nat.le_trans ?_ (bulk_slice _ _)
      have := bulk_len ((List.range len).map fun r => Deep.intRow (H := H) .i64 (A r) (L r) (Z r))
      simpa using this
    have key : ∀ r, r < len → nd ((List.range len).map fun r => (Z r).take (L r)) r = (Z r).take (L r) := fun r hr => by
      unfold nd; rw [List.getD_eq_getElem?_getD, List.getElem?_map, List.getElem?_range hr]; rfl
    refine ⟨(List.range len).map fun r => (Z r).take (L r), ⟨some a, cap, by rw [hn], by rw [hn]; omega, fun r hr => ?_⟩, by rw [hn]; exact hbl, fun r hr => ?_⟩
    · rw [hn] at hr
      obtain ⟨b, o, spot⟩ := a
      obtain ⟨c1, c2, c3, c4, c5, c6, c7⟩ := hrows r (by omega)
      have hspot : spot = none := by simpa [Addr.add] using World.cell?_spot (hrows 0 (by omega)).1
      subst hspot
      have el : ((Z r).take (L r)).length = L r := by rw [List.length_take]; omega
      refine ⟨b, o, _, rfl, by rw [← add_plain]; exact c1, ?_⟩
      rw [key r hr]
      refine ⟨A r, C r, by rw [el], by rw [el]; omega, fun c hc => ?_⟩
      rw [el] at hc
      cases hA : A r with
      | none => have := c6 hA; omega
      | some a' =>
        obtain ⟨b', o', spot'⟩ := a'
        have hcell := (c7 _ hA).2 c (by omega)
        have hspot : spot' = none := by simpa [Addr.add] using World.cell?_spot ((c7 _ hA).2 0 (by omega))
        subst hspot
        refine ⟨b', o', rfl, ?_⟩
        rw [← add_plain, hcell, List.getD_eq_getElem?_getD, List.getD_eq_getElem?_getD, List.getElem?_take_of_lt hc]
    · rw [hn] at hr
      rw [key r hr]
      obtain ⟨c1, c2, c3, c4, c5, c6, c7⟩ := hrows r (by omega)
      have el : ((Z r).take (L r)).length = L r := by rw [List.length_take]; omega
      rw [el]
      cases hA : A r with
      | none => have := c6 hA; omega
      | some a' =>
        have hm : Deep.intRow (H := H) .i64 (A r) (L r) (Z r) ∈ (List.range len).map fun r => Deep.intRow (H := H) .i64 (A r) (L r) (Z r) := List.mem_map.2 ⟨r, List.mem_range.2 hr, rfl⟩
        refine Nat.le_trans ?_ (Nat.le_trans (bulk_part hm) (bulk_slice _ _))
        rw [hA]
        unfold Deep.intRow
        refine Nat.le_trans ?_ (bulk_slice _ _)
        have := bulk_len (lits (H := H) .i64 ((Z r).take (L r)))
        have e : (lits (H := H) .i64 ((Z r).take (L r))).length = L r := by
          unfold lits
          rw [List.length_map, el]
        rw [e] at this
        exact this

set_option maxRecDepth 100000 in
theorem lifted_GraphApart (os : Os) (started : os.Started) (H : Type) (enc : TypeId × Value → H) (F : Stop.Interp) :
    ReturnsInHanded {} Try.checked os 7 .any ((Rows.OpenSpec.upto Rows.graphApartSpec).pre6 enc Try.prog Try.f7 Rows.graphApartUptoRow.domain false) (((Rows.OpenSpec.upto Rows.graphApartSpec).at F).post enc Try.prog Try.f7 false true false false) := by
  refine returnsInHanded_of_cond (C := Try.checked) (s := Rows.OpenSpec.upto Rows.graphApartSpec) (k := Rows.uptoSmall) rfl own started (by kernel_rfl) Try.func7
    (OpenSpec.witness (enc := enc) (C := Try.checked) (s := Rows.OpenSpec.upto Rows.graphApartSpec) (k := Rows.uptoSmall) rfl false ⟨#[], #[.slice none 0 0, .int .i64 0], []⟩ 8 (by kernel_rfl) (by kernel_rfl) (by kernel_rfl)
      (x := ([.nil, .lit (.int .i64 0)], [], [])) (by kernel_rfl) rfl (by kernel_rfl)) ?_
  intro W base args ds gs before hval0 hW _ hk _
  have hval : ∀ (j : Nat) t v, Try.f7.params[j]? = some t → args[j]? = some v → Value.okWide Try.prog W .any base t v := hval0
  have hW' := hW
  obtain ⟨p, q, hA0, hV, rfl, hfz, hnd⟩ := hW
  have hA : DataW.TrodAll enc Try.prog W 0 (fun _ => true) true Try.f7.params.toList args.toList ds p := hA0
  rw [Try.params7] at hA hval
  obtain ⟨v0, vs0, d0, ds0, p0, q0, hargs0, rfl, rfl, h0, r0⟩ := trodAll_cons hA
  obtain ⟨v1, vs1, d1, ds1, p1, q1, hargs1, rfl, rfl, h1, r1⟩ := trodAll_cons r0
  obtain ⟨rfl, rfl, rfl⟩ := trodAll_nil r1
  obtain rfl : args = #[v0, v1] := by cases args; simp_all
  obtain ⟨rfl, rfl⟩ := trodVars_none hV
  have k0 := h0
  have lt0 : ∀ x ∈ p0, x.block < W.heap.size := by obtain ⟨m, hm⟩ := k0; exact DataW.trod_lt m _ _ _ hm
  have k1 := h1
  have lt1 : ∀ x ∈ p1, x.block < W.heap.size := by obtain ⟨m, hm⟩ := k1; exact DataW.trod_lt m _ _ _ hm
  obtain ⟨a0, w0, b0, c0⟩ := open_mat_bulk (hval 0 22 v0 rfl rfl) h0
  obtain ⟨a1, rfl, rfl, rfl, w1⟩ := open_int Try.underlying3 (hval 1 3 v1 rfl rfl) h1
  have hbk : Rows.uptoBulk d0 ≤ 1048576 := by
    have h := of_decide_eq_true hk
    simp only [List.cons_append, List.nil_append, Rows.uptoBulkAll] at h
    omega
  clear hA0 hval0
  refine (walk_GraphApart a0 v0 W w0 (Nat.le_trans b0 hbk) (fun r hr => Nat.le_trans (c0 r hr) hbk) a1 w1).mono fun e W' ⟨he, bel⟩ => ?_
  subst he
  exact ⟨_, rfl, _, _, _, [], _, [], hW', trodAll_mk1 (shut_bool Try.underlying4 _), (trodAll_cons_mk (Below.trod laidOut (by kernel_rfl) (of_decide_eq_true (by kernel_rfl)) k0 bel lt0) (trodAll_cons_mk (Below.trod laidOut (by kernel_rfl) (of_decide_eq_true (by kernel_rfl)) k1 bel lt1) trodAll_mk0)), rfl, bel.frame _, fun h => by cases h⟩

theorem GraphApart_holds : Rows.GraphApartUptoSaid :=
  OpenClaim.holds_of_cond 7 Try.f7 rfl rfl rfl rfl rfl rfl rfl ⟨rfl, rfl, rfl, rfl, rfl⟩ rfl rfl rfl rfl rfl (by kernel_rfl) Try.func7 (by kernel_rfl)
    (of_decide_eq_true (by kernel_rfl)) (by unfold Func.isWrapper; first | (rw [if_pos (by decide +kernel)]; kernel_rfl) | (rw [if_neg (by decide +kernel)]; exact ⟨rfl, rfl⟩))
    (fun os started H enc _ F => lifted_GraphApart os started H enc F)
#print axioms GraphApart_holds
end Go.Proofs.Ytldhhoinjdkdgaa
