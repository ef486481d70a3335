/- Sweep: the walk of SweepTiles. -/
import Derived.Test.YtlpoopmjgobnnaaSc
set_option linter.unusedSimpArgs false
set_option linter.unusedVariables false
namespace Go.Proofs.Ytlpoopmjgobnnaa
open Go.RowKit

set_option maxRecDepth 100000 in
set_option maxHeartbeats 1500000 in
theorem tiles_bad (ds : List Int) (cs : List (List Int)) (z : Int) (hz : z = 6 ∨ z = 1 ∨ z = 2) (hy : coverD ds cs = ([], z)) (v u : Value) (w : World) (h : Lst w v ds) (h2 : Mat w u cs) :
    Calls Try.prog 4 #[v, u] w fun e w' => e = .returned (.bool true) ∧ Below w.heap.size w w' := by
  have HN := Lib.hid h
  have HM := Lib.hid h2
  have HY := Lib.hid hy
  clear h h2 hy
  rcases hz with rfl | rfl | rfl
  all_goals
    go_enter Try.func4, Try.ntmps4
    go_wp2_with ((go_at_call 5; with_reducible refine (known_any _).mono ?_); rintro _ w1 ⟨rfl, hb1⟩; have hb1s := hb1.size; (try simp only [World.size_alloc, World.size_setCell, World.size_drew, World.heap_drewN] at hb1s); obtain ⟨hb1c, hb1f⟩ := bcell hb1; (try have : w.heap.size < w1.heap.size := by omega); (try have : w.heap.size + 1 < w1.heap.size := by omega); (try have : w.heap.size + 1 + 1 < w1.heap.size := by omega); (try have : w.heap.size + 1 + 1 + 1 < w1.heap.size := by omega))
    have HB1 := Lib.hid hb1
    clear hb1 hb1c hb1f
    have HDC := Lib.hid (pcover_any ds cs v u w1 (HN.out.below HB1.out) (HM.out.below HB1.out))
    unfold DvPost at HDC
    rw [HY.out] at HDC
    refine HDC.out.mono ?_
    rintro _ w2 ⟨r2, rfl, hb2, A, C, rfl, -⟩
    have HB2 := Lib.hid (HB1.out.trans (hb2.mono HB1.out.size))
    clear hb2
    go_wp2_with fail
    go_ret
    exact ⟨ret_bool (by simp), HB2.out⟩
set_option maxRecDepth 100000 in
set_option maxHeartbeats 3000000 in
theorem tiles_good (ds : List Int) (cs : List (List Int)) (bs : List (List Nat × List Nat)) (ht : Til ds cs bs) (hy : coverD ds cs = (bs, 0)) (v u : Value) (w : World) (h : Lst w v ds) (h2 : Mat w u cs) :
    Calls Try.prog 4 #[v, u] w fun e w' => e = .returned (.bool true) ∧ Below w.heap.size w w' := by
  have HN := Lib.hid h
  have HM := Lib.hid h2
  have HY := Lib.hid hy
  have HT := Lib.hid ht
  obtain ⟨A0, C0, rfl, hm0, -⟩ := h
  obtain ⟨A1, C1, rfl, hm1, -⟩ := h2
  have h8 := ht.d8
  have hc4 := ht.c4
  have hbl := ht.len
  clear hy ht hm0 hm1
  go_enter Try.func4, Try.ntmps4
  go_wp2_with ((go_at_call 5; with_reducible refine (known_any _).mono ?_); rintro _ w1 ⟨rfl, hb1⟩; have hb1s := hb1.size; (try simp only [World.size_alloc, World.size_setCell, World.size_drew, World.heap_drewN] at hb1s); obtain ⟨hb1c, hb1f⟩ := bcell hb1; (try have : w.heap.size < w1.heap.size := by omega); (try have : w.heap.size + 1 < w1.heap.size := by omega); (try have : w.heap.size + 1 + 1 < w1.heap.size := by omega); (try have : w.heap.size + 1 + 1 + 1 < w1.heap.size := by omega))
  have HB1 := Lib.hid hb1
  clear hb1 hb1c hb1f
  have HDC := Lib.hid (pcover_any ds cs _ _ w1 (HN.out.below HB1.out) (HM.out.below HB1.out))
  unfold DvPost at HDC
  rw [HY.out] at HDC
  refine HDC.out.mono ?_
  rintro _ w2 ⟨r2, rfl, hb2, hx⟩
  have HB2 := Lib.hid (HB1.out.trans (hb2.mono HB1.out.size))
  have HX := Lib.hid hx
  obtain ⟨A2, C2, rfl, hm2, -⟩ := hx
  have HN2 := Lib.hid (HN.out.below HB2.out)
  have HM2 := Lib.hid (HM.out.below HB2.out)
  clear hb2 hm2
  go_wp2_with fail
  go_loopg [7, 8] bs.length (fun k s i wr => ∃ t : Nat, k + t = bs.length ∧ i = .int .i64 t ∧ s = .int .i64 (sizeL (bs.take t) : Nat) ∧ w2 = wr)
  case atStart => exact ⟨0, by omega, rfl, rfl, rfl⟩
  case round =>
    obtain ⟨t, hk, rfl, rfl, rfl⟩ := hrel
    have HK := Lib.hid hk
    have htn : t ≤ bs.length := by omega
    clear hk
    by_cases hlt : t < bs.length
    · obtain ⟨b1, p1, u1, rfl, a1, x1⟩ := HX.out.at hlt
      have hmem := getD_memP hlt
      have hst := size_take hlt
      have hsm := Nat.le_trans (size_part bs (t + 1)) HT.out.sum
      have hdim := HT.out.dim _ hmem
      have HSZ := Lib.hid (size_any _ _ u1 w2 (HT.out.fit _ hmem) (by rw [hdim]; exact h8) (HT.out.wid _ hmem) x1)
      obtain ⟨A3, C3, rfl, -, -⟩ := x1
      rw [hdim] at a1 HSZ
      obtain ⟨s0, hs0⟩ : ∃ s, s = sizeL (bs.take t) := ⟨_, rfl⟩
      obtain ⟨d0, hd0⟩ : ∃ s, s = widL (bs.getD t ([], [])).1 (bs.getD t ([], [])).2 := ⟨_, rfl⟩
      rw [← hs0, ← hd0] at hst
      rw [← hs0]
      rw [← hd0] at HSZ
      rw [hst] at hsm
      have HST := Lib.hid hst
      clear hst hs0 hd0 hmem hdim
      have q1 : ((ds.length : Int) != (ds.length : Int)) = false := by simp
      go_wp2_with (go_at_call 9; (with_reducible refine HSZ.out.mono ?_); rintro _ _ ⟨rfl, rfl⟩)
      go_roundg (gk - 1)
      case measure => have := HK.out; omega
      case rel => exact ⟨t + 1, by have := HK.out; omega, by go_num, by rw [HST.out]; go_num, rfl⟩
    · have hte : t = bs.length := by omega
      subst hte
      rw [List.take_length]
      go_wp2_with fail
      go_loopg [11, 12] cs.length (fun k s i wr => ∃ t nn : Nat, k + t = cs.length ∧ i = .int .i64 t ∧ s = .int .i64 (unlL t cs : Nat) ∧ wr = w2.drewN nn)
      case atStart => exact ⟨0, 0, by omega, rfl, rfl, rfl⟩
      case round =>
        obtain ⟨t, nn, hk, rfl, rfl, rfl⟩ := hrel
        have HK2 := Lib.hid hk
        have htn : t ≤ cs.length := by omega
        have hul := unl_le t cs
        clear hk HK
        by_cases hlt : t < cs.length
        · obtain ⟨b2, p2, u2', rfl, a2, l2⟩ := HM2.out.at hlt
          have hone := HT.out.one t hlt
          have hdc := HT.out.dimc t hlt
          obtain ⟨c, hc⟩ : ∃ c, c = nd cs t := ⟨_, rfl⟩
          rw [← hc] at l2
          have hc' : cs.getD t [] = c := hc.symm
          rw [hc'] at hone hdc
          have HONE := Lib.hid hone
          have HC := Lib.hid hc'
          have HL2 := Lib.hid l2
          have HDC2 := Lib.hid hdc
          clear hone hc hc' l2 hdc
          go_wp2_with fail
          obtain ⟨go, hgo⟩ : ∃ x, x = gk := ⟨_, rfl⟩
          subst hgo
          go_loopg [13, 14] bs.length (fun k s i wr => ∃ j mm : Nat, k + j = bs.length ∧ i = .int .i64 j ∧ s = .int .i64 ((bs.take j).countP (fun b => hasB b.1 b.2 c) : Nat) ∧ wr = w2.drewN mm)
          case atStart => exact ⟨0, nn, by omega, rfl, rfl, rfl⟩
          case round =>
            obtain ⟨j, mm, hk, rfl, rfl, rfl⟩ := hrel
            have HK3 := Lib.hid hk
            have hjn : j ≤ bs.length := by omega
            clear hk
            by_cases hlj : j < bs.length
            · obtain ⟨b1, p1, u1, rfl, a1, x1⟩ := HX.out.at hlj
              have hmem := getD_memP hlj
              have hct := cnt_take (c := c) hlj
              have hdim := HT.out.dim _ hmem
              have hcl : (bs.take j).countP (fun b => hasB b.1 b.2 c) ≤ 4000 := Nat.le_trans List.countP_le_length (by rw [List.length_take]; omega)
              obtain ⟨W, hW⟩ : ∃ W, W = w2.drewN mm := ⟨_, rfl⟩
              have HHO : Hid (∀ n, Calls Try.prog 10 #[u1, u2'] (W.drewN n) fun e w' => e = .returned (.tuple #[.bool (hasB (bs.getD j ([], [])).1 (bs.getD j ([], [])).2 c), .int .i64 0]) ∧ w' = W.drewN n) := Lib.hid (fun n => by
                rw [hW]
                exact (holds_any _ _ c u1 u2' ((w2.drewN mm).drewN n) (HT.out.fit _ hmem) (by rw [hdim]; exact h8) (by rw [HDC2.out, hdim]) x1 HL2.out).mono (fun e w' hh => And.intro hh.1 hh.2.symm))
              have a1' : W.cell? ⟨b1, p1 + j, none⟩ = some u1 := by rw [hW]; exact a1
              have a2' : W.cell? ⟨b2, p2 + t, none⟩ = some u2' := by rw [hW]; exact a2
              rw [← hW]
              have HW := Lib.hid hW
              clear hW
              obtain ⟨hb, hhb⟩ : ∃ b, b = hasB (bs.getD j ([], [])).1 (bs.getD j ([], [])).2 c := ⟨_, rfl⟩
              obtain ⟨q, hq⟩ : ∃ q, q = (bs.take j).countP (fun b => hasB b.1 b.2 c) := ⟨_, rfl⟩
              rw [← hhb, ← hq] at hct
              rw [← hhb] at HHO
              rw [← hq] at hcl ⊢
              have HCT := Lib.hid hct
              clear hct hhb hq hmem hdim x1
              have t0 : (0 : Int) ≤ (t : Int) := by omega
              have t1 : (t : Int) < (cs.length : Int) := by omega
              have j0 : (0 : Int) ≤ (j : Int) := by omega
              have j1 : (j : Int) < (bs.length : Int) := by omega
              cases hb with
              | true =>
                go_wp2_with fail
                go_quiet ((go_at_call 10; exact Calls.quiet_of_same (HHO.out _)))
                go_wp2_with fail
                go_roundg (gk - 1)
                case measure => have := HK3.out; omega
                case rel => exact ⟨j + 1, _, by have := HK3.out; omega, by go_num, by rw [HCT.out]; rfl, by rw [HW.out, World.drewN_drewN]⟩
              | false =>
                go_wp2_with fail
                go_quiet ((go_at_call 10; exact Calls.quiet_of_same (HHO.out _)))
                go_wp2_with fail
                go_roundg (gk - 1)
                case measure => have := HK3.out; omega
                case rel => exact ⟨j + 1, _, by have := HK3.out; omega, by go_num, by rw [HCT.out]; rfl, by rw [HW.out, World.drewN_drewN]⟩
            · have hje : j = bs.length := by omega
              subst hje
              rw [List.take_length, HONE.out]
              clear HK3
              go_wp2_with fail
              obtain ⟨ul, hul2⟩ : ∃ x, x = unlL t cs := ⟨_, rfl⟩
              have HUL := Lib.hid hul2
              rw [← hul2] at hul ⊢
              clear hul2
              go_loopg [17, 18] t (fun k f i wr => ∃ (j nn : Nat) (fb : Bool), k + j = t ∧ i = .int .i64 j ∧ f = .bool fb ∧ Hid (fb = decide (c ∉ cs.take j)) ∧ wr = w2.drewN nn)
              case atStart => exact ⟨0, mm, true, by omega, rfl, rfl, Lib.hid (by rw [List.take_zero]; exact (decide_eq_true List.not_mem_nil).symm), rfl⟩
              case round =>
                obtain ⟨j, nn2, fb, hk, rfl, rfl, HFB, rfl⟩ := hrel
                have HK4 := Lib.hid hk
                have hjt : j ≤ t := by omega
                clear hk
                have hfin : ∀ (hb : fb = false ∨ j = t), fb = decide (c ∉ cs.take t) := fun hb => by
                  rcases hb with rfl | rfl
                  · have h1 := of_decide_eq_false HFB.out.symm
                    have h2 : c ∈ cs.take j := Classical.not_not.1 h1
                    have h3 : c ∈ cs.take t := (List.take_prefix_take_left (by omega)).subset h2
                    exact (decide_eq_false (fun hn => hn h3)).symm
                  · exact HFB.out
                have hnx : unlL (t + 1) cs = ul + if c ∈ cs.take t then 0 else 1 := by
                  rw [HUL.out, ← HC.out]
                  rfl
                cases fb with
                | false =>
                  have hd := hfin (.inl rfl)
                  have h1 := of_decide_eq_false hd.symm
                  rw [if_pos (Classical.not_not.1 h1), Nat.add_zero] at hnx
                  have HNX := Lib.hid hnx
                  clear hd h1 hnx hfin
                  by_cases hjl : j < t
                  · go_wp2_with fail
                    go_roundg (go - 1)
                    case measure => have := HK2.out; omega
                    case rel => exact ⟨t + 1, _, by have := HK2.out; omega, by go_num, by rw [HNX.out, Nat.add_zero], rfl⟩
                  · go_wp2_with fail
                    go_roundg (go - 1)
                    case measure => have := HK2.out; omega
                    case rel => exact ⟨t + 1, _, by have := HK2.out; omega, by go_num, by rw [HNX.out, Nat.add_zero], rfl⟩
                | true =>
                  by_cases hjl : j < t
                  · have hjc : j < cs.length := by omega
                    obtain ⟨b3, p3, u3', e3, a3, l3⟩ := HM2.out.at hjc
                    injection e3 with e3
                    injection e3 with e31 e32
                    subst e31 e32
                    obtain ⟨W, hW⟩ : ∃ W, W = w2.drewN nn2 := ⟨_, rfl⟩
                    have HSI : Hid (∀ n, Calls Try.prog 11 #[u3', u2'] (W.drewN n) fun e w' => e = .returned (.bool (decide (nd cs j = c))) ∧ ∃ m, w' = (W.drewN n).drewN m) := Lib.hid (fun n => by
                      rw [hW]
                      exact sameints_any u3' u2' _ _ ((w2.drewN nn2).drewN n) l3 HL2.out)
                    have a3' : W.cell? ⟨b2, p2 + j, none⟩ = some u3' := by rw [hW]; exact a3
                    have a2' : W.cell? ⟨b2, p2 + t, none⟩ = some u2' := by rw [hW]; exact a2
                    rw [← hW]
                    have HW := Lib.hid hW
                    have hnew : decide (nd cs j = c) = !decide (c ∉ cs.take (j + 1)) := by
                      have h1 := of_decide_eq_true HFB.out.symm
                      rw [take_getB hjc []]
                      by_cases e : nd cs j = c
                      · have : c ∈ cs.take j ++ [cs.getD j []] := List.mem_append_right _ (by rw [List.mem_singleton]; exact e.symm)
                        rw [decide_eq_true e, decide_eq_false (fun hn => hn this)]
                        rfl
                      · have : c ∉ cs.take j ++ [cs.getD j []] := fun hm => by
                          rcases List.mem_append.1 hm with hm | hm
                          · exact h1 hm
                          · exact e (List.mem_singleton.1 hm).symm
                        rw [decide_eq_false e, decide_eq_true this]
                        rfl
                    obtain ⟨sb, hsb⟩ : ∃ b, b = decide (nd cs j = c) := ⟨_, rfl⟩
                    rw [← hsb] at HSI hnew
                    have HNEW := Lib.hid hnew
                    clear hW hnew hsb l3 hfin hnx a3
                    have t0 : (0 : Int) ≤ (t : Int) := by omega
                    have t1 : (t : Int) < (cs.length : Int) := by omega
                    have j0 : (0 : Int) ≤ (j : Int) := by omega
                    have j1 : (j : Int) < (cs.length : Int) := by omega
                    go_wp2_with fail
                    go_quiet ((go_at_call 11; exact Calls.quiet_of (HSI.out _)))
                    go_wp2_with fail
                    go_roundg (gk - 1)
                    case measure => have := HK4.out; omega
                    case rel => exact ⟨j + 1, _, !sb, by have := HK4.out; omega, by go_num, rfl, Lib.hid (by rw [HNEW.out, Bool.not_not]), by rw [HW.out, World.drewN_drewN]⟩
                  · have hje2 : j = t := by omega
                    have hd := hfin (.inr hje2)
                    have h1 := of_decide_eq_true hd.symm
                    rw [if_neg h1] at hnx
                    have HNX := Lib.hid hnx
                    clear hd h1 hnx hfin
                    go_wp2_with fail
                    go_roundg (go - 1)
                    case measure => have := HK2.out; omega
                    case rel => exact ⟨t + 1, _, by have := HK2.out; omega, by go_num, by rw [HNX.out]; rfl, rfl⟩
        · have hte : t = cs.length := by omega
          subst hte
          have hu := HT.out.unl
          rw [hu]
          have q2 : ((sizeL bs : Nat) : Int) == ((sizeL bs : Nat) : Int) := by simp
          go_wp2_with fail
          go_ret
          exact ⟨ret_bool (by simp), below_drewN HB2.out _⟩
theorem walk_SweepTiles (ds : List Int) (cs : List (List Int)) (v u : Value) (w : World) (h : Lst w v ds) (h2 : Mat w u cs) :
    Calls Try.prog 4 #[v, u] w fun e w' => e = .returned (.bool true) ∧ Below w.heap.size w w' := by
  rcases coverD_cases ds cs with ⟨z, hy, hz⟩ | ⟨bs, hy, ht⟩
  · exact tiles_bad ds cs z hz hy v u w h h2
  · exact tiles_good ds cs bs ht hy v u w h h2
end Go.Proofs.Ytlpoopmjgobnnaa
