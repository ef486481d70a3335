/- GraphBehind: for all lists of needs, in the program's Order each thing stands once, behind all that it needs, no lesser thing stands too late, and its Levels rise: the law returns true, and what was handed in reads as it did. No condition. -/
import Derived.ProofKit
import Derived.OpenShut
import Derived.ShutString
import Derived.ChangeOld
import Derived.Below
import Derived.Lib.SmallJoins
import Derived.Deep.Matrix
import Derived.Test.YtldhhoinjdkdgaaM1
set_option linter.unusedSimpArgs false
set_option linter.unusedVariables false
namespace Go.Proofs.Ytldhhoinjdkdgaa
open Go.RowKit
open Go.ChangeShapes Go.WideShapes Go.ChangeAt
open Go.ChangeMaps (open_string shut_string)
set_option linter.unusedVariables false

def atv (N : Nat) (l : List Int) (t : Nat) : List Int := (List.range N).map fun k => if at_ l k < t then (at_ l k : Int) else 0
theorem atv_len (N : Nat) (l : List Int) (t : Nat) : (atv N l t).length = N := by unfold atv; simp
theorem atv_get {N : Nat} {l : List Int} {t k : Nat} (h : k < N) : (atv N l t).getD k 0 = if at_ l k < t then (at_ l k : Int) else 0 := by
  unfold atv
  rw [List.getD_eq_getElem?_getD, List.getElem?_map, List.getElem?_range h]; rfl
theorem atv_zero (N : Nat) (l : List Int) : atv N l 0 = List.replicate N 0 := by
  refine List.ext_getElem (by rw [atv_len, List.length_replicate]) fun i h1 h2 => ?_
  rw [atv_len] at h1
  have := atv_get (l := l) (t := 0) h1
  rw [getD_get (by rw [atv_len]; exact h1), if_neg (Nat.not_lt_zero _)] at this
  rw [this, List.getElem_replicate]
theorem atv_set {ns : List (List Int)} {l : List Int} (h : ord ns = some l) {t x : Nat} (ht : t < ns.length) (hx : l.getD t 0 = x) (hxn : x < ns.length) : (atv ns.length l t).set x (t : Int) = atv ns.length l (t + 1) := by
  have e := ord_at_of h ht hx
  refine List.ext_getElem (by rw [List.length_set, atv_len, atv_len]) fun i h1 h2 => ?_
  have hi : i < ns.length := by rw [atv_len] at h2; exact h2
  have a := atv_get (l := l) (t := t + 1) hi
  rw [getD_get (by rw [atv_len]; exact hi)] at a
  rw [a, List.getElem_set]
  by_cases e1 : x = i
  · subst e1; rw [if_pos rfl, e, if_pos (by omega)]
  · rw [if_neg e1]
    have b := atv_get (l := l) (t := t) hi
    rw [getD_get (by rw [atv_len]; exact hi)] at b
    rw [b]
    have hne : at_ l i ≠ t := fun e2 => by
      have := (ord_at h hi).2
      rw [e2, hx] at this
      omega
    by_cases e2 : at_ l i < t
    · rw [if_pos e2, if_pos (by omega)]
    · rw [if_neg e2, if_neg (by omega)]
theorem take_not {ns : List (List Int)} {l : List Int} (h : ord ns = some l) {t x : Nat} (ht : t < ns.length) (hx : l.getD t 0 = x) (hxn : x < ns.length) : (l.take t).contains (x : Int) = false := by
  have e := ord_at_of h ht hx
  rw [Bool.eq_false_iff]
  intro hm
  have := (mem_take_at h hxn t).1 (by simpa using hm)
  omega
theorem new_of {w w' : World} {o : Nat → Nat} (h : Turn (fun l => l ≠ 0) w (fun _ => 0) w' o) {g : Nat} (hg : o g ≠ 0) : w.heap.size ≤ g := by
  rcases Nat.lt_or_ge g w.heap.size with h1 | h1
  · exact absurd (h.num g h1) hg
  · exact h1
structure Fin (W : World) (v vl vv : Value) (gA : Nat) (ns : List (List Int)) (l ls : List Int) : Prop where
  mat : Mat W v ns
  ll : Lst W vl l
  lv : Lst W vv ls
  ab : Bk W gA 3 ((atv ns.length l ns.length).map (Value.int .i64))
theorem Fin.drewN {W : World} {v vl vv : Value} {gA : Nat} {ns : List (List Int)} {l ls : List Int} (h : Fin W v vl vv gA ns l ls) (n : Nat) : Fin (W.drewN n) v vl vv gA ns l ls :=
  ⟨h.mat.drewN n, h.ll.drewN n, h.lv.drewN n, h.ab.drewN n⟩
theorem lev_snd (ns : List (List Int)) : (docLev ns).2 = (docOrd ns).2 := by
  unfold docLev
  by_cases h : (docOrd ns).2 = 0
  · rw [if_pos h, h]
  · rw [if_neg h]
set_option maxRecDepth 100000 in
set_option maxHeartbeats 4000000 in
theorem walk_GraphBehind (ns : List (List Int)) (v : Value) (w : World) (h : Mat w v ns) :
    Calls Try.prog 4 #[v] w fun e w' => e = .returned (.bool true) ∧ Below w.heap.size w w' := by
  obtain ⟨l, z, hq⟩ : ∃ l z, docOrd ns = (l, z) := ⟨_, _, rfl⟩
  have hv : (docLev ns).2 = z := by rw [lev_snd, hq]
  obtain ⟨ls, hls⟩ : ∃ ls, docLev ns = (ls, z) := ⟨(docLev ns).1, Prod.ext rfl hv⟩
  have HQ := Lib.hid hq
  have HLS := Lib.hid hls
  have HO := Lib.hid (fun W (h : Mat W v ns) => order_any ns v W h)
  have HV := Lib.hid (fun W (h : Mat W v ns) => levels_any ns v W h)
  unfold OrdPost at HO
  unfold LevPost at HV
  rw [hq] at HO
  rw [hls] at HV
  clear hv
  by_cases hz : z = 0
  · subst hz
    obtain ⟨_, g1, g2, g3⟩ := doc_ok (ns := ns) (by rw [hq])
    rw [hq] at g3
    have g4 : ls = levels ns l := by
      have : docLev ns = (levels ns (docOrd ns).1, 0) := by unfold docLev; rw [hq]; rfl
      rw [hls, hq] at this; injection this
    obtain ⟨n1, n2⟩ := longB_not g1
    have HOR := Far.mk g3
    have HLV := Lib.hid g4
    have HF := Lib.hid (formB_iff.1 g2)
    have HN2 := Lib.hid n2
    have hl : l.length = ns.length := (gr_good g3).2
    have hll : ls.length = ns.length := by rw [g4]; exact levels_len ns l
    have HR := Far.mk ((gr_good g3).1.rng)
    have HL := Lib.hid hl
    have HLL := Lib.hid hll
    have HM := Lib.hid h
    obtain ⟨A, C, rfl, m2, _⟩ := h
    unfold maxLen at m2
    clear hq hls g1 g2 g3 g4 n2 hl hll
    go_enter Try.func4, Try.ntmps4
    go_wp2_with ((go_at_call 8; with_reducible refine (known_any _).mono ?_); rintro _ w1 ⟨rfl, hb1⟩; have hb1s := hb1.size; (try simp only [World.size_alloc, World.size_setCell, World.size_drew, World.heap_drewN] at hb1s); obtain ⟨hb1c, hb1f⟩ := bcell hb1; (try have : w.heap.size < w1.heap.size := by omega); (try have : w.heap.size + 1 < w1.heap.size := by omega); (try have : w.heap.size + 1 + 1 < w1.heap.size := by omega); (try have : w.heap.size + 1 + 1 + 1 < w1.heap.size := by omega))
    refine (HO.out _ (HM.out.below hb1)).mono ?_
    rintro _ w2 ⟨o2, v2, rfl, k2, hb2⟩
    have hb3 := hb1.trans (hb2.mono hb1.size)
    have K2 := Lib.hid k2.lst
    obtain ⟨A2, C2, hv2⟩ := row_is k2
    rw [HL.out] at hv2
    subst hv2
    clear hb1c hb1f k2
    go_wp2_with fail
    refine (HV.out _ (HM.out.below hb3)).mono ?_
    rintro _ w4 ⟨o4, v4, rfl, k4, hb4⟩
    have K4 := Lib.hid k4.lst
    obtain ⟨A4, C4, hv4⟩ := row_is k4
    rw [HLL.out] at hv4
    subst hv4
    have HB4 := Lib.hid (hb3.trans (hb4.mono hb3.size))
    have HM4 := Lib.hid (HM.out.below HB4.out)
    have K24 := Lib.hid (K2.out.below hb4)
    have hs4 := HB4.out.size
    clear k4 hb4 hb3 hb2 hb1 HV HO HM K2
    go_wp2_with (first | (at_make; refine wpList_makeL rfl _ _ 24 3 rfl (.int .i64 0) rfl 8 Try.underlying24 (by kernel_rfl) (fun _ => 0) 6 ns.length rfl rfl (by omega) (by unfold maxLen; omega) ?_; intro w5 la t5) | (at_make; refine wpList_makeL rfl _ _ 30 4 rfl (.bool false) rfl 1 Try.underlying30 (by kernel_rfl) (relabel (fun _ => 0) w4.heap.size 6) 7 ns.length rfl rfl (by omega) (by unfold maxLen; omega) ?_; intro w6 lb t6))
    have la6 := la.turn t6 (fun h => h)
    have t7 : Turn (fun l => l ≠ 0) w4 (fun _ => 0) w6 _ := (t5.trans t6).mono fun _ h => h.elim
    generalize (relabel (relabel (fun _ => 0) w4.heap.size 6) w5.heap.size 7) = o0 at *
    obtain ⟨gA, hgA⟩ : ∃ g, g = w4.heap.size := ⟨_, rfl⟩
    obtain ⟨gS, hgS⟩ : ∃ g, g = w5.heap.size := ⟨_, rfl⟩
    rw [← hgA] at la6
    rw [← hgS] at lb
    rw [← hgA, ← hgS]
    rw [← tb_nil] at lb
    have e0 : List.replicate ns.length (Value.int .i64 0) = (atv ns.length l 0).map (Value.int .i64) := by rw [atv_zero, List.map_replicate]
    rw [e0] at la6
    clear hgA hgS t5 t6 e0 la
    go_loopg [9] ns.length (fun k i wr => ∃ t : Nat, k + t = ns.length ∧ i = .int .i64 t ∧ Lb wr o0 6 gA 3 ((atv ns.length l t).map (Value.int .i64)) ∧ Lb wr o0 7 gS 4 (tb ns.length (l.take t)) ∧ Turn (fun l => l ≠ 0) w4 (fun _ => 0) wr o0)
    case atStart => exact ⟨0, by omega, rfl, la6, lb, t7⟩
    case round =>
      clear la6 lb t7
      obtain ⟨t, hk, rfl, la, lb, tr⟩ := hrel
      have HK := Lib.hid hk
      have htn : t ≤ ns.length := by omega
      have hwb : Below w4.heap.size w4 wr := tr.below (fun _ _ => by simp) (Nat.le_refl _)
      clear hk
      by_cases hlt : t < ns.length
      · obtain ⟨b1, q1, rfl, hc1⟩ := (K24.out.below hwb).at (show t < l.length by rw [HL.out]; exact hlt)
        obtain ⟨x0, x1⟩ := HR.out (l.getD t 0) (by rw [getD_get (by rw [HL.out]; exact hlt)]; exact List.getElem_mem _)
        obtain ⟨x, hx⟩ := Int.eq_ofNat_of_zero_le x0
        rw [hx] at x1 hc1
        have HX := Lib.hid hx
        have hxn : x < ns.length := by omega
        have i0 : (0 : Int) ≤ (x : Int) := by omega
        have cs := lb.1.cell x (tb_get hxn)
        rw [take_not HOR.out hlt hx hxn] at cs
        have fs := lb.1.frozen x
        have fa := la.1.frozen x
        have ca := la.1.cell x (getD_cell (by rw [atv_len]; exact hxn))
        generalize (atv ns.length l t).getD x 0 = ya at ca
        have hne : gA ≠ gS := fun e => by have := la.2; have := lb.2; rw [e] at *; omega
        have LA := Lib.hid la
        have LB := Lib.hid lb
        clear hx x0 la lb
        go_wp2_with fail
        go_region
        all_goals
          go_wp2_with fail
          go_roundg (gk - 1)
          case measure => have := HK.out; omega
          case rel =>
            have oA : o0 gA = 6 := LA.out.2
            have oS : o0 gS = 7 := LB.out.2
            have l1 := (LA.out.far (p := ⟨gS, x, none⟩) (by show o0 gS ≠ 6; rw [oS]; decide) (.bool true)).set_ x (.int .i64 t)
            have l2 := (LB.out.set_ x (.bool true)).far (p := ⟨gA, x, none⟩) (by show o0 gA ≠ 7; rw [oA]; decide) (.int .i64 t)
            rw [← List.map_set, atv_set HOR.out hlt HX.out hxn] at l1
            have et : l.take (t + 1) = l.take t ++ [(x : Int)] := by rw [List.take_succ_eq_append_getElem (by rw [HL.out]; exact hlt), ← getD_get (by rw [HL.out]; exact hlt), HX.out]
            rw [tb_set hxn, ← et] at l2
            have t2 := (tr.setCell (p := ⟨gS, x, none⟩) (.inl (new_of tr (by rw [oS]; decide))) (.bool true)).setCell (p := ⟨gA, x, none⟩) (.inl (new_of tr (by rw [oA]; decide))) (.int .i64 t)
            exact ⟨t + 1, by have := HK.out; omega, by go_num, l1.drew, l2.drew, t2.drew⟩
      · obtain rfl : t = ns.length := by omega
        have fin : Fin wr (.slice A ns.length C) (.slice A2 ns.length C2) (.slice A4 ns.length C4) gA ns l ls := ⟨HM4.out.below hwb, K24.out.below hwb, K4.out.below hwb, la.1⟩
        have HB5 := Lib.hid (HB4.out.trans (hwb.mono hs4))
        have FIN := Lib.hid fin
        clear fin la lb tr hwb HK HM4 K24 K4 HB4
        go_wp2_with fail
        obtain ⟨w5', hw5⟩ : ∃ w5' : World, w5' = wr := ⟨_, rfl⟩
        rw [← hw5] at FIN HB5 ⊢
        clear hw5
        go_loopg [10] ns.length (fun k i W => ∃ t nn : Nat, k + t = ns.length ∧ i = .int .i64 t ∧ W = w5'.drewN nn)
        case atStart => exact ⟨0, 0, by omega, rfl, rfl⟩
        case round =>
          obtain ⟨t, nn, hk, rfl, hW⟩ := hrel
          have HK := Lib.hid hk
          have htn : t ≤ ns.length := by omega
          have HW := Lib.hid hW
          clear hk hW
          by_cases hlt : t < ns.length
          · obtain ⟨b1, q1, u1, rfl, hc1, hl1⟩ := FIN.out.mat.at hlt
            obtain ⟨A1, C1, rfl, hb1⟩ := hl1.is
            have HL1 := Lib.hid hl1
            have HC1 := Lib.hid hc1
            unfold maxLen at hb1
            have hs0 : (nd ns t).length ≤ 100 := HN2.out _ (nd_mem hlt)
            clear hl1 hc1
            go_wp2_with fail
            obtain ⟨go, hgo⟩ : ∃ go : Nat, go = gk := ⟨_, rfl⟩
            rw [← hgo] at HK
            have HGO := Lib.hid hgo
            clear hgo
            go_loopg [11, 12] (nd ns t).length (fun k f c W => ∃ s F mm : Nat, k + s = (nd ns t).length ∧ c = .int .i64 s ∧ f = .int .i64 F ∧ F ≤ ns.length ∧ Hid (∀ c, c < s → ∀ n : Nat, (nd ns t).getD c 0 = n → at_ l n < F) ∧ W = w5'.drewN mm)
            case atStart => exact ⟨0, 0, nn, by omega, rfl, rfl, Nat.zero_le _, Lib.hid (fun c hc => absurd hc (Nat.not_lt_zero _)), HW.out⟩
            case round =>
              obtain ⟨s, F, mm, hk, rfl, rfl, hF, HA, hW⟩ := hrel
              have HK2 := Lib.hid hk
              have hsn : s ≤ (nd ns t).length := by omega
              have fin : Fin wr (.slice (some ⟨b1, q1, none⟩) ns.length C) (.slice A2 ns.length C2) (.slice A4 ns.length C4) gA ns l ls := by rw [hW]; exact FIN.out.drewN mm
              have c1 : wr.cell? ⟨b1, q1 + t, none⟩ = some (.slice A1 (nd ns t).length C1) := by rw [hW]; exact HC1.out
              have hl1 : Lst wr (.slice A1 (nd ns t).length C1) (nd ns t) := by rw [hW]; exact HL1.out.drewN mm
              have HL1' := Lib.hid hl1
              have FIN' := Lib.hid fin
              have HW2 := Lib.hid hW
              clear hk hW fin hl1
              by_cases hls : s < (nd ns t).length
              · obtain ⟨b4, q4, rfl, hc4⟩ := HL1'.out.at hls
                obtain ⟨y0, y1⟩ := HF.out t s hlt hls
                obtain ⟨m, hm⟩ := Int.eq_ofNat_of_zero_le y0
                rw [hm] at y1 hc4
                have hmn : m < ns.length := by omega
                have m0 : (0 : Int) ≤ (m : Int) := by omega
                have t0 : (0 : Int) ≤ (t : Int) := by omega
                have t1 : (t : Int) < (ns.length : Int) := by omega
                have hmem : (m : Int) ∈ nd ns t := by rw [← hm, getD_get hls]; exact List.getElem_mem _
                have p1 := ord_ahead HOR.out hlt hmem hmn
                have p2 := ord_level HOR.out hlt hmem
                rw [← HLV.out] at p2
                have a1 := (ord_at HOR.out hmn).1
                have a2 := (ord_at HOR.out hlt).1
                have cm := FIN'.out.ab.cell m (getD_cell (by rw [atv_len]; exact hmn))
                have ct := FIN'.out.ab.cell t (getD_cell (by rw [atv_len]; exact hlt))
                rw [atv_get hmn, if_pos a1] at cm
                rw [atv_get hlt, if_pos a2] at ct
                obtain ⟨b5, q5, rfl, vm⟩ := FIN'.out.lv.at (show m < ls.length by rw [HLL.out]; exact hmn)
                obtain ⟨b6, q6, e6, vt⟩ := FIN'.out.lv.at (show t < ls.length by rw [HLL.out]; exact hlt)
                injection e6 with e6
                injection e6 with e6 e7
                subst e6 e7
                have HM' := Lib.hid hm
                obtain ⟨am, ham⟩ : ∃ am, am = at_ l m := ⟨_, rfl⟩
                obtain ⟨an, han⟩ : ∃ an, an = at_ l t := ⟨_, rfl⟩
                rw [← ham] at p1 a1 cm
                rw [← han] at p1 a2 ct
                have HAM := Lib.hid ham
                have g1 : decide (an ≤ am) = false := by rw [decide_eq_false_iff_not]; omega
                have g1' : ¬ (an : Int) ≤ (am : Int) := by omega
                generalize ls.getD m 0 = vvm at *
                generalize ls.getD t 0 = vvt at *
                have g2 : decide (vvt ≤ vvm) = false := by rw [decide_eq_false_iff_not]; omega
                have g2' : ¬ vvt ≤ vvm := by omega
                clear ham han hmem hm y0
                by_cases hmx : (am : Int) + 1 ≤ (F : Int)
                · have tk := trivial
                  go_wp2_with fail
                  go_quiet (fail)
                  go_wp2_with fail
                  go_roundg (gk - 1)
                  case measure => have := HK2.out; omega
                  case rel =>
                    refine ⟨s + 1, F, _, by have := HK2.out; omega, by go_num, by go_num, by omega, Lib.hid fun c hc n hn => ?_, by rw [HW2.out, World.drewN_drewN]⟩
                    by_cases e : c = s
                    · subst e
                      have e2 := HM'.out
                      rw [hn] at e2
                      obtain rfl : n = m := by omega
                      have := HAM.out
                      omega
                    · have := HA.out c (by omega) n hn
                      omega
                · have tk := trivial
                  go_wp2_with fail
                  go_quiet (fail)
                  go_wp2_with fail
                  go_roundg (gk - 1)
                  case measure => have := HK2.out; omega
                  case rel =>
                    refine ⟨s + 1, (am + 1), _, by have := HK2.out; omega, by go_num, by go_num, by omega, Lib.hid fun c hc n hn => ?_, by rw [HW2.out, World.drewN_drewN]⟩
                    by_cases e : c = s
                    · subst e
                      have e2 := HM'.out
                      rw [hn] at e2
                      obtain rfl : n = m := by omega
                      have := HAM.out
                      omega
                    · have := HA.out c (by omega) n hn
                      omega
              · obtain rfl : s = (nd ns t).length := by omega
                have HA3 : Hid (∀ n : Nat, (n : Int) ∈ nd ns t → at_ l n < F) := Lib.hid (fun n hn => by
                  obtain ⟨c, hc, e⟩ := List.mem_iff_getElem.1 hn
                  exact HA.out c hc n (by rw [getD_get hc]; exact e))
                have a2 := (ord_at HOR.out hlt).1
                have ct := FIN'.out.ab.cell t (getD_cell (by rw [atv_len]; exact hlt))
                rw [atv_get hlt, if_pos a2] at ct
                obtain ⟨an, han⟩ : ∃ an, an = at_ l t := ⟨_, rfl⟩
                rw [← han] at a2 ct
                have HAN := Lib.hid han
                have t0 : (0 : Int) ≤ (t : Int) := by omega
                clear han
                go_wp2_with fail
                obtain ⟨wo, hwo⟩ : ∃ wo : World, wo = wr := ⟨_, rfl⟩
                rw [← hwo] at FIN' HW2 ct c1
                go_loopg [14] ns.length (fun k p W => ∃ P : Nat, p = .int .i64 P ∧ ns.length ≤ k + P ∧ P ≤ ns.length ∧ F ≤ P ∧ wo = W)
                case atStart => exact ⟨F, rfl, by omega, hF, Nat.le_refl _, hwo⟩
                case round =>
                  clear hwo
                  obtain ⟨P, rfl, hk, hP, hFP, rfl⟩ := hrel
                  have HK3 := Lib.hid hk
                  clear hk
                  by_cases hlp : P < an
                  · have hPn : P < ns.length := by omega
                    obtain ⟨b8, q8, rfl, hc8⟩ := FIN'.out.ll.at (show P < l.length by rw [HL.out]; exact hPn)
                    have hy := ord_least HOR.out HF.out hlt (p := P) (by rw [← HAN.out]; exact hlp) (fun n hn => by have := HA3.out n hn; omega)
                    generalize l.getD P 0 = y at hc8 hy
                    have P0 : (0 : Int) ≤ (P : Int) := by omega
                    go_wp2_with fail
                    go_roundg (ns.length - (P + 1))
                    case measure => have := HK3.out; omega
                    case rel => exact ⟨P + 1, by go_num, by omega, by omega, by omega, rfl⟩
                  · go_wp2_with fail
                    go_roundg (go - 1)
                    case measure => have := HK.out; have := HGO.out; omega
                    case rel => exact ⟨t + 1, _, by have := HK.out; omega, by go_num, HW2.out⟩
          · go_wp2_with fail
            go_ret
            exact ⟨rfl, by rw [HW.out]; exact below_drewN HB5.out _⟩
  · have hl0 : l = [] := by have := doc_bad (ns := ns) (by rw [hq]; exact hz); rw [hq] at this; exact this
    have hls0 : ls = [] := by
      have : docLev ns = ([], (docOrd ns).2) := by unfold docLev; rw [hq]; exact if_neg hz
      rw [hls] at this; injection this
    subst hl0 hls0
    have hc2 : (z != 0) = true := by simpa using hz
    clear hq hls hz
    go_enter Try.func4, Try.ntmps4
    go_wp2_with ((go_at_call 8; with_reducible refine (known_any _).mono ?_); rintro _ w1 ⟨rfl, hb1⟩; have hb1s := hb1.size; (try simp only [World.size_alloc, World.size_setCell, World.size_drew, World.heap_drewN] at hb1s); obtain ⟨hb1c, hb1f⟩ := bcell hb1; (try have : w.heap.size < w1.heap.size := by omega); (try have : w.heap.size + 1 < w1.heap.size := by omega); (try have : w.heap.size + 1 + 1 < w1.heap.size := by omega); (try have : w.heap.size + 1 + 1 + 1 < w1.heap.size := by omega))
    refine (HO.out _ (h.below hb1)).mono ?_
    rintro _ w2 ⟨o2, v2, rfl, k2, hb2⟩
    have hb3 := hb1.trans (hb2.mono hb1.size)
    obtain ⟨A2, C2, rfl⟩ := row_is k2
    clear hb1c hb1f k2
    go_wp2_with fail
    refine (HV.out _ (h.below hb3)).mono ?_
    rintro _ w4 ⟨o4, v4, rfl, k4, hb4⟩
    obtain ⟨A4, C4, rfl⟩ := row_is k4
    clear k4
    go_wp2_with fail
    go_ret
    exact ⟨ret_bool (by simp), hb3.trans (hb4.mono hb3.size)⟩


set_option maxRecDepth 100000 in
theorem lifted_GraphBehind (os : Os) (started : os.Started) (H : Type) (enc : TypeId × Value → H) :
    ReturnsInHanded {} Try.checked os 4 .any (Rows.graphBehindSpec.pre6 enc Try.prog Try.f4 Rows.graphBehindRow.domain false) (Rows.graphBehindSpec.post enc Try.prog Try.f4 false true false false) := by
  refine returnsInHanded_of_change (C := Try.checked) own started (by kernel_rfl) Try.func4
    (ChangeSpec.witness6 (enc := enc) (C := Try.checked) false ⟨#[], #[.slice none 0 0], []⟩ 8 (by kernel_rfl) (by kernel_rfl) (by kernel_rfl) (by kernel_rfl)) ?_
  intro W base args ds gs before hval0 hW hcnd _
  have hval : ∀ (j : Nat) t v, Try.f4.params[j]? = some t → args[j]? = some v → Value.okWide Try.prog W .any base t v := hval0
  have hW' := hW
  obtain ⟨p, q, hA0, hV, rfl, hfz, hnd⟩ := hW
  have hA : DataW.TrodAll enc Try.prog W 0 (fun _ => true) true Try.f4.params.toList args.toList ds p := hA0
  rw [Try.params4] at hA hval
  obtain ⟨v0, vs0, d0, ds0, p0, q0, hargs0, rfl, rfl, h0, r0⟩ := trodAll_cons hA
  obtain ⟨rfl, rfl, rfl⟩ := trodAll_nil r0
  obtain rfl : args = #[v0] := by cases args; simp_all
  obtain ⟨rfl, rfl⟩ := trodVars_none hV
  have k0 := h0
  have lt0 : ∀ x ∈ p0, x.block < W.heap.size := by obtain ⟨m, hm⟩ := k0; exact DataW.trod_lt m _ _ _ hm
  obtain ⟨a0, w0⟩ := open_mat (hval 0 22 v0 rfl rfl) h0
  clear hA0 hval0
  refine (walk_GraphBehind a0 v0 W w0).mono fun e W' ⟨he, bel⟩ => ?_
  subst he
  exact ⟨_, rfl, _, _, _, [], _, [], hW', trodAll_mk1 (shut_bool Try.underlying4 _), (trodAll_cons_mk (Below.trod laidOut (by kernel_rfl) (of_decide_eq_true (by kernel_rfl)) k0 bel lt0) trodAll_mk0), rfl, bel.frame _, fun h => by cases h⟩

theorem GraphBehind_holds : Rows.GraphBehindSaid :=
  OpenClaim.holds_of_wide 4 Try.f4 rfl rfl rfl rfl rfl rfl rfl ⟨rfl, rfl, rfl, rfl, rfl⟩ rfl rfl rfl rfl rfl (by kernel_rfl) Try.func4 (by kernel_rfl)
    (of_decide_eq_true (by kernel_rfl)) (by unfold Func.isWrapper; first | (rw [if_pos (by decide +kernel)]; kernel_rfl) | (rw [if_neg (by decide +kernel)]; exact ⟨rfl, rfl⟩))
    (fun os started H enc _ => lifted_GraphBehind os started H enc)
#print axioms GraphBehind_holds
end Go.Proofs.Ytldhhoinjdkdgaa
