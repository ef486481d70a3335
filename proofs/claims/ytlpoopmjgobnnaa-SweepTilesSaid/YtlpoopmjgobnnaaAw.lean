/- Sweep, the program's Cover. -/
import Derived.Test.YtlpoopmjgobnnaaAv
set_option linter.unusedSimpArgs false
set_option linter.unusedVariables false
namespace Go.Proofs.Ytlpoopmjgobnnaa
open Go.RowKit

set_option maxHeartbeats 1000000 in
theorem pcover_neg (ds : List Int) (cs : List (List Int)) (v u : Value) (w : World) (hx : ∃ d ∈ ds, d < 0) (h : Lst w v ds) (h2 : Mat w u cs) : Calls Try.prog 7 #[v, u] w (DvPost (coverD ds cs) w) := by
  rw [coverD_neg hx]
  unfold DvPost
  have HX := Lib.hid (hasneg_any ds v w h)
  rw [decide_eq_true hx] at HX
  clear hx
  go_enter Try.func7, Try.ntmps7
  go_wp2_with (go_at_call 16; (with_reducible refine HX.out.mono ?_); rintro _ _ ⟨rfl, rfl⟩)
  go_ret2
  exact ⟨_, rfl, Below.refl _ _, bxs_nil _⟩
set_option maxRecDepth 100000 in
set_option maxHeartbeats 2000000 in
theorem pcover_nat (ns : List Nat) (cs : List (List Int)) (v u : Value) (w : World) (h : Lst w v (zs ns)) (h2 : Mat w u cs) : Calls Try.prog 7 #[v, u] w (DvPost (covN ns cs) w) := by
  have HN := Lib.hid h
  have HM := Lib.hid h2
  have hneg : ¬ ∃ d ∈ zs ns, d < 0 := by
    rintro ⟨d, hd, h0⟩
    obtain ⟨x, _, rfl⟩ := List.mem_map.1 hd
    omega
  have HX := Lib.hid (hasneg_any (zs ns) v w h)
  rw [decide_eq_false hneg] at HX
  have HGD := Lib.hid (gridof_any ns v w h)
  obtain ⟨A, C, rfl, ha, _⟩ := h
  obtain ⟨A1, C1, rfl, ha1, _⟩ := h2
  rw [zs_len] at ha HN HX HGD ⊢
  unfold GridPost at HGD
  unfold maxLen at ha ha1
  unfold DvPost
  obtain ⟨Y, hY⟩ : ∃ Y, Y = covN ns cs := ⟨_, rfl⟩
  have HY := Lib.hid hY
  rw [← hY]
  clear hY hneg
  by_cases d2 : 4000 < prodL ns
  · have hy : Hid (Y = ([], 6)) := Lib.hid (HY.out.trans (if_pos (.inr (.inl d2))))
    rw [if_neg (by omega)] at HGD
    clear d2
    go_enter Try.func7, Try.ntmps7
    go_wp2_with (first | (go_at_call 16; (with_reducible refine HX.out.mono ?_); rintro _ _ ⟨rfl, rfl⟩) | (go_at_call 18; (with_reducible refine HGD.out.mono ?_); rintro _ w1 ⟨hb1, rfl⟩))
    go_ret2
    exact ⟨_, by rw [hy.out]; rfl, hb1.alloc hb1.size _, by rw [hy.out]; exact bxs_nil _⟩
  · rw [if_pos (by omega)] at HGD
    obtain ⟨P, hP⟩ : ∃ P, P = prodL ns := ⟨_, rfl⟩
    have HP := Lib.hid hP
    have hp4 : P ≤ 4000 := by omega
    rw [← hP] at HGD
    clear d2 hP
    by_cases d1 : 8 < ns.length
    · have hy : Hid (Y = ([], 6)) := Lib.hid (HY.out.trans (if_pos (.inl d1)))
      have q1 : decide ((8 : Int) < (ns.length : Int)) = true := decide_eq_true (by omega)
      go_enter Try.func7, Try.ntmps7
      go_wp2_with (first | (go_at_call 16; (with_reducible refine HX.out.mono ?_); rintro _ _ ⟨rfl, rfl⟩) | (go_at_call 18; (with_reducible refine HGD.out.mono ?_); rintro _ w1 ⟨hb1, rfl⟩))
      go_ret2
      exact ⟨_, by rw [hy.out]; rfl, hb1.alloc hb1.size _, by rw [hy.out]; exact bxs_nil _⟩
    · have q1 : decide ((8 : Int) < (ns.length : Int)) = false := decide_eq_false (by omega)
      by_cases d3 : 4000 < cs.length
      · have hy : Hid (Y = ([], 6)) := Lib.hid (HY.out.trans (if_pos (.inr (.inr d3))))
        have q3 : decide ((4000 : Int) < (cs.length : Int)) = true := decide_eq_true (by omega)
        go_enter Try.func7, Try.ntmps7
        go_wp2_with (first | (go_at_call 16; (with_reducible refine HX.out.mono ?_); rintro _ _ ⟨rfl, rfl⟩) | (go_at_call 18; (with_reducible refine HGD.out.mono ?_); rintro _ w1 ⟨hb1, rfl⟩))
        go_ret2
        exact ⟨_, by rw [hy.out]; rfl, hb1.alloc hb1.size _, by rw [hy.out]; exact bxs_nil _⟩
      · have q3 : decide ((4000 : Int) < (cs.length : Int)) = false := decide_eq_false (by omega)
        have hy : Hid (Y = match markL ns cs (List.replicate P false) with | none => ([], 2) | some F => (covL ns P 0 F, 0)) := Lib.hid (by
          rw [HY.out, HP.out]
          exact if_neg (by rintro (h | h | h); exact d1 h; rw [← HP.out] at h; omega; exact d3 h))
        have HD := Lib.hid (And.intro d1 d3)
        have hpm : P ≤ maxLen := by unfold maxLen; omega
        go_enter Try.func7, Try.ntmps7
        go_upto_region 6 with (first | (go_at_call 16; (with_reducible refine HX.out.mono ?_); rintro _ _ ⟨rfl, rfl⟩) | (go_at_call 18; (with_reducible refine HGD.out.mono ?_); rintro _ w1 ⟨hb1, rfl⟩))
        obtain ⟨w2, hw2⟩ : ∃ W, W = w1.alloc (.cells #[.slice A ns.length C, .int .i64 P] 46) := ⟨_, rfl⟩
        obtain ⟨E, hE⟩ : ∃ E, E = w1.heap.size := ⟨_, rfl⟩
        have kg : Bk w2 E 46 [.slice A ns.length C, .int .i64 P] := by
          rw [hw2, hE]
          exact Bk.new_ rfl
        have hb2 : Below w.heap.size w w2 := by rw [hw2]; exact hb1.alloc hb1.size _
        have hsE : w.heap.size ≤ E := by rw [hE]; exact hb1.size
        have c1 := kg.cell 1 rfl
        rw [← hw2, ← hE]
        clear hw2 hE hb1
        have HKG := Lib.hid kg
        have HB2 := Lib.hid (And.intro hb2 hsE)
        clear kg hb2 hsE
        go_upto_region 7 with (at_make; refine wpList_makeM rfl _ _ 40 4 rfl (.bool false) rfl 1 Try.underlying40 info_bool1 (ob w2.heap.size) 1 P rfl rfl (by omega) hpm ?_; intro w3 lw t3)
        rw [ob_re (Nat.le_refl _)] at lw t3
        have hB3 : Below w2.heap.size w2 w3 := ob_below (w0 := w2) (t3.mono (fun l hl => hl.elim)) (Below.refl _ _)
        obtain ⟨g, hgd⟩ : ∃ g, g = w2.heap.size := ⟨_, rfl⟩
        have HEg : Hid (E < g) := Lib.hid (by rw [hgd]; exact HKG.out.lt)
        have HB3 : Hid (Below w.heap.size w w3) := Lib.hid (HB2.out.1.trans (hB3.mono HB2.out.1.size))
        have HK3 : Hid (Bk w3 g 4 (bools (List.replicate P false))) := Lib.hid (by rw [bools_rep, hgd]; exact lw.1)
        have HG3 : Hid (Bk w3 E 46 [.slice A ns.length C, .int .i64 P]) := Lib.hid (HKG.out.below hB3 HKG.out.lt)
        rw [← hgd]
        obtain ⟨M, hMd⟩ : ∃ M, M = markL ns cs (List.replicate P false) := ⟨_, rfl⟩
        rw [← hMd] at hy
        have HMD := Lib.hid hMd
        clear lw t3 hB3 hgd hMd q1 q3 d1 d3 c1 HKG
        go_wp2_with fail
        go_loopg [36] cs.length (fun k i wr => ∃ (t : Nat) (F : List Bool), k + t = cs.length ∧ i = .int .i64 t ∧ Hid (F.length = P) ∧ Hid (markL ns (cs.drop t) F = M) ∧ Hid (Bk wr g 4 (bools F)) ∧ Hid (Bk wr E 46 [.slice A ns.length C, .int .i64 P]) ∧ Hid (Below w.heap.size w wr))
        case atStart => exact ⟨0, _, by omega, rfl, Lib.hid List.length_replicate, Lib.hid HMD.out.symm, HK3, HG3, HB3⟩
        case round =>
          obtain ⟨t, F, hk, rfl, HFL, HMK, HKm, HGm, HBm⟩ := hrel
          have HK := Lib.hid hk
          have htn : t ≤ cs.length := by omega
          clear hk HK3 HB3 HG3
          have hbw := HBm.out
          have d0 := HGm.out.cell 0 rfl
          have d1 := HGm.out.cell 1 rfl
          by_cases hlt : t < cs.length
          · obtain ⟨b1, p1, u1, rfl, a1, l1⟩ := (HM.out.below hbw).at hlt
            have HPL := Lib.hid (place_any ns (nd cs t) (.slice A ns.length C) u1 P wr (by rw [← HP.out]; exact hp4) (HN.out.below hbw) l1)
            have hdr : cs.drop t = nd cs t :: cs.drop (t + 1) := drop_at hlt []
            obtain ⟨c, hcd⟩ : ∃ c, c = nd cs t := ⟨_, rfl⟩
            rw [← hcd] at HPL hdr l1
            have hmk := HMK.out
            rw [hdr, markL] at hmk
            unfold plZ at HPL
            have hplt : ∀ q, plI ns c 0 = some q → q < P := fun q hq => by have := plI_lt hq; rw [HP.out]; omega
            clear hdr hcd l1
            cases hpl : plI ns c 0 with
            | none =>
              rw [hpl] at HPL hmk
              have hy2 : Hid (Y = ([], 2)) := Lib.hid (by rw [hy.out, ← hmk])
              clear hpl hplt hmk
              go_wp2_with (go_at_call 19; (with_reducible refine HPL.out.mono ?_); rintro _ w5 ⟨rfl, hb5⟩)
              go_ret2
              exact ⟨_, by rw [hy2.out]; rfl, hbw.trans (hb5.mono hbw.size), by rw [hy2.out]; exact bxs_nil _⟩
            | some q =>
              rw [hpl] at HPL hmk
              have hqp := hplt q hpl
              have HM2 := Lib.hid hmk
              clear hpl hplt hmk
              go_upto_region 11 with (go_at_call 19; (with_reducible refine HPL.out.mono ?_); rintro _ w5 ⟨rfl, hb5⟩)
              have hk5 := HKm.out.below hb5 HKm.out.lt
              have hg5 := HGm.out.below hb5 HGm.out.lt
              have f5 := hk5.frozen q
              have c5 := hk5.cell q (bools_get (by rw [HFL.out]; exact hqp))
              have hnew := hk5.set_ q (.bool true)
              rw [bools_set] at hnew
              have HNEW := Lib.hid hnew
              have HGN := Lib.hid (hg5.far (p := ⟨g, q, none⟩) (by have := HEg.out; show E ≠ g; omega) (.bool true))
              have HBN := Lib.hid ((hbw.trans (hb5.mono hbw.size)).setCell (p := ⟨g, q, none⟩) (by have := HEg.out; have := HB2.out.2; show _ ≤ g; omega) (.bool true))
              clear hnew hk5 hb5 hg5
              go_wp2_with fail
              go_roundg (gk - 1)
              case measure => have := HK.out; omega
              case rel => exact ⟨t + 1, F.set q true, by have := HK.out; omega, by go_num, Lib.hid (by rw [List.length_set]; exact HFL.out), HM2, HNEW, HGN, HBN⟩
          · have hte : t = cs.length := by omega
            subst hte
            have hmk := HMK.out
            rw [List.drop_length] at hmk
            have hy2 : Hid (Y = (covL ns F.length 0 F, 0)) := Lib.hid (by rw [hy.out, ← hmk, HFL.out]; rfl)
            have hcm : CovM w ns (fun k => if k = g then 1 else 0) wr (.slice (some ⟨g, 0, none⟩) F.length F.length) (.slice none 0 0) F [] [] := by
              refine ⟨Ro.of_block ⟨HKm.out, if_pos rfl⟩ (Nat.le_refl _) (by rw [HFL.out]; exact hpm) (by rw [bools_len, Nat.mul_one]) (by rw [List.take_of_length_le (by rw [bools_len]; omega)]), Ro.nil _ _ _ _ _, fun k hk => absurd hk (Nat.not_lt_zero _), fun k hk => if_neg (by have := HEg.out; have := HB2.out.2; omega), hbw⟩
            have HCV := Lib.hid (cover_any ns F (.slice A ns.length C) P g _ w wr (by rw [← HP.out]; exact hp4) (by rw [← HP.out]; exact HFL.out) (by have := HD.out.1; omega) HN.out hcm)
            rw [HFL.out] at HCV
            unfold CvPost at HCV
            clear hmk hcm
            go_wp2_with (go_at_call 20; (with_reducible refine HCV.out.mono ?_); rintro _ w5 ⟨r5, rfl, hb5, hx5⟩)
            go_ret2
            exact ⟨_, by rw [hy2.out]; rfl, hb5, by rw [hy2.out]; exact hx5⟩
theorem pcover_any (ds : List Int) (cs : List (List Int)) (v u : Value) (w : World) (h : Lst w v ds) (h2 : Mat w u cs) : Calls Try.prog 7 #[v, u] w (DvPost (coverD ds cs) w) := by
  by_cases hx : ∃ d ∈ ds, d < 0
  · exact pcover_neg ds cs v u w hx h h2
  · rw [coverD_nat hx]
    exact pcover_nat _ cs v u w (by rw [zs_of (ints_pos hx)]; exact h) h2
end Go.Proofs.Ytlpoopmjgobnnaa
