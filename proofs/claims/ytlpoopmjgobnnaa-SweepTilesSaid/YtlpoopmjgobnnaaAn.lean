/- Sweep: the document's DocCover: the walk. -/
import Derived.Test.YtlpoopmjgobnnaaAm
set_option linter.unusedSimpArgs false
set_option linter.unusedVariables false
namespace Go.Proofs.Ytlpoopmjgobnnaa
open Go.RowKit

theorem bk_bls {w : World} {g n C : Nat} {t : TypeId} {G : List Bool} (h : Bk w g t (bools G)) (hn : G.length = n) (hm : n ≤ maxLen) : Bls w (.slice (some ⟨g, 0, none⟩) n C) G := by
  subst hn
  exact ⟨_, C, rfl, hm, fun k hk => ⟨g, 0, rfl, by rw [Nat.zero_add]; exact h.cell k (bools_get hk)⟩⟩
theorem bools_rep (n : Nat) : bools (List.replicate n false) = List.replicate n (.bool false) := by
  unfold bools
  rw [List.map_replicate]
/-- what Cover answers, once the axes are told -/
def covN (ns : List Nat) (cs : List (List Int)) : List (List Nat × List Nat) × Int :=
  if 8 < ns.length ∨ 4000 < prodL ns ∨ 4000 < cs.length then ([], 6)
  else match markL ns cs (List.replicate (prodL ns) false) with
    | none => ([], 2)
    | some F => (covL ns (prodL ns) 0 F, 0)
theorem coverD_neg {ds : List Int} {cs : List (List Int)} (h : ∃ d ∈ ds, d < 0) : coverD ds cs = ([], 1) := if_pos h
theorem coverD_nat {ds : List Int} {cs : List (List Int)} (h : ¬ ∃ d ∈ ds, d < 0) : coverD ds cs = covN (ds.map Int.toNat) cs := by
  unfold coverD covN
  rw [if_neg h, List.length_map]
  rfl
theorem ints_pos {ds : List Int} (h : ¬ ∃ d ∈ ds, d < 0) : ∀ d ∈ ds, 0 ≤ d := fun d hd => by
  rcases Int.lt_or_le d 0 with h' | h'
  · exact absurd ⟨d, hd, h'⟩ h
  · exact h'
theorem gD_mem {ds : List Int} {t : Nat} (ht : t < ds.length) : ds.getD t 0 ∈ ds := by
  rw [List.getD_eq_getElem?_getD, List.getElem?_eq_getElem ht]
  exact List.getElem_mem _
def DvPost (Y : List (List Nat × List Nat) × Int) (w : World) (e : Ending) (w' : World) : Prop := ∃ r, e = .returned (.tuple #[r, .int .i64 Y.2]) ∧ Below w.heap.size w w' ∧ Bxs w' r Y.1
theorem bxs_nil (w : World) : Bxs w (.slice none 0 0) [] := ⟨none, 0, rfl, Nat.zero_le _, fun k hk => absurd hk (Nat.not_lt_zero _)⟩
set_option maxHeartbeats 1000000 in
theorem doccover_neg (ds : List Int) (cs : List (List Int)) (v u : Value) (w : World) (hx : ∃ d ∈ ds, d < 0) (h : Lst w v ds) (h2 : Mat w u cs) : Calls Try.prog 6 #[v, u] w (DvPost (coverD ds cs) w) := by
  rw [coverD_neg hx]
  unfold DvPost
  have HN := Lib.hid h
  obtain ⟨A, C, rfl, ha, _⟩ := h
  obtain ⟨A1, C1, rfl, ha1, _⟩ := h2
  unfold maxLen at ha
  have HX := Lib.hid hx
  clear hx
  go_enter Try.func6, Try.ntmps6
  go_wp2_with fail
  go_loopg [6] ds.length (fun k i wr => ∃ t : Nat, k + t = ds.length ∧ i = .int .i64 t ∧ Hid (∀ r, r < t → 0 ≤ ds.getD r 0) ∧ w = wr)
  case atStart => exact ⟨0, by omega, rfl, Lib.hid (fun r hr => absurd hr (Nat.not_lt_zero _)), rfl⟩
  case round =>
    obtain ⟨t, hk, rfl, HP, rfl⟩ := hrel
    have HK := Lib.hid hk
    have htn : t ≤ ds.length := by omega
    clear hk
    by_cases hlt : t < ds.length
    · obtain ⟨b1, p1, rfl, a1⟩ := HN.out.at hlt
      obtain ⟨x, hx⟩ : ∃ x, x = ds.getD t 0 := ⟨_, rfl⟩
      have HXX := Lib.hid hx
      rw [← hx] at a1
      clear hx
      by_cases h0 : x < 0
      · go_wp2_with fail
        go_ret2
        exact ⟨_, rfl, Below.refl _ _, bxs_nil _⟩
      · have HP2 : Hid (∀ r, r < t + 1 → 0 ≤ ds.getD r 0) := Lib.hid (fun r hr => by
          by_cases e : r = t
          · subst e; rw [← HXX.out]; omega
          · exact HP.out r (by omega))
        go_wp2_with fail
        go_roundg (gk - 1)
        case measure => have := HK.out; omega
        case rel => exact ⟨t + 1, by have := HK.out; omega, by go_num, HP2, rfl⟩
    · obtain rfl : t = ds.length := by omega
      obtain ⟨d, hd, hneg⟩ := HX.out
      obtain ⟨r, hr, rfl⟩ := List.mem_iff_getElem.1 hd
      have := HP.out r hr
      rw [List.getD_eq_getElem?_getD, List.getElem?_eq_getElem hr] at this
      exact absurd this (by show ¬ (0 ≤ ds[r]); omega)
set_option maxHeartbeats 2000000 in
theorem doccover_nat (ns : List Nat) (cs : List (List Int)) (v u : Value) (w : World) (h : Lst w v (zs ns)) (h2 : Mat w u cs) : Calls Try.prog 6 #[v, u] w (DvPost (covN ns cs) w) := by
  have HN := Lib.hid h
  have HM := Lib.hid h2
  have HCT := Lib.hid (count_any ns v w h)
  obtain ⟨A, C, rfl, ha, _⟩ := h
  obtain ⟨A1, C1, rfl, ha1, _⟩ := h2
  rw [zs_len] at ha HN HCT ⊢
  unfold maxLen at ha ha1
  unfold DvPost
  obtain ⟨Y, hY⟩ : ∃ Y, Y = covN ns cs := ⟨_, rfl⟩
  have HY := Lib.hid hY
  rw [← hY]
  clear hY
  go_enter Try.func6, Try.ntmps6
  go_wp2_with fail
  go_loopg [6] ns.length (fun k i wr => ∃ t : Nat, k + t = ns.length ∧ i = .int .i64 t ∧ w = wr)
  case atStart => exact ⟨0, by omega, rfl, rfl⟩
  case round =>
    obtain ⟨t, hk, rfl, rfl⟩ := hrel
    have HK := Lib.hid hk
    have htn : t ≤ ns.length := by omega
    clear hk
    by_cases hlt : t < ns.length
    · obtain ⟨b1, p1, rfl, a1⟩ := HN.out.at (c := t) (by rw [zs_len]; exact hlt)
      rw [zs_get] at a1
      go_wp2_with fail
      go_roundg (gk - 1)
      case measure => have := HK.out; omega
      case rel => exact ⟨t + 1, by have := HK.out; omega, by go_num, rfl⟩
    · obtain rfl : t = ns.length := by omega
      clear HK
      by_cases d1 : 8 < ns.length
      · have hy : Hid (Y = ([], 6)) := Lib.hid (HY.out.trans (if_pos (.inl d1)))
        have q1 : decide ((8 : Int) < (ns.length : Int)) = true := decide_eq_true (by omega)
        go_wp2_with (go_at_call 13; (with_reducible refine HCT.out.mono ?_); rintro _ _ ⟨rfl, rfl⟩)
        go_ret2
        exact ⟨_, by rw [hy.out]; rfl, Below.refl _ _, by rw [hy.out]; exact bxs_nil _⟩
      · have q1 : decide ((8 : Int) < (ns.length : Int)) = false := decide_eq_false (by omega)
        by_cases d2 : 4000 < prodL ns
        · have hy : Hid (Y = ([], 6)) := Lib.hid (HY.out.trans (if_pos (.inr (.inl d2))))
          have hm : min (prodL ns) 4001 = 4001 := Nat.min_eq_right (by omega)
          rw [hm] at HCT
          clear hm d2
          go_wp2_with (go_at_call 13; (with_reducible refine HCT.out.mono ?_); rintro _ _ ⟨rfl, rfl⟩)
          go_ret2
          exact ⟨_, by rw [hy.out]; rfl, Below.refl _ _, by rw [hy.out]; exact bxs_nil _⟩
        · have hm : min (prodL ns) 4001 = prodL ns := Nat.min_eq_left (by omega)
          rw [hm] at HCT
          obtain ⟨P, hP⟩ : ∃ P, P = prodL ns := ⟨_, rfl⟩
          have HP := Lib.hid hP
          have hp4 : P ≤ 4000 := by omega
          rw [← hP] at HCT
          clear hm d2 hP
          have q2 : decide ((4000 : Int) < (P : Int)) = false := decide_eq_false (by omega)
          by_cases d3 : 4000 < cs.length
          · have hy : Hid (Y = ([], 6)) := Lib.hid (HY.out.trans (if_pos (.inr (.inr d3))))
            have q3 : decide ((4000 : Int) < (cs.length : Int)) = true := decide_eq_true (by omega)
            go_wp2_with (go_at_call 13; (with_reducible refine HCT.out.mono ?_); rintro _ _ ⟨rfl, rfl⟩)
            go_ret2
            exact ⟨_, by rw [hy.out]; rfl, Below.refl _ _, by rw [hy.out]; exact bxs_nil _⟩
          · have q3 : decide ((4000 : Int) < (cs.length : Int)) = false := decide_eq_false (by omega)
            have hy : Hid (Y = match markL ns cs (List.replicate P false) with | none => ([], 2) | some F => (covL ns P 0 F, 0)) := Lib.hid (by
              rw [HY.out, HP.out]
              exact if_neg (by rintro (h | h | h); exact d1 h; rw [← HP.out] at h; omega; exact d3 h))
            have HD := Lib.hid (And.intro d1 d3)
            have hpm : P ≤ maxLen := by unfold maxLen; omega
            go_upto_region 9 with (first | (go_at_call 13; (with_reducible refine HCT.out.mono ?_); rintro _ _ ⟨rfl, rfl⟩) | (at_make; refine wpList_makeM rfl _ _ 40 4 rfl (.bool false) rfl 1 Try.underlying40 info_bool1 (ob w.heap.size) 1 P rfl rfl (by omega) hpm ?_; intro w3 lw t3))
            rw [ob_re (Nat.le_refl _)] at lw t3
            have hB3 : Below w.heap.size w w3 := ob_below (w0 := w) (t3.mono (fun l hl => hl.elim)) (Below.refl _ _)
            obtain ⟨g, hgd⟩ : ∃ g, g = w.heap.size := ⟨_, rfl⟩
            have HG : Hid (w.heap.size ≤ g) := Lib.hid (by omega)
            have HB3 : Hid (Below g w w3) := Lib.hid (by rw [hgd]; exact hB3)
            have HK3 : Hid (Bk w3 g 4 (bools (List.replicate P false))) := Lib.hid (by rw [bools_rep, hgd]; exact lw.1)
            rw [← hgd]
            obtain ⟨M, hMd⟩ : ∃ M, M = markL ns cs (List.replicate P false) := ⟨_, rfl⟩
            rw [← hMd] at hy
            have HMD := Lib.hid hMd
            clear lw t3 hB3 hgd hMd q1 q2 q3 d1 d3
            go_wp2_with fail
            go_loopg [8] cs.length (fun k i wr => ∃ (t : Nat) (F : List Bool), k + t = cs.length ∧ i = .int .i64 t ∧ Hid (F.length = P) ∧ Hid (markL ns (cs.drop t) F = M) ∧ Hid (Bk wr g 4 (bools F)) ∧ Hid (Below g w wr))
            case atStart => exact ⟨0, _, by omega, rfl, Lib.hid List.length_replicate, Lib.hid HMD.out.symm, HK3, HB3⟩
            case round =>
              obtain ⟨t, F, hk, rfl, HFL, HMK, HKm, HBm⟩ := hrel
              have HK := Lib.hid hk
              have htn : t ≤ cs.length := by omega
              clear hk HK3 HB3
              have hbw := HBm.out.mono HG.out
              by_cases hlt : t < cs.length
              · obtain ⟨b1, p1, u1, rfl, a1, l1⟩ := (HM.out.below hbw).at hlt
                have HPL := Lib.hid (rplace_any ns (nd cs t) _ u1 wr (by rw [← HP.out]; exact hp4) (HN.out.below hbw) l1)
                have hdr : cs.drop t = nd cs t :: cs.drop (t + 1) := drop_at hlt []
                obtain ⟨c, hcd⟩ : ∃ c, c = nd cs t := ⟨_, rfl⟩
                rw [← hcd] at HPL hdr l1
                have hmk := HMK.out
                rw [hdr, markL] at hmk
                unfold plZ at HPL
                have hplt : ∀ q, plI ns c 0 = some q → q < P := fun q hq => by have := plI_lt hq; rw [HP.out]; omega
                clear hdr hcd l1
                cases hpl : plI ns c 0 with
                | none =>
                  rw [hpl] at HPL hmk
                  have hy2 : Hid (Y = ([], 2)) := Lib.hid (by rw [hy.out, ← hmk])
                  clear hpl hplt hmk
                  go_wp2_with (go_at_call 14; (with_reducible refine HPL.out.mono ?_); rintro _ w5 ⟨rfl, hb5⟩)
                  go_ret2
                  exact ⟨_, by rw [hy2.out]; rfl, hbw.trans (hb5.mono hbw.size), by rw [hy2.out]; exact bxs_nil _⟩
                | some q =>
                  rw [hpl] at HPL hmk
                  have hqp := hplt q hpl
                  have HM2 := Lib.hid hmk
                  clear hpl hplt hmk
                  go_upto_region 13 with (go_at_call 14; (with_reducible refine HPL.out.mono ?_); rintro _ w5 ⟨rfl, hb5⟩)
                  have hk5 := HKm.out.below hb5 HKm.out.lt
                  have f5 := hk5.frozen q
                  have c5 := hk5.cell q (bools_get (by rw [HFL.out]; exact hqp))
                  have hnew := hk5.set_ q (.bool true)
                  rw [bools_set] at hnew
                  have HNEW := Lib.hid hnew
                  have HBN := Lib.hid ((HBm.out.trans (hb5.mono (by have := HKm.out.lt; omega))).setCell (p := ⟨g, q, none⟩) (Nat.le_refl g) (.bool true))
                  clear hnew hk5 hb5
                  go_wp2_with fail
                  go_roundg (gk - 1)
                  case measure => have := HK.out; omega
                  case rel => exact ⟨t + 1, F.set q true, by have := HK.out; omega, by go_num, Lib.hid (by rw [List.length_set]; exact HFL.out), HM2, HNEW, HBN⟩
              · have hte : t = cs.length := by omega
                subst hte
                have hmk := HMK.out
                rw [List.drop_length] at hmk
                have hy2 : Hid (Y = (covL ns F.length 0 F, 0)) := Lib.hid (by rw [hy.out, ← hmk, HFL.out]; rfl)
                have HCV := Lib.hid (rcover_any ns F _ (.slice (some ⟨g, 0, none⟩) P P) wr (by rw [← HP.out]; exact hp4) (by rw [← HP.out]; exact HFL.out) (by have := HD.out.1; omega) (HN.out.below hbw) (bk_bls HKm.out HFL.out hpm))
                unfold RcPost at HCV
                clear hmk
                go_wp2_with (go_at_call 15; (with_reducible refine HCV.out.mono ?_); rintro _ w5 ⟨r5, rfl, hb5, hx5⟩)
                go_ret2
                exact ⟨_, by rw [hy2.out]; rfl, hbw.trans (hb5.mono hbw.size), by rw [hy2.out]; exact hx5⟩
theorem doccover_any (ds : List Int) (cs : List (List Int)) (v u : Value) (w : World) (h : Lst w v ds) (h2 : Mat w u cs) : Calls Try.prog 6 #[v, u] w (DvPost (coverD ds cs) w) := by
  by_cases hx : ∃ d ∈ ds, d < 0
  · exact doccover_neg ds cs v u w hx h h2
  · rw [coverD_nat hx]
    exact doccover_nat _ cs v u w (by rw [zs_of (ints_pos hx)]; exact h) h2
end Go.Proofs.Ytlpoopmjgobnnaa
