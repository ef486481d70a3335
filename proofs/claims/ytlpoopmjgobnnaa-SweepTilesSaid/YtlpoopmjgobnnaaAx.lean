/- Sweep: the boxes of a cover are small; the fixed fact. -/
import Derived.Test.YtlpoopmjgobnnaaAw
set_option linter.unusedSimpArgs false
set_option linter.unusedVariables false
namespace Go.Proofs.Ytlpoopmjgobnnaa
open Go.RowKit

theorem cov_bx {ns : List Nat} (hp : 0 < prodL ns) : ∀ (n i : Nat) (F : List Bool), ∀ b ∈ covL ns n i F, Bx ns b.1 b.2
  | 0, _, _, b, hb => absurd hb List.not_mem_nil
  | n + 1, i, F, b, hb => by
    rw [covL] at hb
    split at hb
    · rcases List.mem_cons.1 hb with rfl | hb
      · exact boxL_bx hp i
      · exact cov_bx hp n _ _ b hb
    · exact cov_bx hp n _ _ b hb
theorem sml_nil : Sml [] [] := fun k => by
  rw [List.getD_eq_getElem?_getD, List.getElem?_nil]
  exact ⟨by decide, by decide⟩
theorem bx_sml {ns lo hi : List Nat} (h : Bx ns lo hi) (hp : 0 < prodL ns) (h4 : prodL ns ≤ 4000) : Sml lo hi := fun k => by
  obtain ⟨e1, e2⟩ := h.lens
  by_cases hk : k < ns.length
  · have h1 := (lts_iff.1 h.1).2 k (by omega)
    have h2 := (les_iff.1 h.2).2 k (by omega)
    have h3 := prod_ge (getD_mem hk) hp
    omega
  · have e3 : lo.getD k 0 = 0 := by rw [List.getD_eq_getElem?_getD, List.getElem?_eq_none (by omega)]; rfl
    have e4 : hi.getD k 0 = 0 := by rw [List.getD_eq_getElem?_getD, List.getElem?_eq_none (by omega)]; rfl
    omega
theorem all_sml {bs : List (List Nat × List Nat)} (h : ∀ b ∈ bs, Sml b.1 b.2) (k : Nat) : Sml (bs.getD k ([], [])).1 (bs.getD k ([], [])).2 := by
  by_cases hk : k < bs.length
  · exact h _ (getD_memP hk)
  · rw [List.getD_eq_getElem?_getD, List.getElem?_eq_none (by omega)]
    exact sml_nil
theorem coverD_sml (ds : List Int) (cs : List (List Int)) : ∀ b ∈ (coverD ds cs).1, Sml b.1 b.2 := by
  intro b hb
  unfold coverD at hb
  split at hb
  · exact absurd hb List.not_mem_nil
  · split at hb
    · exact absurd hb List.not_mem_nil
    · rename_i h1
      split at hb
      · exact absurd hb List.not_mem_nil
      · rcases Nat.eq_zero_or_pos (prodL (ds.map Int.toNat)) with h0 | h0
        · rw [h0] at hb
          exact absurd hb List.not_mem_nil
        · exact bx_sml (cov_bx h0 _ _ _ b hb) h0 (by omega)
theorem lst_bk {w : World} {g n : Nat} {t : TypeId} {cs : List Value} (xs : List Int) (h : Bk w g t cs) (hc : cs = xs.map (Value.int .i64)) (hn : n = xs.length) (hm : xs.length ≤ maxLen) : Lst w (.slice (some ⟨g, 0, none⟩) n n) xs := by
  subst hc hn
  refine ⟨_, _, rfl, hm, fun c hc => ⟨g, 0, rfl, ?_⟩⟩
  rw [Nat.zero_add]
  refine h.cell c ?_
  rw [List.getElem?_map, List.getElem?_eq_getElem hc, List.getD_eq_getElem?_getD, List.getElem?_eq_getElem hc]
  rfl
theorem known_cover : coverD [3, 3] [[0, 0], [0, 1], [1, 0], [1, 1], [2, 2]] = ([([0, 0], [2, 2]), ([2, 2], [3, 3])], 0) := by decide +kernel
set_option maxRecDepth 100000 in
set_option maxHeartbeats 1000000 in
theorem known_any (w : World) : Calls Try.prog 5 #[] w fun e w' => e = .returned (.bool true) ∧ Below w.heap.size w w' := by
  go_enter Try.func5, Try.ntmps5
  go_wp2_with fail
  obtain ⟨B, hB⟩ : ∃ B, B = w.heap.size := ⟨_, rfl⟩
  obtain ⟨W, hW⟩ : ∃ W, W = ((((((w.alloc (.cells #[.int .i64 3, .int .i64 3] 3)).alloc (.cells #[.int .i64 0, .int .i64 0] 3)).alloc (.cells #[.int .i64 0, .int .i64 1] 3)).alloc (.cells #[.int .i64 1, .int .i64 0] 3)).alloc (.cells #[.int .i64 1, .int .i64 1] 3)).alloc (.cells #[.int .i64 2, .int .i64 2] 3)).alloc (.cells #[.slice (some ⟨w.heap.size + 1, 0, none⟩) 2 2, .slice (some ⟨w.heap.size + 1 + 1, 0, none⟩) 2 2, .slice (some ⟨w.heap.size + 1 + 1 + 1, 0, none⟩) 2 2, .slice (some ⟨w.heap.size + 1 + 1 + 1 + 1, 0, none⟩) 2 2, .slice (some ⟨w.heap.size + 1 + 1 + 1 + 1 + 1, 0, none⟩) 2 2] 22) := ⟨_, rfl⟩
  rw [← hW, ← hB]
  rw [← hB] at hW
  have hbel : Below w.heap.size w W := by rw [hW]; (repeat' (first | (with_reducible exact Below.refl _ _) | (with_reducible assumption) | (with_reducible refine Below.drew ?_) | (with_reducible refine below_drewN ?_ _) | ((with_reducible refine Below.alloc ?_ ?_ _); rotate_left; focus (go_size; done)) | ((with_reducible refine Below.setCell ?_ ?_ _); rotate_left; focus (go_size; done)) | ((with_reducible refine Below.trans ?_ (Below.mono (by with_reducible assumption) ?_)); rotate_left; focus (go_size; done))))
  have k0 : Bk W B 3 [.int .i64 3, .int .i64 3] := by rw [hW, hB]; (repeat (first | (with_reducible assumption) | ((with_reducible refine Bk.new_ ?_); (first | rfl | (simp only [World.size_alloc, World.size_setCell, World.size_drew, World.heap_drewN]; done))) | (with_reducible refine Bk.alloc ?_ _) | (with_reducible refine Bk.drew ?_) | (with_reducible refine Bk.drewN ?_ _) | ((with_reducible refine Bk.far ?_ ?_ _); rotate_left; focus (simp only []; omega)) | ((with_reducible refine Bk.below ?_ (by with_reducible assumption) ?_); rotate_left; focus (go_size; done))))
  have k1 : Bk W (B + 1) 3 [.int .i64 0, .int .i64 0] := by rw [hW, hB]; (repeat (first | (with_reducible assumption) | ((with_reducible refine Bk.new_ ?_); (first | rfl | (simp only [World.size_alloc, World.size_setCell, World.size_drew, World.heap_drewN]; done))) | (with_reducible refine Bk.alloc ?_ _) | (with_reducible refine Bk.drew ?_) | (with_reducible refine Bk.drewN ?_ _) | ((with_reducible refine Bk.far ?_ ?_ _); rotate_left; focus (simp only []; omega)) | ((with_reducible refine Bk.below ?_ (by with_reducible assumption) ?_); rotate_left; focus (go_size; done))))
  have k2 : Bk W (B + 1 + 1) 3 [.int .i64 0, .int .i64 1] := by rw [hW, hB]; (repeat (first | (with_reducible assumption) | ((with_reducible refine Bk.new_ ?_); (first | rfl | (simp only [World.size_alloc, World.size_setCell, World.size_drew, World.heap_drewN]; done))) | (with_reducible refine Bk.alloc ?_ _) | (with_reducible refine Bk.drew ?_) | (with_reducible refine Bk.drewN ?_ _) | ((with_reducible refine Bk.far ?_ ?_ _); rotate_left; focus (simp only []; omega)) | ((with_reducible refine Bk.below ?_ (by with_reducible assumption) ?_); rotate_left; focus (go_size; done))))
  have k3 : Bk W (B + 1 + 1 + 1) 3 [.int .i64 1, .int .i64 0] := by rw [hW, hB]; (repeat (first | (with_reducible assumption) | ((with_reducible refine Bk.new_ ?_); (first | rfl | (simp only [World.size_alloc, World.size_setCell, World.size_drew, World.heap_drewN]; done))) | (with_reducible refine Bk.alloc ?_ _) | (with_reducible refine Bk.drew ?_) | (with_reducible refine Bk.drewN ?_ _) | ((with_reducible refine Bk.far ?_ ?_ _); rotate_left; focus (simp only []; omega)) | ((with_reducible refine Bk.below ?_ (by with_reducible assumption) ?_); rotate_left; focus (go_size; done))))
  have k4 : Bk W (B + 1 + 1 + 1 + 1) 3 [.int .i64 1, .int .i64 1] := by rw [hW, hB]; (repeat (first | (with_reducible assumption) | ((with_reducible refine Bk.new_ ?_); (first | rfl | (simp only [World.size_alloc, World.size_setCell, World.size_drew, World.heap_drewN]; done))) | (with_reducible refine Bk.alloc ?_ _) | (with_reducible refine Bk.drew ?_) | (with_reducible refine Bk.drewN ?_ _) | ((with_reducible refine Bk.far ?_ ?_ _); rotate_left; focus (simp only []; omega)) | ((with_reducible refine Bk.below ?_ (by with_reducible assumption) ?_); rotate_left; focus (go_size; done))))
  have k5 : Bk W (B + 1 + 1 + 1 + 1 + 1) 3 [.int .i64 2, .int .i64 2] := by rw [hW, hB]; (repeat (first | (with_reducible assumption) | ((with_reducible refine Bk.new_ ?_); (first | rfl | (simp only [World.size_alloc, World.size_setCell, World.size_drew, World.heap_drewN]; done))) | (with_reducible refine Bk.alloc ?_ _) | (with_reducible refine Bk.drew ?_) | (with_reducible refine Bk.drewN ?_ _) | ((with_reducible refine Bk.far ?_ ?_ _); rotate_left; focus (simp only []; omega)) | ((with_reducible refine Bk.below ?_ (by with_reducible assumption) ?_); rotate_left; focus (go_size; done))))
  have k6 : Bk W (B + 1 + 1 + 1 + 1 + 1 + 1) 22 [.slice (some ⟨B + 1, 0, none⟩) 2 2, .slice (some ⟨B + 1 + 1, 0, none⟩) 2 2, .slice (some ⟨B + 1 + 1 + 1, 0, none⟩) 2 2, .slice (some ⟨B + 1 + 1 + 1 + 1, 0, none⟩) 2 2, .slice (some ⟨B + 1 + 1 + 1 + 1 + 1, 0, none⟩) 2 2] := by rw [hW, hB]; (repeat (first | (with_reducible assumption) | ((with_reducible refine Bk.new_ ?_); (first | rfl | (simp only [World.size_alloc, World.size_setCell, World.size_drew, World.heap_drewN]; done))) | (with_reducible refine Bk.alloc ?_ _) | (with_reducible refine Bk.drew ?_) | (with_reducible refine Bk.drewN ?_ _) | ((with_reducible refine Bk.far ?_ ?_ _); rotate_left; focus (simp only []; omega)) | ((with_reducible refine Bk.below ?_ (by with_reducible assumption) ?_); rotate_left; focus (go_size; done))))
  have l0 := lst_bk [3, 3] k0 rfl rfl (by decide)
  have l6 : Mat W (.slice (some ⟨B + 1 + 1 + 1 + 1 + 1 + 1, 0, none⟩) 5 5) [[0, 0], [0, 1], [1, 0], [1, 1], [2, 2]] := by
    refine ⟨_, _, rfl, by decide, fun r hr => ?_⟩
    match r, hr with
    | 0, _ => exact ⟨_, 0, _, rfl, k6.cell 0 rfl, lst_bk [0, 0] k1 rfl rfl (by decide)⟩
    | 1, _ => exact ⟨_, 0, _, rfl, k6.cell 1 rfl, lst_bk [0, 1] k2 rfl rfl (by decide)⟩
    | 2, _ => exact ⟨_, 0, _, rfl, k6.cell 2 rfl, lst_bk [1, 0] k3 rfl rfl (by decide)⟩
    | 3, _ => exact ⟨_, 0, _, rfl, k6.cell 3 rfl, lst_bk [1, 1] k4 rfl rfl (by decide)⟩
    | 4, _ => exact ⟨_, 0, _, rfl, k6.cell 4 rfl, lst_bk [2, 2] k5 rfl rfl (by decide)⟩
  have hc := pcover_any _ _ _ _ W l0 l6
  rw [known_cover] at hc
  have HC := Lib.hid hc
  have HBW := Lib.hid hbel
  unfold DvPost at HC
  clear hc l0 l6 k0 k1 k2 k3 k4 k5 k6 hbel hW
  refine HC.out.mono ?_
  rintro _ w2 ⟨r, rfl, hb2, hx⟩
  have HX := Lib.hid hx
  have HB2 := Lib.hid (HBW.out.trans (hb2.mono HBW.out.size))
  clear hx hb2
  have HA : Hid (∀ W, Calls Try.prog 12 #[.int .i64 0, .int .i64 2] W fun e w' => e = .returned (cx 0 2) ∧ W = w') := Lib.hid (fun W => of_any 0 2 (by omega) (by omega) W)
  have HD : Hid (∀ W, Calls Try.prog 12 #[.int .i64 2, .int .i64 3] W fun e w' => e = .returned (cx 2 3) ∧ W = w') := Lib.hid (fun W => of_any 2 3 (by omega) (by omega) W)
  go_wp2_with (go_at_call 12; (first | (with_reducible refine (HA.out _).mono ?_) | (with_reducible refine (HD.out _).mono ?_)); rintro _ _ ⟨rfl, rfl⟩)
  obtain ⟨G, hG⟩ : ∃ G, G = w2.heap.size := ⟨_, rfl⟩
  obtain ⟨W3, hW3⟩ : ∃ W, W = ((w2.alloc (.cells #[cx 0 2, cx 0 2] 37)).alloc (.cells #[cx 2 3, cx 2 3] 37)).alloc (.cells #[.slice (some ⟨w2.heap.size, 0, none⟩) 2 2, .slice (some ⟨w2.heap.size + 1, 0, none⟩) 2 2] 33) := ⟨_, rfl⟩
  rw [← hW3, ← hG]
  rw [← hG] at hW3
  have hb3 : Below w2.heap.size w2 W3 := by rw [hW3]; (repeat' (first | (with_reducible exact Below.refl _ _) | (with_reducible assumption) | (with_reducible refine Below.drew ?_) | (with_reducible refine below_drewN ?_ _) | ((with_reducible refine Below.alloc ?_ ?_ _); rotate_left; focus (go_size; done)) | ((with_reducible refine Below.setCell ?_ ?_ _); rotate_left; focus (go_size; done)) | ((with_reducible refine Below.trans ?_ (Below.mono (by with_reducible assumption) ?_)); rotate_left; focus (go_size; done))))
  have j0 : Bk W3 G 37 (cxs [0, 0] [2, 2] 2) := by
    show Bk W3 G 37 [cx 0 2, cx 0 2]
    rw [hW3, hG]; (repeat (first | (with_reducible assumption) | ((with_reducible refine Bk.new_ ?_); (first | rfl | (simp only [World.size_alloc, World.size_setCell, World.size_drew, World.heap_drewN]; done))) | (with_reducible refine Bk.alloc ?_ _) | (with_reducible refine Bk.drew ?_) | (with_reducible refine Bk.drewN ?_ _) | ((with_reducible refine Bk.far ?_ ?_ _); rotate_left; focus (simp only []; omega)) | ((with_reducible refine Bk.below ?_ (by with_reducible assumption) ?_); rotate_left; focus (go_size; done))))
  have j1 : Bk W3 (G + 1) 37 (cxs [2, 2] [3, 3] 2) := by
    show Bk W3 (G + 1) 37 [cx 2 3, cx 2 3]
    rw [hW3, hG]; (repeat (first | (with_reducible assumption) | ((with_reducible refine Bk.new_ ?_); (first | rfl | (simp only [World.size_alloc, World.size_setCell, World.size_drew, World.heap_drewN]; done))) | (with_reducible refine Bk.alloc ?_ _) | (with_reducible refine Bk.drew ?_) | (with_reducible refine Bk.drewN ?_ _) | ((with_reducible refine Bk.far ?_ ?_ _); rotate_left; focus (simp only []; omega)) | ((with_reducible refine Bk.below ?_ (by with_reducible assumption) ?_); rotate_left; focus (go_size; done))))
  have j2 : Bk W3 (G + 1 + 1) 33 [.slice (some ⟨G, 0, none⟩) 2 2, .slice (some ⟨G + 1, 0, none⟩) 2 2] := by rw [hW3, hG]; (repeat (first | (with_reducible assumption) | ((with_reducible refine Bk.new_ ?_); (first | rfl | (simp only [World.size_alloc, World.size_setCell, World.size_drew, World.heap_drewN]; done))) | (with_reducible refine Bk.alloc ?_ _) | (with_reducible refine Bk.drew ?_) | (with_reducible refine Bk.drewN ?_ _) | ((with_reducible refine Bk.far ?_ ?_ _); rotate_left; focus (simp only []; omega)) | ((with_reducible refine Bk.below ?_ (by with_reducible assumption) ?_); rotate_left; focus (go_size; done))))
  have x2 : Bxs W3 (.slice (some ⟨G + 1 + 1, 0, none⟩) 2 2) [([0, 0], [2, 2]), ([2, 2], [3, 3])] := by
    refine ⟨_, _, rfl, by decide, fun k hk => ?_⟩
    match k, hk with
    | 0, _ => exact ⟨_, 0, _, rfl, j2.cell 0 rfl, bk_cxs j0 rfl (by decide)⟩
    | 1, _ => exact ⟨_, 0, _, rfl, j2.cell 1 rfl, bk_cxs j1 rfl (by decide)⟩
  have hsm : ∀ b ∈ [(([0, 0], [2, 2]) : List Nat × List Nat), ([2, 2], [3, 3])], Sml b.1 b.2 := by
    have := coverD_sml [3, 3] [[0, 0], [0, 1], [1, 0], [1, 1], [2, 2]]
    rw [known_cover] at this
    exact this
  have HSB := Lib.hid (sameboxes_any _ r _ W3 (all_sml hsm) (HX.out.below hb3) x2)
  have HB3 := Lib.hid (HB2.out.trans (hb3.mono HB2.out.size))
  clear hb3 j0 j1 j2 x2 hsm hW3
  refine HSB.out.mono ?_
  rintro _ w4 ⟨rfl, hb4⟩
  have HB4 := Lib.hid (HB3.out.trans (hb4.mono HB3.out.size))
  clear hb4
  go_wp2_with fail
  go_ret
  exact ⟨ret_bool (by simp), HB4.out⟩
set_option maxHeartbeats 1000000 in
theorem walk_SweepCovers (ds : List Int) (cs : List (List Int)) (v u : Value) (w : World) (h : Lst w v ds) (h2 : Mat w u cs) :
    Calls Try.prog 3 #[v, u] w fun e w' => e = .returned (.bool true) ∧ Below w.heap.size w w' := by
  have HN := Lib.hid h
  have HM := Lib.hid h2
  have HS := Lib.hid (all_sml (coverD_sml ds cs))
  obtain ⟨Y, hY⟩ : ∃ Y, Y = coverD ds cs := ⟨_, rfl⟩
  have HY := Lib.hid hY
  rw [← hY] at HS
  clear h h2 hY
  go_enter Try.func3, Try.ntmps3
  go_wp2_with ((go_at_call 5; with_reducible refine (known_any _).mono ?_); rintro _ w1 ⟨rfl, hb1⟩; have hb1s := hb1.size; (try simp only [World.size_alloc, World.size_setCell, World.size_drew, World.heap_drewN] at hb1s); obtain ⟨hb1c, hb1f⟩ := bcell hb1; (try have : w.heap.size < w1.heap.size := by omega); (try have : w.heap.size + 1 < w1.heap.size := by omega); (try have : w.heap.size + 1 + 1 < w1.heap.size := by omega); (try have : w.heap.size + 1 + 1 + 1 < w1.heap.size := by omega))
  have HB1 := Lib.hid hb1
  clear hb1 hb1c hb1f
  have HDC := Lib.hid (doccover_any ds cs v u w1 (HN.out.below HB1.out) (HM.out.below HB1.out))
  unfold DvPost at HDC
  rw [← HY.out] at HDC
  refine HDC.out.mono ?_
  rintro _ w2 ⟨r2, rfl, hb2, hx2⟩
  have HB2 := Lib.hid (HB1.out.trans (hb2.mono HB1.out.size))
  have HX2 := Lib.hid hx2
  clear hb2 hx2
  go_wp2_with fail
  have HPC := Lib.hid (pcover_any ds cs v u w2 (HN.out.below HB2.out) (HM.out.below HB2.out))
  unfold DvPost at HPC
  rw [← HY.out] at HPC
  refine HPC.out.mono ?_
  rintro _ w3 ⟨r3, rfl, hb3, hx3⟩
  have HB3 := Lib.hid (HB2.out.trans (hb3.mono HB2.out.size))
  have HSB := Lib.hid (sameboxes_any _ r2 r3 w3 HS.out (HX2.out.below hb3) hx3)
  clear hb3 hx3
  go_wp2_with fail
  refine HSB.out.mono ?_
  rintro _ w4 ⟨rfl, hb4⟩
  have HB4 := Lib.hid (HB3.out.trans (hb4.mono HB3.out.size))
  clear hb4
  go_wp2_with fail
  go_ret
  exact ⟨ret_bool (by simp), HB4.out⟩
end Go.Proofs.Ytlpoopmjgobnnaa
