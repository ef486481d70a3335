/- Sweep: the document's First: the walk. -/
import Derived.Test.YtlpoopmjgobnnaaAk
import Derived.Deep.RegionHeld3
set_option linter.unusedSimpArgs false
set_option linter.unusedVariables false
namespace Go.Proofs.Ytlpoopmjgobnnaa
open Go.RowKit

theorem info_cx : (Try.prog.info? 37).map (fun i => (i.zero, i.size, i.bytes)) = some (some (.complex .f64 0 0), 1, 16) := by kernel_rfl
theorem lst_news {w : World} {A : Option Addr} {n C : Nat} {l : List Nat} (h : Lst w (.slice A n C) (zs l)) (hn : l.length = n) : 0 < n → ∃ ad, A = some ad ∧ ∀ j u, (ints l)[j]? = some u → w.cell? (ad.add j) = some u := fun hpos => by
  obtain ⟨b, o, rfl, -⟩ := h.at (c := 0) (by rw [zs_len]; omega)
  refine ⟨_, rfl, fun j u hj => ?_⟩
  have hl : j < l.length := by
    rcases Nat.lt_or_ge j l.length with h' | h'
    · exact h'
    · rw [List.getElem?_eq_none (by rw [ints_len]; exact h')] at hj; cases hj
  obtain ⟨b', o', e, hat⟩ := h.at (c := j) (by rw [zs_len]; exact hl)
  injection e with e
  injection e with e1 e2
  subst e1 e2
  rw [ints_get hl] at hj
  have hadd : (⟨b, o, none⟩ : Addr).add j = ⟨b, o + j, none⟩ := by unfold Addr.add; split <;> simp_all
  rw [hadd, hat, zs_get]
  exact hj
theorem ints_cells (l : List Nat) : ∀ u ∈ ints l, u.oneCell' = true := fun u hu => by
  obtain ⟨i, _, rfl⟩ := List.mem_map.1 hu
  rfl
theorem ro_lst {w : World} {o : Nat → Nat} {L n : Nat} {t : TypeId} {v : Value} {l : List Nat} (h : Ro w o L t 1 v n (ints l)) (hn : l.length = n) : Lst w v (zs l) := by
  subst hn
  obtain ⟨A, C, rfl, hm⟩ := h.sl.is
  refine ⟨A, C, by rw [zs_len], by rw [zs_len]; exact hm, fun k hk => ?_⟩
  rw [zs_len] at hk
  obtain ⟨b, o, e, hc⟩ := h.sl.at (j := k) (by rw [Nat.mul_one]; exact hk)
  exact ⟨b, o, e, by rw [hc, ints_get hk, zs_get]⟩
theorem bk_take {w : World} {g n C : Nat} {t : TypeId} {cur : List Value} {l : List Nat} (h : Bk w g t cur) (hc : cur.take n = ints l) (hn : l.length = n) (hm : n ≤ maxLen) : Lst w (.slice (some ⟨g, 0, none⟩) n C) (zs l) := by
  subst hn
  refine ⟨_, C, by rw [zs_len], by rw [zs_len]; exact hm, fun k hk => ⟨g, 0, rfl, ?_⟩⟩
  rw [zs_len] at hk
  rw [Nat.zero_add, zs_get]
  refine h.cell k ?_
  rw [← List.getElem?_take_of_lt hk, hc, ints_get hk]
theorem cur_cell {cur : List Value} {n k : Nat} {l : List Nat} (hc : cur.take n = ints l) (hn : l.length = n) (hk : k < n) : cur[k]? = some (.int .i64 (l.getD k 0 : Nat)) := by
  rw [← List.getElem?_take_of_lt hk, hc, ints_get (by omega)]
theorem cur_set {cur : List Value} {n k x : Nat} {l : List Nat} (hc : cur.take n = ints l) : (cur.set k (.int .i64 (x : Int))).take n = ints (l.set k x) := by
  rw [List.take_set, hc, ints_set]
/-- spans as cells -/
def cxs (lo hi : List Nat) (t : Nat) : List Value := (List.range t).map fun k => cx (lo.getD k 0) (hi.getD k 0)
theorem cxs_succ (lo hi : List Nat) (t : Nat) : cxs lo hi (t + 1) = cxs lo hi t ++ [cx (lo.getD t 0) (hi.getD t 0)] := by
  unfold cxs
  rw [List.range_succ, List.map_append]
  rfl
theorem ro_cxs {w : World} {o : Nat → Nat} {L n : Nat} {t : TypeId} {v : Value} {lo hi : List Nat} (h : Ro w o L t 1 v n (cxs lo hi n)) (hn : lo.length = n) : Cxs w v lo hi := by
  subst hn
  obtain ⟨A, C, rfl, hm⟩ := h.sl.is
  refine ⟨A, C, rfl, hm, fun k hk => ?_⟩
  obtain ⟨b, o, e, hc⟩ := h.sl.at (j := k) (by rw [Nat.mul_one]; exact hk)
  refine ⟨b, o, e, hc.trans ?_⟩
  unfold cxs
  rw [List.getElem?_map, List.getElem?_range hk]
  rfl
theorem news_cx (w : World) (t : TypeId) (u : Value) : ∀ (j : Nat) (x : Value), [u][j]? = some x → (w.alloc (.cells #[u] t)).cell? ((⟨w.heap.size, 0, none⟩ : Addr).add j) = some x := fun j x hj => by
  rw [add_nought]
  exact (Bk.new w t [u]).cell j hj
def FirstPost (F : List Bool) (ns : List Nat) (w : World) (e : Ending) (w' : World) : Prop := Below w.heap.size w w' ∧
  ((∃ i, i < F.length ∧ F.getD i false = true ∧ (∀ j, j < i → F.getD j false = false) ∧ ∃ r1 r2, e = .returned (.tuple #[r1, r2]) ∧ Ro w' (ob w.heap.size) 1 37 1 r1 ns.length (cxs (boxL F ns i).1 (boxL F ns i).2 ns.length) ∧ Row w' (ob w.heap.size) 1 r2 (zs (witL ns (boxL F ns i).1 (boxL F ns i).2 [0]))) ∨
   ((∀ j, F.getD j false = false) ∧ e = .returned (.tuple #[.slice none 0 0, .slice none 0 0])))
/-- the ends, the first t laid -/
def upB (lo : List Nat) (t : Nat) : List Nat := (lo.take t).map (· + 1) ++ List.replicate (lo.length - t) 0
theorem upB_len (lo : List Nat) (t : Nat) (h : t ≤ lo.length) : (upB lo t).length = lo.length := by
  unfold upB
  rw [List.length_append, List.length_map, List.length_take, List.length_replicate]
  omega
theorem upB_set {lo : List Nat} {t : Nat} (h : t < lo.length) : (upB lo t).set t (lo.getD t 0 + 1) = upB lo (t + 1) := by
  unfold upB
  have e : lo.length - t = (lo.length - (t + 1)) + 1 := by omega
  rw [e, List.replicate_succ, List.set_append_right _ _ (by rw [List.length_map, List.length_take]; omega), List.length_map, List.length_take, Nat.min_eq_left (by omega), Nat.sub_self, List.set_cons_zero, take_getB h 0, List.map_append, List.append_assoc]
  rfl
theorem upB_all (lo : List Nat) : upB lo lo.length = lo.map (· + 1) := by
  unfold upB
  rw [List.take_length, Nat.sub_self, List.replicate_zero, List.append_nil]
theorem Bx.slab {ns lo hi : List Nat} (h : Bx ns lo hi) {k : Nat} (hk : hi.getD k 0 < ns.getD k 0) : Bx ns (lo.set k (hi.getD k 0)) (hi.set k (hi.getD k 0 + 1)) := by
  refine ⟨lts_iff.2 ⟨by rw [List.length_set, List.length_set]; exact h.lens.1, fun j hj => ?_⟩, (h.up hk).2⟩
  rw [List.length_set] at hj
  have h1 := (lts_iff.1 h.1).2 j hj
  have hl := h.lens.1
  rw [getD_set, getD_set]
  by_cases e : j = k
  · subst e
    rw [if_pos ⟨rfl, hj⟩, if_pos ⟨rfl, by omega⟩]
    omega
  · rw [if_neg (fun h => e h.1), if_neg (fun h => e h.1)]
    exact h1
set_option maxRecDepth 100000 in
set_option maxHeartbeats 3000000 in
theorem first_any (ns : List Nat) (F : List Bool) (v u : Value) (w : World) (h4 : prodL ns ≤ 4000) (hF : F.length = prodL ns) (hn : ns.length ≤ 1000) (h : Lst w v (zs ns)) (h2 : Bls w u F) : Calls Try.prog 24 #[v, u] w (FirstPost F ns w) := by
  have HN := Lib.hid h
  have HF := Lib.hid h2
  have H4 := Lib.hid (And.intro h4 hF)
  obtain ⟨A, C, rfl, ha, _⟩ := h
  obtain ⟨A1, C1, rfl, ha1, _⟩ := h2
  rw [zs_len] at ha HN ⊢
  have hfl : F.length ≤ 4000 := by omega
  unfold FirstPost
  clear h4 hF
  go_enter Try.func24, Try.ntmps24
  go_wp2_with fail
  go_loopg [6] F.length (fun k i wr => ∃ t : Nat, k + t = F.length ∧ i = .int .i64 t ∧ Hid (∀ j, j < t → F.getD j false = false) ∧ w = wr)
  case atStart => exact ⟨0, by omega, rfl, Lib.hid (fun j hj => absurd hj (Nat.not_lt_zero _)), rfl⟩
  case round =>
    obtain ⟨t, hk, rfl, HZ, rfl⟩ := hrel
    have HK := Lib.hid hk
    have htn : t ≤ F.length := by omega
    clear hk
    by_cases hlt : t < F.length
    · obtain ⟨b1, p1, rfl, a1⟩ := HF.out.at hlt
      cases hFt : F.getD t false with
      | false =>
        rw [hFt] at a1
        have HZ2 : Hid (∀ j, j < t + 1 → F.getD j false = false) := Lib.hid (fun j hj => by
          by_cases e : j = t
          · subst e; exact hFt
          · exact HZ.out j (by omega))
        go_wp2_with fail
        go_roundg (gk - 1)
        case measure => have := HK.out; omega
        case rel => exact ⟨t + 1, by have := HK.out; omega, by go_num, HZ2, rfl⟩
      | true =>
        rw [hFt] at a1
        have HFT := Lib.hid hFt
        have hpp : 0 < prodL ns := by have := H4.out.2; omega
        have HCL := Lib.hid (rcell_any ns t (.slice A ns.length C) w (prod_pos_iff.1 hpp) hn (by omega) HN.out)
        unfold CellPost at HCL
        have HPP := Lib.hid hpp
        clear hFt hpp
        go_upto_region 7 with (go_at_call 30; (with_reducible refine HCL.out.mono ?_); rintro _ w1 ⟨g1, rfl, hg1, hk1, hb1⟩)
        have hlt0 := hlt
        have HK1 := Lib.hid hk1
        have HB1 := Lib.hid hb1
        have hlo := dg_len ns t
        obtain ⟨lo, hld⟩ : ∃ lo, lo = dgL ns t := ⟨_, rfl⟩
        have HLD := Lib.hid hld
        rw [← hld] at HK1 hlo
        have HLO := Lib.hid hlo
        clear hk1 hb1 hg1 hld
        have hm1 : ns.length ≤ maxLen := by unfold maxLen; omega
        go_upto_region 8 with (at_make; refine wpList_makeM rfl _ _ 22 3 rfl (.int .i64 0) rfl 8 Try.underlying22 info_int1 (ob w1.heap.size) 1 ns.length rfl rfl (by omega) hm1 ?_; intro w2 lw t2)
        rw [ob_re (Nat.le_refl _)] at lw t2
        have hB2 : Below w1.heap.size w1 w2 := ob_below (w0 := w1) (t2.mono (fun l hl => hl.elim)) (Below.refl _ _)
        obtain ⟨g2, hgd⟩ : ∃ g, g = w1.heap.size := ⟨_, rfl⟩
        have HB2 : Hid (Below g2 w1 w2) := Lib.hid (by rw [hgd]; exact hB2)
        have HG2 : Hid (g1 < g2 ∧ w.heap.size ≤ g2) := Lib.hid ⟨by rw [hgd]; exact HK1.out.lt, by rw [hgd]; exact HB1.out.size⟩
        have HK2 : Hid (Bk w2 g2 3 (ints (upB lo 0))) := Lib.hid (by
          have e : ints (upB lo 0) = List.replicate ns.length (.int .i64 0) := by
            unfold upB ints
            rw [List.take_zero, List.map_nil, List.nil_append, List.map_replicate, Nat.sub_zero, hlo]
            rfl
          rw [e, hgd]; exact lw.1)
        rw [← hgd]
        clear lw t2 hB2 hgd
        go_wp2_with fail
        go_loopg [9] ns.length (fun k i wr => ∃ t : Nat, k + t = ns.length ∧ i = .int .i64 t ∧ Hid (Bk wr g2 3 (ints (upB lo t))) ∧ Hid (Below g2 w1 wr))
        case atStart => exact ⟨0, by omega, rfl, HK2, HB2⟩
        case round =>
          obtain ⟨m, hk, rfl, HKm, HBm⟩ := hrel
          have HKK := Lib.hid hk
          have hmn : m ≤ ns.length := by omega
          clear hk HK2 HB2
          by_cases hlt : m < ns.length
          · have hml : m < lo.length := by rw [HLO.out]; exact hlt
            have a1 := (HK1.out.below HBm.out HG2.out.1).cell m (ints_get hml)
            have fz := HKm.out.frozen m
            have cz := HKm.out.cell m (ints_get (by rw [upB_len lo m (by omega)]; exact hml))
            have HUS := Lib.hid (upB_set hml)
            have hbd : lo.getD m 0 ≤ 4000 := by
              have h5 := dg_lt (ns := ns) t (prod_pos_iff.1 HPP.out)
              rw [← HLD.out] at h5
              have h6 := (lts_iff.1 h5).2 m hml
              have h7 := prod_ge (getD_mem hlt) HPP.out
              have := H4.out.1
              omega
            obtain ⟨x, hx⟩ : ∃ x, x = lo.getD m 0 := ⟨_, rfl⟩
            rw [← hx] at a1 HUS hbd
            have hnew : Bk (wr.setCell ⟨g2, m, none⟩ (.int .i64 ((x : Int) + 1))) g2 3 (ints (upB lo (m + 1))) := by
              have h1 := HKm.out.set_ m (.int .i64 ((x : Int) + 1))
              rw [show (x : Int) + 1 = ((x + 1 : Nat) : Int) by omega] at h1 ⊢
              rw [ints_set, HUS.out] at h1
              exact h1
            have HNEW := Lib.hid hnew
            clear hx hnew
            go_wp2_with fail
            go_roundg (gk - 1)
            case measure => have := HKK.out; omega
            case rel => exact ⟨m + 1, by have := HKK.out; omega, by go_num, HNEW, Lib.hid (HBm.out.setCell (p := ⟨g2, m, none⟩) (Nat.le_refl g2) _)⟩
          · have hte : m = ns.length := by omega
            subst hte
            have hHI := HKm.out
            rw [← HLO.out, upB_all] at hHI
            have HHI := Lib.hid hHI
            clear hHI HKm
            obtain ⟨w3, hw3⟩ : ∃ x, x = wr := ⟨_, rfl⟩
            subst hw3
            have hbx0 : Bx ns lo (lo.map (· + 1)) := by rw [HLD.out]; exact lts_succ (dg_lt t (prod_pos_iff.1 HPP.out))
            have HBX0 := Lib.hid hbx0
            obtain ⟨hiF, hhF⟩ : ∃ h, h = grA F ns lo ns.length (lo.map (· + 1)) := ⟨_, rfl⟩
            have HHF := Lib.hid hhF
            clear hbx0 hhF
            go_wp2_with fail
            go_loopg [10] ns.length (fun k i wr => ∃ (m : Nat) (hi : List Nat), k = m ∧ m ≤ ns.length ∧ i = .int .i64 ((m : Int) - 1) ∧ Hid (Bx ns lo hi) ∧ Hid (grA F ns lo m hi = hiF) ∧ Hid (Bk wr g2 3 (ints hi)) ∧ Hid (Below g2 w1 wr))
            case atStart => exact ⟨ns.length, _, rfl, Nat.le_refl _, rfl, HBX0, Lib.hid HHF.out.symm, HHI, HBm⟩
            case round =>
              obtain ⟨m, hi, hk, hmn, rfl, HBX, HGR, HKm, HBr⟩ := hrel
              have HKK := Lib.hid hk
              clear hk HHI HBm HBX0
              cases m with
              | zero =>
                have hiE : hi = hiF := HGR.out
                have hbox : boxL F ns t = (lo, hi) := by
                  unfold boxL
                  rw [← HLD.out, ← HHF.out, hiE]
                have HBOX := Lib.hid hbox
                have hsm : ∀ r, r < ns.length → lo.getD r 0 < 100000 ∧ hi.getD r 0 < 100000 := fun r hr => by
                  have h1 := (lts_iff.1 HBX.out.1).2 r (by rw [HLO.out]; exact hr)
                  have h2 := (les_iff.1 HBX.out.2).2 r (by rw [HBX.out.lens.2]; exact hr)
                  have h3 := prod_ge (getD_mem hr) HPP.out
                  have := H4.out.1
                  omega
                have HSM := Lib.hid hsm
                obtain ⟨w4, hw4⟩ : ∃ x, x = wr := ⟨_, rfl⟩
                subst hw4
                have HG4 : Hid (g1 < w4.heap.size ∧ g2 < w4.heap.size) := Lib.hid ⟨by have := HG2.out.1; have := HKm.out.lt; omega, HKm.out.lt⟩
                have HK14 := Lib.hid (HK1.out.below HBr.out HG2.out.1)
                clear hiE hbox hsm
                go_wp2_with fail
                go_loopg [13, 14] ns.length (fun k bx i wr => ∃ r : Nat, k + r = ns.length ∧ i = .int .i64 r ∧ Hid (Ro wr (ob w4.heap.size) 1 37 1 bx r (cxs lo hi r)) ∧ Hid (Below w4.heap.size w4 wr))
                case atStart => exact ⟨0, by omega, rfl, Lib.hid (ob_nil w4 _ 1 w4.heap.size (Nat.le_refl _)), Lib.hid ((Below.refl _ _).alloc (Nat.le_refl _) _)⟩
                case round =>
                  obtain ⟨r, hk, rfl, HRO, HBR⟩ := hrel
                  have HKR := Lib.hid hk
                  have hrn : r ≤ ns.length := by omega
                  clear hk
                  obtain ⟨A3, C3, rfl, -⟩ := HRO.out.sl.is
                  by_cases hltr : r < ns.length
                  · have hkl := HK14.out.below HBR.out HG4.out.1
                    have hkh := HKm.out.below HBR.out HG4.out.2
                    have cl := hkl.cell r (ints_get (by rw [HLO.out]; exact hltr))
                    have ch := hkh.cell r (ints_get (by rw [HBX.out.lens.2]; exact hltr))
                    obtain ⟨s1, s2⟩ := HSM.out r hltr
                    have hcs := cxs_succ lo hi r
                    obtain ⟨x, hx⟩ : ∃ x, x = lo.getD r 0 := ⟨_, rfl⟩
                    obtain ⟨y, hy⟩ : ∃ y, y = hi.getD r 0 := ⟨_, rfl⟩
                    rw [← hx] at cl s1 hcs
                    rw [← hy] at ch s2 hcs
                    have HOF := Lib.hid (of_any x y s1 s2)
                    have HCS := Lib.hid hcs
                    clear hx hy hcs hkl hkh
                    go_wp2_with fail
                    refine wp_region_held_drew (S := fun w' => w'.cell? ⟨g1, r, none⟩ = some (.int .i64 (x : Int)) ∧ w'.cell? ⟨g2, r, none⟩ = some (.int .i64 (y : Int))) (by kernel_rfl) ⟨cl, ch⟩ (fun hHeld => ?_)
                    have HCLH := Lib.hid (And.intro (show wr.drew.cell? ⟨g1, r, none⟩ = some (.int .i64 (x : Int)) from cl) (show wr.drew.cell? ⟨g2, r, none⟩ = some (.int .i64 (y : Int)) from ch))
                    clear cl ch
                    refine wpAnyH_take (i := 0) (v := ?_) rfl (by kernel_rfl) (by kernel_rfl) (by kernel_rfl) (fun _ _ _ h => h) (Or.inl ⟨by rfl, ?_⟩) (by assumption) ?_
                    rotate_left
                    (focus (intro w hSw; (try dsimp only at hSw); go_simp; (try with_reducible rfl)))
                    (try simp only [Act.put, List.getElem_toArray, List.getElem_cons_zero, List.getElem_cons_succ, List.setIfInBounds_toArray, List.set_cons_zero, List.set_cons_succ])
                    refine wpAnyH_take (i := 1) (v := ?_) rfl (by kernel_rfl) (by kernel_rfl) (by kernel_rfl) (fun _ _ _ h => h) (Or.inl ⟨by rfl, ?_⟩) (by assumption) ?_
                    rotate_left
                    (focus (intro w hSw; (try dsimp only at hSw); go_simp; (try with_reducible rfl)))
                    (try simp only [Act.put, List.getElem_toArray, List.getElem_cons_zero, List.getElem_cons_succ, List.setIfInBounds_toArray, List.set_cons_zero, List.set_cons_succ])
                    refine wpAnyH_take (i := 2) (v := ?_) rfl (by kernel_rfl) (by kernel_rfl) (by kernel_rfl) (fun _ _ _ h => h) (Or.inl ⟨by rfl, ?_⟩) (by assumption) ?_
                    rotate_left
                    (focus (intro w hSw; (try dsimp only at hSw); go_simp; (try with_reducible rfl)))
                    (try simp only [Act.put, List.getElem_toArray, List.getElem_cons_zero, List.getElem_cons_succ, List.setIfInBounds_toArray, List.set_cons_zero, List.set_cons_succ])
                    refine wpAnyH_take (i := 3) (v := ?_) rfl (by kernel_rfl) (by kernel_rfl) (by kernel_rfl) (fun _ _ _ h => h) (Or.inl ⟨by rfl, ?_⟩) (by assumption) ?_
                    rotate_left
                    (focus (intro w hSw; (try dsimp only at hSw); go_simp; (try with_reducible rfl)))
                    (try simp only [Act.put, List.getElem_toArray, List.getElem_cons_zero, List.getElem_cons_succ, List.setIfInBounds_toArray, List.set_cons_zero, List.set_cons_succ])
                    refine wpAnyH_take (i := 4) (v := ?_) rfl (by kernel_rfl) (by kernel_rfl) (by kernel_rfl) (fun _ _ _ h => h) (Or.inl ⟨by rfl, ?_⟩) (by assumption) ?_
                    rotate_left
                    (focus (intro w hSw; (try dsimp only at hSw); go_simp; (try with_reducible rfl)))
                    (try simp only [Act.put, List.getElem_toArray, List.getElem_cons_zero, List.getElem_cons_succ, List.setIfInBounds_toArray, List.set_cons_zero, List.set_cons_succ])
                    refine wpAnyH_take (i := 5) (v := ?_) rfl (by kernel_rfl) (by kernel_rfl) (by kernel_rfl) (fun _ _ _ h => h) (Or.inl ⟨by rfl, ?_⟩) (by assumption) ?_
                    rotate_left
                    (focus (intro w hSw; (try dsimp only at hSw); go_simp; (try with_reducible rfl)))
                    (try simp only [Act.put, List.getElem_toArray, List.getElem_cons_zero, List.getElem_cons_succ, List.setIfInBounds_toArray, List.set_cons_zero, List.set_cons_succ])
                    refine wpAnyH_take (i := 6) (v := ?_) rfl (by kernel_rfl) (by kernel_rfl) (by kernel_rfl) (fun _ _ _ h => h) (Or.inl ⟨by rfl, ?_⟩) (by assumption) ?_
                    rotate_left
                    (focus (intro w hSw; (try dsimp only at hSw); go_simp; (try with_reducible rfl)))
                    (try simp only [Act.put, List.getElem_toArray, List.getElem_cons_zero, List.getElem_cons_succ, List.setIfInBounds_toArray, List.set_cons_zero, List.set_cons_succ])
                    refine wpAnyH_take (i := 7) (v := ?_) rfl (by kernel_rfl) (by kernel_rfl) (by kernel_rfl) (fun _ _ _ h => h) (Or.inl ⟨by rfl, ?_⟩) (by assumption) ?_
                    rotate_left
                    (focus (intro w hSw; (try dsimp only at hSw); go_simp; (try with_reducible rfl)))
                    (try simp only [Act.put, List.getElem_toArray, List.getElem_cons_zero, List.getElem_cons_succ, List.setIfInBounds_toArray, List.set_cons_zero, List.set_cons_succ])
                    refine wpAnyH_take (i := 8) (v := ?_) rfl (by kernel_rfl) (by kernel_rfl) (by kernel_rfl) (fun _ _ _ h => h) (Or.inl ⟨by rfl, ?_⟩) (by assumption) ?_
                    rotate_left
                    (focus (intro w hSw; (try dsimp only at hSw); go_simp; (try with_reducible rfl)))
                    (try simp only [Act.put, List.getElem_toArray, List.getElem_cons_zero, List.getElem_cons_succ, List.setIfInBounds_toArray, List.set_cons_zero, List.set_cons_succ])
                    refine wpAnyH_ready (rs := [9]) (by kernel_rfl) (by simp) ?_
                    refine AllReadyH.cons (by rw [List.getElem?_toArray]; exact rfl) (fun K hK => ?_) AllReadyH.nil
                    (have tok9 : True := trivial; clear tok9; go_simp)
                    refine (HOF.out _).mono ?_
                    rintro _ _ ⟨rfl, rfl⟩
                    dsimp only
                    refine hK.out _ _ HCLH.out (fun hHeld => ?_)
                    clear hK K
                    (try simp only [Act.put, List.getElem_toArray, List.getElem_cons_zero, List.getElem_cons_succ, List.setIfInBounds_toArray, List.set_cons_zero, List.set_cons_succ])
                    refine wpAnyH_ready (rs := [10]) (by kernel_rfl) (by simp) ?_
                    refine AllReadyH.cons (by rw [List.getElem?_toArray]; exact rfl) (fun K hK => ?_) AllReadyH.nil
                    (have tok10 : True := trivial; clear tok10; go_simp)
                    have hcl2 : (wr.drew.alloc (.cells #[cx x y] 37)).cell? ⟨g1, r, none⟩ = some (.int .i64 (x : Int)) ∧ (wr.drew.alloc (.cells #[cx x y] 37)).cell? ⟨g2, r, none⟩ = some (.int .i64 (y : Int)) := ⟨World.cell?_alloc_some _ _ _ (by rw [HCLH.out.1]; rfl) |>.trans HCLH.out.1, World.cell?_alloc_some _ _ _ (by rw [HCLH.out.2]; rfl) |>.trans HCLH.out.2⟩
                    refine hK.out _ _ hcl2 (fun hHeld => ?_)
                    clear hK K
                    (try simp only [Act.put, List.getElem_toArray, List.getElem_cons_zero, List.getElem_cons_succ, List.setIfInBounds_toArray, List.set_cons_zero, List.set_cons_succ])
                    refine wpAnyH_ready (rs := [11]) (by kernel_rfl) (by simp) ?_
                    refine AllReadyH.cons (by rw [List.getElem?_toArray]; exact rfl) (fun K hK => ?_) AllReadyH.nil
                    refine step_pushR rfl _ _ 33 37 1 16 (.complex .f64 0 0) rfl Try.underlying33 info_cx rfl (by decide) (ob w4.heap.size) 1 (.slice A3 r C3) r (cxs lo hi r) rfl (HRO.out.drew.alloc _) ⟨wr.drew.heap.size, 0, none⟩ 1 1 [cx x y] rfl rfl (news_cx _ _ _) (fun u hu => by rw [List.mem_singleton.1 hu]; rfl) (by decide) (by omega) (by unfold maxLen; omega) ?_
                    intro g9 cap9 w9 hr9 ht9 hlt9
                    rw [ob_re (Nat.le_trans HBR.out.size (by simp))] at hr9 ht9
                    rw [← HCS.out] at hr9
                    have HB9 := Lib.hid (ob_below (w0 := w4) ht9 (HBR.out.drew.alloc HBR.out.size _))
                    have HR9 := Lib.hid hr9
                    have hcl9 : w9.cell? ⟨g1, r, none⟩ = some (.int .i64 (x : Int)) ∧ w9.cell? ⟨g2, r, none⟩ = some (.int .i64 (y : Int)) := ⟨((HB9.out.cell (p := ⟨g1, r, none⟩) HG4.out.1).trans (HBR.out.cell (p := ⟨g1, r, none⟩) HG4.out.1).symm).trans HCLH.out.1, ((HB9.out.cell (p := ⟨g2, r, none⟩) HG4.out.2).trans (HBR.out.cell (p := ⟨g2, r, none⟩) HG4.out.2).symm).trans HCLH.out.2⟩
                    clear hr9 ht9
                    refine hK.out _ _ hcl9 (fun hHeld => ?_)
                    clear hK K
                    (try simp only [Act.put, List.getElem_toArray, List.getElem_cons_zero, List.getElem_cons_succ, List.setIfInBounds_toArray, List.set_cons_zero, List.set_cons_succ])
                    refine wpAnyH_take (i := 12) (v := ?_) rfl (by kernel_rfl) (by kernel_rfl) (by kernel_rfl) (fun _ _ _ h => h) (Or.inl ⟨by rfl, ?_⟩) (by assumption) ?_
                    rotate_left
                    (focus (intro w hSw; (try dsimp only at hSw); go_simp; (try with_reducible rfl)))
                    (try simp only [Act.put, List.getElem_toArray, List.getElem_cons_zero, List.getElem_cons_succ, List.setIfInBounds_toArray, List.set_cons_zero, List.set_cons_succ])
                    refine wpAnyH_done (by kernel_rfl) ?_ _
                    (try simp only [List.getElem_toArray, List.getElem_cons_succ, List.getElem_cons_zero, List.setIfInBounds_toArray, List.set_cons_zero, List.set_cons_succ])
                    clear hcl9 hcl2 hHeld
                    go_wp2_with fail
                    go_roundg (gk - 1)
                    case measure => have := HKR.out; omega
                    case rel => exact ⟨r + 1, by have := HKR.out; omega, by go_num, HR9, HB9⟩
                  · have e : r = ns.length := by omega
                    subst e
                    have HCX := Lib.hid (ob_mono HRO.out (show w.heap.size ≤ w4.heap.size by have := HB1.out.size; have := HG2.out; have := HG4.out; omega))
                    have hbw : Below w.heap.size w wr := HB1.out.trans ((HBr.out.mono (by have := HB1.out.size; have := HG2.out; omega)).trans (HBR.out.mono (by have := HG2.out; have := HG4.out; omega)))
                    have HBWR := Lib.hid hbw
                    have HWI := Lib.hid (within_any ns lo hi _ _ _ wr HBX.out HPP.out H4.out.1 hn (HN.out.below hbw) (bk_lst (C := ns.length) (HK14.out.below HBR.out HG4.out.1) HLO.out hm1) (bk_lst (C := ns.length) (HKm.out.below HBR.out HG4.out.2) HBX.out.lens.2 hm1))
                    unfold WitPost at HWI
                    clear hbw
                    go_wp2_with (go_at_call 32; (with_reducible refine HWI.out.mono ?_); rintro _ w9 ⟨r9, rfl, hb9, hl9⟩)
                    go_ret2
                    exact ⟨HBWR.out.trans (hb9.mono HBWR.out.size), .inl ⟨t, hlt0, HFT.out, HZ.out, _, _, rfl, by rw [HBOX.out]; exact HCX.out.relab hb9 (fun _ _ e => e), by rw [HBOX.out]; exact row_mono hl9 HBWR.out.size⟩⟩
              | succ m =>
                rw [show ((m + 1 : Nat) : Int) - 1 = (m : Int) by omega]
                obtain ⟨w4, hw4⟩ : ∃ x, x = wr := ⟨_, rfl⟩
                subst hw4
                obtain ⟨go, hgo⟩ : ∃ x, x = gk := ⟨_, rfl⟩
                subst hgo
                have hkn : ns.getD m 0 ≤ 4000 := by
                  have h7 := prod_ge (getD_mem hmn) HPP.out
                  have := H4.out.1
                  omega
                obtain ⟨n, hnd⟩ : ∃ n, n = ns.getD m 0 := ⟨_, rfl⟩
                have HND := Lib.hid hnd
                rw [← hnd] at hkn
                clear hnd
                go_wp2_with fail
                go_loopg [11, 12] (n - hi.getD m 0) (fun k _ _ wr => ∃ hi : List Nat, k = n - hi.getD m 0 ∧ Hid (Bx ns lo hi) ∧ Hid (grA F ns lo m (grK F ns lo m k hi) = hiF) ∧ Hid (Bk wr g2 3 (ints hi)) ∧ Hid (Below g2 w1 wr))
                case atStart => exact ⟨hi, rfl, HBX, Lib.hid (by have := HGR.out; rw [grA, ← HND.out] at this; exact this), HKm, HBr⟩
                case round =>
                  clear HBX HGR HKm HBr hi
                  obtain ⟨hi, hk, HBX, HGR, HKm, HBr⟩ := hrel
                  have HKI := Lib.hid hk
                  clear hk
                  have hhl : m < hi.length := by rw [HBX.out.lens.2]; exact hmn
                  have hhn := (les_iff.1 HBX.out.2).2 m hhl
                  rw [← HND.out] at hhn
                  obtain ⟨bA, pA, rfl, a0⟩ := HN.out.at (c := m) (by rw [zs_len]; exact hmn)
                  rw [zs_get, ← HND.out] at a0
                  have HA0 := Lib.hid (And.intro a0 (Nat.lt_of_lt_of_le (cell_lt2 a0) HG2.out.2))
                  have a1 := ((HB1.out.trans (HBr.out.mono (by have := HB1.out.size; have := HG2.out; omega))).cell (p := ⟨bA, pA + m, none⟩) (cell_lt2 a0)).trans a0
                  have a2 := HKm.out.cell m (ints_get hhl)
                  obtain ⟨x, hx⟩ : ∃ x, x = hi.getD m 0 := ⟨_, rfl⟩
                  have HX := Lib.hid hx
                  rw [← hx] at a2 hhn
                  clear hx a0
                  by_cases hlt5 : x < n
                  · obtain ⟨k1, hk1⟩ : ∃ k1, gk = k1 + 1 := ⟨gk - 1, by have := HKI.out; rw [← HX.out] at this; omega⟩
                    go_wp2_with fail
                    go_quiet (fail)
                    have HK5 := Lib.hid (HKm.out.drewN nq)
                    have HB5 := Lib.hid (below_drewN HBr.out nq)
                    generalize wr.drewN nq = w5 at HK5 HB5 ⊢
                    have HLo5 := Lib.hid (bk_lst (C := ns.length) (HK1.out.below HB5.out HG2.out.1) HLO.out hm1)
                    have HHi5 := Lib.hid (bk_lst (C := ns.length) HK5.out HBX.out.lens.2 hm1)
                    clear a1 a2
                    go_upto_region 17 with (first | (at_builtin; refine wpList_copyM rfl _ _ 22 3 1 8 (.int .i64 0) rfl Try.underlying22 info_int1 rfl (by decide) rfl (some ⟨g1, 0, none⟩) ns.length ns.length (ints lo) rfl (by rw [ints_len, HLO.out, Nat.mul_one]) (lst_news HLo5.out HLO.out) (ints_cells _) (by omega) hm1 ?_; intro A6 C6 w6 hr6 hb6; have HHi6 := Lib.hid (HHi5.out.below hb6)) | (at_builtin; refine wpList_copyM rfl _ _ 22 3 1 8 (.int .i64 0) rfl Try.underlying22 info_int1 rfl (by decide) rfl (some ⟨g2, 0, none⟩) ns.length ns.length (ints hi) rfl (by rw [ints_len, HBX.out.lens.2, Nat.mul_one]) (lst_news HHi6.out HBX.out.lens.2) (ints_cells _) (by omega) hm1 ?_; intro A7 C7 w7 hr7 hb7))
                    obtain ⟨gf, cpf, curf, e6, -, -, h63, h64, h65⟩ := hr6.form (by omega)
                    injection e6 with e61 e62 e63
                    subst e61 e63
                    obtain ⟨gt, cpt, curt, e7, -, -, h73, h74, h75⟩ := hr7.form (by omega)
                    injection e7 with e71 e72 e73
                    subst e71 e73
                    rw [Nat.mul_one] at h65 h75
                    have hg2f : g2 < gf := by
                      have := HK5.out.lt
                      rcases Nat.lt_or_ge gf w5.heap.size with h' | h'
                      · have h9 := h64.2; rw [ob_low h'] at h9; cases h9
                      · omega
                    have hgft : gf < gt := by
                      have := h64.1.lt
                      rcases Nat.lt_or_ge gt w6.heap.size with h' | h'
                      · have h9 := h74.2; rw [ob_low h'] at h9; cases h9
                      · omega
                    have HKf := Lib.hid (h64.1.below hb7 h64.1.lt)
                    have HKt := Lib.hid h74.1
                    have HK7 := Lib.hid ((HK5.out.below hb6 HK5.out.lt).below hb7 (Nat.lt_of_lt_of_le HK5.out.lt hb6.size))
                    have HB7 := Lib.hid ((HB5.out.trans (hb6.mono (by have := HK5.out.lt; omega))).trans (hb7.mono (by have := HK5.out.lt; have := hb6.size; omega)))
                    have HCF := Lib.hid (And.intro h65 h75)
                    have c2 := HK7.out.cell m (ints_get hhl)
                    rw [← HX.out] at c2
                    have cf := HKf.out.cell m (cur_cell h65 HLO.out hmn)
                    have ct := HKt.out.cell m (cur_cell h75 HBX.out.lens.2 hmn)
                    have ff := HKf.out.frozen m
                    have ft := HKt.out.frozen m
                    have c2f : ∀ v, (w7.setCell ⟨gf, m, none⟩ v).cell? ⟨g2, m, none⟩ = some (.int .i64 (x : Int)) := fun v => (World.cell?_setCell_other _ _ _ _ (by intro e; injection e with e; omega)).trans c2
                    have c2t : ∀ v, (w7.setCell ⟨gt, m, none⟩ v).cell? ⟨g2, m, none⟩ = some (.int .i64 (x : Int)) := fun v => (World.cell?_setCell_other _ _ _ _ (by intro e; injection e with e; omega)).trans c2
                    have ctf := fun v => (World.cell?_setCell_other w7 ⟨gf, m, none⟩ ⟨gt, m, none⟩ v (by intro e; injection e with e; omega)).trans ct
                    have cft := fun v => (World.cell?_setCell_other w7 ⟨gt, m, none⟩ ⟨gf, m, none⟩ v (by intro e; injection e with e; omega)).trans cf
                    clear hr6 hr7 h63 h64 h65 h73 h74 h75 hb6 hb7 HHi6 HHi5 HLo5 HK5 HB5
                    go_wp2_with fail
                    go_region
                    all_goals (clear cf ct ff ft c2f c2t ctf cft c2; go_wp2_with fail)
                    all_goals refine calls_named (fun W => Bk W gf 3 (curf.set m (.int .i64 (x : Int))) ∧ Bk W gt 3 (curt.set m (.int .i64 ((x : Int) + 1))) ∧ Bk W g2 3 (ints hi) ∧ Below g2 w1 W) ⟨by first | exact ((HKf.out.set_ m _).far (p := ⟨gt, m, none⟩) (by show gf ≠ gt; omega) _).drew | exact ((HKf.out.far (p := ⟨gt, m, none⟩) (by show gf ≠ gt; omega) _).set_ m _).drew, by first | exact ((HKt.out.far (p := ⟨gf, m, none⟩) (by show gt ≠ gf; omega) _).set_ m _).drew | exact ((HKt.out.set_ m _).far (p := ⟨gf, m, none⟩) (by show gt ≠ gf; omega) _).drew, by first | exact ((HK7.out.far (p := ⟨gf, m, none⟩) (by show g2 ≠ gf; omega) _).far (p := ⟨gt, m, none⟩) (by show g2 ≠ gt; omega) _).drew | exact ((HK7.out.far (p := ⟨gt, m, none⟩) (by show g2 ≠ gt; omega) _).far (p := ⟨gf, m, none⟩) (by show g2 ≠ gf; omega) _).drew, by first | exact ((HB7.out.setCell (p := ⟨gf, m, none⟩) (by show g2 ≤ gf; omega) _).setCell (p := ⟨gt, m, none⟩) (by show g2 ≤ gt; omega) _).drew | exact ((HB7.out.setCell (p := ⟨gt, m, none⟩) (by show g2 ≤ gt; omega) _).setCell (p := ⟨gf, m, none⟩) (by show g2 ≤ gf; omega) _).drew⟩ ?_
                    all_goals (focus
                      rintro w8 ⟨kf8, kt8, k28, b8⟩
                      have hbx8 : Bx ns (lo.set m x) (hi.set m (x + 1)) := by
                        rw [HX.out]
                        exact HBX.out.slab (by rw [← HX.out, ← HND.out]; exact hlt5)
                      have hl8 := bk_take (C := C6) kf8 (cur_set HCF.out.1) (by rw [List.length_set]; exact HLO.out) hm1
                      rw [show (x : Int) + 1 = ((x + 1 : Nat) : Int) by omega] at kt8
                      have hr8 := bk_take (C := C7) kt8 (cur_set HCF.out.2) (by rw [List.length_set]; exact HBX.out.lens.2) hm1
                      have hb8w : Below w.heap.size w w8 := HB1.out.trans (b8.mono (by have := HB1.out.size; have := HG2.out; omega))
                      have HWI := Lib.hid (within_any ns (lo.set m x) (hi.set m (x + 1)) _ _ _ w8 hbx8 HPP.out H4.out.1 hn (HN.out.below hb8w) hl8 hr8)
                      unfold WitPost at HWI
                      obtain ⟨wl, hwl⟩ : ∃ l, l = witL ns (lo.set m x) (hi.set m (x + 1)) [0] := ⟨_, rfl⟩
                      have HPL : Hid (∀ p ∈ wl, p < F.length) := Lib.hid (fun p hp => by rw [H4.out.2]; exact hbx8.lt (by rw [← hwl]; exact hp))
                      rw [← hwl] at HWI
                      obtain ⟨fr, hfr⟩ : ∃ b, b = wl.all fun p => F.getD p false := ⟨_, rfl⟩
                      have HFR : Hid (frB F ns (lo.set m x) (hi.set m (x + 1)) = fr) := Lib.hid (by rw [hfr, hwl]; rfl)
                      have HWA := Lib.hid (fun (W : World) (r : Value) (hW : Below w8.heap.size w8 W) (hr : Lst W r (zs wl)) => rall_any F wl _ r W ((HF.out.below hb8w).below hW) hr HPL.out)
                      rw [← hfr] at HWA
                      have HK8 := Lib.hid k28
                      have HB8 := Lib.hid b8
                      clear hwl hfr hbx8 hl8 hr8 hb8w kf8 kt8 k28 b8 HPL
                      cases fr with
                      | true =>
                        go_wp2_with (first | (go_at_call 32; (with_reducible refine HWI.out.mono ?_); rintro _ w9 ⟨r9, rfl, hb9, hl9⟩) | (go_at_call 31; (with_reducible refine (HWA.out _ _ hb9 hl9.lst).mono ?_); rintro _ w10 ⟨rfl, hb10⟩; have hb810 := hb9.trans (hb10.mono hb9.size); have hk10 := HK8.out.below hb810 HK8.out.lt; have c10 := hk10.cell m (ints_get hhl); have f10 := hk10.frozen m; rw [← HX.out] at c10))
                        have hnew : Bk (w10.setCell ⟨g2, m, none⟩ (.int .i64 ((x : Int) + 1))) g2 3 (ints (hi.set m (x + 1))) := by
                          have h1 := hk10.set_ m (.int .i64 ((x : Int) + 1))
                          rw [show (x : Int) + 1 = ((x + 1 : Nat) : Int) by omega] at h1 ⊢
                          rw [ints_set] at h1
                          exact h1
                        have hG : grA F ns lo m (grK F ns lo m (gk - 1) (hi.set m (x + 1))) = hiF := by
                          have h9 := HGR.out
                          rw [hk1, grK, ← HX.out, if_pos HFR.out] at h9
                          rw [hk1]
                          exact h9
                        have HG9 := Lib.hid hG
                        have HN9 := Lib.hid hnew
                        have HB9 := Lib.hid ((HB8.out.trans (hb810.mono (by have := HK8.out.lt; omega))).setCell (p := ⟨g2, m, none⟩) (Nat.le_refl g2) (.int .i64 ((x : Int) + 1)))
                        clear hnew hG c10 f10 hk10 hb810 hb9 hb10 hl9
                        go_roundg (gk - 1)
                        case measure => omega
                        case rel => exact ⟨hi.set m (x + 1), by (have := HKI.out; rw [← HX.out] at this; rw [getD_set, if_pos ⟨rfl, hhl⟩]; omega), Lib.hid (by have := HBX.out.up (k := m) (by rw [← HX.out, ← HND.out]; exact hlt5); rwa [← HX.out] at this), HG9, HN9, HB9⟩
                      | false =>
                        have hG : grA F ns lo m hi = hiF := by
                          have h9 := HGR.out
                          rw [hk1, grK, ← HX.out, if_neg (by rw [HFR.out]; exact Bool.noConfusion)] at h9
                          exact h9
                        have HG9 := Lib.hid hG
                        clear hG
                        go_wp2_with (first | (go_at_call 32; (with_reducible refine HWI.out.mono ?_); rintro _ w9 ⟨r9, rfl, hb9, hl9⟩) | (go_at_call 31; (with_reducible refine (HWA.out _ _ hb9 hl9.lst).mono ?_); rintro _ w10 ⟨rfl, hb10⟩; have hb810 := hb9.trans (hb10.mono hb9.size); have hk10 := HK8.out.below hb810 HK8.out.lt))
                        have HN9 := Lib.hid hk10
                        have HB9 := Lib.hid (HB8.out.trans (hb810.mono (by have := HK8.out.lt; omega)))
                        clear hk10 hb810 hb9 hb10 hl9
                        go_roundg (go - 1)
                        case measure => have := HKK.out; omega
                        case rel => exact ⟨m, hi, by have := HKK.out; omega, by omega, rfl, HBX, HG9, HN9, HB9⟩)
                  · have hk0 : gk = 0 := by have := HKI.out; rw [← HX.out] at this; omega
                    have hG : grA F ns lo m hi = hiF := by
                      have h9 := HGR.out
                      rw [hk0, grK] at h9
                      exact h9
                    have HG9 := Lib.hid hG
                    clear hG
                    go_wp2_with fail
                    go_quiet (fail)
                    go_wp2_with fail
                    go_roundg (go - 1)
                    case measure => have := HKK.out; omega
                    case rel => exact ⟨m, hi, by have := HKK.out; omega, by omega, rfl, HBX, HG9, Lib.hid (HKm.out.drewN _), Lib.hid (below_drewN HBr.out _)⟩
    · have hte : t = F.length := by omega
      subst hte
      have HA : Hid (∀ j, F.getD j false = false) := Lib.hid (fun j => by
        rcases Nat.lt_or_ge j F.length with hj | hj
        · exact HZ.out j hj
        · rw [List.getD_eq_getElem?_getD, List.getElem?_eq_none hj]; rfl)
      go_wp2_with fail
      go_ret2
      exact ⟨Below.refl _ _, .inr ⟨HA.out, rfl⟩⟩
end Go.Proofs.Ytlpoopmjgobnnaa
