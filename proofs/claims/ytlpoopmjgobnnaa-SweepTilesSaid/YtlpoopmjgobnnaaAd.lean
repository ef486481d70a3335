/- Boxes: each cell of the set lies in one box of the cover alone, and the boxes have as many cells as there are unlike ones: plain. -/
import Derived.Test.YtlpoopmjgobnnaaAb
set_option linter.unusedSimpArgs false
set_option linter.unusedVariables false
namespace Go.Proofs.Ytlpoopmjgobnnaa
/-- how many cells a box has -/
def widL : List Nat → List Nat → Nat
  | l :: lo, h :: hi => (h - l) * widL lo hi
  | _, _ => 1
theorem cells_wid : ∀ lo hi : List Nat, (cellsL lo hi).length = widL lo hi
  | l :: lo, h :: hi => by rw [cells_len, cells_wid lo hi]; rfl
  | [], _ => by simp [cellsL, widL]
  | _ :: _, [] => by simp [cellsL, widL]
theorem nodup_map {α β : Type} {f : α → β} : ∀ {l : List α}, (∀ x ∈ l, ∀ y ∈ l, f x = f y → x = y) → l.Nodup → (l.map f).Nodup
  | [], _, _ => by simp
  | a :: l, hf, h => by
    rw [List.map_cons, List.nodup_cons]
    rw [List.nodup_cons] at h
    refine ⟨fun hm => ?_, nodup_map (fun x hx y hy => hf x (List.mem_cons_of_mem _ hx) y (List.mem_cons_of_mem _ hy)) h.2⟩
    obtain ⟨b, hb, e⟩ := List.mem_map.1 hm
    have := hf b (List.mem_cons_of_mem _ hb) a (List.mem_cons_self ..) e
    subst this
    exact h.1 hb
theorem fm_nodup (g : List (List Nat)) (hg : g.Nodup) : ∀ n l : Nat, ((List.range' l n).flatMap fun a => g.map (a :: ·)).Nodup
  | 0, l => by simp
  | n + 1, l => by
    rw [List.range'_succ, List.flatMap_cons, List.nodup_append]
    refine ⟨nodup_map (fun x _ y _ e => by injection e) hg, fm_nodup g hg n (l + 1), fun x hx y hy e => ?_⟩
    obtain ⟨c, -, rfl⟩ := List.mem_map.1 hx
    obtain ⟨a, ha, hy⟩ := List.mem_flatMap.1 hy
    obtain ⟨d, -, rfl⟩ := List.mem_map.1 hy
    rw [List.mem_range'_1] at ha
    injection e with e1 e2
    omega
theorem cells_nodup : ∀ lo hi : List Nat, (cellsL lo hi).Nodup
  | l :: lo, h :: hi => fm_nodup _ (cells_nodup lo hi) _ _
  | [], _ => by simp [cellsL]
  | _ :: _, [] => by simp [cellsL]
theorem plN_inj : ∀ {ns c d : List Nat} {a b : Nat}, Lts c ns → Lts d ns → plN ns c a = plN ns d b → a = b ∧ c = d
  | [], [], [], a, b, _, _, h => ⟨h, rfl⟩
  | n :: ns, c :: cs, d :: ds, a, b, hc, hd, h => by
    obtain ⟨e1, e2⟩ := plN_inj (a := a * n + c) (b := b * n + d) hc.2 hd.2 h
    have h1 := hc.1
    have h2 := hd.1
    have e3 : a = b := by
      have x1 : (a * n + c) / n = a := by rw [Nat.mul_comm, Nat.mul_add_div (by omega), Nat.div_eq_of_lt h1, Nat.add_zero]
      have x2 : (b * n + d) / n = b := by rw [Nat.mul_comm, Nat.mul_add_div (by omega), Nat.div_eq_of_lt h2, Nat.add_zero]
      rw [← x1, ← x2, e1]
    subst e3
    refine ⟨rfl, ?_⟩
    rw [e2, show c = d by omega]
  | [], _ :: _, _, _, _, h, _, _ => h.elim
  | _ :: _, [], _, _, _, h, _, _ => h.elim
  | [], [], _ :: _, _, _, _, h, _ => h.elim
  | _ :: _, _ :: _, [], _, _, _, h, _ => h.elim
theorem Bx.nodup {ns lo hi : List Nat} (h : Bx ns lo hi) : (witL ns lo hi [0]).Nodup := by
  rw [h.wit]
  exact nodup_map (fun x hx y hy e => (plN_inj (h.cell hx) (h.cell hy) e).2) (cells_nodup lo hi)
theorem Bx.wid {ns lo hi : List Nat} (h : Bx ns lo hi) : (witL ns lo hi [0]).length = widL lo hi := by
  rw [h.wit, List.length_map, cells_wid]
/-- a cell lies in a box -/
theorem Bx.has {ns lo hi c : List Nat} (h : Bx ns lo hi) (hc : Lts c ns) : plN ns c 0 ∈ witL ns lo hi [0] ↔ (Les lo c ∧ Lts c hi) := by
  rw [h.wit, List.mem_map]
  constructor
  · rintro ⟨d, hd, e⟩
    have := (plN_inj (h.cell hd) hc e).2
    subst this
    exact (cells_mem h.lens.1).1 hd
  · intro hh
    exact ⟨c, (cells_mem h.lens.1).2 hh, rfl⟩
theorem fr_iff {F : List Bool} {ns lo hi : List Nat} : frB F ns lo hi = true ↔ ∀ p ∈ witL ns lo hi [0], F.getD p false = true := by
  unfold frB
  rw [List.all_eq_true]
/-- a box and the slab beside it -/
theorem fr_up {F : List Bool} {ns lo hi : List Nat} (h : Bx ns lo hi) {k : Nat} (hk : hi.getD k 0 < ns.getD k 0) (h1 : frB F ns lo hi = true) (h2 : frB F ns (lo.set k (hi.getD k 0)) (hi.set k (hi.getD k 0 + 1)) = true) : frB F ns lo (hi.set k (hi.getD k 0 + 1)) = true := by
  rw [fr_iff] at *
  have hb := h.up hk
  obtain ⟨l1, l2⟩ := h.lens
  intro p hp
  rw [hb.wit] at hp
  obtain ⟨c, hc, rfl⟩ := List.mem_map.1 hp
  have hcn := hb.cell hc
  have hm := (cells_mem hb.lens.1).1 hc
  have hcl := hcn.len
  by_cases hx : c.getD k 0 < hi.getD k 0
  · refine h1 _ ((h.has hcn).2 ⟨hm.1, lts_iff.2 ⟨by omega, fun j hj => ?_⟩⟩)
    have := (lts_iff.1 hm.2).2 j hj
    rw [getD_set] at this
    split at this
    · rename_i e; rw [e.1]; exact hx
    · exact this
  · have hkl : k < hi.length := by
      rcases Nat.lt_or_ge k hi.length with h' | h'
      · exact h'
      · have e : ns.getD k 0 = 0 := by rw [List.getD_eq_getElem?_getD, List.getElem?_eq_none (by omega)]; rfl
        omega
    have hc1 : c.getD k 0 = hi.getD k 0 := by
      have := (lts_iff.1 hm.2).2 k (by omega)
      rw [getD_set, if_pos ⟨rfl, hkl⟩] at this
      omega
    refine h2 _ ?_
    rw [wit_zero (by rw [List.length_set]; omega) (by rw [List.length_set, List.length_set]; omega)]
    refine List.mem_map.2 ⟨c, (cells_mem (by rw [List.length_set, List.length_set]; omega)).2 ⟨les_iff.2 ⟨by rw [List.length_set]; omega, fun j hj => ?_⟩, hm.2⟩, rfl⟩
    rw [List.length_set] at hj
    rw [getD_set]
    split
    · rename_i e; rw [e.1, hc1]; exact Nat.le_refl _
    · exact (les_iff.1 hm.1).2 j hj
theorem gr_free {F : List Bool} {ns lo : List Nat} {k : Nat} : ∀ (f : Nat) {hi : List Nat}, Bx ns lo hi → f = ns.getD k 0 - hi.getD k 0 → frB F ns lo hi = true → frB F ns lo (grK F ns lo k f hi) = true
  | 0, hi, h, _, hf => hf
  | f + 1, hi, h, hf, h1 => by
    rw [grK]
    split
    · rename_i h2
      have hk : k < hi.length := by
        rcases Nat.lt_or_ge k hi.length with h' | h'
        · exact h'
        · have e : ns.getD k 0 = 0 := by rw [List.getD_eq_getElem?_getD, List.getElem?_eq_none (by rw [← h.2.len]; exact h')]; rfl
          omega
      refine gr_free f (h.up (by omega)) ?_ (fr_up h (by omega) h1 h2)
      rw [getD_set, if_pos ⟨rfl, hk⟩]
      omega
    · exact h1
theorem grow_free {F : List Bool} {ns lo : List Nat} : ∀ (k : Nat) {hi : List Nat}, Bx ns lo hi → frB F ns lo hi = true → frB F ns lo (grA F ns lo k hi) = true
  | 0, _, _, h => h
  | k + 1, _, h, h1 => grow_free k (h.gr _ rfl) (gr_free _ h rfl h1)
theorem cell_one : ∀ x : List Nat, cellsL x (x.map (· + 1)) = [x]
  | [] => rfl
  | a :: x => by
    show (List.range' a (a + 1 - a)).flatMap _ = _
    rw [Nat.add_sub_cancel_left]
    show ((cellsL x (x.map (· + 1))).map (a :: ·)) ++ [] = _
    rw [cell_one x]
    rfl
theorem box_free {F : List Bool} {ns : List Nat} {i : Nat} (hi : i < prodL ns) (h : F.getD i false = true) : ∀ p ∈ witL ns (boxL F ns i).1 (boxL F ns i).2 [0], F.getD p false = true := by
  have hb := lts_succ (dg_lt (ns := ns) i (prod_pos_iff.1 (by omega)))
  refine fr_iff.1 (grow_free _ hb (fr_iff.2 fun p hp => ?_))
  have hp : p ∈ witL ns (dgL ns i) ((dgL ns i).map (· + 1)) [0] := hp
  rw [hb.wit, cell_one] at hp
  have hp : p = plN ns (dgL ns i) 0 := by simpa using hp
  rw [hp, pl_dg i 0 (prod_pos_iff.1 (by omega)), Nat.zero_mul, Nat.zero_add, Nat.mod_eq_of_lt hi]
  exact h
theorem cnt_set : ∀ (F : List Bool) (p : Nat), F.getD p false = true → (F.set p false).count true + 1 = F.count true
  | [], p, h => by cases h
  | b :: F, 0, h => by
    have h : b = true := h
    subst h
    simp
  | b :: F, p + 1, h => by
    have ih := cnt_set F p h
    rw [List.set_cons_succ, List.count_cons, List.count_cons]
    omega
theorem cnt_up : ∀ (F : List Bool) (p : Nat), p < F.length → F.getD p false = false → (F.set p true).count true = F.count true + 1
  | [], p, h, _ => absurd h (Nat.not_lt_zero _)
  | b :: F, 0, _, h => by
    have h : b = false := h
    subst h
    simp
  | b :: F, p + 1, hp, h => by
    have ih := cnt_up F p (by simpa using hp) h
    rw [List.set_cons_succ, List.count_cons, List.count_cons]
    omega
theorem set_same : ∀ (F : List Bool) (p : Nat), F.getD p false = true → F.set p true = F
  | [], _, h => by cases h
  | b :: F, 0, h => by
    have h : b = true := h
    rw [h]
    rfl
  | b :: F, p + 1, h => by rw [List.set_cons_succ, set_same F p h]
theorem clr_cnt : ∀ (l : List Nat) (F : List Bool), l.Nodup → (∀ p ∈ l, F.getD p false = true) → (clr F l).count true + l.length = F.count true
  | [], F, _, _ => rfl
  | p :: l, F, hn, h => by
    rw [List.nodup_cons] at hn
    have ih := clr_cnt l (F.set p false) hn.2 (fun q hq => by
      rw [getD_set, if_neg (fun e => hn.1 (by rw [← e.1]; exact hq))]
      exact h q (List.mem_cons_of_mem _ hq))
    have := cnt_set F p (h p (List.mem_cons_self ..))
    show (clr (F.set p false) l).count true + (l.length + 1) = _
    omega
/-- all cells of boxes -/
def wits (ns : List Nat) (bs : List (List Nat × List Nat)) : List Nat := bs.flatMap fun b => witL ns b.1 b.2 [0]
def sizeL (bs : List (List Nat × List Nat)) : Nat := (bs.map fun b => widL b.1 b.2).sum
theorem cov_all {ns : List Nat} : ∀ (n i : Nat) (F : List Bool), n + i = prodL ns → F.length = prodL ns → (∀ j, j < i → F.getD j false = false) →
    (∀ b ∈ covL ns n i F, Bx ns b.1 b.2) ∧ (∀ p, (wits ns (covL ns n i F)).count p = if F.getD p false = true then 1 else 0) ∧ sizeL (covL ns n i F) = F.count true
  | 0, i, F, hn, hl, h => by
    have h0 : ∀ p, F.getD p false = false := fun p => by
      rcases Nat.lt_or_ge p i with hp | hp
      · exact h p hp
      · rw [List.getD_eq_getElem?_getD, List.getElem?_eq_none (by omega)]; rfl
    refine ⟨fun b hb => absurd hb List.not_mem_nil, fun p => ?_, ?_⟩
    · rw [h0 p]; rfl
    show 0 = F.count true
    rw [List.count_eq_zero_of_not_mem]
    intro hm
    obtain ⟨k, hk, e⟩ := List.mem_iff_getElem.1 hm
    have := h0 k
    rw [List.getD_eq_getElem?_getD, List.getElem?_eq_getElem hk, e] at this
    cases this
  | n + 1, i, F, hn, hl, h => by
    cases hF : F.getD i false with
    | false =>
      rw [cov_not ns F n i hF]
      refine cov_all n (i + 1) F (by omega) hl fun j hj => ?_
      by_cases e : j = i
      · subst e; exact hF
      · exact h j (by omega)
    | true =>
      have hi : i < prodL ns := by omega
      have hpp : 0 < prodL ns := by omega
      have hb := boxL_bx (F := F) hpp i
      have hfr := box_free hi hF
      have hnd := hb.nodup
      obtain ⟨k1, k2, k3⟩ := cov_all (ns := ns) n (i + 1) (clr F (witL ns (boxL F ns i).1 (boxL F ns i).2 [0])) (by omega) (by rw [clr_len]; exact hl) (clr_low hi h)
      rw [cov_at ns F n i hF]
      refine ⟨fun b hm => ?_, fun p => ?_, ?_⟩
      · rcases List.mem_cons.1 hm with rfl | hm
        · exact hb
        · exact k1 b hm
      · show (witL ns (boxL F ns i).1 (boxL F ns i).2 [0] ++ wits ns _).count p = _
        rw [List.count_append, k2 p, clr_get]
        by_cases hp : p ∈ witL ns (boxL F ns i).1 (boxL F ns i).2 [0]
        · rw [hnd.count, if_pos hp, if_pos hp, hfr p hp]
          rfl
        · rw [hnd.count, if_neg hp, if_neg hp, Nat.zero_add]
      · have := clr_cnt _ F hnd hfr
        rw [hb.wid] at this
        show widL _ _ + sizeL _ = _
        rw [k3]
        omega
theorem plI_form : ∀ {ns : List Nat} {c : List Int} {a p : Nat}, plI ns c a = some p → ∃ d : List Nat, c = d.map (fun (x : Nat) => (x : Int)) ∧ Lts d ns ∧ p = plN ns d a
  | [], [], a, p, h => by
    injection h with h
    exact ⟨[], rfl, trivial, h.symm⟩
  | n :: ns, c :: cs, a, p, h => by
    rw [plI] at h
    split at h
    · rename_i hc
      obtain ⟨d, h1, h2, h3⟩ := plI_form h
      refine ⟨c.toNat :: d, ?_, ⟨by omega, h2⟩, h3⟩
      rw [h1, List.map_cons, Int.toNat_of_nonneg hc.1]
    · cases h
  | [], _ :: _, _, _, h => by cases h
  | _ :: _, [], _, _, h => by cases h
theorem plI_inj {ns : List Nat} {c d : List Int} {p : Nat} (h1 : plI ns c 0 = some p) (h2 : plI ns d 0 = some p) : c = d := by
  obtain ⟨x, rfl, hx, e1⟩ := plI_form h1
  obtain ⟨y, rfl, hy, e2⟩ := plI_form h2
  rw [(plN_inj hx hy (e1.symm.trans e2)).2]
theorem mark_snoc (ns : List Nat) (c : List Int) : ∀ (cs : List (List Int)) (F : List Bool), markL ns (cs ++ [c]) F = (markL ns cs F).bind fun G => (plI ns c 0).map fun p => G.set p true
  | [], F => by
    show (match plI ns c 0 with | some p => markL ns [] (F.set p true) | none => none) = _
    cases plI ns c 0 <;> rfl
  | x :: cs, F => by
    show (match plI ns x 0 with | some p => markL ns (cs ++ [c]) (F.set p true) | none => none) = (match plI ns x 0 with | some p => markL ns cs (F.set p true) | none => none).bind _
    cases plI ns x 0 with
    | none => rfl
    | some p => exact mark_snoc ns c cs (F.set p true)
/-- how many unlike ones there are -/
def unlL [DecidableEq (List Int)] : Nat → List (List Int) → Nat
  | 0, _ => 0
  | t + 1, cs => unlL t cs + if cs.getD t [] ∈ cs.take t then 0 else 1
theorem take_getB {α : Type} {l : List α} {t : Nat} (h : t < l.length) (d : α) : l.take (t + 1) = l.take t ++ [l.getD t d] := by
  rw [List.take_add_one, List.getElem?_eq_getElem h, List.getD_eq_getElem?_getD, List.getElem?_eq_getElem h]
  rfl
theorem mark_all {ns : List Nat} {cs : List (List Int)} {G : List Bool} (h : markL ns cs (List.replicate (prodL ns) false) = some G) : ∀ t, t ≤ cs.length → ∃ F, markL ns (cs.take t) (List.replicate (prodL ns) false) = some F ∧ F.count true = unlL t cs ∧ F.length = prodL ns ∧ ∀ p, F.getD p false = true ↔ ∃ c ∈ cs.take t, plI ns c 0 = some p
  | 0, _ => ⟨_, rfl, by simp [unlL, List.count_replicate], List.length_replicate, fun p => by
    rw [List.getD_eq_getElem?_getD, List.getElem?_replicate]
    constructor
    · intro hh; split at hh <;> cases hh
    · rintro ⟨c, hc, _⟩; cases hc⟩
  | t + 1, ht => by
    obtain ⟨F, h1, h2, h3, h4⟩ := mark_all h t (by omega)
    have hs := mark_snoc ns (cs.getD t []) (cs.take t) (List.replicate (prodL ns) false)
    rw [← take_getB (by omega), h1] at hs
    have hp : ∃ p, plI ns (cs.getD t []) 0 = some p := by
      cases hx : plI ns (cs.getD t []) 0 with
      | some p => exact ⟨p, rfl⟩
      | none =>
        rw [hx] at hs
        have hh : ∀ (xs ys : List (List Int)) (F : List Bool), markL ns xs F = none → markL ns (xs ++ ys) F = none := by
          intro xs
          induction xs with
          | nil => intro ys F e; cases e
          | cons x xs ih =>
            intro ys F e
            show (match plI ns x 0 with | some p => markL ns (xs ++ ys) (F.set p true) | none => none) = none
            have e : (match plI ns x 0 with | some p => markL ns xs (F.set p true) | none => none) = none := e
            cases hx : plI ns x 0 with
            | none => rfl
            | some p => rw [hx] at e; exact ih ys _ e
        have := hh (cs.take (t + 1)) (cs.drop (t + 1)) _ hs
        rw [List.take_append_drop, h] at this
        cases this
    obtain ⟨p, hp⟩ := hp
    rw [hp] at hs
    have hpl : p < F.length := by
      have := plI_lt hp
      rw [h3]
      omega
    refine ⟨F.set p true, hs, ?_, by rw [List.length_set]; exact h3, fun q => ?_⟩
    · rw [unlL]
      cases hF : F.getD p false with
      | true =>
        obtain ⟨c, hc, e⟩ := (h4 p).1 hF
        have := plI_inj e hp
        subst this
        rw [if_pos hc, set_same F p hF, h2]
        rfl
      | false =>
        rw [if_neg (fun hm => by rw [(h4 p).2 ⟨_, hm, hp⟩] at hF; cases hF), cnt_up F p hpl hF, h2]
    · rw [getD_set, take_getB (by omega) []]
      by_cases e : q = p
      · subst e
        rw [if_pos ⟨rfl, hpl⟩]
        exact ⟨fun _ => ⟨_, List.mem_append_right _ (List.mem_singleton.2 rfl), hp⟩, fun _ => rfl⟩
      · rw [if_neg (fun h => e h.1), h4 q]
        constructor
        · rintro ⟨c, hc, hh⟩; exact ⟨c, List.mem_append_left _ hc, hh⟩
        · rintro ⟨c, hc, hh⟩
          rcases List.mem_append.1 hc with hc | hc
          · exact ⟨c, hc, hh⟩
          · rw [List.mem_singleton.1 hc, hp] at hh
            injection hh with hh
            exact absurd hh.symm e
end Go.Proofs.Ytlpoopmjgobnnaa
