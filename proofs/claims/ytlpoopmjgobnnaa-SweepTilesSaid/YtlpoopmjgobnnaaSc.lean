/- Sweep: what the boxes of a cover are: plain, for the law SweepTiles. -/
import Derived.Test.YtlpoopmjgobnnaaSb
set_option linter.unusedSimpArgs false
set_option linter.unusedVariables false
namespace Go.Proofs.Ytlpoopmjgobnnaa
open Go.RowKit

theorem has_iff {ns lo hi d : List Nat} (h : Bx ns lo hi) (hd : Lts d ns) : hasB lo hi (zs d) = true ↔ plN ns d 0 ∈ witL ns lo hi [0] := by
  rw [h.has hd]
  have e := h.lens
  have ed := hd.len
  have zg : ∀ k, k < d.length → (zs d).getD k 0 = ((d.getD k 0 : Nat) : Int) := fun k hk => by
    unfold zs
    rw [List.getD_eq_getElem?_getD, List.getElem?_map, List.getD_eq_getElem?_getD, List.getElem?_eq_getElem hk]
    rfl
  unfold hasB
  rw [List.all_eq_true]
  constructor
  · intro hh
    have key : ∀ k, k < lo.length → lo.getD k 0 ≤ d.getD k 0 ∧ d.getD k 0 < hi.getD k 0 := fun k hk => by
      have := of_decide_eq_true (hh k (List.mem_range.2 hk))
      rw [zg k (by omega)] at this
      omega
    exact ⟨les_iff.2 ⟨by omega, fun k hk => (key k hk).1⟩, lts_iff.2 ⟨by omega, fun k hk => (key k (by omega)).2⟩⟩
  · rintro ⟨h1, h2⟩ k hk
    have hk := List.mem_range.1 hk
    have h3 := (les_iff.1 h1).2 k hk
    have h4 := (lts_iff.1 h2).2 k (by omega)
    rw [zg k (by omega)]
    exact decide_eq_true ⟨by omega, by omega⟩
theorem cnt_has {ns d : List Nat} (hd : Lts d ns) : ∀ (bs : List (List Nat × List Nat)), (∀ b ∈ bs, Bx ns b.1 b.2) → bs.countP (fun b => hasB b.1 b.2 (zs d)) = (wits ns bs).count (plN ns d 0)
  | [], _ => rfl
  | b :: bs, h => by
    have hb := h b (List.mem_cons_self ..)
    have ih := cnt_has hd bs fun x hx => h x (List.mem_cons_of_mem _ hx)
    show _ = (witL ns b.1 b.2 [0] ++ wits ns bs).count _
    rw [List.countP_cons, List.count_append, ih, hb.nodup.count, Nat.add_comm]
    congr 1
    by_cases hm : plN ns d 0 ∈ witL ns b.1 b.2 [0]
    · rw [if_pos hm, if_pos ((has_iff hb hd).2 hm)]
    · rw [if_neg hm, if_neg (fun hh => hm ((has_iff hb hd).1 hh))]
structure Til (ds : List Int) (cs : List (List Int)) (bs : List (List Nat × List Nat)) : Prop where
  d8 : ds.length ≤ 8
  c4 : cs.length ≤ 4000
  fit : ∀ b ∈ bs, Fit b.1 b.2
  dim : ∀ b ∈ bs, b.1.length = ds.length
  wid : ∀ b ∈ bs, widL b.1 b.2 ≤ 4000
  len : bs.length ≤ 4000
  sum : sizeL bs ≤ 4000
  one : ∀ t, t < cs.length → bs.countP (fun b => hasB b.1 b.2 (cs.getD t [])) = 1
  dimc : ∀ t, t < cs.length → (cs.getD t []).length = ds.length
  unl : unlL cs.length cs = sizeL bs
theorem getD_memL {cs : List (List Int)} {t : Nat} (h : t < cs.length) : cs.getD t [] ∈ cs := by
  rw [List.getD_eq_getElem?_getD, List.getElem?_eq_getElem h]
  exact List.getElem_mem _
theorem til_of {ds : List Int} {cs : List (List Int)} (h8 : ds.length ≤ 8) (h4 : prodL (ds.map Int.toNat) ≤ 4000) (hc : cs.length ≤ 4000) {G : List Bool} (hm : markL (ds.map Int.toNat) cs (List.replicate (prodL (ds.map Int.toNat)) false) = some G) : Til ds cs (covL (ds.map Int.toNat) (prodL (ds.map Int.toNat)) 0 G) := by
  obtain ⟨ns, hns⟩ : ∃ ns, ns = ds.map Int.toNat := ⟨_, rfl⟩
  rw [← hns] at hm h4 ⊢
  have hnl : ns.length = ds.length := by rw [hns, List.length_map]
  obtain ⟨F, h1, h2, h3, h5⟩ := mark_all hm cs.length (Nat.le_refl _)
  rw [List.take_length, hm] at h1
  injection h1 with h1
  subst h1
  rw [List.take_length] at h5
  obtain ⟨k1, k2, k3⟩ := cov_all (ns := ns) (prodL ns) 0 G rfl h3 (fun j hj => absurd hj (Nat.not_lt_zero _))
  have hpos : ∀ b ∈ covL ns (prodL ns) 0 G, 0 < prodL ns := fun b hb => by
    rcases Nat.eq_zero_or_pos (prodL ns) with h0 | h0
    · rw [h0] at hb; exact absurd hb List.not_mem_nil
    · exact h0
  have hcell : ∀ t, t < cs.length → ∃ d, cs.getD t [] = zs d ∧ Lts d ns ∧ G.getD (plN ns d 0) false = true := fun t ht => by
    obtain ⟨F2, g1, -, -, g4⟩ := mark_all hm (t + 1) ht
    have hmem := getD_memL ht
    have hp : ∃ p, plI ns (cs.getD t []) 0 = some p := by
      cases hx : plI ns (cs.getD t []) 0 with
      | some p => exact ⟨p, rfl⟩
      | none =>
        have hs := mark_snoc ns (cs.getD t []) (cs.take t) (List.replicate (prodL ns) false)
        rw [← take_getB ht, g1, hx] at hs
        cases hb : markL ns (cs.take t) (List.replicate (prodL ns) false) with
        | none => rw [hb] at hs; cases hs
        | some _ => rw [hb] at hs; cases hs
    obtain ⟨p, hp⟩ := hp
    obtain ⟨d, e1, e2, e3⟩ := plI_form hp
    exact ⟨d, e1, e2, by rw [← e3]; exact (h5 p).2 ⟨_, hmem, hp⟩⟩
  have hsum : sizeL (covL ns (prodL ns) 0 G) ≤ 4000 := by
    rw [k3]
    have := List.count_le_length (a := true) (l := G)
    omega
  refine ⟨h8, hc, fun b hb => (k1 b hb).fit (hpos b hb) h4, fun b hb => by rw [(k1 b hb).lens.1, (k1 b hb).lens.2, hnl], fun b hb => Nat.le_trans (wid_le (k1 b hb)) h4, Nat.le_trans (cov_len _ _ _) h4, hsum, fun t ht => ?_, fun t ht => ?_, by rw [k3]; exact h2.symm⟩
  · obtain ⟨d, e1, e2, e3⟩ := hcell t ht
    rw [e1, cnt_has e2 _ k1, k2, if_pos e3]
  · obtain ⟨d, e1, e2, e3⟩ := hcell t ht
    rw [e1, zs_len, e2.len, hnl]
theorem coverD_cases (ds : List Int) (cs : List (List Int)) : (∃ z, coverD ds cs = ([], z) ∧ (z = 6 ∨ z = 1 ∨ z = 2)) ∨ ∃ bs, coverD ds cs = (bs, 0) ∧ Til ds cs bs := by
  unfold coverD
  split
  · exact .inl ⟨_, rfl, by decide⟩
  · split
    · exact .inl ⟨_, rfl, by decide⟩
    · rename_i h1
      split
      · exact .inl ⟨_, rfl, by decide⟩
      · rename_i G hG
        exact .inr ⟨_, rfl, til_of (by omega) (by omega) (by omega) hG⟩
theorem size_take {bs : List (List Nat × List Nat)} {t : Nat} (h : t < bs.length) : sizeL (bs.take (t + 1)) = sizeL (bs.take t) + widL (bs.getD t ([], [])).1 (bs.getD t ([], [])).2 := by
  unfold sizeL
  rw [take_getB h ([], []), List.map_append, List.sum_append]
  simp
theorem size_part : ∀ (bs : List (List Nat × List Nat)) (t : Nat), sizeL (bs.take t) ≤ sizeL bs
  | [], t => by rw [List.take_nil]; exact Nat.le_refl _
  | b :: bs, 0 => Nat.zero_le _
  | b :: bs, t + 1 => by
    have := size_part bs t
    show widL b.1 b.2 + sizeL (bs.take t) ≤ widL b.1 b.2 + sizeL bs
    omega
theorem cnt_take {bs : List (List Nat × List Nat)} {c : List Int} {t : Nat} (h : t < bs.length) : (bs.take (t + 1)).countP (fun b => hasB b.1 b.2 c) = (bs.take t).countP (fun b => hasB b.1 b.2 c) + if hasB (bs.getD t ([], [])).1 (bs.getD t ([], [])).2 c = true then 1 else 0 := by
  rw [take_getB h ([], []), List.countP_append, List.countP_cons, List.countP_nil, Nat.zero_add]
theorem unl_le : ∀ (t : Nat) (cs : List (List Int)), unlL t cs ≤ t
  | 0, _ => Nat.le_refl _
  | t + 1, cs => by
    have := unl_le t cs
    show unlL t cs + _ ≤ _
    split <;> omega
end Go.Proofs.Ytlpoopmjgobnnaa
