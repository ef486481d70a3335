/- Sweep: the document's Cover: the walk. -/
import Derived.Test.YtlpoopmjgobnnaaAl
set_option linter.unusedSimpArgs false
set_option linter.unusedVariables false
namespace Go.Proofs.Ytlpoopmjgobnnaa
open Go.RowKit

def bools (G : List Bool) : List Value := G.map Value.bool
theorem bools_len (G : List Bool) : (bools G).length = G.length := List.length_map _
theorem bools_get {G : List Bool} {k : Nat} (h : k < G.length) : (bools G)[k]? = some (.bool (G.getD k false)) := by
  unfold bools
  rw [List.getElem?_map, List.getElem?_eq_getElem h, List.getD_eq_getElem?_getD, List.getElem?_eq_getElem h]; rfl
theorem bools_set (G : List Bool) (k : Nat) (b : Bool) : (bools G).set k (.bool b) = bools (G.set k b) := by
  unfold bools
  rw [List.map_set]
theorem bools_cells (G : List Bool) : ∀ u ∈ bools G, u.oneCell' = true := fun u hu => by
  obtain ⟨i, _, rfl⟩ := List.mem_map.1 hu
  rfl
theorem info_bool1 : (Try.prog.info? 4).map (fun i => (i.zero, i.size, i.bytes)) = some (some (.bool false), 1, 1) := by kernel_rfl
theorem info_cxs : (Try.prog.info? 33).map (fun i => (i.zero, i.size, i.bytes)) = some (some (.slice none 0 0), 1, 24) := by kernel_rfl
theorem bls_news {w : World} {A : Option Addr} {n C : Nat} {G : List Bool} (h : Bls w (.slice A n C) G) (hn : G.length = n) : 0 < n → ∃ ad, A = some ad ∧ ∀ j u, (bools G)[j]? = some u → w.cell? (ad.add j) = some u := fun hpos => by
  obtain ⟨b, o, rfl, -⟩ := h.at (k := 0) (by omega)
  refine ⟨_, rfl, fun j u hj => ?_⟩
  have hl : j < G.length := by
    rcases Nat.lt_or_ge j G.length with h' | h'
    · exact h'
    · rw [List.getElem?_eq_none (by rw [bools_len]; exact h')] at hj; cases hj
  obtain ⟨b', o', e, hat⟩ := h.at hl
  injection e with e
  injection e with e1 e2
  subst e1 e2
  rw [bools_get hl] at hj
  have hadd : (⟨b, o, none⟩ : Addr).add j = ⟨b, o + j, none⟩ := by unfold Addr.add; split <;> simp_all
  rw [hadd, hat]
  exact hj
theorem ro_bls {w : World} {o : Nat → Nat} {L n : Nat} {t : TypeId} {v : Value} {G : List Bool} (h : Ro w o L t 1 v n (bools G)) (hn : G.length = n) : Bls w v G := by
  subst hn
  obtain ⟨A, C, rfl, hm⟩ := h.sl.is
  refine ⟨A, C, rfl, hm, fun k hk => ?_⟩
  obtain ⟨b, o, e, hc⟩ := h.sl.at (j := k) (by rw [Nat.mul_one]; exact hk)
  exact ⟨b, o, e, by rw [hc, bools_get hk]⟩
theorem row_re {w : World} {B : Nat} {v : Value} {xs : List Int} (h : Row w (ob B) 1 v xs) (o : Nat → Nat) (l : Nat) : Row w (relabel o B l) l v xs :=
  ⟨h.1, fun g hg => by
    have := h.2 g hg
    rcases Nat.lt_or_ge g B with h' | h'
    · rw [ob_low h'] at this; cases this
    · exact relabel_new h'⟩
/-- memory while boxes are gathered: the set bears 1, the list of boxes 2, the boxes 3 -/
structure CovM (w0 : World) (ns : List Nat) (o : Nat → Nat) (w : World) (vf vo : Value) (G : List Bool) (bs : List (List Nat × List Nat)) (us : List Value) : Prop where
  set_ : Ro w o 1 4 1 vf G.length (bools G)
  out : Ro w o 2 33 1 vo bs.length us
  box : ∀ k, k < bs.length → ∃ u, us[k]? = some u ∧ Ro w o 3 37 1 u ns.length (cxs (bs.getD k ([], [])).1 (bs.getD k ([], [])).2 ns.length)
  low : ∀ k, k < w0.heap.size → o k = 0
  bel : Below w0.heap.size w0 w
section
variable {w0 w w' : World} {ns : List Nat} {o o' : Nat → Nat} {vf vo : Value} {G : List Bool} {bs : List (List Nat × List Nat)} {us : List Value}
theorem CovM.kept (h : CovM w0 ns o w vf vo G bs us) (hb : Below w.heap.size w w') : CovM w0 ns (relabel o w.heap.size 3) w' vf vo G bs us := by
  have t : Turn (fun _ => False) w o w' (relabel o w.heap.size 3) := ⟨hb.os, hb.tape, hb.output, hb.size, fun k hk => relabel_old hk, fun k hk _ => hb.block k hk⟩
  refine ⟨h.set_.turn t (fun h => h), h.out.turn t (fun h => h), fun k hk => ?_, fun k hk => (relabel_old (Nat.lt_of_lt_of_le hk h.bel.size)).trans (h.low k hk), h.bel.trans (hb.mono h.bel.size)⟩
  obtain ⟨u, e, hr⟩ := h.box k hk
  exact ⟨u, e, hr.turn t (fun h => h)⟩
theorem CovM.clear (h : CovM w0 ns o w vf vo G bs us) {H : List Bool} (ht : Turn (· = 1) w o w' o) (hs : Ro w' o 1 4 1 vf H.length (bools H)) : CovM w0 ns o w' vf vo H bs us := by
  refine ⟨hs, h.out.turn ht (by decide), fun k hk => ?_, h.low, h.bel.trans (ht.below (fun k hk => by rw [h.low k hk]; decide) h.bel.size)⟩
  obtain ⟨u, e, hr⟩ := h.box k hk
  exact ⟨u, e, hr.turn ht (by decide)⟩
theorem CovM.add (h : CovM w0 ns o w vf vo G bs us) {b : List Nat × List Nat} {u vo' : Value} (hb : Ro w o 3 37 1 u ns.length (cxs b.1 b.2 ns.length)) (ht : Turn (· = 2) w o w' o') (hs : Ro w' o' 2 33 1 vo' (bs.length + 1) (us ++ [u])) : CovM w0 ns o' w' vf vo' G (bs ++ [b]) (us ++ [u]) := by
  have hul : us.length = bs.length := by have := h.out.length; rwa [Nat.mul_one] at this
  refine ⟨h.set_.turn ht (by decide), by rw [List.length_append]; exact hs, fun k hk => ?_, fun k hk => (ht.num k (Nat.lt_of_lt_of_le hk h.bel.size)).trans (h.low k hk), h.bel.trans (ht.below (fun k hk => by rw [h.low k hk]; decide) h.bel.size)⟩
  rw [List.length_append] at hk
  have hk : k < bs.length + 1 := hk
  by_cases e : k < bs.length
  · obtain ⟨x, e1, hr⟩ := h.box k e
    have e2 : (bs ++ [b]).getD k ([], []) = bs.getD k ([], []) := by rw [List.getD_eq_getElem?_getD, List.getD_eq_getElem?_getD, List.getElem?_append_left e]
    rw [e2]
    exact ⟨x, by rw [List.getElem?_append_left (by omega)]; exact e1, hr.turn ht (by decide)⟩
  · obtain rfl : k = bs.length := by omega
    have e2 : (bs ++ [b]).getD bs.length ([], []) = b := by rw [List.getD_eq_getElem?_getD, List.getElem?_append_right (Nat.le_refl _), Nat.sub_self]; rfl
    rw [e2]
    exact ⟨u, by rw [List.getElem?_append_right (by omega), hul, Nat.sub_self]; rfl, hb.turn ht (by decide)⟩
theorem CovM.bxs (h : CovM w0 ns o w vf vo G bs us) (hl : ∀ k, k < bs.length → (bs.getD k ([], [])).1.length = ns.length) : Bxs w vo bs := by
  obtain ⟨A, C, rfl, hm⟩ := h.out.sl.is
  refine ⟨A, C, rfl, hm, fun k hk => ?_⟩
  obtain ⟨u, e, hr⟩ := h.box k hk
  obtain ⟨b, q, e1, hc⟩ := h.out.sl.at (j := k) (by rw [Nat.mul_one]; exact hk)
  exact ⟨b, q, u, e1, hc.trans e, ro_cxs hr (hl k hk)⟩
end
theorem box_len {F : List Bool} {ns : List Nat} {i : Nat} : (boxL F ns i).1.length = ns.length := dg_len ns i
def RcPost (ns : List Nat) (F : List Bool) (w : World) (e : Ending) (w' : World) : Prop := ∃ r, e = .returned r ∧ Below w.heap.size w w' ∧ Bxs w' r (covL ns F.length 0 F)
theorem cov_len {ns : List Nat} : ∀ (n i : Nat) (F : List Bool), (covL ns n i F).length ≤ n
  | 0, _, _ => Nat.le_refl _
  | n + 1, i, F => by
    rw [covL]
    split
    · rw [List.length_cons]; exact Nat.succ_le_succ (cov_len n _ _)
    · exact Nat.le_succ_of_le (cov_len n _ _)
theorem cov_dim {ns : List Nat} : ∀ (n i : Nat) (F : List Bool), ∀ b ∈ covL ns n i F, b.1.length = ns.length
  | 0, _, _, b, hb => absurd hb List.not_mem_nil
  | n + 1, i, F, b, hb => by
    rw [covL] at hb
    split at hb
    · rcases List.mem_cons.1 hb with rfl | hb
      · exact box_len
      · exact cov_dim n _ _ b hb
    · exact cov_dim n _ _ b hb
theorem getD_memP {bs : List (List Nat × List Nat)} {k : Nat} (h : k < bs.length) : bs.getD k ([], []) ∈ bs := by
  rw [List.getD_eq_getElem?_getD, List.getElem?_eq_getElem h]
  exact List.getElem_mem _
set_option maxRecDepth 100000 in
set_option maxHeartbeats 3000000 in
theorem rcover_any (ns : List Nat) (F : List Bool) (v u : Value) (w : World) (h4 : prodL ns ≤ 4000) (hF : F.length = prodL ns) (hn : ns.length ≤ 1000) (h : Lst w v (zs ns)) (h2 : Bls w u F) : Calls Try.prog 15 #[v, u] w (RcPost ns F w) := by
  have HN := Lib.hid h
  have H4 := Lib.hid (And.intro h4 hF)
  obtain ⟨A, C, rfl, ha, _⟩ := h
  have HF := Lib.hid h2
  obtain ⟨A1, C1, rfl, ha1, _⟩ := h2
  rw [zs_len] at ha HN ⊢
  have hfl : F.length ≤ 4000 := by omega
  unfold RcPost
  obtain ⟨R, hR⟩ : ∃ R, R = covL ns F.length 0 F := ⟨_, rfl⟩
  have HR := Lib.hid hR
  rw [← hR]
  clear hR
  clear h4 hF
  go_enter Try.func15, Try.ntmps15
  go_upto_region 2 with (at_builtin; refine wpList_copyM rfl _ _ 40 4 1 1 (.bool false) rfl Try.underlying40 info_bool1 rfl (by decide) rfl A1 F.length C1 (bools F) rfl (by rw [bools_len, Nat.mul_one]) (bls_news HF.out rfl) (bools_cells _) (by omega) ha1 ?_; intro A5 C5 w1 hr1 hb1)
  have HC0 : Hid (CovM w ns (relabel (fun _ => 0) w.heap.size 1) w1 (.slice A5 F.length C5) (.slice none 0 0) F [] []) := Lib.hid ⟨ob_ro hr1 _ _, Ro.nil _ _ _ _ _, fun k hk => absurd hk (Nat.not_lt_zero _), fun k hk => relabel_old hk, hb1⟩
  clear hr1 hb1
  go_wp2_with fail
  go_loopg [6] F.length (fun k vo wr => ∃ (i : Nat) (G : List Bool) (bs : List (List Nat × List Nat)) (o : Nat → Nat) (us : List Value), k + i = F.length ∧ Hid (CovM w ns o wr (.slice A5 F.length C5) vo G bs us) ∧ Hid (G.length = F.length) ∧ Hid (∀ j, j < i → G.getD j false = false) ∧ Hid (bs ++ covL ns k i G = R))
  case atStart => exact ⟨0, F, [], _, [], by omega, HC0, Lib.hid rfl, Lib.hid (fun j hj => absurd hj (Nat.not_lt_zero _)), Lib.hid HR.out.symm⟩
  case round =>
    obtain ⟨i, G, bs, o, us, hk, HCM, HGL, HZ, HCV⟩ := hrel
    have HK := Lib.hid hk
    clear hk HC0
    obtain ⟨A6, C6, rfl, -⟩ := HCM.out.out.sl.is
    have HFI := Lib.hid (first_any ns G _ (.slice A5 F.length C5) wr H4.out.1 (HGL.out.trans H4.out.2) hn (HN.out.below HCM.out.bel) (ro_bls (by have := HCM.out.set_; rw [HGL.out] at this; exact this) HGL.out))
    unfold FirstPost at HFI
    obtain ⟨w2, hw2⟩ : ∃ x, x = wr := ⟨_, rfl⟩
    subst hw2
    go_upto_region 4 with (go_at_call 24; (with_reducible refine HFI.out.mono ?_); rintro e3 w3 ⟨hb3, h3⟩; rcases h3 with ⟨i2, hi2, hg2, hz2, r1, r2, rfl, hr1, hr2⟩ | ⟨hall, rfl⟩)
    · obtain ⟨L, hLd⟩ : ∃ L, L = witL ns (boxL G ns i2).1 (boxL G ns i2).2 [0] := ⟨_, rfl⟩
      rw [← hLd] at hr2
      have hpp : 0 < prodL ns := by have := H4.out.2; have := HGL.out; omega
      have hbx := boxL_bx (F := G) hpp i2
      have hin : i2 ∈ L := by rw [hLd]; exact box_self (by have := H4.out.2; have := HGL.out; omega)
      have hLp : 0 < L.length := List.length_pos_of_mem hin
      have hL4 : L.length ≤ 4000 := by
        have := hbx.wid
        rw [← hLd] at this
        have := wid_le hbx
        have := H4.out.1
        omega
      have hLne : ((L.length : Int) == 0) = false := by rw [beq_eq_false_iff_ne]; omega
      have HPL : Hid (∀ p ∈ L, p < F.length) := Lib.hid (fun p hp => by rw [H4.out.2]; exact hbx.lt (by rw [← hLd]; exact hp))
      have HLD := Lib.hid hLd
      have HI2 := Lib.hid (And.intro hi2 (And.intro hg2 hz2))
      have HCM3 := Lib.hid (HCM.out.kept hb3)
      have HRB := Lib.hid (ob_ro hr1 o 3)
      have HRW := Lib.hid (row_re hr2 o 3)
      obtain ⟨o3, ho3⟩ : ∃ x, x = relabel o w2.heap.size 3 := ⟨_, rfl⟩
      rw [← ho3] at HCM3 HRB HRW
      obtain ⟨A7, C7, rfl, -⟩ := hr1.sl.is
      obtain ⟨A8, C8, rfl⟩ := row_is hr2
      obtain ⟨go, hgo⟩ : ∃ x, x = gk := ⟨_, rfl⟩
      subst hgo
      clear hLd hbx hin hr1 hr2 ho3 hb3 hi2 hg2 hz2
      go_wp2_with fail
      go_loopg [9] L.length (fun k i wr => ∃ t : Nat, k + t = L.length ∧ i = .int .i64 t ∧ Hid (Ro wr o3 1 4 1 (.slice A5 F.length C5) F.length (bools (clr G (L.take t)))) ∧ Hid (Turn (· = 1) w3 o3 wr o3))
      case atStart => exact ⟨0, by omega, rfl, Lib.hid (by have := HCM3.out.set_; rw [HGL.out] at this; exact this), Lib.hid (Turn.refl _ _ _)⟩
      case round =>
        obtain ⟨t, hk, rfl, HS, HT⟩ := hrel
        have HK1 := Lib.hid hk
        have htn : t ≤ L.length := by omega
        clear hk
        by_cases hlt : t < L.length
        · have hp := HPL.out _ (getD_mem hlt)
          obtain ⟨b8, p8, rfl, a8⟩ := (HRW.out.turn HT.out (by decide)).lst.at (c := t) (by rw [zs_len]; exact hlt)
          rw [zs_get] at a8
          have hsn : clr G (L.take (t + 1)) = (clr G (L.take t)).set (L.getD t 0) false := by rw [take_getB hlt 0, clr_snoc]
          obtain ⟨p, hpd⟩ : ∃ p, p = L.getD t 0 := ⟨_, rfl⟩
          rw [← hpd] at a8 hp hsn
          obtain ⟨gf, cpf, cur, e1, -, -, h63, h64, h65⟩ := HS.out.form (by omega)
          injection e1 with e11 e12 e13
          subst e11 e13
          have ff := h64.1.frozen p
          obtain ⟨b5, q5, e2, c5⟩ := HS.out.sl.at (j := p) (by omega)
          injection e2 with e2
          injection e2 with e21 e22
          subst e21 e22
          rw [bools_get (by rw [clr_len, HGL.out]; exact hp), Nat.zero_add] at c5
          have hst := HS.out.store (j := p) (by omega) (.bool false)
          rw [bools_set, ← hsn] at hst
          have HST := Lib.hid hst
          have HTT := Lib.hid (HT.out.setCell (p := ⟨gf, p, none⟩) (.inr h64.2) (.bool false))
          clear hpd hsn hst h63 h64 h65
          go_wp2_with fail
          go_roundg (gk - 1)
          case measure => have := HK1.out; omega
          case rel => exact ⟨t + 1, by have := HK1.out; omega, by go_num, HST, HTT⟩
        · have hte : t = L.length := by omega
          subst hte
          have hs := HS.out
          rw [List.take_length] at hs
          have hgl : (clr G L).length = F.length := by rw [clr_len, HGL.out]
          have HCM4 := Lib.hid (HCM3.out.clear HT.out (by rw [hgl]; exact hs))
          have HRB4 := Lib.hid (HRB.out.turn HT.out (by decide))
          have hbsl : bs.length + 1 ≤ 5000 := by
            have h1 := HCV.out
            have h2 := congrArg List.length h1
            rw [List.length_append, HR.out] at h2
            have h3 := cov_len (ns := ns) F.length 0 F
            omega
          clear hs
          go_wp2_with (at_builtin; refine wpList_pushR rfl _ _ 25 33 1 24 (.slice none 0 0) rfl Try.underlying25 info_cxs rfl (by decide) o3 2 (.slice A6 bs.length C6) bs.length us rfl (HCM4.out.out.alloc _) ⟨wr.heap.size, 0, none⟩ 1 1 [.slice A7 ns.length C7] rfl rfl (news_cx _ _ _) (fun u hu => by rw [List.mem_singleton.1 hu]; rfl) (by decide) (by omega) (by unfold maxLen; omega) ?_; intro g9 cap9 w9 hr9 ht9 hlt9)
          have HCM5 := Lib.hid (HCM4.out.add (b := boxL G ns i2) HRB4.out (((Turn.refl (· = 2) _ _).alloc _).trans ht9) hr9)
          clear hr9 ht9
          go_roundg (F.length - (i2 + 1))
          case measure => have := HK.out; have := HI2.out.1; have := HGL.out; have hge : i ≤ i2 := Nat.le_of_not_lt (fun h => by have := HZ.out i2 h; rw [HI2.out.2.1] at this; cases this); omega
          case rel =>
            have hge : i ≤ i2 := Nat.le_of_not_lt (fun h => by have := HZ.out i2 h; rw [HI2.out.2.1] at this; cases this)
            have hi2 : i2 < F.length := by have := HI2.out.1; have := HGL.out; omega
            refine ⟨i2 + 1, clr G L, bs ++ [boxL G ns i2], _, _, by omega, HCM5, Lib.hid hgl, Lib.hid (by rw [HLD.out]; exact clr_low (by rw [← H4.out.2]; exact hi2) HI2.out.2.2), Lib.hid ?_⟩
            have h1 := HCV.out
            have e1 : go = (i2 - i) + (F.length - i2) := by have := HK.out; omega
            rw [e1, cov_skip ns G (i2 - i) (F.length - i2) i (fun j h1 h2 => HI2.out.2.2 j (by omega)), show i + (i2 - i) = i2 by omega, show F.length - i2 = (F.length - (i2 + 1)) + 1 by omega, cov_at ns G _ i2 HI2.out.2.1, ← HLD.out] at h1
            rw [List.append_assoc]
            exact h1
    · have hr := HCV.out
      rw [cov_none ns G _ i (fun j _ _ => hall j), List.append_nil] at hr
      have hbb := (HCM.out.kept hb3).bxs (fun k hk => cov_dim F.length 0 F _ (by rw [← HR.out, ← hr]; exact getD_memP hk))
      subst hr
      have HBB := Lib.hid hbb
      have HBL := Lib.hid (HCM.out.kept hb3).bel
      clear hbb
      go_wp2_with fail
      go_ret
      exact ⟨_, rfl, HBL.out, HBB.out⟩
end Go.Proofs.Ytlpoopmjgobnnaa
