/- Sweep: spans as complex numbers in memory; the document's small functions. -/
import Derived.Test.YtlpoopmjgobnnaaAh
import Derived.Test.YtlpoopmjgobnnaaAa
import Derived.Test.YtlpoopmjgobnnaaAd
import Derived.BigQuiet
set_option linter.unusedSimpArgs false
set_option linter.unusedVariables false
namespace Go.Proofs.Ytlpoopmjgobnnaa
open Go.RowKit

/-- a span -/
def cx (a b : Nat) : Value := .complex .f64 (fl a) (fl b)
/-- v reads as the box from lo to hi -/
def Cxs (w : World) (v : Value) (lo hi : List Nat) : Prop := ∃ A C, v = .slice A lo.length C ∧ lo.length ≤ maxLen ∧ ∀ k, k < lo.length → ∃ b o, A = some ⟨b, o, none⟩ ∧ w.cell? ⟨b, o + k, none⟩ = some (cx (lo.getD k 0) (hi.getD k 0))
/-- v reads as boxes -/
def Bxs (w : World) (v : Value) (bs : List (List Nat × List Nat)) : Prop := ∃ A C, v = .slice A bs.length C ∧ bs.length ≤ maxLen ∧ ∀ k, k < bs.length → ∃ b o u, A = some ⟨b, o, none⟩ ∧ w.cell? ⟨b, o + k, none⟩ = some u ∧ Cxs w u (bs.getD k ([], [])).1 (bs.getD k ([], [])).2
/-- v reads as a set -/
def Bls (w : World) (v : Value) (F : List Bool) : Prop := ∃ A C, v = .slice A F.length C ∧ F.length ≤ maxLen ∧ ∀ k, k < F.length → ∃ b o, A = some ⟨b, o, none⟩ ∧ w.cell? ⟨b, o + k, none⟩ = some (.bool (F.getD k false))
theorem Cxs.below {w w' : World} {v : Value} {lo hi : List Nat} (h : Cxs w v lo hi) (hb : Below w.heap.size w w') : Cxs w' v lo hi := by
  obtain ⟨A, C, h1, h2, h3⟩ := h
  refine ⟨A, C, h1, h2, fun k hk => ?_⟩
  obtain ⟨b, o, h4, h5⟩ := h3 k hk
  exact ⟨b, o, h4, (hb.cell (p := ⟨b, o + k, none⟩) (cell_lt h5)).trans h5⟩
theorem Bxs.below {w w' : World} {v : Value} {bs : List (List Nat × List Nat)} (h : Bxs w v bs) (hb : Below w.heap.size w w') : Bxs w' v bs := by
  obtain ⟨A, C, h1, h2, h3⟩ := h
  refine ⟨A, C, h1, h2, fun k hk => ?_⟩
  obtain ⟨b, o, u, h4, h5, h6⟩ := h3 k hk
  exact ⟨b, o, u, h4, (hb.cell (p := ⟨b, o + k, none⟩) (cell_lt h5)).trans h5, h6.below hb⟩
theorem Bls.below {w w' : World} {v : Value} {F : List Bool} (h : Bls w v F) (hb : Below w.heap.size w w') : Bls w' v F := by
  obtain ⟨A, C, h1, h2, h3⟩ := h
  refine ⟨A, C, h1, h2, fun k hk => ?_⟩
  obtain ⟨b, o, h4, h5⟩ := h3 k hk
  exact ⟨b, o, h4, (hb.cell (p := ⟨b, o + k, none⟩) (cell_lt h5)).trans h5⟩
theorem Cxs.at {w : World} {A : Option Addr} {n C : Nat} {lo hi : List Nat} (h : Cxs w (.slice A n C) lo hi) {k : Nat} (hk : k < lo.length) : ∃ b o, A = some ⟨b, o, none⟩ ∧ w.cell? ⟨b, o + k, none⟩ = some (cx (lo.getD k 0) (hi.getD k 0)) := by
  obtain ⟨A', C', h1, _, h3⟩ := h
  injection h1 with e1 e2 e3
  subst e1
  exact h3 k hk
theorem Bxs.at {w : World} {A : Option Addr} {n C : Nat} {bs : List (List Nat × List Nat)} (h : Bxs w (.slice A n C) bs) {k : Nat} (hk : k < bs.length) : ∃ b o u, A = some ⟨b, o, none⟩ ∧ w.cell? ⟨b, o + k, none⟩ = some u ∧ Cxs w u (bs.getD k ([], [])).1 (bs.getD k ([], [])).2 := by
  obtain ⟨A', C', h1, _, h3⟩ := h
  injection h1 with e1 e2 e3
  subst e1
  exact h3 k hk
theorem Bls.at {w : World} {A : Option Addr} {n C : Nat} {F : List Bool} (h : Bls w (.slice A n C) F) {k : Nat} (hk : k < F.length) : ∃ b o, A = some ⟨b, o, none⟩ ∧ w.cell? ⟨b, o + k, none⟩ = some (.bool (F.getD k false)) := by
  obtain ⟨A', C', h1, _, h3⟩ := h
  injection h1 with e1 e2 e3
  subst e1
  exact h3 k hk
/-- small spans -/
def Sml (lo hi : List Nat) : Prop := ∀ k, lo.getD k 0 < 100000 ∧ hi.getD k 0 < 100000
theorem fl_eq (a : Nat) (h : a < 100000) : (FloatKind.f64.format.order (fl a) (fl a) == some .eq) = true := by
  have := fl_order a a (by omega) (by omega)
  rw [show FloatKind.f64.format = Ieee.double from rfl, this, Int.compare_eq_eq.2 rfl]
  rfl
theorem of_any (a b : Nat) (ha : a < 100000) (hb : b < 100000) (w : World) : Calls Try.prog 12 #[.int .i64 a, .int .i64 b] w fun e w' => e = .returned (cx a b) ∧ w = w' := by
  have e1 := fl_of_int a (by omega)
  have e2 := fl_of_int b (by omega)
  unfold cx
  go_enter Try.func12, Try.ntmps12
  go_wp2
  go_ret
  exact ⟨rfl, rfl⟩
set_option maxHeartbeats 1000000 in
theorem same_cx (lo hi : List Nat) (v u : Value) (w : World) (hs : Sml lo hi) (h : Cxs w v lo hi) (h2 : Cxs w u lo hi) : Calls Try.prog 21 #[v, u] w fun e w' => e = .returned (.bool true) ∧ Below w.heap.size w w' := by
  have HI := Lib.hid h
  have HJ := Lib.hid h2
  have HS := Lib.hid hs
  obtain ⟨A, C, rfl, ha, _⟩ := h
  obtain ⟨A2, C2, rfl, hb, _⟩ := h2
  unfold maxLen at ha hb
  clear hs
  go_enter Try.func21, Try.ntmps21
  go_wp2_with fail
  go_loopg [5] lo.length (fun k i wr => ∃ t : Nat, k + t = lo.length ∧ i = .int .i64 t ∧ Hid (Below w.heap.size w wr))
  case atStart => exact ⟨0, by omega, rfl, Lib.hid (Below.refl _ _)⟩
  case round =>
    obtain ⟨t, hk, rfl, HB⟩ := hrel
    have HK := Lib.hid hk
    have htn : t ≤ lo.length := by omega
    clear hk
    by_cases hlt : t < lo.length
    · obtain ⟨b1, p1, rfl, a1⟩ := (HI.out.below HB.out).at hlt
      obtain ⟨b2, p2, rfl, a2⟩ := (HJ.out.below HB.out).at hlt
      have q1 := fl_eq _ (HS.out t).1
      have q2 := fl_eq _ (HS.out t).2
      obtain ⟨x, hx⟩ : ∃ x, x = lo.getD t 0 := ⟨_, rfl⟩
      obtain ⟨y, hy⟩ : ∃ y, y = hi.getD t 0 := ⟨_, rfl⟩
      rw [← hx] at a1 a2 q1
      rw [← hy] at a1 a2 q2
      clear hx hy
      unfold cx at a1 a2
      go_wp2_with fail
      go_quiet (fail)
      go_wp2_with fail
      go_roundg (gk - 1)
      case measure => have := HK.out; omega
      case rel => exact ⟨t + 1, by have := HK.out; omega, by go_num, Lib.hid (below_drewN HB.out _)⟩
    · obtain rfl : t = lo.length := by omega
      go_wp2_with fail
      go_ret
      exact ⟨rfl, HB.out⟩
set_option maxHeartbeats 1000000 in
theorem sameboxes_any (bs : List (List Nat × List Nat)) (v u : Value) (w : World) (hs : ∀ k, Sml (bs.getD k ([], [])).1 (bs.getD k ([], [])).2) (h : Bxs w v bs) (h2 : Bxs w u bs) : Calls Try.prog 8 #[v, u] w fun e w' => e = .returned (.bool true) ∧ Below w.heap.size w w' := by
  have HI := Lib.hid h
  have HJ := Lib.hid h2
  have HS := Lib.hid hs
  obtain ⟨A, C, rfl, ha, _⟩ := h
  obtain ⟨A2, C2, rfl, hb, _⟩ := h2
  unfold maxLen at ha hb
  clear hs
  go_enter Try.func8, Try.ntmps8
  go_wp2_with fail
  go_loopg [5] bs.length (fun k i wr => ∃ t : Nat, k + t = bs.length ∧ i = .int .i64 t ∧ Hid (Below w.heap.size w wr))
  case atStart => exact ⟨0, by omega, rfl, Lib.hid (Below.refl _ _)⟩
  case round =>
    obtain ⟨t, hk, rfl, HB⟩ := hrel
    have HK := Lib.hid hk
    have htn : t ≤ bs.length := by omega
    clear hk
    by_cases hlt : t < bs.length
    · obtain ⟨b1, p1, u1, rfl, a1, x1⟩ := (HI.out.below HB.out).at hlt
      obtain ⟨b2, p2, u2, rfl, a2, x2⟩ := (HJ.out.below HB.out).at hlt
      have HC := Lib.hid (fun W (hW : Below wr.heap.size wr W) => same_cx _ _ u1 u2 W (HS.out t) (x1.below hW) (x2.below hW))
      clear x1 x2
      go_wp2_with fail
      go_region_with (go_at_call 21; (with_reducible refine (HC.out _ (by (repeat' (first | (with_reducible exact Below.refl _ _) | (with_reducible assumption) | (with_reducible refine Below.drew ?_) | (with_reducible refine below_drewN ?_ _) | ((with_reducible refine Below.alloc ?_ ?_ _); rotate_left; focus (go_size; done)) | ((with_reducible refine Below.setCell ?_ ?_ _); rotate_left; focus (go_size; done)) | ((with_reducible refine Below.trans ?_ (Below.mono (by with_reducible assumption) ?_)); rotate_left; focus (go_size; done)))))).mono ?_); rintro _ w2 ⟨rfl, hb2⟩)
      all_goals (go_wp2_with fail)
      all_goals go_roundg (gk - 1)
      all_goals (first | (have := HK.out; omega) | exact ⟨t + 1, by have := HK.out; omega, by go_num, Lib.hid (HB.out.drew.trans (hb2.mono HB.out.size))⟩)
    · obtain rfl : t = bs.length := by omega
      go_wp2_with fail
      go_ret
      exact ⟨rfl, HB.out⟩
theorem prod_big {ns : List Nat} {t : Nat} (ht : t < ns.length) (hp : ∀ n ∈ ns, 0 < n) (h : 4000 < ns.getD t 0) : 4001 ≤ prodL ns := by
  have hm : ns.getD t 0 ∈ ns := by
    rw [List.getD_eq_getElem?_getD, List.getElem?_eq_getElem ht]
    exact List.getElem_mem _
  have := prod_ge hm (prod_pos hp)
  omega
theorem getD_mem {ns : List Nat} {t : Nat} (ht : t < ns.length) : ns.getD t 0 ∈ ns := by
  rw [List.getD_eq_getElem?_getD, List.getElem?_eq_getElem ht]
  exact List.getElem_mem _
theorem min_step (p n : Nat) (hn : 0 < n) : min (min p 4001 * n) 4001 = min (p * n) 4001 := by
  rcases Nat.le_total p 4001 with h | h
  · rw [Nat.min_eq_left h]
  · rw [Nat.min_eq_right h, Nat.min_eq_right (Nat.le_mul_of_pos_right _ hn), Nat.min_eq_right (Nat.le_trans h (Nat.le_mul_of_pos_right _ hn))]
set_option maxHeartbeats 1000000 in
theorem count_any (ns : List Nat) (v : Value) (w : World) (h : Lst w v (zs ns)) : Calls Try.prog 13 #[v] w fun e w' => e = .returned (.int .i64 (min (prodL ns) 4001 : Nat)) ∧ w = w' := by
  have HI := Lib.hid h
  obtain ⟨A, C, rfl, ha, _⟩ := h
  rw [zs_len] at ha ⊢
  unfold maxLen at ha
  go_enter Try.func13, Try.ntmps13
  go_wp2_with fail
  go_loopg [4] ns.length (fun k i wr => ∃ t : Nat, k + t = ns.length ∧ i = .int .i64 t ∧ w = wr ∧ Hid (∀ r, r < t → 0 < ns.getD r 0))
  case atStart => exact ⟨0, by omega, rfl, rfl, Lib.hid (fun r hr => absurd hr (Nat.not_lt_zero _))⟩
  case round =>
    obtain ⟨t, hk, rfl, rfl, HP⟩ := hrel
    have HK := Lib.hid hk
    have htn : t ≤ ns.length := by omega
    clear hk
    by_cases hlt : t < ns.length
    · obtain ⟨b1, p1, rfl, a1⟩ := HI.out.at (c := t) (by rw [zs_len]; exact hlt)
      rw [zs_get] at a1
      obtain ⟨x, hx⟩ : ∃ x, x = ns.getD t 0 := ⟨_, rfl⟩
      have HX := Lib.hid hx
      rw [← hx] at a1
      clear hx
      by_cases h0 : x = 0
      · subst h0
        have hp : Hid (prodL ns = 0) := Lib.hid (prod_zero (by rw [HX.out]; exact getD_mem hlt))
        go_wp2_with fail
        go_ret
        exact ⟨by rw [hp.out]; rfl, rfl⟩
      · have h1 : 0 < x := by omega
        go_wp2_with fail
        go_roundg (gk - 1)
        case measure => have := HK.out; omega
        case rel => exact ⟨t + 1, by have := HK.out; omega, by go_num, rfl, Lib.hid (fun r hr => by
          by_cases e : r = t
          · subst e; rw [← HX.out]; exact h1
          · exact HP.out r (by omega))⟩
    · obtain rfl : t = ns.length := by omega
      have hpos : ∀ n ∈ ns, 0 < n := fun n hn => by
        obtain ⟨r, hr, rfl⟩ := List.mem_iff_getElem.1 hn
        have := HP.out r hr
        rwa [List.getD_eq_getElem?_getD, List.getElem?_eq_getElem hr] at this
      have HPO := Lib.hid hpos
      clear HP HK hpos
      go_wp2_with fail
      go_loopg [3, 5] ns.length (fun k a i wr => ∃ t : Nat, k + t = ns.length ∧ a = .int .i64 (min (prodL (ns.take t)) 4001 : Nat) ∧ i = .int .i64 t ∧ w = wr)
      case atStart => exact ⟨0, by omega, rfl, rfl, rfl⟩
      case round =>
        obtain ⟨t, hk, rfl, rfl, rfl⟩ := hrel
        have HK := Lib.hid hk
        have htn : t ≤ ns.length := by omega
        clear hk
        by_cases hlt : t < ns.length
        · obtain ⟨b1, p1, rfl, a1⟩ := HI.out.at (c := t) (by rw [zs_len]; exact hlt)
          rw [zs_get] at a1
          obtain ⟨x, hx⟩ : ∃ x, x = ns.getD t 0 := ⟨_, rfl⟩
          have HX := Lib.hid hx
          rw [← hx] at a1
          clear hx
          obtain ⟨m, hm⟩ : ∃ m, m = min (prodL (ns.take t)) 4001 := ⟨_, rfl⟩
          have hm1 : m ≤ 4001 := by rw [hm]; exact Nat.min_le_right _ _
          have HM := Lib.hid hm
          rw [← hm]
          clear hm
          by_cases h4 : 4000 < x
          · have hp : Hid (min (prodL ns) 4001 = 4001) := Lib.hid (Nat.min_eq_right (prod_big hlt HPO.out (by rw [← HX.out]; exact h4)))
            go_wp2_with fail
            go_ret
            exact ⟨by rw [hp.out]; rfl, rfl⟩
          · have hx1 : x ≤ 4000 := by omega
            obtain ⟨y, hy⟩ : ∃ y, y = m * x := ⟨_, rfl⟩
            have hyi : (m : Int) * (x : Int) = (y : Int) := by rw [hy, Int.natCast_mul]
            have hyb : y ≤ 4001 * 4000 := by rw [hy]; exact Nat.mul_le_mul hm1 hx1
            have HY : Hid (min y 4001 = min (prodL (ns.take (t + 1))) 4001) := Lib.hid (by
              rw [hy, HM.out, prod_snoc hlt, ← HX.out, min_step _ _ (by rw [HX.out]; exact HPO.out _ (getD_mem hlt))])
            clear hy
            go_wp2_with fail
            · rename_i h9
              have hz : Hid ((4001 : Nat) = min (prodL (ns.take (t + 1))) 4001) := Lib.hid (by rw [← HY.out]; omega)
              go_roundg (gk - 1)
              case measure => have := HK.out; omega
              case rel => exact ⟨t + 1, by have := HK.out; omega, by rw [← hz.out]; rfl, by go_num, rfl⟩
            · rename_i h9
              have hz : Hid (y = min (prodL (ns.take (t + 1))) 4001) := Lib.hid (by rw [← HY.out]; omega)
              go_roundg (gk - 1)
              case measure => have := HK.out; omega
              case rel => exact ⟨t + 1, by have := HK.out; omega, by rw [← hz.out], by go_num, rfl⟩
        · obtain rfl : t = ns.length := by omega
          go_wp2_with fail
          go_ret
          exact ⟨by rw [List.take_length]; rfl, rfl⟩
theorem plZ_step {n : Nat} {ns : List Nat} {c : Int} {cs : List Int} {a : Nat} (h : 0 ≤ c ∧ c < (n : Int)) : plI (n :: ns) (c :: cs) a = plI ns cs (a * n + c.toNat) := by rw [plI, if_pos h]
theorem plZ_not {n : Nat} {ns : List Nat} {c : Int} {cs : List Int} {a : Nat} (h : ¬ (0 ≤ c ∧ c < (n : Int))) : plI (n :: ns) (c :: cs) a = none := by rw [plI, if_neg h]
theorem drop_at {α : Type} {l : List α} {t : Nat} (h : t < l.length) (d : α) : l.drop t = l.getD t d :: l.drop (t + 1) := by
  rw [List.drop_eq_getElem_cons h, List.getD_eq_getElem?_getD, List.getElem?_eq_getElem h]; rfl
theorem plI_zero : ∀ {ns : List Nat} {c : List Int} {a : Nat}, prodL ns = 0 → plI ns c a = none
  | [], c, a, h => by cases h
  | n :: ns, [], a, _ => rfl
  | n :: ns, c :: cs, a, h => by
    rw [plI]
    split
    · rename_i hc
      refine plI_zero ?_
      have h : n * prodL ns = 0 := h
      rcases Nat.mul_eq_zero.1 h with e | e
      · omega
      · exact e
    · rfl
theorem plI_none : ∀ {ns : List Nat} {c : List Int} {a : Nat}, c.length ≠ ns.length → plI ns c a = none := fun {ns c a} h => by
  cases hx : plI ns c a with
  | none => rfl
  | some p => exact absurd (plI_len hx) h
/-- how place goes on -/
structure PlS (ns : List Nat) (c : List Int) (R : Int) (t a : Nat) : Prop where
  go : (match plI (ns.drop t) (c.drop t) a with | some p => (p : Int) | none => -1) = R
  lt : 0 < prodL ns → a < prodL (ns.take t)
theorem PlS.start (ns : List Nat) (c : List Int) : PlS ns c (plZ ns c) 0 0 := ⟨rfl, fun _ => by show 0 < 1; decide⟩
theorem PlS.not {ns : List Nat} {c : List Int} {R : Int} {t a : Nat} (h : PlS ns c R t a) (hl : c.length = ns.length) (ht : t < ns.length) (hx : ¬ (0 ≤ c.getD t 0 ∧ c.getD t 0 < (ns.getD t 0 : Nat))) : R = -1 := by
  have := h.go
  rw [drop_at ht 0, drop_at (by omega : t < c.length) 0, plZ_not hx] at this
  exact this.symm
theorem PlS.step {ns : List Nat} {c : List Int} {R : Int} {t a : Nat} (h : PlS ns c R t a) (hl : c.length = ns.length) (ht : t < ns.length) (hx : 0 ≤ c.getD t 0 ∧ c.getD t 0 < (ns.getD t 0 : Nat)) : PlS ns c R (t + 1) (a * ns.getD t 0 + (c.getD t 0).toNat) := by
  refine ⟨?_, fun hp => ?_⟩
  · have := h.go
    rwa [drop_at ht 0, drop_at (by omega : t < c.length) 0, plZ_step hx] at this
  · have h1 := h.lt hp
    rw [prod_snoc ht]
    have h2 : (a + 1) * ns.getD t 0 ≤ prodL (ns.take t) * ns.getD t 0 := Nat.mul_le_mul_right _ h1
    rw [Nat.succ_mul] at h2
    omega
theorem PlS.done {ns : List Nat} {c : List Int} {R : Int} {a : Nat} (h : PlS ns c R ns.length a) (hl : c.length = ns.length) : R = a := by
  have := h.go
  rw [List.drop_length, ← hl, List.drop_length] at this
  exact this.symm
theorem take_le {ns : List Nat} (hp : 0 < prodL ns) (t : Nat) : prodL (ns.take t) ≤ prodL ns := by
  have e := prod_cut ns t
  have : 0 < prodL (ns.drop t) := by
    rcases Nat.eq_zero_or_pos (prodL (ns.drop t)) with e0 | e0
    · rw [e0, Nat.mul_zero] at e; omega
    · exact e0
  rw [e]
  exact Nat.le_mul_of_pos_right _ this
set_option maxHeartbeats 1000000 in
theorem rplace_any (ns : List Nat) (c : List Int) (v u : Value) (w : World) (hp : prodL ns ≤ 4000) (h : Lst w v (zs ns)) (h2 : Lst w u c) : Calls Try.prog 14 #[v, u] w fun e w' => e = .returned (.int .i64 (plZ ns c)) ∧ Below w.heap.size w w' := by
  have HI := Lib.hid h
  have HJ := Lib.hid h2
  obtain ⟨A, C, rfl, ha, _⟩ := h
  obtain ⟨A2, C2, rfl, hb, _⟩ := h2
  rw [zs_len] at ha ⊢
  unfold maxLen at ha hb
  obtain ⟨R, hR⟩ : ∃ R, R = plZ ns c := ⟨_, rfl⟩
  have HR := Lib.hid hR
  rw [← hR]
  clear hR
  by_cases hl : c.length = ns.length
  · have HL := Lib.hid hl
    rw [hl] at HJ hb ⊢
    clear hl
    by_cases hz : 0 < prodL ns
    · go_enter Try.func14, Try.ntmps14
      go_wp2_with fail
      go_loopg [5, 6] ns.length (fun k x i wr => ∃ t a : Nat, k + t = ns.length ∧ x = .int .i64 a ∧ i = .int .i64 t ∧ Hid (PlS ns c R t a) ∧ Hid (Below w.heap.size w wr))
      case atStart => exact ⟨0, 0, by omega, rfl, rfl, Lib.hid (by rw [HR.out]; exact PlS.start ns c), Lib.hid (Below.refl _ _)⟩
      case round =>
        obtain ⟨t, a, hk, rfl, rfl, HS, HB⟩ := hrel
        have HK := Lib.hid hk
        have htn : t ≤ ns.length := by omega
        clear hk
        by_cases hlt : t < ns.length
        · obtain ⟨b1, p1, rfl, a1⟩ := (HI.out.below HB.out).at (c := t) (by rw [zs_len]; exact hlt)
          obtain ⟨b2, p2, rfl, a2⟩ := (HJ.out.below HB.out).at (c := t) (by rw [HL.out]; exact hlt)
          rw [zs_get] at a1
          have hal := HS.out.lt hz
          have hst := prod_snoc hlt
          have htk := take_le hz (t + 1)
          obtain ⟨x, hx⟩ : ∃ x, x = ns.getD t 0 := ⟨_, rfl⟩
          obtain ⟨y, hy⟩ : ∃ y, y = c.getD t 0 := ⟨_, rfl⟩
          obtain ⟨P, hP⟩ : ∃ P, P = prodL (ns.take t) := ⟨_, rfl⟩
          rw [← hx] at a1 hst
          rw [← hy] at a2
          rw [← hP] at hst hal
          rw [hst] at htk
          have hax : a * x + x ≤ P * x := by have := Nat.mul_le_mul_right x hal; rwa [Nat.succ_mul] at this
          have hxy := Lib.hid (And.intro hx hy)
          have ho : a * x + x ≤ 4000 := by omega
          clear hx hy hP hst htk hax hal
          by_cases y0 : y < 0
          · have hr : R = -1 := HS.out.not HL.out hlt (by rw [← hxy.out.2]; omega)
            have d1 : decide (y < 0) = true := decide_eq_true y0
            go_wp2_with fail
            go_quiet (fail)
            go_wp2_with fail
            go_ret
            exact ⟨by rw [hr]; rfl, below_drewN HB.out _⟩
          · have d1 : decide (y < 0) = false := decide_eq_false y0
            by_cases y1 : (x : Int) ≤ y
            · have hr : R = -1 := HS.out.not HL.out hlt (by rw [← hxy.out.2, ← hxy.out.1]; omega)
              have d2 : decide ((x : Int) ≤ y) = true := decide_eq_true y1
              go_wp2_with fail
              go_quiet (fail)
              go_wp2_with fail
              go_ret
              exact ⟨by rw [hr]; rfl, below_drewN HB.out _⟩
            · have d2 : decide ((x : Int) ≤ y) = false := decide_eq_false y1
              obtain ⟨z, rfl⟩ : ∃ z : Nat, y = (z : Int) := ⟨y.toNat, by omega⟩
              have HS2 := Lib.hid (HS.out.step HL.out hlt (by rw [← hxy.out.2, ← hxy.out.1]; omega))
              rw [← hxy.out.2, ← hxy.out.1, Int.toNat_natCast] at HS2
              obtain ⟨q, hq⟩ : ∃ q, q = a * x := ⟨_, rfl⟩
              have hqi : (a : Int) * (x : Int) = (q : Int) := by rw [hq, Int.natCast_mul]
              rw [← hq] at HS2 ho
              clear hq
              go_wp2_with fail
              go_quiet (fail)
              go_wp2_with fail
              go_quiet (fail)
              go_wp2_with fail
              go_roundg (gk - 1)
              case measure => have := HK.out; omega
              case rel => exact ⟨t + 1, q + z, by have := HK.out; omega, by go_num, by go_num, HS2, Lib.hid (below_drewN HB.out _)⟩
        · obtain rfl : t = ns.length := by omega
          have hr := HS.out.done HL.out
          go_wp2_with fail
          go_ret
          exact ⟨by rw [hr]; rfl, HB.out⟩
    · have hr : R = -1 := by
        rw [HR.out]
        unfold plZ
        rw [plI_zero (by omega)]
      have HZ := Lib.hid hz
      clear hz
      subst hr
      go_enter Try.func14, Try.ntmps14
      go_wp2_with fail
      go_loopg [5, 6] ns.length (fun k x i wr => ∃ (t : Nat) (z : Int), k + t = ns.length ∧ x = .int .i64 z ∧ i = .int .i64 t ∧ Hid (∀ r, r < t → 0 < ns.getD r 0) ∧ Hid (Below w.heap.size w wr))
      case atStart => exact ⟨0, 0, by omega, rfl, rfl, Lib.hid (fun r hr => absurd hr (Nat.not_lt_zero _)), Lib.hid (Below.refl _ _)⟩
      case round =>
        obtain ⟨t, z, hk, rfl, rfl, HP, HB⟩ := hrel
        have HK := Lib.hid hk
        have htn : t ≤ ns.length := by omega
        clear hk
        by_cases hlt : t < ns.length
        · obtain ⟨b1, p1, rfl, a1⟩ := (HI.out.below HB.out).at (c := t) (by rw [zs_len]; exact hlt)
          obtain ⟨b2, p2, rfl, a2⟩ := (HJ.out.below HB.out).at (c := t) (by rw [HL.out]; exact hlt)
          rw [zs_get] at a1
          obtain ⟨x, hx⟩ : ∃ x, x = ns.getD t 0 := ⟨_, rfl⟩
          obtain ⟨y, hy⟩ : ∃ y, y = c.getD t 0 := ⟨_, rfl⟩
          rw [← hx] at a1
          rw [← hy] at a2
          have HX := Lib.hid hx
          clear hx hy
          by_cases y0 : y < 0
          · have d1 : decide (y < 0) = true := decide_eq_true y0
            go_wp2_with fail
            go_quiet (fail)
            go_wp2_with fail
            go_ret
            exact ⟨rfl, below_drewN HB.out _⟩
          · have d1 : decide (y < 0) = false := decide_eq_false y0
            by_cases y1 : (x : Int) ≤ y
            · have d2 : decide ((x : Int) ≤ y) = true := decide_eq_true y1
              go_wp2_with fail
              go_quiet (fail)
              go_wp2_with fail
              go_ret
              exact ⟨rfl, below_drewN HB.out _⟩
            · have d2 : decide ((x : Int) ≤ y) = false := decide_eq_false y1
              have HP2 : Hid (∀ r, r < t + 1 → 0 < ns.getD r 0) := Lib.hid (fun r hr => by
                by_cases e : r = t
                · subst e; rw [← HX.out]; omega
                · exact HP.out r (by omega))
              go_wp2_with fail
              go_quiet (fail)
              go_wp2_with fail
              go_quiet (fail)
              go_wp2_with fail
              go_roundg (gk - 1)
              case measure => have := HK.out; omega
              case rel => exact ⟨t + 1, _, by have := HK.out; omega, rfl, by go_num, HP2, Lib.hid (below_drewN HB.out _)⟩
        · obtain rfl : t = ns.length := by omega
          refine absurd (prod_pos fun n hn => ?_) HZ.out
          obtain ⟨r, hr, rfl⟩ := List.mem_iff_getElem.1 hn
          have := HP.out r hr
          rwa [List.getD_eq_getElem?_getD, List.getElem?_eq_getElem hr] at this
  · have hr : R = -1 := by
      rw [HR.out]
      unfold plZ
      rw [plI_none hl]
    have hne : ((c.length : Int) != (ns.length : Int)) = true := by rw [bne_iff_ne]; omega
    go_enter Try.func14, Try.ntmps14
    go_wp2_with fail
    go_ret
    exact ⟨by rw [hr]; rfl, Below.refl _ _⟩
set_option maxHeartbeats 1000000 in
theorem rall_any (F : List Bool) (l : List Nat) (v u : Value) (w : World) (h : Bls w v F) (h2 : Lst w u (zs l)) (hl : ∀ p ∈ l, p < F.length) : Calls Try.prog 31 #[v, u] w fun e w' => e = .returned (.bool (l.all fun p => F.getD p false)) ∧ Below w.heap.size w w' := by
  have HI := Lib.hid h
  have HJ := Lib.hid h2
  have HL := Lib.hid hl
  obtain ⟨A, C, rfl, ha, _⟩ := h
  obtain ⟨A2, C2, rfl, hb, _⟩ := h2
  rw [zs_len] at hb ⊢
  unfold maxLen at ha hb
  obtain ⟨R, hR⟩ : ∃ R, R = l.all fun p => F.getD p false := ⟨_, rfl⟩
  have HR := Lib.hid hR
  rw [← hR]
  clear hR hl
  go_enter Try.func31, Try.ntmps31
  go_wp2_with fail
  go_loopg [5] l.length (fun k i wr => ∃ t : Nat, k + t = l.length ∧ i = .int .i64 t ∧ Hid ((l.drop t).all (fun p => F.getD p false) = R) ∧ Hid (Below w.heap.size w wr))
  case atStart => exact ⟨0, by omega, rfl, Lib.hid HR.out.symm, Lib.hid (Below.refl _ _)⟩
  case round =>
    obtain ⟨t, hk, rfl, HS, HB⟩ := hrel
    have HK := Lib.hid hk
    have htn : t ≤ l.length := by omega
    clear hk
    by_cases hlt : t < l.length
    · obtain ⟨b2, p2, rfl, a2⟩ := (HJ.out.below HB.out).at (c := t) (by rw [zs_len]; exact hlt)
      rw [zs_get] at a2
      obtain ⟨x, hx⟩ : ∃ x, x = l.getD t 0 := ⟨_, rfl⟩
      have hxl : x < F.length := HL.out x (by rw [hx]; exact getD_mem hlt)
      obtain ⟨b1, p1, rfl, a1⟩ := (HI.out.below HB.out).at hxl
      rw [← hx] at a2
      have HS2 := HS.out
      rw [drop_at hlt 0, List.all_cons, ← hx] at HS2
      have HS3 := Lib.hid HS2
      clear hx HS2
      cases hF : F.getD x false with
      | true =>
        rw [hF] at a1 HS3
        go_wp2_with fail
        go_roundg (gk - 1)
        case measure => have := HK.out; omega
        case rel => exact ⟨t + 1, by have := HK.out; omega, by go_num, HS3, HB⟩
      | false =>
        rw [hF] at a1 HS3
        obtain rfl : false = R := HS3.out
        go_wp2_with fail
        go_ret
        exact ⟨rfl, HB.out⟩
    · obtain rfl : t = l.length := by omega
      have hr := HS.out
      rw [List.drop_length] at hr
      obtain rfl : true = R := hr
      go_wp2_with fail
      go_ret
      exact ⟨rfl, HB.out⟩
end Go.Proofs.Ytlpoopmjgobnnaa
