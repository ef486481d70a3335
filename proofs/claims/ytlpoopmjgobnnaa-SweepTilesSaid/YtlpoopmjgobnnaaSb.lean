/- Plane, the program's: a box's size and cells; the same ints. -/
import Derived.Test.YtlpoopmjgobnnaaSa
set_option linter.unusedSimpArgs false
set_option linter.unusedVariables false
namespace Go.Proofs.Ytlpoopmjgobnnaa
open Go.RowKit

/-- the box has the cell -/
def hasB (lo hi : List Nat) (c : List Int) : Bool := (List.range lo.length).all fun k => decide (((lo.getD k 0 : Nat) : Int) ≤ c.getD k 0 ∧ c.getD k 0 < ((hi.getD k 0 : Nat) : Int))
def Fit (lo hi : List Nat) : Prop := lo.length = hi.length ∧ ∀ k, k < lo.length → lo.getD k 0 < hi.getD k 0 ∧ hi.getD k 0 ≤ 4000
theorem Bx.fit {ns lo hi : List Nat} (h : Bx ns lo hi) (hp : 0 < prodL ns) (h4 : prodL ns ≤ 4000) : Fit lo hi := by
  obtain ⟨e1, e2⟩ := h.lens
  refine ⟨e1, fun k hk => ?_⟩
  have h1 := (lts_iff.1 h.1).2 k hk
  have h2 := (les_iff.1 h.2).2 k (by omega)
  have h3 := prod_ge (getD_mem (ns := ns) (t := k) (by omega)) hp
  exact ⟨h1, by omega⟩
set_option maxHeartbeats 1000000 in
theorem box_any (lo hi : List Nat) (bv : Value) (w : World) (h : Fit lo hi) (h8 : lo.length ≤ 8) (hc : Cxs w bv lo hi) : Calls Try.prog 22 #[bv] w fun e w' => e = .returned (.bool true) ∧ w = w' := by
  have HC := Lib.hid hc
  have HF := Lib.hid h
  obtain ⟨A, C, rfl, hm, -⟩ := hc
  clear h
  go_enter Try.func22, Try.ntmps22
  go_wp2_with fail
  go_loopg [7] lo.length (fun k i wr => ∃ t : Nat, k + t = lo.length ∧ i = .int .i64 t ∧ w = wr)
  case atStart => exact ⟨0, by omega, rfl, rfl⟩
  case round =>
    obtain ⟨t, hk, rfl, rfl⟩ := hrel
    have HK := Lib.hid hk
    have htn : t ≤ lo.length := by omega
    clear hk
    by_cases hlt : t < lo.length
    · obtain ⟨b1, p1, rfl, a1⟩ := HC.out.at hlt
      have HS := Lib.hid (span_any _ _ (HF.out.2 t hlt).1 (HF.out.2 t hlt).2 w)
      obtain ⟨x, hx⟩ : ∃ x, x = lo.getD t 0 := ⟨_, rfl⟩
      obtain ⟨y, hy⟩ : ∃ x, x = hi.getD t 0 := ⟨_, rfl⟩
      rw [← hx, ← hy] at a1 HS
      clear hx hy
      go_wp2_with (go_at_call 29; (with_reducible refine HS.out.mono ?_); rintro _ _ ⟨rfl, rfl⟩)
      go_roundg (gk - 1)
      case measure => have := HK.out; omega
      case rel => exact ⟨t + 1, by have := HK.out; omega, by go_num, rfl⟩
    · have q : decide ((lo.length : Int) ≤ 8) = true := decide_eq_true (by omega)
      go_wp2_with fail
      go_ret
      exact ⟨ret_bool (by simp), rfl⟩
theorem wid_pos : ∀ {lo hi : List Nat}, Fit lo hi → 0 < widL lo hi
  | [], _, _ => Nat.one_pos
  | l :: lo, [], h => by have := h.1; cases this
  | l :: lo, x :: hi, h => by
    refine Nat.mul_pos ?_ (wid_pos ⟨by have := h.1; simpa using this, fun k hk => h.2 (k + 1) (by simpa using hk)⟩)
    have := (h.2 0 (by simp)).1
    show 0 < x - l
    exact Nat.sub_pos_of_lt this
theorem wid_drop : ∀ {lo hi : List Nat} {t : Nat}, lo.length = hi.length → t < lo.length → widL (lo.drop t) (hi.drop t) = (hi.getD t 0 - lo.getD t 0) * widL (lo.drop (t + 1)) (hi.drop (t + 1))
  | l :: lo, x :: hi, 0, _, _ => rfl
  | l :: lo, x :: hi, t + 1, h, ht => by
    have h2 : lo.length = hi.length := by simpa using h
    have h3 : t < lo.length := by simpa using ht
    exact wid_drop (lo := lo) (hi := hi) (t := t) h2 h3
  | [], _, _, _, ht => absurd ht (Nat.not_lt_zero _)
  | _ :: _, [], _, h, _ => by cases h
theorem fit_drop {lo hi : List Nat} (h : Fit lo hi) (t : Nat) : Fit (lo.drop t) (hi.drop t) := by
  refine ⟨by rw [List.length_drop, List.length_drop, h.1], fun k hk => ?_⟩
  rw [List.length_drop] at hk
  have := h.2 (t + k) (by omega)
  simp only [List.getD_eq_getElem?_getD, List.getElem?_drop] at this ⊢
  exact this
set_option maxHeartbeats 1000000 in
theorem size_any (lo hi : List Nat) (bv : Value) (w : World) (h : Fit lo hi) (h8 : lo.length ≤ 8) (h4 : widL lo hi ≤ 4000) (hc : Cxs w bv lo hi) : Calls Try.prog 9 #[bv] w fun e w' => e = .returned (.tuple #[.int .i64 (widL lo hi : Nat), .int .i64 0]) ∧ w = w' := by
  have HC := Lib.hid hc
  have HF := Lib.hid h
  have HBX := Lib.hid (box_any lo hi bv w h h8 hc)
  obtain ⟨A, C, rfl, hm, -⟩ := hc
  obtain ⟨P, hP⟩ : ∃ P, P = widL lo hi := ⟨_, rfl⟩
  rw [← hP] at h4 ⊢
  have HP := Lib.hid hP
  clear h hP
  go_enter Try.func9, Try.ntmps9
  go_wp2_with (go_at_call 22; (with_reducible refine HBX.out.mono ?_); rintro _ _ ⟨rfl, rfl⟩)
  go_loopg [4, 12] lo.length (fun k n i wr => ∃ t m : Nat, k + t = lo.length ∧ i = .int .i64 t ∧ n = .int .i64 m ∧ Hid (m * widL (lo.drop t) (hi.drop t) = P) ∧ w = wr)
  case atStart => exact ⟨0, 1, by omega, rfl, rfl, Lib.hid (by rw [List.drop_zero, List.drop_zero, Nat.one_mul, HP.out]), rfl⟩
  case round =>
    obtain ⟨t, m, hk, rfl, rfl, HM, rfl⟩ := hrel
    have HK := Lib.hid hk
    have htn : t ≤ lo.length := by omega
    clear hk
    by_cases hlt : t < lo.length
    · obtain ⟨b1, p1, rfl, a1⟩ := HC.out.at hlt
      have HS := Lib.hid (width_any _ _ (Nat.le_of_lt (HF.out.2 t hlt).1) (HF.out.2 t hlt).2 w)
      have hnx := HM.out
      rw [wid_drop HF.out.1 hlt, ← Nat.mul_assoc] at hnx
      have hle : m * (hi.getD t 0 - lo.getD t 0) ≤ P := by
        rw [← hnx]
        exact Nat.le_mul_of_pos_right _ (wid_pos (fit_drop HF.out (t + 1)))
      obtain ⟨x, hx⟩ : ∃ x, x = lo.getD t 0 := ⟨_, rfl⟩
      obtain ⟨y, hy⟩ : ∃ x, x = hi.getD t 0 := ⟨_, rfl⟩
      rw [← hx, ← hy] at a1 HS hnx hle
      clear hx hy
      obtain ⟨d, hd⟩ : ∃ d, d = y - x := ⟨_, rfl⟩
      rw [← hd] at HS hnx hle
      have hcast : (m : Int) * (d : Int) = ((m * d : Nat) : Int) := (Int.natCast_mul _ _).symm
      obtain ⟨z, hz⟩ : ∃ z, z = m * d := ⟨_, rfl⟩
      rw [← hz] at hcast hnx hle
      have HNX := Lib.hid hnx
      clear hd hz hnx
      go_wp2_with (go_at_call 23; (with_reducible refine HS.out.mono ?_); rintro _ _ ⟨rfl, rfl⟩)
      go_roundg (gk - 1)
      case measure => have := HK.out; omega
      case rel => exact ⟨t + 1, z, by have := HK.out; omega, by go_num, by rw [← hcast], HNX, rfl⟩
    · have hte : t = lo.length := by omega
      subst hte
      have hm2 := HM.out
      rw [List.drop_length, show widL [] (hi.drop lo.length) = 1 from rfl, Nat.mul_one] at hm2
      subst hm2
      go_wp2_with fail
      go_ret2
      exact ⟨rfl, rfl⟩
theorem has_all {lo hi : List Nat} {c : List Int} (h : ∀ k, k < lo.length → ((lo.getD k 0 : Nat) : Int) ≤ c.getD k 0 ∧ c.getD k 0 < ((hi.getD k 0 : Nat) : Int)) : hasB lo hi c = true :=
  List.all_eq_true.2 fun k hk => decide_eq_true (h k (List.mem_range.1 hk))
theorem has_no {lo hi : List Nat} {c : List Int} {k : Nat} (hk : k < lo.length) (h : c.getD k 0 < ((lo.getD k 0 : Nat) : Int) ∨ ((hi.getD k 0 : Nat) : Int) ≤ c.getD k 0) : hasB lo hi c = false := by
  unfold hasB
  rw [List.all_eq_false]
  exact ⟨k, List.mem_range.2 hk, by rw [decide_eq_true_iff]; omega⟩
set_option maxHeartbeats 1000000 in
theorem holds_any (lo hi : List Nat) (c : List Int) (bv u : Value) (w : World) (h : Fit lo hi) (h8 : lo.length ≤ 8) (hl : c.length = lo.length) (hc : Cxs w bv lo hi) (h2 : Lst w u c) : Calls Try.prog 10 #[bv, u] w fun e w' => e = .returned (.tuple #[.bool (hasB lo hi c), .int .i64 0]) ∧ w = w' := by
  have HC := Lib.hid hc
  have HF := Lib.hid h
  have HL := Lib.hid h2
  have HBX := Lib.hid (box_any lo hi bv w h h8 hc)
  obtain ⟨A, C, rfl, hm, -⟩ := hc
  obtain ⟨A1, C1, rfl, hm1, -⟩ := h2
  obtain ⟨P, hP⟩ : ∃ P, P = hasB lo hi c := ⟨_, rfl⟩
  rw [← hP]
  rw [hl] at HL hm1 ⊢
  have HP := Lib.hid hP
  have HCL := Lib.hid hl
  clear h hP hl
  go_enter Try.func10, Try.ntmps10
  go_wp2_with (go_at_call 22; (with_reducible refine HBX.out.mono ?_); rintro _ _ ⟨rfl, rfl⟩)
  go_loopg [18] lo.length (fun k i wr => ∃ t : Nat, k + t = lo.length ∧ i = .int .i64 t ∧ Hid (∀ k, k < t → ((lo.getD k 0 : Nat) : Int) ≤ c.getD k 0 ∧ c.getD k 0 < ((hi.getD k 0 : Nat) : Int)) ∧ w = wr)
  case atStart => exact ⟨0, by omega, rfl, Lib.hid (fun k hk => absurd hk (Nat.not_lt_zero _)), rfl⟩
  case round =>
    obtain ⟨t, hk, rfl, HM, rfl⟩ := hrel
    have HK := Lib.hid hk
    have htn : t ≤ lo.length := by omega
    clear hk
    by_cases hlt : t < lo.length
    · obtain ⟨b1, p1, rfl, a1⟩ := HC.out.at hlt
      obtain ⟨b2, p2, rfl, a2⟩ := HL.out.at (c := t) (by rw [HCL.out]; exact hlt)
      have hf := HF.out.2 t hlt
      obtain ⟨x, hx⟩ : ∃ x, x = lo.getD t 0 := ⟨_, rfl⟩
      obtain ⟨y, hy⟩ : ∃ x, x = hi.getD t 0 := ⟨_, rfl⟩
      obtain ⟨z, hz⟩ : ∃ x, x = c.getD t 0 := ⟨_, rfl⟩
      rw [← hx, ← hy] at a1 hf
      rw [← hz] at a2
      have HXYZ := Lib.hid (And.intro hx (And.intro hy hz))
      have e1 := conv_fl x (by omega)
      have e2 := conv_fl y (by omega)
      unfold cx at a1
      clear hx hy hz
      by_cases h1 : z < (x : Int)
      · have hb : P = false := by
          rw [HP.out]
          exact has_no hlt (.inl (by rw [← HXYZ.out.1, ← HXYZ.out.2.2]; exact h1))
        subst hb
        go_wp2_with (first | simp only [e1] | simp only [e2])
        go_ret2
        exact ⟨rfl, rfl⟩
      · by_cases h3 : (y : Int) ≤ z
        · have hb : P = false := by
            rw [HP.out]
            exact has_no hlt (.inr (by rw [← HXYZ.out.2.1, ← HXYZ.out.2.2]; exact h3))
          subst hb
          go_wp2_with (first | simp only [e1] | simp only [e2])
          go_ret2
          exact ⟨rfl, rfl⟩
        · have HM2 : Hid (∀ k, k < t + 1 → ((lo.getD k 0 : Nat) : Int) ≤ c.getD k 0 ∧ c.getD k 0 < ((hi.getD k 0 : Nat) : Int)) := Lib.hid (fun k hk => by
            by_cases e : k = t
            · subst e
              rw [← HXYZ.out.1, ← HXYZ.out.2.1, ← HXYZ.out.2.2]
              omega
            · exact HM.out k (by omega))
          go_wp2_with (first | simp only [e1] | simp only [e2])
          go_roundg (gk - 1)
          case measure => have := HK.out; omega
          case rel => exact ⟨t + 1, by have := HK.out; omega, by go_num, HM2, rfl⟩
    · have hb : P = true := by
        rw [HP.out]
        exact has_all fun k hk => HM.out k (by omega)
      subst hb
      go_wp2_with fail
      go_ret2
      exact ⟨rfl, rfl⟩
theorem list_eqI {xs ys : List Int} (hl : xs.length = ys.length) (h : ∀ c, c < xs.length → xs.getD c 0 = ys.getD c 0) : xs = ys := by
  refine List.ext_getElem hl fun i h1 h2 => ?_
  have := h i h1
  rwa [List.getD_eq_getElem?_getD, List.getD_eq_getElem?_getD, List.getElem?_eq_getElem h1, List.getElem?_eq_getElem h2] at this
theorem bool_neI {x y : Int} (h : x ≠ y) : (x != y) = true := by simpa using h
theorem bool_nneI {x y : Int} (h : x = y) : (x != y) = false := by simpa using h
set_option maxHeartbeats 1000000 in
theorem sameints_any (a b : Value) (xs ys : List Int) (w : World) (ha : Lst w a xs) (hb : Lst w b ys) :
    Calls Try.prog 11 #[a, b] w fun e w' => e = .returned (.bool (decide (xs = ys))) ∧ ∃ nn, w' = w.drewN nn := by
  have HA := Lib.hid ha
  have HB := Lib.hid hb
  obtain ⟨A, C, rfl, a2⟩ := ha.is
  obtain ⟨B, D, rfl, b2⟩ := hb.is
  unfold maxLen at a2 b2
  clear ha hb
  by_cases hl : xs.length = ys.length
  · have hle : ((xs.length : Int) != (ys.length : Int)) = false := bool_nneI (by omega)
    have HL := Lib.hid hl
    have hle2 : xs.length ≤ ys.length := by omega
    clear hl
    go_enter Try.func11, Try.ntmps11
    go_wp2_with fail
    go_loopg [5] xs.length (fun k i wr => ∃ t nn : Nat, k + t = xs.length ∧ i = .int .i64 t ∧ Hid (∀ c, c < t → xs.getD c 0 = ys.getD c 0) ∧ wr = w.drewN nn)
    case atStart => exact ⟨0, 0, by omega, rfl, Lib.hid (fun c hc => absurd hc (Nat.not_lt_zero _)), rfl⟩
    case round =>
      obtain ⟨t, nn, hk, rfl, HE, rfl⟩ := hrel
      have HK := Lib.hid hk
      have htn : t ≤ xs.length := by omega
      clear hk
      by_cases hlt : t < xs.length
      · obtain ⟨g, o, rfl, hx⟩ := (HA.out.drewN nn).at hlt
        obtain ⟨g2, o2, rfl, hy⟩ := (HB.out.drewN nn).at (show t < ys.length by omega)
        have t0 : (0 : Int) ≤ (t : Int) := by omega
        have t1 : (t : Int) < (xs.length : Int) := by omega
        have t2 : (t : Int) < (ys.length : Int) := by omega
        obtain ⟨x, hx'⟩ : ∃ x, x = xs.getD t 0 := ⟨_, rfl⟩
        obtain ⟨y, hy'⟩ : ∃ y, y = ys.getD t 0 := ⟨_, rfl⟩
        rw [← hx'] at hx
        rw [← hy'] at hy
        have HX := Lib.hid hx'
        have HY := Lib.hid hy'
        clear hx' hy'
        obtain ⟨W, hW⟩ : ∃ W, W = w.drewN nn := ⟨_, rfl⟩
        rw [← hW] at hx hy ⊢
        have HW := Lib.hid hW
        clear hW
        by_cases hxy : x = y
        · have hn := bool_nneI hxy
          have HXY := Lib.hid hxy
          clear hxy
          go_wp2_with fail
          go_quiet (fail)
          go_wp2_with fail
          go_roundg (gk - 1)
          case measure => have := HK.out; omega
          case rel =>
            refine ⟨t + 1, _, by have := HK.out; omega, by go_num, Lib.hid fun c hc => ?_, by rw [HW.out, World.drewN_drewN]⟩
            by_cases e : c = t
            · subst e; rw [← HX.out, ← HY.out]; exact HXY.out
            · exact HE.out c (by omega)
        · have hn := bool_neI hxy
          have e : decide (xs = ys) = false := by
            rw [decide_eq_false_iff_not]
            rintro rfl
            exact hxy (HX.out.trans HY.out.symm)
          have E := Lib.hid e
          clear hxy e
          go_wp2_with fail
          go_quiet (fail)
          go_wp2_with fail
          go_ret
          exact ⟨ret_bool E.out.symm, _, by rw [HW.out, World.drewN_drewN]⟩
      · have e : decide (xs = ys) = true := by
          rw [decide_eq_true_iff]
          exact list_eqI HL.out fun c hc => HE.out c (by omega)
        have E := Lib.hid e
        clear e
        go_wp2_with fail
        go_ret
        exact ⟨ret_bool E.out.symm, _, rfl⟩
  · have hle : ((xs.length : Int) != (ys.length : Int)) = true := bool_neI (by omega)
    have e : decide (xs = ys) = false := by
      rw [decide_eq_false_iff_not]
      rintro rfl
      exact hl rfl
    have E := Lib.hid e
    clear hl e
    go_enter Try.func11, Try.ntmps11
    go_wp2_with fail
    go_ret
    exact ⟨ret_bool E.out.symm, 0, rfl⟩
end Go.Proofs.Ytlpoopmjgobnnaa
