/- Sweep, the program's: whether a number is negative or nought; the grid; the place of a cell; the cell at a place. -/
import Derived.Test.YtlpoopmjgobnnaaAn
set_option linter.unusedSimpArgs false
set_option linter.unusedVariables false
namespace Go.Proofs.Ytlpoopmjgobnnaa
open Go.RowKit

theorem closure_neg (x : Int) (w : World) : Calls Try.prog 17 #[.int .i64 x] w fun e w' => e = .returned (.bool (decide (x < 0))) ∧ w = w' := by
  go_enter Try.func17, Try.ntmps17
  go_wp2
  go_ret
  exact ⟨rfl, rfl⟩
set_option maxHeartbeats 1000000 in
theorem idxneg_any (ds : List Int) (v : Value) (w : World) (h : Lst w v ds) : Calls Try.prog 25 #[v, .func (.func 17) #[] #[]] w fun e w' => w = w' ∧ ((∃ k : Nat, e = .returned (.int .i64 k) ∧ ∃ d ∈ ds, d < 0) ∨ (e = .returned (.int .i64 (-1)) ∧ ¬ ∃ d ∈ ds, d < 0)) := by
  have HN := Lib.hid h
  obtain ⟨A, C, rfl, ha, _⟩ := h
  unfold maxLen at ha
  go_enter Try.func25, Try.ntmps25
  go_wp2_with fail
  go_loopg [8] ds.length (fun k i wr => ∃ t : Nat, k + t = ds.length ∧ i = .int .i64 t ∧ Hid (∀ r, r < t → 0 ≤ ds.getD r 0) ∧ w = wr)
  case atStart => exact ⟨0, by omega, rfl, Lib.hid (fun r hr => absurd hr (Nat.not_lt_zero _)), rfl⟩
  case round =>
    obtain ⟨t, hk, rfl, HP, rfl⟩ := hrel
    have HK := Lib.hid hk
    have htn : t ≤ ds.length := by omega
    clear hk
    by_cases hlt : t < ds.length
    · obtain ⟨b1, p1, rfl, a1⟩ := HN.out.at hlt
      have hmem := gD_mem hlt
      obtain ⟨x, hx⟩ : ∃ x, x = ds.getD t 0 := ⟨_, rfl⟩
      have HXX := Lib.hid hx
      rw [← hx] at a1 hmem
      clear hx
      by_cases h0 : x < 0
      · have HM := Lib.hid (show ∃ d ∈ ds, d < 0 from ⟨x, hmem, h0⟩)
        have d1 : decide (x < 0) = true := decide_eq_true h0
        clear hmem
        go_wp2_with (go_at_call 17; (with_reducible refine (closure_neg _ _).mono ?_); rintro _ _ ⟨rfl, rfl⟩)
        go_ret
        exact ⟨rfl, .inl ⟨t, rfl, HM.out⟩⟩
      · have HP2 : Hid (∀ r, r < t + 1 → 0 ≤ ds.getD r 0) := Lib.hid (fun r hr => by
          by_cases e : r = t
          · subst e; rw [← HXX.out]; omega
          · exact HP.out r (by omega))
        have d1 : decide (x < 0) = false := decide_eq_false h0
        clear hmem
        go_wp2_with (go_at_call 17; (with_reducible refine (closure_neg _ _).mono ?_); rintro _ _ ⟨rfl, rfl⟩)
        go_roundg (gk - 1)
        case measure => have := HK.out; omega
        case rel => exact ⟨t + 1, by have := HK.out; omega, by go_num, HP2, rfl⟩
    · obtain rfl : t = ds.length := by omega
      have HM : Hid (¬ ∃ d ∈ ds, d < 0) := Lib.hid (by
        rintro ⟨d, hd, hneg⟩
        obtain ⟨r, hr, rfl⟩ := List.mem_iff_getElem.1 hd
        have := HP.out r hr
        rw [List.getD_eq_getElem?_getD, List.getElem?_eq_getElem hr] at this
        exact absurd this (by show ¬ (0 ≤ ds[r]); omega))
      go_wp2_with fail
      go_ret
      exact ⟨rfl, .inr ⟨rfl, HM.out⟩⟩
open Classical in
theorem hasneg_any (ds : List Int) (v : Value) (w : World) (h : Lst w v ds) : Calls Try.prog 16 #[v, .func (.func 17) #[] #[]] w fun e w' => e = .returned (.bool (decide (∃ d ∈ ds, d < 0))) ∧ w = w' := by
  have HI := Lib.hid (idxneg_any ds v w h)
  obtain ⟨A, C, rfl, ha, _⟩ := h
  by_cases hx : ∃ d ∈ ds, d < 0
  · rw [decide_eq_true hx]
    have HI2 := Lib.hid (HI.out.mono (R' := fun e w' => (∃ k : Nat, e = .returned (.int .i64 k)) ∧ w = w') (by
      rintro e w' ⟨rfl, ⟨k, rfl, -⟩ | ⟨-, hh⟩⟩
      · exact ⟨⟨k, rfl⟩, rfl⟩
      · exact absurd hx hh))
    clear hx HI
    go_enter Try.func16, Try.ntmps16
    go_wp2_with (go_at_call 25; (with_reducible refine HI2.out.mono ?_); rintro _ _ ⟨⟨k, rfl⟩, rfl⟩)
    go_ret
    exact ⟨rfl, rfl⟩
  · rw [decide_eq_false hx]
    have HI2 := Lib.hid (HI.out.mono (R' := fun e w' => e = .returned (.int .i64 (-1)) ∧ w = w') (by
      rintro e w' ⟨rfl, ⟨k, rfl, hh⟩ | ⟨rfl, -⟩⟩
      · exact absurd hh hx
      · exact ⟨rfl, rfl⟩))
    clear hx HI
    go_enter Try.func16, Try.ntmps16
    go_wp2_with (go_at_call 25; (with_reducible refine HI2.out.mono ?_); rintro _ _ ⟨rfl, rfl⟩)
    go_ret
    exact ⟨rfl, rfl⟩
set_option maxHeartbeats 1000000 in
theorem idxzero_any (ns : List Nat) (v : Value) (w : World) (h : Lst w v (zs ns)) : Calls Try.prog 33 #[v, .int .i64 0] w fun e w' => w = w' ∧ ((∃ k : Nat, e = .returned (.int .i64 k) ∧ prodL ns = 0) ∨ (e = .returned (.int .i64 (-1)) ∧ 0 < prodL ns)) := by
  have HN := Lib.hid h
  obtain ⟨A, C, rfl, ha, _⟩ := h
  rw [zs_len] at ha HN ⊢
  unfold maxLen at ha
  go_enter Try.func33, Try.ntmps33
  go_wp2_with fail
  go_loopg [8] ns.length (fun k i wr => ∃ t : Nat, k + t = ns.length ∧ i = .int .i64 t ∧ Hid (∀ r, r < t → 0 < ns.getD r 0) ∧ w = wr)
  case atStart => exact ⟨0, by omega, rfl, Lib.hid (fun r hr => absurd hr (Nat.not_lt_zero _)), rfl⟩
  case round =>
    obtain ⟨t, hk, rfl, HP, rfl⟩ := hrel
    have HK := Lib.hid hk
    have htn : t ≤ ns.length := by omega
    clear hk
    by_cases hlt : t < ns.length
    · obtain ⟨b1, p1, rfl, a1⟩ := HN.out.at (c := t) (by rw [zs_len]; exact hlt)
      rw [zs_get] at a1
      have hmem := getD_mem hlt
      obtain ⟨x, hx⟩ : ∃ x, x = ns.getD t 0 := ⟨_, rfl⟩
      have HXX := Lib.hid hx
      rw [← hx] at a1 hmem
      clear hx
      by_cases h0 : x = 0
      · subst h0
        have HM := Lib.hid (prod_zero hmem)
        clear hmem
        go_wp2_with fail
        go_ret
        exact ⟨rfl, .inl ⟨t, rfl, HM.out⟩⟩
      · have HP2 : Hid (∀ r, r < t + 1 → 0 < ns.getD r 0) := Lib.hid (fun r hr => by
          by_cases e : r = t
          · subst e; rw [← HXX.out]; omega
          · exact HP.out r (by omega))
        have d1 : ((0 : Int) == (x : Int)) = false := by rw [beq_eq_false_iff_ne]; omega
        clear hmem
        go_wp2_with fail
        go_roundg (gk - 1)
        case measure => have := HK.out; omega
        case rel => exact ⟨t + 1, by have := HK.out; omega, by go_num, HP2, rfl⟩
    · obtain rfl : t = ns.length := by omega
      have HM : Hid (0 < prodL ns) := Lib.hid (prod_pos fun n hn => by
        obtain ⟨r, hr, rfl⟩ := List.mem_iff_getElem.1 hn
        have := HP.out r hr
        rwa [List.getD_eq_getElem?_getD, List.getElem?_eq_getElem hr] at this)
      go_wp2_with fail
      go_ret
      exact ⟨rfl, .inr ⟨rfl, HM.out⟩⟩
theorem haszero_any (ns : List Nat) (v : Value) (w : World) (h : Lst w v (zs ns)) : Calls Try.prog 26 #[v, .int .i64 0] w fun e w' => e = .returned (.bool (decide (prodL ns = 0))) ∧ w = w' := by
  have HI := Lib.hid (idxzero_any ns v w h)
  obtain ⟨A, C, rfl, ha, _⟩ := h
  by_cases hx : prodL ns = 0
  · rw [decide_eq_true hx]
    have HI2 := Lib.hid (HI.out.mono (R' := fun e w' => (∃ k : Nat, e = .returned (.int .i64 k)) ∧ w = w') (by
      rintro e w' ⟨rfl, ⟨k, rfl, -⟩ | ⟨-, hh⟩⟩
      · exact ⟨⟨k, rfl⟩, rfl⟩
      · omega))
    clear hx HI
    go_enter Try.func26, Try.ntmps26
    go_wp2_with (go_at_call 33; (with_reducible refine HI2.out.mono ?_); rintro _ _ ⟨⟨k, rfl⟩, rfl⟩)
    go_ret
    exact ⟨rfl, rfl⟩
  · rw [decide_eq_false hx]
    have HI2 := Lib.hid (HI.out.mono (R' := fun e w' => e = .returned (.int .i64 (-1)) ∧ w = w') (by
      rintro e w' ⟨rfl, ⟨k, rfl, hh⟩ | ⟨rfl, -⟩⟩
      · exact absurd hh hx
      · exact ⟨rfl, rfl⟩))
    clear hx HI
    go_enter Try.func26, Try.ntmps26
    go_wp2_with (go_at_call 33; (with_reducible refine HI2.out.mono ?_); rintro _ _ ⟨rfl, rfl⟩)
    go_ret
    exact ⟨rfl, rfl⟩
end Go.Proofs.Ytlpoopmjgobnnaa
