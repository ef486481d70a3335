/- Plane, the program's: whole numbers, spans, boxes. -/
import Derived.Test.YtlpoopmjgobnnaaAy
import Derived.Laws.Externs
set_option linter.unusedSimpArgs false
set_option linter.unusedVariables false
namespace Go.Proofs.Ytlpoopmjgobnnaa
open Go.RowKit

theorem integral_form (name : String) (way : Ieee.Toward) (x : Nat) : ∃ f : Bool → Nat → Sem Value, Extern.MathFloor.toIntegral name way #[.float .f64 x] = (match FloatKind.f64.decode x with
    | .nan s t => f s t
    | d => pure (.float .f64 (FloatKind.f64.encode (d.integral way)))) := ⟨_, rfl⟩
theorem run_trunc (n : Nat) (h : n < 2 ^ 53) (w : World) : (callFunc 40 #[.float .f64 (fl n)]).run Try.prog w = .ok (.value (.float .f64 (fl n))) w := by
  rw [run_callFunc_extern Try.func40 (by kernel_rfl) (by kernel_rfl) (by kernel_rfl) (e := Extern.MathFloor.toIntegral "math.archTrunc" .zero) (by kernel_rfl)]
  have ht := fl_trunc n h
  obtain ⟨m, p, h1, -⟩ := fl_read' n h
  have h2 : FloatKind.f64.decode (fl n) = .number false m p := h1
  rw [h2] at ht
  obtain ⟨f, e⟩ := integral_form "math.archTrunc" .zero (fl n)
  rw [h2] at e
  rw [e]
  simp only [ht, Sem.run_pure, Result.andThen]
theorem trunc_any (n : Nat) (h : n < 2 ^ 53) (w : World) : Calls Try.prog 39 #[.float .f64 (fl n)] w fun e w' => e = .returned (.float .f64 (fl n)) ∧ w = w' := by
  have ht := fun W => run_trunc n h W
  go_enter Try.func39, Try.ntmps39
  go_wp2_with fail
  go_ret
  exact ⟨rfl, rfl⟩
theorem fl_4000 : fl 4000 = 4661014508095930368 := by decide
theorem ord_ge (x : Nat) (h : x < 2 ^ 53) : ∃ o, FloatKind.f64.format.order (fl x) 0 = some o ∧ (o = .gt ∨ o = .eq) := by
  have e1 : FloatKind.f64.format.order (fl x) 0 = some (compare (x : Int) ((0 : Nat) : Int)) := by rw [← fl_zero]; exact fl_order x 0 h (by omega)
  rcases Nat.eq_zero_or_pos x with h0 | h0
  · exact ⟨.eq, by rw [e1, Int.compare_eq_eq.2 (by omega)], .inr rfl⟩
  · exact ⟨.gt, by rw [e1, Int.compare_eq_gt.2 (by omega)], .inl rfl⟩
theorem ord_le (x : Nat) (h : x ≤ 4000) : ∃ o, FloatKind.f64.format.order (fl x) 4661014508095930368 = some o ∧ (o = .lt ∨ o = .eq) := by
  have e1 : FloatKind.f64.format.order (fl x) 4661014508095930368 = some (compare (x : Int) ((4000 : Nat) : Int)) := by rw [← fl_4000]; exact fl_order x 4000 (by omega) (by omega)
  rcases Nat.lt_or_ge x 4000 with h0 | h0
  · exact ⟨.lt, by rw [e1, Int.compare_eq_lt.2 (by omega)], .inl rfl⟩
  · exact ⟨.eq, by rw [e1, Int.compare_eq_eq.2 (by omega)], .inr rfl⟩
theorem whole_any (x : Nat) (h : x ≤ 4000) (w : World) : Calls Try.prog 38 #[.float .f64 (fl x), .float .f64 0, .float .f64 4661014508095930368] w fun e w' => e = .returned (.bool true) ∧ w = w' := by
  have HT := Lib.hid (trunc_any x (by omega) w)
  obtain ⟨o1, e1, h1⟩ := ord_ge x (by omega)
  obtain ⟨o2, e2, h2⟩ := ord_le x h
  have e3 : FloatKind.f64.format.order (fl x) (fl x) = some .eq := by rw [show FloatKind.f64.format = Ieee.double from rfl, fl_order x x (by omega) (by omega), Int.compare_eq_eq.2 rfl]
  obtain ⟨y, hy⟩ : ∃ y, y = fl x := ⟨_, rfl⟩
  rw [← hy] at e1 e2 e3 HT ⊢
  clear hy h
  rcases h1 with rfl | rfl <;> rcases h2 with rfl | rfl
  all_goals
    go_enter Try.func38, Try.ntmps38
    go_wp2_with (go_at_call 39; (with_reducible refine HT.out.mono ?_); rintro _ _ ⟨rfl, rfl⟩)
    go_ret
    exact ⟨rfl, rfl⟩
theorem span_any (a b : Nat) (h : a < b) (hb : b ≤ 4000) (w : World) : Calls Try.prog 29 #[cx a b] w fun e w' => e = .returned (.bool true) ∧ w = w' := by
  have HA := Lib.hid (whole_any a (by omega) w)
  have HB := Lib.hid (whole_any b hb w)
  have e3 : FloatKind.f64.format.order (fl a) (fl b) = some .lt := by rw [show FloatKind.f64.format = Ieee.double from rfl, fl_order a b (by omega) (by omega), Int.compare_eq_lt.2 (by omega)]
  unfold cx
  obtain ⟨x, hx⟩ : ∃ y, y = fl a := ⟨_, rfl⟩
  obtain ⟨y, hy⟩ : ∃ y, y = fl b := ⟨_, rfl⟩
  rw [← hx, ← hy] at e3 ⊢
  rw [← hx] at HA
  rw [← hy] at HB
  clear hx hy
  go_enter Try.func29, Try.ntmps29
  go_wp2_with (go_at_call 38; (first | (with_reducible refine HA.out.mono ?_) | (with_reducible refine HB.out.mono ?_)); rintro _ _ ⟨rfl, rfl⟩)
  go_ret
  exact ⟨rfl, rfl⟩
theorem width_any (a b : Nat) (h : a ≤ b) (hb : b ≤ 4000) (w : World) : Calls Try.prog 23 #[cx a b] w fun e w' => e = .returned (.int .i64 ((b - a : Nat) : Int)) ∧ w = w' := by
  have e1 : ∀ t W, (binOp .sub t (.float .f64 (fl b)) (.float .f64 (fl a))).run Try.prog W = .ok (.float .f64 (fl (b - a))) W := fun t W => run_float_arith W .sub t .f64 _ _ _ (fl_sub b a (by omega) h)
  have e2 := conv_fl (b - a) (by omega)
  unfold cx
  obtain ⟨z, hz⟩ : ∃ y, y = b - a := ⟨_, rfl⟩
  rw [← hz] at e1 e2 ⊢
  clear hz
  go_enter Try.func23, Try.ntmps23
  go_wp2_with (simp only [e2])
  go_ret
  exact ⟨rfl, rfl⟩
end Go.Proofs.Ytlpoopmjgobnnaa
