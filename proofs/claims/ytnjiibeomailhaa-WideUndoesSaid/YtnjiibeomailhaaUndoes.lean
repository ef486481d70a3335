/- WideUndoes: for all numbers a and b of two words the program's Sub undoes Add, its Div and Narrow undo Mul, and the order of the parts does not matter: the law returns true, and what was handed in reads as it did. No condition. -/
import Derived.Test.YtnjiibeomailhaaUa
import Derived.Test.YtnjiibeomailhaaUb
import Derived.ProofKit
import Derived.OpenShut
import Derived.ShutString
import Derived.ChangeOld
import Derived.Below
import Derived.Lib.SmallJoins
set_option linter.unusedSimpArgs false
set_option linter.unusedVariables false
namespace Go.Proofs.Ytnjiibeomailhaa
open Go.RowKit
open Go.ChangeShapes Go.WideShapes Go.ChangeAt
open Go.ChangeMaps (open_string shut_string)
set_option linter.unusedVariables false
theorem own : ownKnob Try.prog.godebug = none := by kernel_rfl
theorem laidOut : laidOutB Try.prog = true := by kernel_rfl

theorem walk_WideUndoes (a b : Int) (ha : (Lit.int .u64 a).wf = true) (hb : (Lit.int .u64 b).wf = true) (x y : Int) (hx : (Lit.int .u64 x).wf = true) (hy : (Lit.int .u64 y).wf = true) (w : World) :
    Calls Try.prog 9 #[.agg #[.int .u64 a, .int .u64 b], .agg #[.int .u64 x, .int .u64 y]] w fun e w' => e = .returned (.bool true) ∧ Below w.heap.size w w' := by
  obtain ⟨a0, a1⟩ := wf_word ha
  obtain ⟨b0, b1⟩ := wf_word hb
  obtain ⟨x0, x1⟩ := wf_word hx
  obtain ⟨y0, y1⟩ := wf_word hy
  obtain ⟨n, hn, hne, rfl, rfl⟩ := wd_make a b a0 a1 b0 b1
  obtain ⟨m, hm, hme, rfl, rfl⟩ := wd_make x y x0 x1 y0 y1
  clear ha hb hx hy a0 a1 b0 b1 x0 x1 y0 y1 hne hme
  by_cases h0 : m = 0
  · exact und_zero n m hn hm h0 w
  · exact und_pos n m hn hm h0 w

set_option maxRecDepth 100000 in
theorem lifted_WideUndoes (os : Os) (started : os.Started) (H : Type) (enc : TypeId × Value → H) :
    ReturnsInHanded {} Try.checked os 9 .any (Rows.wideUndoesSpec.pre6 enc Try.prog Try.f9 Rows.wideUndoesRow.domain false) (Rows.wideUndoesSpec.post enc Try.prog Try.f9 false true false false) := by
  refine returnsInHanded_of_change (C := Try.checked) own started (by kernel_rfl) Try.func9
    (ChangeSpec.witness6 (enc := enc) (C := Try.checked) false ⟨#[], #[.agg #[.int .u64 0, .int .u64 0], .agg #[.int .u64 0, .int .u64 0]], []⟩ 8 (by kernel_rfl) (by kernel_rfl) (by kernel_rfl) (by kernel_rfl)) ?_
  intro W base args ds gs before hval0 hW hcnd _
  have hval : ∀ (j : Nat) t v, Try.f9.params[j]? = some t → args[j]? = some v → Value.okWide Try.prog W .any base t v := hval0
  have hW' := hW
  obtain ⟨p, q, hA0, hV, rfl, hfz, hnd⟩ := hW
  have hA : DataW.TrodAll enc Try.prog W 0 (fun _ => true) true Try.f9.params.toList args.toList ds p := hA0
  rw [Try.params9] at hA hval
  obtain ⟨v0, vs0, d0, ds0, p0, q0, hargs0, rfl, rfl, h0, r0⟩ := trodAll_cons hA
  obtain ⟨v1, vs1, d1, ds1, p1, q1, hargs1, rfl, rfl, h1, r1⟩ := trodAll_cons r0
  obtain ⟨rfl, rfl, rfl⟩ := trodAll_nil r1
  obtain rfl : args = #[v0, v1] := by cases args; simp_all
  obtain ⟨rfl, rfl⟩ := trodVars_none hV
  have k0 := h0
  have lt0 : ∀ x ∈ p0, x.block < W.heap.size := by obtain ⟨m, hm⟩ := k0; exact DataW.trod_lt m _ _ _ hm
  have k1 := h1
  have lt1 : ∀ x ∈ p1, x.block < W.heap.size := by obtain ⟨m, hm⟩ := k1; exact DataW.trod_lt m _ _ _ hm
  obtain ⟨c00, c01, y00, y01, m0, rfl, rfl, rfl, hy00, hy01⟩ := Joins.open_agg2 Try.underlying27 (by kernel_rfl) (by kernel_rfl) (hval 0 27 v0 rfl rfl) h0
  obtain ⟨a00, e00, rfl, w00⟩ := DataW.trod_int Try.underlying22 hy00
  simp at e00; subst e00
  obtain ⟨a01, e01, rfl, w01⟩ := DataW.trod_int Try.underlying22 hy01
  simp at e01; subst e01
  obtain ⟨c10, c11, y10, y11, m1, rfl, rfl, rfl, hy10, hy11⟩ := Joins.open_agg2 Try.underlying27 (by kernel_rfl) (by kernel_rfl) (hval 1 27 v1 rfl rfl) h1
  obtain ⟨a10, e10, rfl, w10⟩ := DataW.trod_int Try.underlying22 hy10
  simp at e10; subst e10
  obtain ⟨a11, e11, rfl, w11⟩ := DataW.trod_int Try.underlying22 hy11
  simp at e11; subst e11
  clear hA0 hval0
  refine (walk_WideUndoes a00 a01 w00 w01 a10 a11 w10 w11 W).mono fun e W' ⟨he, bel⟩ => ?_
  subst he
  exact ⟨_, rfl, _, _, _, [], _, [], hW', trodAll_mk1 (shut_bool Try.underlying4 _), (trodAll_cons_mk (Below.trod laidOut (by kernel_rfl) (of_decide_eq_true (by kernel_rfl)) k0 bel lt0) (trodAll_cons_mk (Below.trod laidOut (by kernel_rfl) (of_decide_eq_true (by kernel_rfl)) k1 bel lt1) trodAll_mk0)), rfl, bel.frame _, fun h => by cases h⟩

theorem WideUndoes_holds : Rows.WideUndoesSaid :=
  OpenClaim.holds_of_wide 9 Try.f9 rfl rfl rfl rfl rfl rfl rfl ⟨rfl, rfl, rfl, rfl, rfl⟩ rfl rfl rfl rfl rfl (by kernel_rfl) Try.func9 (by kernel_rfl)
    (of_decide_eq_true (by kernel_rfl)) (by unfold Func.isWrapper; first | (rw [if_pos (by decide +kernel)]; kernel_rfl) | (rw [if_neg (by decide +kernel)]; exact ⟨rfl, rfl⟩))
    (fun os started H enc _ => lifted_WideUndoes os started H enc)
#print axioms WideUndoes_holds
end Go.Proofs.Ytnjiibeomailhaa
