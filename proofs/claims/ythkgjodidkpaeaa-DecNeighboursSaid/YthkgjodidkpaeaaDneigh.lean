/- DecNeighbours: for all decimals a the program's Next and Prev and the document's answer the same: the law returns true, and what was handed in reads as it did. No condition. -/
import Derived.ProofKit
import Derived.OpenShut
import Derived.ShutString
import Derived.ChangeOld
import Derived.Below
import Derived.Lib.SmallJoins
import Derived.Test.YthkgjodidkpaeaaM4
set_option linter.unusedSimpArgs false
set_option linter.unusedVariables false
namespace Go.Proofs.Ythkgjodidkpaeaa
open Go.RowKit
open Go.ChangeShapes Go.WideShapes Go.ChangeAt
open Go.ChangeMaps (open_string shut_string)
set_option linter.unusedVariables false
theorem own : ownKnob Try.prog.godebug = none := by kernel_rfl
theorem laidOut : laidOutB Try.prog = true := by kernel_rfl

theorem walk_DecNeighbours (b : Bool) (a0 a1 a2 : Int) (h0 : (Lit.int .u64 a0).wf = true) (h1 : (Lit.int .u64 a1).wf = true) (h2 : (Lit.int .i64 a2).wf = true) (w : World) :
    Calls Try.prog 6 #[.agg #[.bool b, .int .u64 a0, .int .u64 a1, .int .i64 a2]] w fun e w' => e = .returned (.bool true) ∧ Below w.heap.size w w' := by
  obtain ⟨g0, g1⟩ := wf_word h0
  obtain ⟨g2, g3⟩ := wf_word h1
  obtain ⟨c, hc, _, rfl, rfl⟩ := wd_make a0 a1 g0 g1 g2 g3
  clear g0 g1 g2 g3 h0 h1
  by_cases ha : dform b c a2 = true
  · obtain ⟨s, rfl, f1, f2, f3, f4⟩ := (dform_iff _ _ _).1 ha
    have hb : c = 0 → b = false := fun h => (f3 h).1
    exact neighbours_walk _ _ _ _ _ _ _ _ _ _ _ _ _ _ (fun W => docnext_ok b c s f1 f2 ha hb W) (fun W => next_ok b c s f1 f2 ha hb W) (fun W => docprev_ok b c s f1 f2 ha W) (fun W => prev_ok b c s f1 f2 ha W) w
  · have ha' : dform b c a2 = false := by simpa using ha
    exact neighbours_walk _ _ _ _ _ _ _ _ _ _ _ _ _ _ (fun W => docnext_bad b c a2 hc ha' W) (fun W => next_bad b c a2 hc ha' W) (fun W => docprev_bad b c a2 hc ha' W) (fun W => prev_bad b c a2 hc ha' W) w

set_option maxRecDepth 100000 in
theorem lifted_DecNeighbours (os : Os) (started : os.Started) (H : Type) (enc : TypeId × Value → H) :
    ReturnsInHanded {} Try.checked os 6 .any (Rows.decNeighboursSpec.pre6 enc Try.prog Try.f6 Rows.decNeighboursRow.domain false) (Rows.decNeighboursSpec.post enc Try.prog Try.f6 false true false false) := by
  refine returnsInHanded_of_change (C := Try.checked) own started (by kernel_rfl) Try.func6
    (ChangeSpec.witness6 (enc := enc) (C := Try.checked) false ⟨#[], #[.agg #[.bool false, .int .u64 0, .int .u64 0, .int .i64 0]], []⟩ 8 (by kernel_rfl) (by kernel_rfl) (by kernel_rfl) (by kernel_rfl)) ?_
  intro W base args ds gs before hval0 hW hcnd _
  have hval : ∀ (j : Nat) t v, Try.f6.params[j]? = some t → args[j]? = some v → Value.okWide Try.prog W .any base t v := hval0
  have hW' := hW
  obtain ⟨p, q, hA0, hV, rfl, hfz, hnd⟩ := hW
  have hA : DataW.TrodAll enc Try.prog W 0 (fun _ => true) true Try.f6.params.toList args.toList ds p := hA0
  rw [Try.params6] at hA hval
  obtain ⟨v0, vs0, d0, ds0, p0, q0, hargs0, rfl, rfl, h0, r0⟩ := trodAll_cons hA
  obtain ⟨rfl, rfl, rfl⟩ := trodAll_nil r0
  obtain rfl : args = #[v0] := by cases args; simp_all
  obtain ⟨rfl, rfl⟩ := trodVars_none hV
  have k0 := h0
  have lt0 : ∀ x ∈ p0, x.block < W.heap.size := by obtain ⟨m, hm⟩ := k0; exact DataW.trod_lt m _ _ _ hm
  obtain ⟨b0, a00, a01, a02, rfl, w00, w01, w02⟩ := open_dec (hval 0 26 v0 rfl rfl) h0
  clear hA0 hval0
  refine (walk_DecNeighbours b0 a00 a01 a02 w00 w01 w02 W).mono fun e W' ⟨he, bel⟩ => ?_
  subst he
  exact ⟨_, rfl, _, _, _, [], _, [], hW', trodAll_mk1 (shut_bool Try.underlying4 _), (trodAll_cons_mk (Below.trod laidOut (by kernel_rfl) (of_decide_eq_true (by kernel_rfl)) k0 bel lt0) trodAll_mk0), rfl, bel.frame _, fun h => by cases h⟩

theorem DecNeighbours_holds : Rows.DecNeighboursSaid :=
  OpenClaim.holds_of_wide 6 Try.f6 rfl rfl rfl rfl rfl rfl rfl ⟨rfl, rfl, rfl, rfl, rfl⟩ rfl rfl rfl rfl rfl (by kernel_rfl) Try.func6 (by kernel_rfl)
    (of_decide_eq_true (by kernel_rfl)) (by unfold Func.isWrapper; first | (rw [if_pos (by decide +kernel)]; kernel_rfl) | (rw [if_neg (by decide +kernel)]; exact ⟨rfl, rfl⟩))
    (fun os started H enc _ => lifted_DecNeighbours os started H enc)
#print axioms DecNeighbours_holds
end Go.Proofs.Ythkgjodidkpaeaa
