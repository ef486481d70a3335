/- GraphReaches: for all lists of needs and all starts the program's Reach and Levels answer what the document says: the law returns true, and what was handed in reads as it did. No condition. -/
import Derived.ProofKit
import Derived.OpenShut
import Derived.ShutString
import Derived.ChangeOld
import Derived.Below
import Derived.Lib.SmallJoins
import Derived.Deep.Matrix
import Derived.Test.YtldhhoinjdkdgaaM1
import Derived.Test.YtldhhoinjdkdgaaM2
set_option linter.unusedSimpArgs false
set_option linter.unusedVariables false
namespace Go.Proofs.Ytldhhoinjdkdgaa
open Go.RowKit
open Go.ChangeShapes Go.WideShapes Go.ChangeAt
open Go.ChangeMaps (open_string shut_string)
set_option linter.unusedVariables false

set_option maxHeartbeats 1000000 in
theorem walk_GraphReaches (ns : List (List Int)) (v : Value) (w : World) (h : Mat w v ns) (a : Int) (_ : (Lit.int .i64 a).wf = true) :
    Calls Try.prog 6 #[v, .int .i64 a] w fun e w' => e = .returned (.bool true) ∧ Below w.heap.size w w' := by
  go_enter Try.func6, Try.ntmps6
  go_wp2_with ((go_at_call 8; with_reducible refine (known_any _).mono ?_); rintro _ w1 ⟨rfl, hb1⟩; have hb1s := hb1.size; (try simp only [World.size_alloc, World.size_setCell, World.size_drew, World.heap_drewN] at hb1s); obtain ⟨hb1c, hb1f⟩ := bcell hb1; (try have : w.heap.size < w1.heap.size := by omega); (try have : w.heap.size + 1 < w1.heap.size := by omega); (try have : w.heap.size + 1 + 1 < w1.heap.size := by omega); (try have : w.heap.size + 1 + 1 + 1 < w1.heap.size := by omega))
  refine (docreach_any ns v a _ (h.below hb1)).mono ?_
  rintro _ w2 ⟨o2, v2, l2, c2, rfl, k2, s2, hb2⟩
  have hb3 := hb1.trans (hb2.mono hb1.size)
  have S2 := Lib.hid s2
  clear hb1c hb1f s2
  go_wp2_with fail
  refine (reach_any ns v a _ (h.below hb3)).mono ?_
  rintro _ w4 ⟨o4, v4, l4, c4, rfl, k4, s4, hb4⟩
  obtain ⟨rfl, rfl⟩ := RchSpec.eq S2.out s4
  clear s4
  have hb5 := hb3.trans (hb4.mono hb3.size)
  have K2 := Lib.hid (k2.lst.below hb4)
  have K4 := Lib.hid k4.lst
  clear k2 k4 S2
  obtain ⟨q, hq⟩ : ∃ q, q = docLev ns := ⟨_, rfl⟩
  have HQ := Lib.hid hq
  obtain ⟨l, z⟩ := q
  clear hq
  go_wp2_with fail
  refine (doclevels_any ns v _ (h.below hb5)).mono ?_
  rintro _ w6 ⟨o6, v6, rfl, k6, hb6⟩
  have hb7 := hb5.trans (hb6.mono hb5.size)
  rw [← HQ.out] at k6 ⊢
  go_wp2_with fail
  refine (levels_any ns v _ (h.below hb7)).mono ?_
  rintro _ w8 ⟨o8, v8, rfl, k8, hb8⟩
  have hb9 := hb7.trans (hb8.mono hb7.size)
  rw [← HQ.out] at k8 ⊢
  have hb68 := hb6.trans (hb8.mono hb6.size)
  have J2 := Lib.hid (K2.out.below hb68)
  have J4 := Lib.hid (K4.out.below hb68)
  have J6 := Lib.hid (k6.lst.below hb8)
  have J8 := Lib.hid k8.lst
  have HB9 := Lib.hid hb9
  clear k6 k8 hb8 hb68 hb7 hb6 hb5 hb4 hb3 hb2 hb1 hb9
  go_wp2_with fail
  refine (same_any v2 v4 l2 l2 _ J2.out J4.out).mono ?_
  rintro _ w9 ⟨rfl, nn, rfl⟩
  rw [decide_eq_true (rfl : l2 = l2)]
  go_wp2_with fail
  refine (same_any v6 v8 l l _ (J6.out.drewN _) (J8.out.drewN _)).mono ?_
  rintro _ w9 ⟨rfl, nn2, rfl⟩
  rw [decide_eq_true (rfl : l = l)]
  go_wp2_with fail
  go_ret
  exact ⟨ret_bool (by simp), below_drewN HB9.out _⟩

set_option maxRecDepth 100000 in
theorem lifted_GraphReaches (os : Os) (started : os.Started) (H : Type) (enc : TypeId × Value → H) :
    ReturnsInHanded {} Try.checked os 6 .any (Rows.graphReachesSpec.pre6 enc Try.prog Try.f6 Rows.graphReachesRow.domain false) (Rows.graphReachesSpec.post enc Try.prog Try.f6 false true false false) := by
  refine returnsInHanded_of_change (C := Try.checked) own started (by kernel_rfl) Try.func6
    (ChangeSpec.witness6 (enc := enc) (C := Try.checked) false ⟨#[], #[.slice none 0 0, .int .i64 0], []⟩ 8 (by kernel_rfl) (by kernel_rfl) (by kernel_rfl) (by kernel_rfl)) ?_
  intro W base args ds gs before hval0 hW hcnd _
  have hval : ∀ (j : Nat) t v, Try.f6.params[j]? = some t → args[j]? = some v → Value.okWide Try.prog W .any base t v := hval0
  have hW' := hW
  obtain ⟨p, q, hA0, hV, rfl, hfz, hnd⟩ := hW
  have hA : DataW.TrodAll enc Try.prog W 0 (fun _ => true) true Try.f6.params.toList args.toList ds p := hA0
  rw [Try.params6] at hA hval
  obtain ⟨v0, vs0, d0, ds0, p0, q0, hargs0, rfl, rfl, h0, r0⟩ := trodAll_cons hA
  obtain ⟨v1, vs1, d1, ds1, p1, q1, hargs1, rfl, rfl, h1, r1⟩ := trodAll_cons r0
  obtain ⟨rfl, rfl, rfl⟩ := trodAll_nil r1
  obtain rfl : args = #[v0, v1] := by cases args; simp_all
  obtain ⟨rfl, rfl⟩ := trodVars_none hV
  have k0 := h0
  have lt0 : ∀ x ∈ p0, x.block < W.heap.size := by obtain ⟨m, hm⟩ := k0; exact DataW.trod_lt m _ _ _ hm
  have k1 := h1
  have lt1 : ∀ x ∈ p1, x.block < W.heap.size := by obtain ⟨m, hm⟩ := k1; exact DataW.trod_lt m _ _ _ hm
  obtain ⟨a0, w0⟩ := open_mat (hval 0 22 v0 rfl rfl) h0
  obtain ⟨a1, rfl, rfl, rfl, w1⟩ := open_int Try.underlying3 (hval 1 3 v1 rfl rfl) h1
  clear hA0 hval0
  refine (walk_GraphReaches a0 v0 W w0 a1 w1).mono fun e W' ⟨he, bel⟩ => ?_
  subst he
  exact ⟨_, rfl, _, _, _, [], _, [], hW', trodAll_mk1 (shut_bool Try.underlying4 _), (trodAll_cons_mk (Below.trod laidOut (by kernel_rfl) (of_decide_eq_true (by kernel_rfl)) k0 bel lt0) (trodAll_cons_mk (Below.trod laidOut (by kernel_rfl) (of_decide_eq_true (by kernel_rfl)) k1 bel lt1) trodAll_mk0)), rfl, bel.frame _, fun h => by cases h⟩

theorem GraphReaches_holds : Rows.GraphReachesSaid :=
  OpenClaim.holds_of_wide 6 Try.f6 rfl rfl rfl rfl rfl rfl rfl ⟨rfl, rfl, rfl, rfl, rfl⟩ rfl rfl rfl rfl rfl (by kernel_rfl) Try.func6 (by kernel_rfl)
    (of_decide_eq_true (by kernel_rfl)) (by unfold Func.isWrapper; first | (rw [if_pos (by decide +kernel)]; kernel_rfl) | (rw [if_neg (by decide +kernel)]; exact ⟨rfl, rfl⟩))
    (fun os started H enc _ => lifted_GraphReaches os started H enc)
#print axioms GraphReaches_holds
end Go.Proofs.Ytldhhoinjdkdgaa
