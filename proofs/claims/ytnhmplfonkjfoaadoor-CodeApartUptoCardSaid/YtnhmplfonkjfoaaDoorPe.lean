/- CodeApart: what is handed in stays as it is, spare room too; answers are memory of their own. The law returns true, and what was handed in reads as it did; for arguments that hold together at most 1048576 letters and values. The card ties what the row lists of package utf8's tables to the program's text. -/
import Derived.Test.YtnhmplfonkjfoaaDoorM2
import Derived.Test.YtnhmplfonkjfoaaDoorXPe8
set_option linter.unusedSimpArgs false
set_option linter.unusedVariables false
namespace Go.Proofs.YtnhmplfonkjfoaaDoor
open Go.RowKit
open Go.ChangeShapes Go.WideShapes Go.ChangeAt
open Go.ChangeMaps (open_string shut_string)
set_option linter.unusedVariables false

set_option maxRecDepth 100000 in
theorem reads_CodeApart (os : Os) {H : Type} (enc : TypeId × Value → H) : ∃ places, DataW.whole enc Tryd.prog ((World.laidAll Tryd.prog os Rows.codeApartUptoRow.laid).forCall (fun _ _ => 0) ⟨#[], #[.slice none 0 0, .bool false], []⟩).memory Tryd.f8.params.toList Rows.codeApartSpec.vars false (#[.slice none 0 0, .bool false] : Array Value).toList 8 = some ([.nil, .lit (.bool false)], [], places) :=
  ⟨[], by kernel_rfl⟩
set_option maxRecDepth 100000 in
theorem lifted_CodeApart (os : Os) (started : os.Started) (H : Type) (enc : TypeId × Value → H) (F : Stop.Interp) :
    ReturnsInHanded {} Tryd.checked os 8 .any ((Rows.OpenSpec.upto Rows.codeApartSpec).preRow enc Tryd.prog Tryd.f8 Rows.codeApartUptoRow.domain false Rows.codeApartUptoRow.laid) (((Rows.OpenSpec.upto Rows.codeApartSpec).at F).post enc Tryd.prog Tryd.f8 false true false false) := by
  obtain ⟨places, hx⟩ := reads_CodeApart os enc
  refine returnsInHanded_of_row (C := Tryd.checked) (s := Rows.OpenSpec.upto Rows.codeApartSpec) own started (by kernel_rfl) Tryd.func8
    ⟨World.laidAll Tryd.prog os Rows.codeApartUptoRow.laid, fun _ _ => 0, ⟨#[], #[.slice none 0 0, .bool false], []⟩, World.laidAll_os _ _ _, World.shaped_of_ZipB (by kernel_rfl) (by kernel_rfl),
      rfl, (Input.okWide_of_okWideB (by kernel_rfl)).2,
      OpenSpec.preRow_of_cond 8 hx (by kernel_rfl) (fun k hk => by cases hk; kernel_rfl) (by kernel_rfl) (laidMet_laidAll _ (by kernel_rfl) (by kernel_rfl)), by
        simp only [Assume.holds]
        exact ⟨by simp, by simp, fun _ => Modest.zero, by simp, by simp⟩⟩ ?_
  intro W base args ds gs before hval0 hW _ hk _ hL _ _
  have hval : ∀ (j : Nat) t v, Tryd.f8.params[j]? = some t → args[j]? = some v → Value.okWide Tryd.prog W .any base t v := hval0
  have hk1 := hk _ rfl
  have htab : Tabs W := tabs_laid hL
  have hW' := hW
  obtain ⟨p, q, hA0, hV, rfl, hfz, hnd⟩ := hW
  have hA : DataW.TrodAll enc Tryd.prog W 0 (fun _ => true) true Tryd.f8.params.toList args.toList ds p := hA0
  rw [Tryd.params8] at hA hval
  obtain ⟨v0, vs0, d0, ds0, p0, q0, hargs0, rfl, rfl, h0, r0⟩ := trodAll_cons hA
  obtain ⟨v1, vs1, d1, ds1, p1, q1, hargs1, rfl, rfl, h1, r1⟩ := trodAll_cons r0
  obtain ⟨rfl, rfl, rfl⟩ := trodAll_nil r1
  obtain rfl : args = #[v0, v1] := by cases args; simp_all
  obtain ⟨rfl, rfl⟩ := trodVars_none hV
  have k0 := h0
  have lt0 : ∀ x ∈ p0, x.block < W.heap.size := by obtain ⟨m, hm⟩ := k0; exact DataW.trod_lt m _ _ _ hm
  have k1 := h1
  have lt1 : ∀ x ∈ p1, x.block < W.heap.size := by obtain ⟨m, hm⟩ := k1; exact DataW.trod_lt m _ _ _ hm
  have hsz : Rows.uptoBulk d0 ≤ 1048576 := by
    have h := of_decide_eq_true hk1
    simp only [List.cons_append, List.nil_append, Rows.uptoBulkAll] at h
    omega
  obtain ⟨is, hcod, hgood, hlen⟩ := open_codN (hval 0 22 v0 rfl rfl) h0
  obtain ⟨b1, rfl, _⟩ := open_bool Tryd.underlying4 (hval 1 4 v1 rfl rfl) h1
  clear hA0 hval0
  refine (walk_apart verify_any is v0 b1 W htab hcod (fun r hr => by obtain ⟨g1, g2, g3⟩ := hgood r hr; exact ⟨g1, g2, by show (ig is r).tx.data.toList.length ≤ 1048576; omega⟩) (by omega)).mono fun e W' ⟨he, bel⟩ => ?_
  subst he
  exact ⟨_, rfl, _, _, _, [], _, [], hW', trodAll_mk1 (shut_bool Tryd.underlying4 _), (trodAll_cons_mk (Below.trod laidOut (by kernel_rfl) (of_decide_eq_true (by kernel_rfl)) k0 bel lt0) (trodAll_cons_mk (Below.trod laidOut (by kernel_rfl) (of_decide_eq_true (by kernel_rfl)) k1 bel lt1) trodAll_mk0)), rfl, bel.frame _, fun h => by cases h⟩
theorem CodeApart_said : Rows.CodeApartUptoSaid :=
  OpenClaim.holds_of_cond 8 Tryd.f8 rfl rfl rfl rfl rfl rfl rfl ⟨rfl, rfl, rfl, rfl, rfl⟩ rfl rfl rfl rfl rfl (by kernel_rfl) Tryd.func8 (by kernel_rfl)
    (of_decide_eq_true (by kernel_rfl)) (by unfold Func.isWrapper; first | (rw [if_pos (by decide +kernel)]; kernel_rfl) | (rw [if_neg (by decide +kernel)]; exact ⟨rfl, rfl⟩))
    (fun os started H enc _ F => by rw [OpenClaim.pre_eq_preRow]; exact lifted_CodeApart os started H enc F)
theorem plain_CodeApart (f : FuncId) (fn : Func) (hf : Tryd.pinned.checked.prog.funcNamed "tariff/tarifflaw14.CodeApart" = some f) (hfn : Tryd.pinned.checked.prog.funcs[f]? = some fn) :
    false = Tryd.pinned.checked.prog.looks [] ∧ ∀ (j : Nat) t, fn.params[j]? = some t → Tryd.pinned.checked.prog.wantsStandIn t = false := by
  obtain rfl : f = 8 := Option.some.inj ((show Tryd.prog.funcNamed "tariff/tarifflaw14.CodeApart" = some 8 by kernel_rfl).symm.trans hf) |>.symm
  obtain rfl : fn = Tryd.f8 := (Option.some.inj (Tryd.func8.symm.trans hfn)).symm
  refine ⟨by kernel_rfl, fun j t ht => ?_⟩
  rw [Tryd.params8] at ht
  have hm : t ∈ [22, 4] := by simpa using Array.mem_of_getElem? ht
  have hall : ([22, 4].all fun u => !Tryd.prog.wantsStandIn u) = true := by kernel_rfl
  exact (show Tryd.prog.wantsStandIn t = false by simpa using List.all_eq_true.1 hall t hm)
theorem CodeApart_holds : Rows.CodeApartUptoCardSaid :=
  Claim7.holds_tied_plain_at .later [] _ _ _ _ CodeApart_said (fun _ h => by cases h) (by kernel_rfl) (fun _ h => by cases h) codeApartUpto_row_tie rfl ⟨rfl, rfl⟩ (by kernel_rfl) rfl plain_CodeApart (by kernel_rfl)
#print axioms CodeApart_holds
end Go.Proofs.YtnhmplfonkjfoaaDoor
