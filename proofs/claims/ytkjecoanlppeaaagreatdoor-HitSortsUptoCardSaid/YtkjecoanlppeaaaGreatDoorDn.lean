/- HitSorts: for every table, Sort answers what the document says. The law returns true, and what was handed in reads as it did; for arguments that hold together at most 1048576 letters and values. The card ties what the row lists of package utf8's tables to the program's text. -/
import Derived.Test.YtkjecoanlppeaaaGreatDoorM5
import Derived.Test.YtkjecoanlppeaaaGreatDoorXDn3
set_option linter.unusedSimpArgs false
set_option linter.unusedVariables false
namespace Go.Proofs.YtkjecoanlppeaaaGreatDoor
open Go.RowKit
open Go.ChangeShapes Go.WideShapes Go.ChangeAt
open Go.ChangeMaps (open_string shut_string)
set_option linter.unusedVariables false

set_option maxRecDepth 100000 in
theorem reads_HitSorts (os : Os) {H : Type} (enc : TypeId × Value → H) : ∃ places, DataW.whole enc Tryz.prog ((World.laidAll Tryz.prog os Rows.hitSortsUptoRow.laid).forCall (fun _ _ => 0) ⟨#[], #[tabZ], []⟩).memory Tryz.f6.params.toList Rows.hitSortsSpec.vars false (#[tabZ] : Array Value).toList 8 = some ([.agg [.nil, .nil, .nil, .nil]], [], places) :=
  ⟨[], by kernel_rfl⟩
set_option maxRecDepth 100000 in
theorem lifted_HitSorts (os : Os) (started : os.Started) (H : Type) (enc : TypeId × Value → H) (F : Stop.Interp) :
    ReturnsInHanded {} Tryz.checked os 6 .any ((Rows.OpenSpec.upto Rows.hitSortsSpec).preRow enc Tryz.prog Tryz.f6 Rows.hitSortsUptoRow.domain false Rows.hitSortsUptoRow.laid) (((Rows.OpenSpec.upto Rows.hitSortsSpec).at F).post enc Tryz.prog Tryz.f6 false true false false) := by
  obtain ⟨places, hx⟩ := reads_HitSorts os enc
  refine returnsInHanded_of_row (C := Tryz.checked) (s := Rows.OpenSpec.upto Rows.hitSortsSpec) own started (by kernel_rfl) Tryz.func6
    ⟨World.laidAll Tryz.prog os Rows.hitSortsUptoRow.laid, fun _ _ => 0, ⟨#[], #[tabZ], []⟩, World.laidAll_os _ _ _, World.shaped_of_ZipB (by kernel_rfl) (by kernel_rfl),
      rfl, (Input.okWide_of_okWideB (by kernel_rfl)).2,
      OpenSpec.preRow_of_cond 8 hx (by kernel_rfl) (fun k hk => by cases hk; kernel_rfl) (by kernel_rfl) (laidMet_laidAll _ (by kernel_rfl) (by kernel_rfl)), by
        simp only [Assume.holds]
        exact ⟨by simp, by simp, fun _ => Modest.zero, by simp, by simp⟩⟩ ?_
  intro W base args ds gs before hval0 hW _ hk _ hL _ _
  have hval : ∀ (j : Nat) t v, Tryz.f6.params[j]? = some t → args[j]? = some v → Value.okWide Tryz.prog W .any base t v := hval0
  have hk1 := hk _ rfl
  have htab : Tabs W := tabs_laid hL
  have hW' := hW
  obtain ⟨p, q, hA0, hV, rfl, hfz, hnd⟩ := hW
  have hA : DataW.TrodAll enc Tryz.prog W 0 (fun _ => true) true Tryz.f6.params.toList args.toList ds p := hA0
  rw [Tryz.params6] at hA hval
  obtain ⟨v0, vs0, d0, ds0, p0, q0, hargs0, rfl, rfl, h0, r0⟩ := trodAll_cons hA
  obtain ⟨rfl, rfl, rfl⟩ := trodAll_nil r0
  obtain rfl : args = #[v0] := by cases args; simp_all
  obtain ⟨rfl, rfl⟩ := trodVars_none hV
  have k0 := h0
  have lt0 : ∀ x ∈ p0, x.block < W.heap.size := by obtain ⟨m, hm⟩ := k0; exact DataW.trod_lt m _ _ _ hm
  have hsz : Rows.uptoBulk d0 ≤ 1048576 := by
    have h := of_decide_eq_true hk1
    simp only [List.cons_append, List.nil_append, Rows.uptoBulkAll] at h
    omega
  obtain ⟨N, O, R, V, names, order, rows, other, rfl, hn, ho, hr, hv, hso, hsr, hsv⟩ := open_table (hval 0 26 v0 rfl rfl) h0 hsz
  clear hA0 hval0
  refine (walk_sorts order rows N O R V W htab hso hsr (by obtain ⟨A, C, e, _⟩ := hn.is; exact ⟨_, _, _, e⟩) ho hr (by obtain ⟨A, C, e, _⟩ := hv.is; exact ⟨_, _, _, e⟩)).mono fun e W' ⟨he, bel⟩ => ?_
  subst he
  exact ⟨_, rfl, _, _, _, [], _, [], hW', trodAll_mk1 (shut_bool Tryz.underlying4 _), (trodAll_cons_mk (Below.trod laidOut (by kernel_rfl) (of_decide_eq_true (by kernel_rfl)) k0 bel lt0) trodAll_mk0), rfl, bel.frame _, fun h => by cases h⟩
theorem HitSorts_said : Rows.HitSortsUptoSaid :=
  OpenClaim.holds_of_cond 6 Tryz.f6 rfl rfl rfl rfl rfl rfl rfl ⟨rfl, rfl, rfl, rfl, rfl⟩ rfl rfl rfl rfl rfl (by kernel_rfl) Tryz.func6 (by kernel_rfl)
    (of_decide_eq_true (by kernel_rfl)) (by unfold Func.isWrapper; first | (rw [if_pos (by decide +kernel)]; kernel_rfl) | (rw [if_neg (by decide +kernel)]; exact ⟨rfl, rfl⟩))
    (fun os started H enc _ F => by rw [OpenClaim.pre_eq_preRow]; exact lifted_HitSorts os started H enc F)
theorem plain_HitSorts (f : FuncId) (fn : Func) (hf : Tryz.pinned.checked.prog.funcNamed "tariff/tarifflaw18.HitSorts" = some f) (hfn : Tryz.pinned.checked.prog.funcs[f]? = some fn) :
    false = Tryz.pinned.checked.prog.looks [] ∧ ∀ (j : Nat) t, fn.params[j]? = some t → Tryz.pinned.checked.prog.wantsStandIn t = false := by
  obtain rfl : f = 6 := Option.some.inj ((show Tryz.prog.funcNamed "tariff/tarifflaw18.HitSorts" = some 6 by kernel_rfl).symm.trans hf) |>.symm
  obtain rfl : fn = Tryz.f6 := (Option.some.inj (Tryz.func6.symm.trans hfn)).symm
  refine ⟨by kernel_rfl, fun j t ht => ?_⟩
  rw [Tryz.params6] at ht
  have hm : t ∈ [26] := by simpa using Array.mem_of_getElem? ht
  have hall : ([26].all fun u => !Tryz.prog.wantsStandIn u) = true := by kernel_rfl
  exact (show Tryz.prog.wantsStandIn t = false by simpa using List.all_eq_true.1 hall t hm)
theorem HitSorts_holds : Rows.HitSortsUptoCardSaid :=
  Claim7.holds_tied_plain_at .later [] _ _ _ _ HitSorts_said (fun _ h => by cases h) (by kernel_rfl) (fun _ h => by cases h) hitSortsUpto_row_tie rfl ⟨rfl, rfl⟩ (by kernel_rfl) rfl plain_HitSorts (by kernel_rfl)
#print axioms HitSorts_holds
end Go.Proofs.YtkjecoanlppeaaaGreatDoor
