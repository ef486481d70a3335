/- AxisLies: a segment's own value lies in it; a value lies ahead of the next segment's first value and not ahead of its own one's; an end is a point; the values rise. The law returns true, and what was handed in reads as it did; for arguments that hold together at most 1048576 letters and values. The card ties what the row lists of package utf8's tables to the program's text. -/
import Derived.Test.YtbnadlpkbbdgjaaGreatDoorM17
import Derived.Test.YtbnadlpkbbdgjaaGreatDoorXAyp4
set_option linter.unusedSimpArgs false
set_option linter.unusedVariables false
namespace Go.Proofs.YtbnadlpkbbdgjaaGreatDoor
open Go.RowKit
open Go.ChangeShapes Go.WideShapes Go.ChangeAt
open Go.ChangeMaps (open_string shut_string)
set_option linter.unusedVariables false

set_option maxRecDepth 100000 in
theorem reads_AxisLies (os : Os) {H : Type} (enc : TypeId × Value → H) : ∃ places, DataW.whole enc Tryz.prog ((World.laidAll Tryz.prog os Rows.axisLiesUptoRow.laid).forCall (fun _ _ => 0) ⟨#[], #[.int .i64 0, .slice none 0 0, zargs], []⟩).memory Tryz.f4.params.toList Rows.axisLiesSpec.vars false (#[.int .i64 0, .slice none 0 0, zargs] : Array Value).toList 8 = some ([.lit (.int .i64 0), .nil, .agg [.lit (.int .i64 0), .lit (.bool false), .agg [.lit (.bool false), .agg [.lit (.int .u64 0), .lit (.int .u64 0)], .lit (.int .i64 0)], .lit (.string []), .lit (.int .i64 0), .nil, .nil]], [], places) :=
  ⟨[], by kernel_rfl⟩
set_option maxRecDepth 100000 in
theorem lifted_AxisLies (os : Os) (started : os.Started) (H : Type) (enc : TypeId × Value → H) (F : Stop.Interp) :
    ReturnsInHanded {} Tryz.checked os 4 .any ((Rows.OpenSpec.upto Rows.axisLiesSpec).preRow enc Tryz.prog Tryz.f4 Rows.axisLiesUptoRow.domain false Rows.axisLiesUptoRow.laid) (((Rows.OpenSpec.upto Rows.axisLiesSpec).at F).post enc Tryz.prog Tryz.f4 false true false false) := by
  obtain ⟨places, hx⟩ := reads_AxisLies os enc
  refine returnsInHanded_of_row (C := Tryz.checked) (s := Rows.OpenSpec.upto Rows.axisLiesSpec) own started (by kernel_rfl) Tryz.func4
    ⟨World.laidAll Tryz.prog os Rows.axisLiesUptoRow.laid, fun _ _ => 0, ⟨#[], #[.int .i64 0, .slice none 0 0, zargs], []⟩, World.laidAll_os _ _ _, World.shaped_of_ZipB (by kernel_rfl) (by kernel_rfl),
      rfl, (Input.okWide_of_okWideB (by kernel_rfl)).2,
      OpenSpec.preRow_of_cond 8 hx (by kernel_rfl) (fun k hk => by cases hk; kernel_rfl) (by kernel_rfl) (laidMet_laidAll _ (by kernel_rfl) (by kernel_rfl)), by
        simp only [Assume.holds]
        exact ⟨by simp, by simp, fun _ => Modest.zero, by simp, by simp⟩⟩ ?_
  intro W base args ds gs before hval0 hW _ hk _ hL _ _
  have hval : ∀ (j : Nat) t v, Tryz.f4.params[j]? = some t → args[j]? = some v → Value.okWide Tryz.prog W .any base t v := hval0
  have hk1 := hk _ rfl
  have htab : Tabs W := tabs_laid hL
  have hW' := hW
  obtain ⟨p, q, hA0, hV, rfl, hfz, hnd⟩ := hW
  have hA : DataW.TrodAll enc Tryz.prog W 0 (fun _ => true) true Tryz.f4.params.toList args.toList ds p := hA0
  rw [Tryz.params4] at hA hval
  obtain ⟨v0, vs0, d0, ds0, p0, q0, hargs0, rfl, rfl, h0, r0⟩ := trodAll_cons hA
  obtain ⟨v1, vs1, d1, ds1, p1, q1, hargs1, rfl, rfl, h1, r1⟩ := trodAll_cons r0
  obtain ⟨v2, vs2, d2, ds2, p2, q2, hargs2, rfl, rfl, h2, r2⟩ := trodAll_cons r1
  obtain ⟨rfl, rfl, rfl⟩ := trodAll_nil r2
  obtain rfl : args = #[v0, v1, v2] := by cases args; simp_all
  obtain ⟨rfl, rfl⟩ := trodVars_none hV
  have k0 := h0
  have lt0 : ∀ x ∈ p0, x.block < W.heap.size := by obtain ⟨m, hm⟩ := k0; exact DataW.trod_lt m _ _ _ hm
  have k1 := h1
  have lt1 : ∀ x ∈ p1, x.block < W.heap.size := by obtain ⟨m, hm⟩ := k1; exact DataW.trod_lt m _ _ _ hm
  have k2 := h2
  have lt2 : ∀ x ∈ p2, x.block < W.heap.size := by obtain ⟨m, hm⟩ := k2; exact DataW.trod_lt m _ _ _ hm
  have hsz : Rows.uptoBulk d1 + Rows.uptoBulk d2 ≤ 1048576 := by
    have h := of_decide_eq_true hk1
    simp only [List.cons_append, List.nil_append, Rows.uptoBulkAll] at h
    omega
  obtain ⟨a0, rfl, _, _, _⟩ := open_int Tryz.underlying3 (hval 0 3 v0 rfl rfl) h0
  obtain ⟨A, C, ds, rfl, hvl, hdz⟩ := open_vlist (hval 1 22 v1 rfl rfl) h1 (by omega)
  obtain ⟨vd, A2, C2, A3, C3, rfl, hva, hvz⟩ := open_val (hval 2 30 v2 rfl rfl) h2 (by omega)
  have hsall : ∀ d ∈ ds ++ [vd], d.size ≤ 1048576 := fun d hd => by
    rcases List.mem_append.1 hd with hd | hd
    · obtain ⟨r, hr, e⟩ := List.getElem_of_mem hd
      have := vg_size hr
      rw [vg_get hr, e] at this
      omega
    · rw [List.mem_singleton.1 hd]; exact hvz
  clear hA0 hval0
  refine (walk_lies a0 A C ds vd A2 C2 A3 C3 W htab hvl hva).mono fun e W' ⟨he, bel⟩ => ?_
  subst he
  exact ⟨_, rfl, _, _, _, [], _, [], hW', trodAll_mk1 (shut_bool Tryz.underlying4 _), (trodAll_cons_mk (Below.trod laidOut (by kernel_rfl) (of_decide_eq_true (by kernel_rfl)) k0 bel lt0) (trodAll_cons_mk (Below.trod laidOut (by kernel_rfl) (of_decide_eq_true (by kernel_rfl)) k1 bel lt1) (trodAll_cons_mk (Below.trod laidOut (by kernel_rfl) (of_decide_eq_true (by kernel_rfl)) k2 bel lt2) trodAll_mk0))), rfl, bel.frame _, fun h => by cases h⟩
theorem AxisLies_said : Rows.AxisLiesUptoSaid :=
  OpenClaim.holds_of_cond 4 Tryz.f4 rfl rfl rfl rfl rfl rfl rfl ⟨rfl, rfl, rfl, rfl, rfl⟩ rfl rfl rfl rfl rfl (by kernel_rfl) Tryz.func4 (by kernel_rfl)
    (of_decide_eq_true (by kernel_rfl)) (by unfold Func.isWrapper; first | (rw [if_pos (by decide +kernel)]; kernel_rfl) | (rw [if_neg (by decide +kernel)]; exact ⟨rfl, rfl⟩))
    (fun os started H enc _ F => by rw [OpenClaim.pre_eq_preRow]; exact lifted_AxisLies os started H enc F)
theorem plain_AxisLies (f : FuncId) (fn : Func) (hf : Tryz.pinned.checked.prog.funcNamed "tariff/tarifflaw22.AxisLies" = some f) (hfn : Tryz.pinned.checked.prog.funcs[f]? = some fn) :
    false = Tryz.pinned.checked.prog.looks [] ∧ ∀ (j : Nat) t, fn.params[j]? = some t → Tryz.pinned.checked.prog.wantsStandIn t = false := by
  obtain rfl : f = 4 := Option.some.inj ((show Tryz.prog.funcNamed "tariff/tarifflaw22.AxisLies" = some 4 by kernel_rfl).symm.trans hf) |>.symm
  obtain rfl : fn = Tryz.f4 := (Option.some.inj (Tryz.func4.symm.trans hfn)).symm
  refine ⟨by kernel_rfl, fun j t ht => ?_⟩
  rw [Tryz.params4] at ht
  have hm : t ∈ [3, 22, 30] := by simpa using Array.mem_of_getElem? ht
  have hall : ([3, 22, 30].all fun u => !Tryz.prog.wantsStandIn u) = true := by kernel_rfl
  exact (show Tryz.prog.wantsStandIn t = false by simpa using List.all_eq_true.1 hall t hm)
theorem AxisLies_holds : Rows.AxisLiesUptoCardSaid :=
  Claim7.holds_tied_plain_at .later [] _ _ _ _ AxisLies_said (fun _ h => by cases h) (by kernel_rfl) (fun _ h => by cases h) axisLiesUpto_row_tie rfl ⟨rfl, rfl⟩ (by kernel_rfl) rfl plain_AxisLies (by kernel_rfl)
#print axioms AxisLies_holds
end Go.Proofs.YtbnadlpkbbdgjaaGreatDoor
