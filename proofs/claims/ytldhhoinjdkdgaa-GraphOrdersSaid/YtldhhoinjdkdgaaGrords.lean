/- GraphOrders: for all lists of needs the program's Order answers what the document says: the law returns true, and what was handed in reads as it did. No condition. -/
import Derived.ProofKit
import Derived.OpenShut
import Derived.ShutString
import Derived.ChangeOld
import Derived.Below
import Derived.Lib.SmallJoins
import Derived.Deep.Matrix
import Derived.Test.YtldhhoinjdkdgaaM1
set_option linter.unusedSimpArgs false
set_option linter.unusedVariables false
namespace Go.Proofs.Ytldhhoinjdkdgaa
open Go.RowKit
open Go.ChangeShapes Go.WideShapes Go.ChangeAt
open Go.ChangeMaps (open_string shut_string)
set_option linter.unusedVariables false
theorem own : ownKnob Try.prog.godebug = none := by kernel_rfl
theorem laidOut : laidOutB Try.prog = true := by kernel_rfl

theorem open_mat {H : Type} {enc : TypeId × Value → H} {W : World} {base B : Nat} {v : Value} {d : DataW H} {p : List MemPlace} (hv : Value.okWide Try.prog W .any B 22 v)
    (h : DataW.Trod enc Try.prog W base (fun _ => true) true 22 v d p) : ∃ ns, Mat W v ns := by
  obtain ⟨a0, len, cap, rfl⟩ := okWide_slice Try.underlying22 hv
  obtain ⟨fuel, hf⟩ := h
  rcases Deep.open_int_rows Try.underlying22 Try.underlying24 Try.underlying3 (by kernel_rfl) (by kernel_rfl) hf with ⟨hcs0, _⟩ | ⟨a, len', cap', A, L, C, Z, hcs0, _, hl, hm, _, hrows⟩
  · simp [Value.cells] at hcs0
    obtain ⟨rfl, rfl, rfl⟩ := hcs0
    exact ⟨[], none, 0, rfl, Nat.zero_le _, fun r hr => absurd hr (Nat.not_lt_zero _)⟩
  · simp [Value.cells] at hcs0
    obtain ⟨rfl, rfl, rfl⟩ := hcs0
    have hn : ((List.range len).map fun r => (Z r).take (L r)).length = len := by simp
    refine ⟨(List.range len).map fun r => (Z r).take (L r), some a, cap, by rw [hn], by rw [hn]; omega, fun r hr => ?_⟩
    rw [hn] at hr
    obtain ⟨b, o, spot⟩ := a
    obtain ⟨c1, c2, c3, c4, c5, c6, c7⟩ := hrows r (by omega)
    have hspot : spot = none := by simpa [Addr.add] using World.cell?_spot (hrows 0 (by omega)).1
    subst hspot
    have e : nd ((List.range len).map fun r => (Z r).take (L r)) r = (Z r).take (L r) := by
      unfold nd; rw [List.getD_eq_getElem?_getD, List.getElem?_map, List.getElem?_range hr]; rfl
    have el : ((Z r).take (L r)).length = L r := by rw [List.length_take]; omega
    refine ⟨b, o, _, rfl, by rw [← add_plain]; exact c1, ?_⟩
    rw [e]
    refine ⟨A r, C r, by rw [el], by rw [el]; omega, fun c hc => ?_⟩
    rw [el] at hc
    cases hA : A r with
    | none => have := c6 hA; omega
    | some a' =>
      obtain ⟨b', o', spot'⟩ := a'
      have hcell := (c7 _ hA).2 c (by omega)
      have hspot : spot' = none := by simpa [Addr.add] using World.cell?_spot ((c7 _ hA).2 0 (by omega))
      subst hspot
      refine ⟨b', o', rfl, ?_⟩
      rw [← add_plain, hcell, List.getD_eq_getElem?_getD, List.getD_eq_getElem?_getD, List.getElem?_take_of_lt hc]

set_option maxHeartbeats 1000000 in
theorem walk_GraphOrders (ns : List (List Int)) (v : Value) (w : World) (h : Mat w v ns) :
    Calls Try.prog 3 #[v] w fun e w' => e = .returned (.bool true) ∧ Below w.heap.size w w' := by
  go_enter Try.func3, Try.ntmps3
  go_wp2_with ((go_at_call 8; with_reducible refine (known_any _).mono ?_); rintro _ w1 ⟨rfl, hb1⟩; have hb1s := hb1.size; (try simp only [World.size_alloc, World.size_setCell, World.size_drew, World.heap_drewN] at hb1s); obtain ⟨hb1c, hb1f⟩ := bcell hb1; (try have : w.heap.size < w1.heap.size := by omega); (try have : w.heap.size + 1 < w1.heap.size := by omega); (try have : w.heap.size + 1 + 1 < w1.heap.size := by omega); (try have : w.heap.size + 1 + 1 + 1 < w1.heap.size := by omega))
  refine (docorder_any ns v _ (h.below hb1)).mono ?_
  rintro _ w2 ⟨o2, v2, rfl, k2, hb2⟩
  have hb3 := hb1.trans (hb2.mono hb1.size)
  obtain ⟨q, hq⟩ : ∃ q, q = docOrd ns := ⟨_, rfl⟩
  rw [← hq] at k2 ⊢
  have HQ := Lib.hid hq
  obtain ⟨l, z⟩ := q
  clear hq hb1c hb1f
  go_wp2_with fail
  refine (order_any ns v _ (h.below hb3)).mono ?_
  rintro _ w4 ⟨o4, v4, rfl, k4, hb4⟩
  rw [← HQ.out] at k4 ⊢
  go_wp2_with fail
  refine (same_any v2 v4 l l _ (k2.lst.below hb4) k4.lst).mono ?_
  rintro _ w5 ⟨rfl, nn, rfl⟩
  rw [decide_eq_true (rfl : l = l)]
  go_wp2_with fail
  go_ret
  exact ⟨ret_bool (by simp), below_drewN (hb3.trans (hb4.mono hb3.size)) _⟩

set_option maxRecDepth 100000 in
theorem lifted_GraphOrders (os : Os) (started : os.Started) (H : Type) (enc : TypeId × Value → H) :
    ReturnsInHanded {} Try.checked os 3 .any (Rows.graphOrdersSpec.pre6 enc Try.prog Try.f3 Rows.graphOrdersRow.domain false) (Rows.graphOrdersSpec.post enc Try.prog Try.f3 false true false false) := by
  refine returnsInHanded_of_change (C := Try.checked) own started (by kernel_rfl) Try.func3
    (ChangeSpec.witness6 (enc := enc) (C := Try.checked) false ⟨#[], #[.slice none 0 0], []⟩ 8 (by kernel_rfl) (by kernel_rfl) (by kernel_rfl) (by kernel_rfl)) ?_
  intro W base args ds gs before hval0 hW hcnd _
  have hval : ∀ (j : Nat) t v, Try.f3.params[j]? = some t → args[j]? = some v → Value.okWide Try.prog W .any base t v := hval0
  have hW' := hW
  obtain ⟨p, q, hA0, hV, rfl, hfz, hnd⟩ := hW
  have hA : DataW.TrodAll enc Try.prog W 0 (fun _ => true) true Try.f3.params.toList args.toList ds p := hA0
  rw [Try.params3] at hA hval
  obtain ⟨v0, vs0, d0, ds0, p0, q0, hargs0, rfl, rfl, h0, r0⟩ := trodAll_cons hA
  obtain ⟨rfl, rfl, rfl⟩ := trodAll_nil r0
  obtain rfl : args = #[v0] := by cases args; simp_all
  obtain ⟨rfl, rfl⟩ := trodVars_none hV
  have k0 := h0
  have lt0 : ∀ x ∈ p0, x.block < W.heap.size := by obtain ⟨m, hm⟩ := k0; exact DataW.trod_lt m _ _ _ hm
  obtain ⟨a0, w0⟩ := open_mat (hval 0 22 v0 rfl rfl) h0
  clear hA0 hval0
  refine (walk_GraphOrders a0 v0 W w0).mono fun e W' ⟨he, bel⟩ => ?_
  subst he
  exact ⟨_, rfl, _, _, _, [], _, [], hW', trodAll_mk1 (shut_bool Try.underlying4 _), (trodAll_cons_mk (Below.trod laidOut (by kernel_rfl) (of_decide_eq_true (by kernel_rfl)) k0 bel lt0) trodAll_mk0), rfl, bel.frame _, fun h => by cases h⟩

theorem GraphOrders_holds : Rows.GraphOrdersSaid :=
  OpenClaim.holds_of_wide 3 Try.f3 rfl rfl rfl rfl rfl rfl rfl ⟨rfl, rfl, rfl, rfl, rfl⟩ rfl rfl rfl rfl rfl (by kernel_rfl) Try.func3 (by kernel_rfl)
    (of_decide_eq_true (by kernel_rfl)) (by unfold Func.isWrapper; first | (rw [if_pos (by decide +kernel)]; kernel_rfl) | (rw [if_neg (by decide +kernel)]; exact ⟨rfl, rfl⟩))
    (fun os started H enc _ => lifted_GraphOrders os started H enc)
#print axioms GraphOrders_holds
end Go.Proofs.Ytldhhoinjdkdgaa
