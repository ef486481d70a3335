/- Arguments of ints, and of rows of ints, opened. -/
import Derived.Test.YtlpoopmjgobnnaaAx
import Derived.ProofKit
import Derived.OpenShut
import Derived.ShutString
import Derived.ChangeOld
import Derived.Below
import Derived.Lib.SmallJoins
import Derived.Deep.Matrix
set_option linter.unusedSimpArgs false
set_option linter.unusedVariables false
namespace Go.Proofs.Ytlpoopmjgobnnaa
open Go.RowKit
open Go.ChangeShapes Go.WideShapes Go.ChangeAt
open Go.ChangeMaps (open_string shut_string)
set_option linter.unusedVariables false
theorem own : ownKnob Try.prog.godebug = none := by kernel_rfl
theorem laidOut : laidOutB Try.prog = true := by kernel_rfl
theorem open_lst {H : Type} {enc : TypeId × Value → H} {W : World} {base B : Nat} {v : Value} {d : DataW H} {p : List MemPlace} (hv : Value.okWide Try.prog W .any B 22 v)
    (h : DataW.Trod enc Try.prog W base (fun _ => true) true 22 v d p) : ∃ ds, Lst W v ds := by
  obtain ⟨a0, len, cap, rfl⟩ := okWide_slice Try.underlying22 hv
  obtain ⟨fuel, hf⟩ := h
  rcases Go.ChangeShapes.open_ints Try.underlying22 Try.underlying3 (by kernel_rfl) hf with ⟨hcs0, _⟩ | ⟨a, len', cap', zs, hcs0, _, hl, hm, hz, _, hc, _⟩
  · simp [Value.cells] at hcs0
    obtain ⟨rfl, rfl, rfl⟩ := hcs0
    exact ⟨[], none, 0, rfl, Nat.zero_le _, fun r hr => absurd hr (Nat.not_lt_zero _)⟩
  · simp [Value.cells] at hcs0
    obtain ⟨rfl, rfl, rfl⟩ := hcs0
    have hzl : zs.length = cap := by simpa using hz
    have hn : (zs.take len).length = len := by rw [List.length_take]; omega
    refine ⟨zs.take len, some a, cap, by rw [hn], by rw [hn]; omega, fun c hc' => ?_⟩
    rw [hn] at hc'
    obtain ⟨b, o, spot⟩ := a
    have hspot : spot = none := by simpa [Addr.add] using World.cell?_spot (hc 0 (by omega))
    subst hspot
    refine ⟨b, o, rfl, ?_⟩
    rw [← add_plain, hc c (by omega), List.getD_eq_getElem?_getD, List.getD_eq_getElem?_getD, List.getElem?_take_of_lt hc']
theorem open_mat {H : Type} {enc : TypeId × Value → H} {W : World} {base B : Nat} {v : Value} {d : DataW H} {p : List MemPlace} (hv : Value.okWide Try.prog W .any B 23 v)
    (h : DataW.Trod enc Try.prog W base (fun _ => true) true 23 v d p) : ∃ ns, Mat W v ns := by
  obtain ⟨a0, len, cap, rfl⟩ := okWide_slice Try.underlying23 hv
  obtain ⟨fuel, hf⟩ := h
  rcases Deep.open_int_rows Try.underlying23 Try.underlying22 Try.underlying3 (by kernel_rfl) (by kernel_rfl) hf with ⟨hcs0, _⟩ | ⟨a, len', cap', A, L, C, Z, hcs0, _, hl, hm, _, hrows⟩
  · simp [Value.cells] at hcs0
    obtain ⟨rfl, rfl, rfl⟩ := hcs0
    exact ⟨[], none, 0, rfl, Nat.zero_le _, fun r hr => absurd hr (Nat.not_lt_zero _)⟩
  · simp [Value.cells] at hcs0
    obtain ⟨rfl, rfl, rfl⟩ := hcs0
    have hn : ((List.range len).map fun r => (Z r).take (L r)).length = len := by simp
    refine ⟨(List.range len).map fun r => (Z r).take (L r), some a, cap, by rw [hn], by rw [hn]; omega, fun r hr => ?_⟩
    rw [hn] at hr
    obtain ⟨b, o, spot⟩ := a
    obtain ⟨c1, c2, c3, c4, c5, c6, c7⟩ := hrows r (by omega)
    have hspot : spot = none := by simpa [Addr.add] using World.cell?_spot (hrows 0 (by omega)).1
    subst hspot
    have e : nd ((List.range len).map fun r => (Z r).take (L r)) r = (Z r).take (L r) := by
      unfold nd; rw [List.getD_eq_getElem?_getD, List.getElem?_map, List.getElem?_range hr]; rfl
    have el : ((Z r).take (L r)).length = L r := by rw [List.length_take]; omega
    refine ⟨b, o, _, rfl, by rw [← add_plain]; exact c1, ?_⟩
    rw [e]
    refine ⟨A r, C r, by rw [el], by rw [el]; omega, fun c hc => ?_⟩
    rw [el] at hc
    cases hA : A r with
    | none => have := c6 hA; omega
    | some a' =>
      obtain ⟨b', o', spot'⟩ := a'
      have hcell := (c7 _ hA).2 c (by omega)
      have hspot : spot' = none := by simpa [Addr.add] using World.cell?_spot ((c7 _ hA).2 0 (by omega))
      subst hspot
      refine ⟨b', o', rfl, ?_⟩
      rw [← add_plain, hcell, List.getD_eq_getElem?_getD, List.getD_eq_getElem?_getD, List.getElem?_take_of_lt hc]

end Go.Proofs.Ytlpoopmjgobnnaa
