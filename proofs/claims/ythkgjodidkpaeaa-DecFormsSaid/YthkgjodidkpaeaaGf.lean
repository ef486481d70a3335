/- Two decimals held against each other; the laws' fixed fact; a decimal among a law's arguments. -/
import Derived.Test.YthkgjodidkpaeaaFj
import Derived.Test.YthkgjodidkpaeaaEq
import Derived.Test.YthkgjodidkpaeaaLo
import Derived.ChangeArms
import Derived.WideShapes
set_option linter.unusedSimpArgs false
set_option linter.unusedVariables false
namespace Go.Proofs.Ythkgjodidkpaeaa
open Go.RowKit

set_option maxRecDepth 100000 in
theorem eq_dec (b : Bool) (x y s : Int) (b' : Bool) (x' y' s' : Int) (W : World) : (binOp .eql 26 (.agg #[.bool b, .int .u64 x, .int .u64 y, .int .i64 s]) (.agg #[.bool b', .int .u64 x', .int .u64 y', .int .i64 s'])).run Try.prog W = .ok (.bool ((b == b') && ((x == x') && ((y == y') && (s == s'))))) W := by
  go_simp
  by_cases h0 : b = b' <;> by_cases h1 : x = x' <;> by_cases h2 : y = y' <;> by_cases h3 : s = s' <;> simp [h0, h1, h2, h3]
set_option maxRecDepth 100000 in
theorem neq_dec (b : Bool) (x y s : Int) (b' : Bool) (x' y' s' : Int) (W : World) : (binOp .neq 26 (.agg #[.bool b, .int .u64 x, .int .u64 y, .int .i64 s]) (.agg #[.bool b', .int .u64 x', .int .u64 y', .int .i64 s'])).run Try.prog W = .ok (.bool (!((b == b') && ((x == x') && ((y == y') && (s == s')))))) W := by
  go_simp
  by_cases h0 : b = b' <;> by_cases h1 : x = x' <;> by_cases h2 : y = y' <;> by_cases h3 : s = s' <;> simp [h0, h1, h2, h3]
theorem fit_exact {n t : Nat} (h : n < B34) (ht : t ≤ 18) : FitC n (10 ^ t) = stripC n t ∧ FitS n (10 ^ t) = stripS n t ∧ FitE n (10 ^ t) = 0 := by
  have e := near_high n t 0
  rw [Nat.add_zero, Nat.pow_zero, Nat.mul_one] at e
  unfold FitC FitS FitE
  rw [fit_top n t ht, fitK_yes (by rw [e]; exact h), e]
  exact ⟨rfl, rfl, rfl⟩
theorem kn_add (W : World) : Calls Try.prog 15 #[.agg #[.bool false, .int .u64 0, .int .u64 1, .int .i64 1], .agg #[.bool false, .int .u64 0, .int .u64 2, .int .i64 1]] W fun e w' => e = .returned (.tuple #[.agg #[.bool false, .int .u64 0, .int .u64 3, .int .i64 1], .int .i64 0]) ∧ Below W.heap.size W w' := by
  have hB : (3 : Nat) < B34 := by unfold B34; decide
  have h := add_ok false 1 1 false 2 1 ((dform_iff _ _ _).2 ⟨1, rfl, by omega, by decide, fun h => absurd h (by decide), .inr (by decide)⟩) ((dform_iff _ _ _).2 ⟨1, rfl, by omega, by decide, fun h => absurd h (by decide), .inr (by decide)⟩) (by omega) (by omega) (by decide) (by decide) W
  obtain ⟨e1, e2, e3, e4⟩ := add_units false false 1 2 1 1 1 (by decide) (by decide) rfl
  rw [e1, e2, e3, e4] at h
  obtain ⟨s1, s2⟩ := sgn_same (b := false) (b' := false) (x := 1 * 10 ^ (1 - 1)) (y := 2 * 10 ^ (1 - 1)) rfl
  rw [s1, s2] at h
  obtain ⟨f1, f2, f3⟩ := fit_exact (n := 3) (t := 1) hB (by decide)
  obtain ⟨g1, g2⟩ := strip_no (c := 3) (by decide) 1
  rw [g1] at f1
  rw [g2] at f2
  have e : 1 * 10 ^ (1 - 1) + 2 * 10 ^ (1 - 1) = 3 := by decide
  rw [e, f1, f2, f3] at h
  have a0 : wd 1 0 = 1 := by rw [wd0]; rfl
  have a1 : wd 1 1 = 0 := by rw [wd1]; rfl
  have b0 : wd 2 0 = 2 := by rw [wd0]; rfl
  have b1 : wd 2 1 = 0 := by rw [wd1]; rfl
  have c0 : wd 3 0 = 3 := by rw [wd0]; rfl
  have c1 : wd 3 1 = 0 := by rw [wd1]; rfl
  rw [a0, a1, b0, b1, c0, c1, sg_pos (by decide)] at h
  exact h
set_option maxHeartbeats 1000000 in
theorem known_any (w : World) : Calls Try.prog 11 #[] w fun e w' => e = .returned (.bool true) ∧ Below w.heap.size w w' := by
  have q : ∀ W, (binOp .eql 26 (.agg #[.bool false, .int .u64 0, .int .u64 3, .int .i64 1]) (.agg #[.bool false, .int .u64 0, .int .u64 3, .int .i64 1])).run Try.prog W = .ok (.bool true) W := fun W => eq_dec _ _ _ _ _ _ _ _ W
  go_enter Try.func11, Try.ntmps11
  go_wp2_with fail
  refine (kn_add _).mono ?_
  rintro _ w1 ⟨rfl, hb1⟩; have hb1s := hb1.size; (try simp only [World.size_alloc, World.size_setCell, World.size_drew, World.heap_drewN] at hb1s); obtain ⟨hb1c, hb1f⟩ := bcell hb1; (try have : w.heap.size < w1.heap.size := by omega); (try have : w.heap.size + 1 < w1.heap.size := by omega); (try have : w.heap.size + 1 + 1 < w1.heap.size := by omega); (try have : w.heap.size + 1 + 1 + 1 < w1.heap.size := by omega)
  go_wp2_with fail
  go_ret
  exact ⟨rfl, by (repeat' (first | (with_reducible exact Below.refl _ _) | (with_reducible assumption) | (with_reducible refine Below.drew ?_) | (with_reducible refine below_drewN ?_ _) | ((with_reducible refine Below.alloc ?_ ?_ _); rotate_left; focus (go_size; done)) | ((with_reducible refine Below.setCell ?_ ?_ _); rotate_left; focus (go_size; done)) | ((with_reducible refine Below.trans ?_ (Below.mono (by with_reducible assumption) ?_)); rotate_left; focus (go_size; done))))⟩
set_option maxRecDepth 100000 in
theorem open_dec {H : Type} {enc : TypeId × Value → H} {W : World} {base b0 : Nat} {v : Value} {d : DataW H} {p : List MemPlace} {sp : Nat → Bool} {held : Bool}
    (hv : Value.okWide Try.prog W .any base 26 v) (h : DataW.Trod enc Try.prog W b0 sp held 26 v d p) :
    ∃ (b : Bool) (a0 a1 a2 : Int), v = .agg #[.bool b, .int .u64 a0, .int .u64 a1, .int .i64 a2] ∧ (Lit.int .u64 a0).wf = true ∧ (Lit.int .u64 a1).wf = true ∧ (Lit.int .i64 a2).wf = true := by
  obtain ⟨cs, rfl, hsz⟩ := Go.WideShapes.okWide_struct Try.underlying26 hv
  have hc : Try.prog.cellsOf 26 = 4 := by kernel_rfl
  obtain ⟨c0, c1, c2, c3, rfl⟩ := Joins.array4 (hsz.trans hc)
  obtain ⟨fuel, hf⟩ := h
  obtain ⟨xs, n, _, hx, _, hlen, hg⟩ := DataW.trod_struct Try.underlying26 hf
  have n0 : Try.prog.cellsOf 4 = 1 := by kernel_rfl
  have n1 : Try.prog.cellsOf 24 = 2 := by kernel_rfl
  have n2 : Try.prog.cellsOf 3 = 1 := by kernel_rfl
  have n3 : Try.prog.cellsOf 22 = 1 := by kernel_rfl
  have g0 := hg 0 _ rfl
  have g1 := hg 1 _ rfl
  have g2 := hg 2 _ rfl
  clear hg hf hx
  match xs, hlen with
  | [y0, y1, y2], _ =>
    simp only [List.getElem_toArray, List.getElem_cons_zero, List.getElem_cons_succ, n0, n1, n2] at g0 g1 g2
    simp [Value.cells] at g0 g1 g2
    obtain ⟨b, e0, _⟩ := DataW.trod_bool Try.underlying4 g0
    obtain ⟨z2, e2, _, w2⟩ := DataW.trod_int Try.underlying3 g2
    obtain ⟨ys, n', _, _, _, hlen2, hg2⟩ := DataW.trod_struct Try.underlying24 g1
    have k0 := hg2 0 _ rfl
    have k1 := hg2 1 _ rfl
    match ys, hlen2 with
    | [q0, q1], _ =>
      simp only [List.getElem_toArray, List.getElem_cons_zero, List.getElem_cons_succ, n3] at k0 k1
      simp at k0 k1
      obtain ⟨z0, f0, _, v0⟩ := DataW.trod_int Try.underlying22 k0
      obtain ⟨z1, f1, _, v1⟩ := DataW.trod_int Try.underlying22 k1
      simp at e0 e2 f0 f1
      subst e0 e2 f0 f1
      exact ⟨b, z0, z1, z2, rfl, v0, v1, w2⟩
end Go.Proofs.Ythkgjodidkpaeaa
