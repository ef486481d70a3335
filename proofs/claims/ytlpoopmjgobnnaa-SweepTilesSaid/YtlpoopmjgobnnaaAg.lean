/- Rows of ints that came in, rows of rows of ints. -/
import Derived.Test.YtlpoopmjgobnnaaYb
import Derived.Test.YtlpoopmjgobnnaaNw
import Derived.Test.YtlpoopmjgobnnaaZi
set_option linter.unusedSimpArgs false
set_option linter.unusedVariables false
namespace Go.Proofs.Ytlpoopmjgobnnaa
open Go.RowKit

def nd (ns : List (List Int)) (k : Nat) : List Int := ns.getD k []
/-- v reads as the ints xs -/
def Lst (w : World) (v : Value) (xs : List Int) : Prop :=
  ∃ A C, v = .slice A xs.length C ∧ xs.length ≤ maxLen ∧ ∀ c, c < xs.length → ∃ b o, A = some ⟨b, o, none⟩ ∧ w.cell? ⟨b, o + c, none⟩ = some (.int .i64 (xs.getD c 0))
/-- v reads as the rows ns -/
def Mat (w : World) (v : Value) (ns : List (List Int)) : Prop :=
  ∃ A C, v = .slice A ns.length C ∧ ns.length ≤ maxLen ∧ ∀ r, r < ns.length → ∃ b o u, A = some ⟨b, o, none⟩ ∧ w.cell? ⟨b, o + r, none⟩ = some u ∧ Lst w u (nd ns r)
theorem cell_lt {w : World} {b o : Nat} {u : Value} (h : w.cell? ⟨b, o, none⟩ = some u) : b < w.heap.size := by
  rcases Nat.lt_or_ge b w.heap.size with hlt | hge
  · exact hlt
  · simp [World.cell?, Array.getElem?_eq_none hge] at h
section
variable {w w' : World} {v : Value} {xs : List Int} {ns : List (List Int)}
theorem Lst.below (h : Lst w v xs) (hb : Below w.heap.size w w') : Lst w' v xs := by
  obtain ⟨A, C, h1, h2, h3⟩ := h
  refine ⟨A, C, h1, h2, fun c hc => ?_⟩
  obtain ⟨b, o, h4, h5⟩ := h3 c hc
  exact ⟨b, o, h4, (hb.cell (p := ⟨b, o + c, none⟩) (cell_lt h5)).trans h5⟩
theorem Mat.below (h : Mat w v ns) (hb : Below w.heap.size w w') : Mat w' v ns := by
  obtain ⟨A, C, h1, h2, h3⟩ := h
  refine ⟨A, C, h1, h2, fun r hr => ?_⟩
  obtain ⟨b, o, u, h4, h5, h6⟩ := h3 r hr
  exact ⟨b, o, u, h4, (hb.cell (p := ⟨b, o + r, none⟩) (cell_lt h5)).trans h5, h6.below hb⟩
theorem Lst.is (h : Lst w v xs) : ∃ A C, v = .slice A xs.length C ∧ xs.length ≤ maxLen := by
  obtain ⟨A, C, h1, h2, _⟩ := h
  exact ⟨A, C, h1, h2⟩
theorem Lst.at {A : Option Addr} {n C : Nat} (h : Lst w (.slice A n C) xs) {c : Nat} (hc : c < xs.length) : ∃ b o, A = some ⟨b, o, none⟩ ∧ w.cell? ⟨b, o + c, none⟩ = some (.int .i64 (xs.getD c 0)) := by
  obtain ⟨A', C', h1, _, h3⟩ := h
  injection h1 with e1 e2 e3
  subst e1
  exact h3 c hc
theorem Mat.at {A : Option Addr} {n C : Nat} (h : Mat w (.slice A n C) ns) {r : Nat} (hr : r < ns.length) : ∃ b o u, A = some ⟨b, o, none⟩ ∧ w.cell? ⟨b, o + r, none⟩ = some u ∧ Lst w u (nd ns r) := by
  obtain ⟨A', C', h1, _, h3⟩ := h
  injection h1 with e1 e2 e3
  subst e1
  exact h3 r hr
theorem Lst.drewN (h : Lst w v xs) (n : Nat) : Lst (w.drewN n) v xs := h
theorem Mat.drewN (h : Mat w v ns) (n : Nat) : Mat (w.drewN n) v ns := h
theorem Row.lst {o : Nat → Nat} {l : Nat} (h : Row w o l v xs) : Lst w v xs := by
  rcases h.1.2 with ⟨rfl, h0⟩ | ⟨g, cap, cur, rfl, _, hg, h1, h2, h3, h4⟩
  · exact ⟨none, 0, by rw [h0], by rw [h0]; exact Nat.zero_le _, fun c hc => absurd hc (by omega)⟩
  · refine ⟨_, _, rfl, by omega, fun c hc => ?_⟩
    obtain ⟨g2, cap2, cs, e, k1, k2, k3, k4, k5⟩ := h.form (by omega)
    injection e with e1 e2 e3
    injection e1 with e1
    injection e1 with e1
    subst e1
    exact ⟨_, 0, rfl, by rw [Nat.zero_add]; exact k4.1.cell c (take_get k5 hc)⟩
end
/-- numbers as what came in -/
def zs (l : List Nat) : List Int := l.map fun (x : Nat) => (x : Int)
theorem zs_len (l : List Nat) : (zs l).length = l.length := List.length_map _
theorem zs_get (l : List Nat) (k : Nat) : (zs l).getD k 0 = ((l.getD k 0 : Nat) : Int) := by
  unfold zs
  rw [List.getD_eq_getElem?_getD, List.getD_eq_getElem?_getD, List.getElem?_map]
  cases l[k]? <;> rfl
theorem zs_app (l r : List Nat) : zs (l ++ r) = zs l ++ zs r := List.map_append
theorem zs_of {ds : List Int} (h : ∀ d ∈ ds, 0 ≤ d) : zs (ds.map Int.toNat) = ds := by
  unfold zs
  rw [List.map_map]
  have : ∀ d ∈ ds, ((fun (x : Nat) => (x : Int)) ∘ Int.toNat) d = d := fun d hd => Int.toNat_of_nonneg (h d hd)
  rw [List.map_congr_left this, List.map_id']
end Go.Proofs.Ytlpoopmjgobnnaa
