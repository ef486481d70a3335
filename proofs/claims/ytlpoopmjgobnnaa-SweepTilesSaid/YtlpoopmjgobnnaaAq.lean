/- Sweep, the program's: a box gone through, cell by cell: an iterator with its own state. -/
import Derived.RangeFuncNested
import Derived.RangeFuncBound
import Derived.RangeFuncCalls
import Derived.RangeFuncLeaves
import Derived.Shelf.Abstract
import Derived.Shelf.RegionOpen
import Derived.OwnWalkIn
import Derived.TacticsInMore
import Derived.LoopNIn
import Derived.LoopIn
import Derived.Test.YtlpoopmjgobnnaaAp
import Derived.Test.YtlpoopmjgobnnaaAc
import Derived.Test.YtlpoopmjgobnnaaAf
set_option linter.unusedSimpArgs false
set_option linter.unusedVariables false
namespace Go.Proofs.Ytlpoopmjgobnnaa
open Go.RowKit
attribute [local go_sem] Oper.semAt_some

theorem nxt_pre : ∀ (m : Nat) {lo hi c e : List Nat}, lo.length = hi.length → c.length = hi.length → m ≤ c.length → nxt (lo.drop m) (hi.drop m) (c.drop m) = some e → nxt lo hi c = some (c.take m ++ e)
  | 0, _, _, _, _, _, _, _, h => h
  | m + 1, l :: lo, h :: hi, a :: c, e, h1, h2, h3, hh => by
    have ih := nxt_pre m (lo := lo) (hi := hi) (c := c) (e := e) (by simpa using h1) (by simpa using h2) (by simpa using h3) hh
    rw [nxt, ih]
    rfl
  | m + 1, _, _, [], _, _, _, h3, _ => absurd h3 (by simp)
  | m + 1, [], _ :: _, _, _, h1, _, _, _ => by cases h1
  | m + 1, _ :: _, [], _, _, h1, _, _, _ => by cases h1
  | m + 1, [], [], _ :: _, _, _, h2, _, _ => by cases h2
def atL (c lo : List Nat) (m : Nat) : List Nat := c.take m ++ lo.drop m
theorem atL_len {c lo : List Nat} {m : Nat} (h : c.length = lo.length) (hm : m ≤ c.length) : (atL c lo m).length = c.length := by
  unfold atL
  rw [List.length_append, List.length_take, List.length_drop]
  omega
theorem atL_get {c lo : List Nat} {m : Nat} (hm : m < c.length) : (atL c lo (m + 1)).getD m 0 = c.getD m 0 := by
  unfold atL
  rw [List.getD_eq_getElem?_getD, List.getElem?_append_left (by rw [List.length_take]; omega), List.getElem?_take_of_lt (Nat.lt_succ_self m), List.getD_eq_getElem?_getD]
theorem atL_set {c lo : List Nat} {m : Nat} (hm : m < c.length) (x : Nat) : (atL c lo (m + 1)).set m x = c.take m ++ x :: lo.drop (m + 1) := by
  unfold atL
  rw [take_getB hm 0, List.append_assoc, List.set_append_right _ _ (by rw [List.length_take]; omega), List.length_take, Nat.min_eq_left (by omega), Nat.sub_self]
  rfl
theorem atL_low {c lo : List Nat} {m : Nat} (hm : m < lo.length) : c.take m ++ lo.getD m 0 :: lo.drop (m + 1) = atL c lo m := by
  unfold atL
  rw [drop_at hm 0]
/-- what a round that goes on keeps: whatever cells lay, but in block s -/
def KpS (s : Nat) (W W' : World) : Prop := W.heap.size ≤ W'.heap.size ∧ ∀ (k : Nat) (o : Obj), k ≠ s → W.heap[k]? = some o → o.isCells = true → W'.heap[k]? = some o
theorem KpS.refl (s : Nat) (W : World) : KpS s W W := ⟨Nat.le_refl _, fun _ _ _ h _ => h⟩
theorem KpS.trans {s : Nat} {A B C : World} (h : KpS s A B) (k : KpS s B C) : KpS s A C := ⟨Nat.le_trans h.1 k.1, fun i o hi ho hc => k.2 i o hi (h.2 i o hi ho hc) hc⟩
theorem KpS.put {s : Nat} (W : World) (l : Nat) (o o' : Obj) (h : W.heap[l]? = some o) (hc : o.isCells = false) : KpS s W (W.putObj l o') := by
  refine ⟨by simp, fun k x _ hk hx => ?_⟩
  have hne : k ≠ l := fun e => by subst e; rw [h] at hk; cases hk; rw [hc] at hx; cases hx
  exact (World.putObj_heap_other hne).trans hk
theorem KpS.below {s : Nat} {W W' : World} (h : Below W.heap.size W W') : KpS s W W' := ⟨h.size, fun k o _ hk _ => (h.block k (Array.getElem?_eq_some_iff.1 hk).1).trans hk⟩
theorem KpS.cell {s : Nat} {W W' : World} (h : KpS s W W') {b i : Nat} {v : Value} (hb : b ≠ s) (hc : W.cell? ⟨b, i, none⟩ = some v) : W'.cell? ⟨b, i, none⟩ = some v := by
  obtain ⟨o, ho, hco⟩ := cells_of_cell hc
  exact (World.cell?_of_block (a := ⟨b, i, none⟩) ((h.2 b o hb ho hco).trans ho.symm)).trans hc
theorem KpS.bk {s g : Nat} {t : TypeId} {cs : List Value} {W W' : World} (h : KpS s W W') (hg : g ≠ s) (hk : Bk W g t cs) : Bk W' g t cs := h.2 g _ hg hk rfl
theorem KpS.set {s : Nat} {W : World} {i : Nat} (v : Value) : KpS s W (W.setCell ⟨s, i, none⟩ v) := by
  refine ⟨by rw [World.size_setCell]; exact Nat.le_refl _, fun k o hk ho _ => (Below.heap_setCell W ⟨s, i, none⟩ v k hk).trans ho⟩
/-- what came in, in blocks that are not s -/
def LstS (s : Nat) (w : World) (v : Value) (xs : List Int) : Prop := Lst w v xs ∧ ∀ A n C b o, v = .slice A n C → 0 < n → A = some ⟨b, o, none⟩ → b ≠ s
def CxsS (s : Nat) (w : World) (v : Value) (lo hi : List Nat) : Prop := Cxs w v lo hi ∧ ∀ A n C b o, v = .slice A n C → 0 < n → A = some ⟨b, o, none⟩ → b ≠ s
theorem LstS.kp {s : Nat} {w w' : World} {v : Value} {xs : List Int} (h : LstS s w v xs) (hk : KpS s w w') : LstS s w' v xs := by
  obtain ⟨⟨A, C, rfl, h2, h3⟩, h4⟩ := h
  refine ⟨⟨A, C, rfl, h2, fun c hc => ?_⟩, h4⟩
  obtain ⟨b, o, e, h5⟩ := h3 c hc
  exact ⟨b, o, e, hk.cell (h4 _ _ _ b o rfl (Nat.lt_of_le_of_lt (Nat.zero_le _) hc) e) h5⟩
theorem CxsS.kp {s : Nat} {w w' : World} {v : Value} {lo hi : List Nat} (h : CxsS s w v lo hi) (hk : KpS s w w') : CxsS s w' v lo hi := by
  obtain ⟨⟨A, C, rfl, h2, h3⟩, h4⟩ := h
  refine ⟨⟨A, C, rfl, h2, fun c hc => ?_⟩, h4⟩
  obtain ⟨b, o, e, h5⟩ := h3 c hc
  exact ⟨b, o, e, hk.cell (h4 _ _ _ b o rfl (Nat.lt_of_le_of_lt (Nat.zero_le _) hc) e) h5⟩
theorem LstS.of {s : Nat} {w : World} {v : Value} {xs : List Int} (h : Lst w v xs) (hs : w.heap.size ≤ s) : LstS s w v xs := by
  refine ⟨h, ?_⟩
  obtain ⟨A, C, rfl, h2, h3⟩ := h
  rintro A' n C' b o e hn rfl
  cases e
  obtain ⟨b', o', e, h5⟩ := h3 0 hn
  cases e
  have := cell_lt h5
  omega
theorem CxsS.of {s : Nat} {w : World} {v : Value} {lo hi : List Nat} (h : Cxs w v lo hi) (hs : w.heap.size ≤ s) : CxsS s w v lo hi := by
  refine ⟨h, ?_⟩
  obtain ⟨A, C, rfl, h2, h3⟩ := h
  rintro A' n C' b o e hn rfl
  cases e
  obtain ⟨b', o', e, h5⟩ := h3 0 hn
  cases e
  have := cell_lt h5
  omega
theorem LstS.below {s : Nat} {w w' : World} {v : Value} {xs : List Int} (h : LstS s w v xs) (hb : Below w.heap.size w w') : LstS s w' v xs := ⟨h.1.below hb, h.2⟩
theorem CxsS.below {s : Nat} {w w' : World} {v : Value} {lo hi : List Nat} (h : CxsS s w v lo hi) (hb : Below w.heap.size w w') : CxsS s w' v lo hi := ⟨h.1.below hb, h.2⟩
theorem frame64 (arr : Array Value) (h : arr.size = 64) : ∃ u : Nat → Value, arr = #[u 0, u 1, u 2, u 3, u 4, u 5, u 6, u 7, u 8, u 9, u 10, u 11, u 12, u 13, u 14, u 15, u 16, u 17, u 18, u 19, u 20, u 21, u 22, u 23, u 24, u 25, u 26, u 27, u 28, u 29, u 30, u 31, u 32, u 33, u 34, u 35, u 36, u 37, u 38, u 39, u 40, u 41, u 42, u 43, u 44, u 45, u 46, u 47, u 48, u 49, u 50, u 51, u 52, u 53, u 54, u 55, u 56, u 57, u 58, u 59, u 60, u 61, u 62, u 63] := by
  refine ⟨fun k => arr.getD k undef, ?_⟩
  have e : arr = ((List.range 64).map fun k => arr.getD k undef).toArray := by
    apply Array.ext
    · simp [h]
    · intro i h1 h2
      simp [h1]
  exact e.trans rfl
theorem each_any (v : Value) (A : Option Addr) (m C : Nat) (n0 : Int) (w : World) : Calls Try.prog 28 #[.agg #[v, .int .i64 n0], .slice A m C] w fun e w' => e = .returned (.func (.func 37) #[] #[.pointer (some ⟨w.heap.size + 1, 0, none⟩), .pointer (some ⟨w.heap.size, 0, none⟩)]) ∧ w' = (w.alloc (.cells #[v, .int .i64 n0] 46)).alloc (.cells #[.slice A m C] 33) := by
  go_enter Try.func28, Try.ntmps28
  go_wp2_with fail
  go_ret
  exact ⟨rfl, rfl⟩
end Go.Proofs.Ytlpoopmjgobnnaa
