/- The contracts of the functions that the law reaches, part 1: what each returns and what becomes of memory. -/
import Derived.Test.YtanjbdhjnmmfdaaDoorRows
import Derived.WalkKit
import Derived.WalkSpells
import Derived.WalkLawsBesides
import Derived.Handy
import Derived.Lib.Hide
import Derived.BigQuiet
import Derived.Deep.QuietTactic
import Derived.Deep.LoopGhost
import Derived.Deep.RegionHeld3
import Init.Omega
import Derived.Lib.TrimUEq
import Derived.Lib.ValidU
import Derived.Shelf.GgClosure.StringsIndexFunc
import Derived.Shelf.GgClosure.StringsIndexFuncTop
import Derived.ChangeKeysEq
import Derived.Deep.OwnRows
import Derived.RegionTactic
import Derived.ChangeAlike
import Derived.Laws.AppendOwn
set_option linter.unusedSimpArgs false
set_option linter.unusedVariables false
namespace Go.Proofs.YtanjbdhjnmmfdaaDoor
open Go.RowKit

theorem bcell {W w1 : World} (hb : Below W.heap.size W w1) : (∀ b o, b < W.heap.size → w1.cell? ⟨b, o, none⟩ = W.cell? ⟨b, o, none⟩) ∧ (∀ b o, b < W.heap.size → w1.frozen? ⟨b, o, none⟩ = W.frozen? ⟨b, o, none⟩) :=
  ⟨fun b o h => hb.cell (p := ⟨b, o, none⟩) h, fun b o h => hb.frozen (p := ⟨b, o, none⟩) h⟩
theorem ret_int {k : IntKind} {a b : Int} (h : a = b) : Ending.returned (.int k a) = .returned (.int k b) := by rw [h]
theorem ret_bool {a b : Bool} (h : a = b) : Ending.returned (.bool a) = .returned (.bool b) := by rw [h]
theorem below_drewN {B : Nat} {a w : World} (h : Below B a w) (n : Nat) : Below B a (w.drewN n) := ⟨h.os, h.tape, h.output, h.size, h.block⟩

theorem quiet_add {P : Program} {f : FuncId} {args : Array Value} {w : World} {a n : Nat} {v : Value}
    (h : Calls P f args (w.drewN (a + n)) fun e w' => e = .returned v ∧ ∃ m, w' = (w.drewN (a + n)).drewN m) :
    Calls P f args (w.drewN (a + n)) fun e w' => e = .returned v ∧ ∃ m, w' = w.drewN (a + m) :=
  h.mono fun _ _ ⟨he, m, hm⟩ => ⟨he, n + m, by rw [hm, World.drewN_drewN, Nat.add_assoc]⟩

/-- a fact that no tactic looks into: the walk's own 'contradiction' unfolds what 'Hid' hides (powers!), but not this -/
def Far (p : Prop) : Prop := True → p
theorem Far.mk {p : Prop} (h : p) : Far p := fun _ => h
theorem Far.out {p : Prop} (h : Far p) : p := h trivial

/-- Block g holds just the cells cs of type t, none of them frozen. -/
def Bk (w : World) (g : Nat) (t : TypeId) (cs : List Value) : Prop := w.heap[g]? = some (.cells cs.toArray t (0, 0))
section
variable {w w' : World} {g : Nat} {t : TypeId} {cs : List Value}
theorem Bk.lt (h : Bk w g t cs) : g < w.heap.size := by
  rcases Nat.lt_or_ge g w.heap.size with hlt | hge
  · exact hlt
  · unfold Bk at h; rw [Array.getElem?_eq_none hge] at h; cases h
theorem Bk.cell (h : Bk w g t cs) (i : Nat) {v : Value} (hv : cs[i]? = some v) : w.cell? ⟨g, i, none⟩ = some v := by
  rw [cell_of_row w g i cs.toArray t (0, 0) h, ← hv]; simp
theorem Bk.frozen (h : Bk w g t cs) (i : Nat) : w.frozen? ⟨g, i, none⟩ = false := by
  unfold Bk at h
  simp [World.frozen?, h]
theorem Bk.new (w : World) (t : TypeId) (cs : List Value) : Bk (w.alloc (.cells cs.toArray t)) w.heap.size t cs := heap_alloc_new w _
theorem Bk.new_ {w : World} {t : TypeId} {cs : List Value} {g : Nat} (hg : g = w.heap.size) : Bk (w.alloc (.cells cs.toArray t)) g t cs := by subst hg; exact Bk.new w t cs
theorem Bk.drew (h : Bk w g t cs) : Bk w.drew g t cs := h
theorem Bk.drewN (h : Bk w g t cs) (n : Nat) : Bk (w.drewN n) g t cs := h
theorem Bk.alloc (h : Bk w g t cs) (o : Obj) : Bk (w.alloc o) g t cs := (Below.heap_alloc w o g h.lt).trans h
theorem Bk.set_ (h : Bk w g t cs) (i : Nat) (u : Value) : Bk (w.setCell ⟨g, i, none⟩ u) g t (cs.set i u) := by
  unfold Bk at h ⊢
  simp [World.setCell, Array.getElem?_modify, h]
theorem Bk.far (h : Bk w g t cs) {p : Addr} (hp : g ≠ p.block) (u : Value) : Bk (w.setCell p u) g t cs := (Below.heap_setCell w p u g hp).trans h
theorem Bk.below {B : Nat} (h : Bk w g t cs) (hb : Below B w w') (hg : g < B) : Bk w' g t cs := (hb.block g hg).trans h
end
end Go.Proofs.YtanjbdhjnmmfdaaDoor

set_option linter.unusedSimpArgs false
set_option linter.unusedVariables false
namespace Go.Proofs.YtanjbdhjnmmfdaaDoor

/-- the i-th word of n -/
def wd (n : Nat) (i : Nat) : Int := ((n / 2 ^ (64 * i) % 2 ^ 64 : Nat) : Int)
theorem wd_nn (n i : Nat) : 0 ≤ wd n i := by unfold wd; omega
theorem wd_lt (n i : Nat) : wd n i < 18446744073709551616 := by
  unfold wd
  have := Nat.mod_lt (n / 2 ^ (64 * i)) (show 0 < 2 ^ 64 by decide)
  omega
theorem wd0 (n : Nat) : wd n 0 = ((n % 18446744073709551616 : Nat) : Int) := by unfold wd; simp
theorem wd1 (n : Nat) : wd n 1 = ((n / 18446744073709551616 % 18446744073709551616 : Nat) : Int) := by unfold wd; rfl
theorem wd2 (n : Nat) : wd n 2 = ((n / 340282366920938463463374607431768211456 % 18446744073709551616 : Nat) : Int) := by unfold wd; rfl
theorem wd3 (n : Nat) : wd n 3 = ((n / 6277101735386680763835789423207666416102355444464034512896 % 18446744073709551616 : Nat) : Int) := by unfold wd; rfl
/-- two words are a number below 2^128, and the other way round -/
theorem wd_two {n : Nat} (h : n < 2 ^ 128) : wd n 1 * 18446744073709551616 + wd n 0 = (n : Int) := by
  rw [wd0, wd1]; omega
theorem wd_make (x y : Int) (hx0 : 0 ≤ x) (hx : x < 18446744073709551616) (hy0 : 0 ≤ y) (hy : y < 18446744073709551616) :
    ∃ n : Nat, n < 2 ^ 128 ∧ (n : Int) = x * 18446744073709551616 + y ∧ x = wd n 1 ∧ y = wd n 0 := by
  refine ⟨(x * 18446744073709551616 + y).toNat, by omega, by omega, ?_, ?_⟩
  · rw [wd1]; omega
  · rw [wd0]; omega
theorem wd_of (n : Nat) (x y : Int) (hx0 : 0 ≤ x) (hx : x < 18446744073709551616) (hy0 : 0 ≤ y) (hy : y < 18446744073709551616) (h : (n : Int) = x * 18446744073709551616 + y) : x = wd n 1 ∧ y = wd n 0 := by
  refine ⟨?_, ?_⟩
  · rw [wd1]; omega
  · rw [wd0]; omega
theorem wd_four {n : Nat} (h : n < 2 ^ 256) : wd n 3 * 6277101735386680763835789423207666416102355444464034512896 + wd n 2 * 340282366920938463463374607431768211456 + wd n 1 * 18446744073709551616 + wd n 0 = (n : Int) := by
  rw [wd0, wd1, wd2, wd3]; omega
theorem wd_of4 (n : Nat) (a b c d : Int) (ha0 : 0 ≤ a) (ha : a < 18446744073709551616) (hb0 : 0 ≤ b) (hb : b < 18446744073709551616) (hc0 : 0 ≤ c) (hc : c < 18446744073709551616) (hd0 : 0 ≤ d) (hd : d < 18446744073709551616)
    (h : (n : Int) = d * 6277101735386680763835789423207666416102355444464034512896 + c * 340282366920938463463374607431768211456 + b * 18446744073709551616 + a) : a = wd n 0 ∧ b = wd n 1 ∧ c = wd n 2 ∧ d = wd n 3 := by
  refine ⟨?_, ?_, ?_, ?_⟩
  · rw [wd0]; omega
  · rw [wd1]; omega
  · rw [wd2]; omega
  · rw [wd3]; omega
theorem wd_make4 (a b c d : Int) (ha0 : 0 ≤ a) (ha : a < 18446744073709551616) (hb0 : 0 ≤ b) (hb : b < 18446744073709551616) (hc0 : 0 ≤ c) (hc : c < 18446744073709551616) (hd0 : 0 ≤ d) (hd : d < 18446744073709551616) :
    ∃ n : Nat, n < 2 ^ 256 ∧ a = wd n 0 ∧ b = wd n 1 ∧ c = wd n 2 ∧ d = wd n 3 :=
  ⟨(d * 6277101735386680763835789423207666416102355444464034512896 + c * 340282366920938463463374607431768211456 + b * 18446744073709551616 + a).toNat, by omega,
    wd_of4 _ a b c d ha0 ha hb0 hb hc0 hc hd0 hd (by omega)⟩
theorem wd_zero (i : Nat) : wd 0 i = 0 := by unfold wd; simp
/-- equal words, equal numbers -/
theorem wd_inj {n m : Nat} (hn : n < 2 ^ 128) (hm : m < 2 ^ 128) (h1 : wd n 1 = wd m 1) (h0 : wd n 0 = wd m 0) : n = m := by
  have := wd_two hn
  have := wd_two hm
  omega
theorem wd_eq_iff {n m : Nat} (hn : n < 2 ^ 128) (hm : m < 2 ^ 128) : ((wd n 1 == wd m 1) && (wd n 0 == wd m 0)) = decide (n = m) := by
  rw [Bool.eq_iff_iff]
  simp only [Bool.and_eq_true, beq_iff_eq, decide_eq_true_eq]
  constructor
  · rintro ⟨h1, h0⟩; exact wd_inj hn hm h1 h0
  · rintro rfl; exact ⟨rfl, rfl⟩
theorem wd_low4 {n : Nat} (hn : n < 2 ^ 256) : (wd n 2 = 0 ∧ wd n 3 = 0) ↔ n < 2 ^ 128 := by
  have h := wd_four hn
  have a0 := wd_nn n 0
  have a1 := wd_lt n 0
  have b0 := wd_nn n 1
  have b1 := wd_lt n 1
  have c0 := wd_nn n 2
  have d0 := wd_nn n 3
  constructor
  · rintro ⟨h2, h3⟩; rw [h2, h3] at h; omega
  · intro hlt; constructor <;> omega
end Go.Proofs.YtanjbdhjnmmfdaaDoor

set_option linter.unusedSimpArgs false
set_option linter.unusedVariables false
namespace Go.Proofs.YtanjbdhjnmmfdaaDoor
open Go.RowKit

/-- the fields of a value that are no slices -/
structure VS where
  kind : Int
  yes : Bool
  neg : Bool
  coef : Nat
  sc : Int
  text : List UInt8
  day : Int
inductive VD where
  | mk (s : VS) (list : List VD) (names : List (List UInt8))
def VD.s : VD → VS | .mk s _ _ => s
def VD.list : VD → List VD | .mk _ l _ => l
def VD.names : VD → List (List UInt8) | .mk _ _ n => n
def VS.zero : VS := ⟨0, false, false, 0, 0, [], 0⟩
def VD.zero : VD := .mk VS.zero [] []
/-- the fields' cells -/
def VS.cs (s : VS) : List Value := [.int .i64 s.kind, .bool s.yes, .bool s.neg, .int .u64 (wd s.coef 1), .int .u64 (wd s.coef 0), .int .i64 s.sc, .string ⟨s.text.toArray⟩, .int .i64 s.day]
@[reducible] def vagg (s : VS) (L N : Value) : Value := .agg #[.int .i64 s.kind, .bool s.yes, .bool s.neg, .int .u64 (wd s.coef 1), .int .u64 (wd s.coef 0), .int .i64 s.sc, .string ⟨s.text.toArray⟩, .int .i64 s.day, L, N]
def VS.ok (s : VS) : Prop := s.coef < 2 ^ 128 ∧ s.text.length ≤ 1048576
def vg (l : List VD) (r : Nat) : VD := l.getD r VD.zero
def ng (l : List (List UInt8)) (r : Nat) : List UInt8 := l.getD r []
mutual
def VD.size : VD → Nat
  | .mk _ l _ => 1 + sizes l
def sizes : List VD → Nat
  | [] => 0
  | x :: r => x.size + sizes r
end
mutual
def VD.deep : VD → Nat
  | .mk _ l _ => deeps l + 1
def deeps : List VD → Nat
  | [] => 0
  | x :: r => max x.deep (deeps r)
end
/-- a thing of the cells cs stands at a place -/
def At (w : World) (b q : Nat) (cs : List Value) : Prop := ∀ j, j < cs.length → w.cell? ⟨b, q + j, none⟩ = cs[j]?
theorem vcell_lt {w : World} {b o : Nat} {u : Value} (h : w.cell? ⟨b, o, none⟩ = some u) : b < w.heap.size := by
  rcases Nat.lt_or_ge b w.heap.size with hlt | hge
  · exact hlt
  · simp [World.cell?, Array.getElem?_eq_none hge] at h
theorem At.below {w w' : World} {b q : Nat} {cs : List Value} (h : At w b q cs) (hb : Below w.heap.size w w') : At w' b q cs := fun j hj => by
  refine (hb.cell (p := ⟨b, q + j, none⟩) ?_).trans (h j hj)
  have e := h j hj
  rw [List.getElem?_eq_getElem hj] at e
  exact vcell_lt e
/-- a list of names -/
def Nms (w : World) (N : Value) (l : List (List UInt8)) : Prop := ∃ A C, N = .slice A l.length C ∧ (l.length ≤ 1048576 ∧ l.length ≤ C ∧ C ≤ maxLen) ∧ ∀ r, r < l.length → ∃ b o, A = some ⟨b, o, none⟩ ∧ w.cell? ⟨b, o + r, none⟩ = some (.string ⟨(ng l r).toArray⟩) ∧ (ng l r).length ≤ 1048576
/-- a list of values, each of which R reads -/
def Vls (R : Value → Value → VD → Prop) (w : World) (L : Value) (l : List VD) : Prop := ∃ A C, L = .slice A l.length C ∧ (l.length ≤ 1048576 ∧ l.length ≤ C ∧ C ≤ maxLen) ∧ ∀ r, r < l.length → ∃ b o A1 C1 A2 C2, A = some ⟨b, o, none⟩ ∧ At w b (o + r * 10) ((vg l r).s.cs ++ [.slice A1 (vg l r).list.length C1, .slice A2 (vg l r).names.length C2]) ∧ R (.slice A1 (vg l r).list.length C1) (.slice A2 (vg l r).names.length C2) (vg l r)
/-- a value at its two slices -/
def VR : Nat → World → Value → Value → VD → Prop
  | 0, _, _, _, _ => False
  | n + 1, w, L, N, d => d.s.ok ∧ Vls (VR n w) w L d.list ∧ Nms w N d.names
theorem Nms.below {w w' : World} {N : Value} {l : List (List UInt8)} (h : Nms w N l) (hb : Below w.heap.size w w') : Nms w' N l := by
  obtain ⟨A, C, h1, h2, h3⟩ := h
  refine ⟨A, C, h1, h2, fun r hr => ?_⟩
  obtain ⟨b, o, h4, h5, h6⟩ := h3 r hr
  exact ⟨b, o, h4, (hb.cell (p := ⟨b, o + r, none⟩) (vcell_lt h5)).trans h5, h6⟩
theorem Vls.below {R R' : Value → Value → VD → Prop} {w w' : World} {L : Value} {l : List VD} (h : Vls R w L l) (hb : Below w.heap.size w w') (hR : ∀ L N d, R L N d → R' L N d) : Vls R' w' L l := by
  obtain ⟨A, C, h1, h2, h3⟩ := h
  refine ⟨A, C, h1, h2, fun r hr => ?_⟩
  obtain ⟨b, o, A1, C1, A2, C2, h4, h5, h6⟩ := h3 r hr
  exact ⟨b, o, A1, C1, A2, C2, h4, h5.below hb, hR _ _ _ h6⟩
theorem VR.below {w w' : World} : ∀ {n : Nat} {L N : Value} {d : VD}, VR n w L N d → Below w.heap.size w w' → VR n w' L N d
  | 0, _, _, _, h, _ => h
  | n + 1, _, _, _, ⟨h1, h2, h3⟩, hb => ⟨h1, h2.below hb (fun _ _ _ h => h.below hb), h3.below hb⟩
theorem At.val {w : World} {b q : Nat} {s : VS} {L N : Value} (h : At w b q (s.cs ++ [L, N])) : w.cell? ⟨b, q, none⟩ = some (.int .i64 s.kind) ∧ w.cell? ⟨b, q + 1, none⟩ = some (.bool s.yes) ∧ w.cell? ⟨b, q + 2, none⟩ = some (.bool s.neg) ∧ w.cell? ⟨b, q + 3, none⟩ = some (.int .u64 (wd s.coef 1)) ∧
    w.cell? ⟨b, q + 4, none⟩ = some (.int .u64 (wd s.coef 0)) ∧ w.cell? ⟨b, q + 5, none⟩ = some (.int .i64 s.sc) ∧ w.cell? ⟨b, q + 6, none⟩ = some (.string ⟨s.text.toArray⟩) ∧ w.cell? ⟨b, q + 7, none⟩ = some (.int .i64 s.day) ∧ w.cell? ⟨b, q + 8, none⟩ = some L ∧ w.cell? ⟨b, q + 9, none⟩ = some N := by
  have hl : (s.cs ++ [L, N]).length = 10 := rfl
  refine ⟨h 0 ?_, h 1 ?_, h 2 ?_, h 3 ?_, h 4 ?_, h 5 ?_, h 6 ?_, h 7 ?_, h 8 ?_, h 9 ?_⟩ <;> rw [hl] <;> decide
theorem Vls.at {R : Value → Value → VD → Prop} {w : World} {l : List VD} {A : Option Addr} {n C : Nat} (h : Vls R w (.slice A n C) l) {r : Nat} (hr : r < l.length) : ∃ b o A1 C1 A2 C2, A = some ⟨b, o, none⟩ ∧ At w b (o + r * 10) ((vg l r).s.cs ++ [.slice A1 (vg l r).list.length C1, .slice A2 (vg l r).names.length C2]) ∧ R (.slice A1 (vg l r).list.length C1) (.slice A2 (vg l r).names.length C2) (vg l r) := by
  obtain ⟨A', C', h1, _, h3⟩ := h
  injection h1 with e1 e2 e3
  subst e1
  exact h3 r hr
theorem Vls.is {R : Value → Value → VD → Prop} {w : World} {l : List VD} {L : Value} (h : Vls R w L l) : ∃ A C, L = .slice A l.length C ∧ l.length ≤ 1048576 := by
  obtain ⟨A', C', h1, h2, _⟩ := h
  exact ⟨A', C', h1, h2.1⟩
theorem Nms.is {w : World} {l : List (List UInt8)} {L : Value} (h : Nms w L l) : ∃ A C, L = .slice A l.length C ∧ l.length ≤ 1048576 := by
  obtain ⟨A', C', h1, h2, _⟩ := h
  exact ⟨A', C', h1, h2.1⟩
theorem Nms.at {w : World} {l : List (List UInt8)} {A : Option Addr} {n C : Nat} (h : Nms w (.slice A n C) l) {r : Nat} (hr : r < l.length) : ∃ b o, A = some ⟨b, o, none⟩ ∧ w.cell? ⟨b, o + r, none⟩ = some (.string ⟨(ng l r).toArray⟩) ∧ (ng l r).length ≤ 1048576 := by
  obtain ⟨A', C', h1, _, h3⟩ := h
  injection h1 with e1 e2 e3
  subst e1
  exact h3 r hr
theorem sizes_append : ∀ (a b : List VD), sizes (a ++ b) = sizes a + sizes b
  | [], b => by simp [sizes]
  | x :: r, b => by rw [List.cons_append, sizes, sizes, sizes_append r b]; omega
theorem deeps_append : ∀ (a b : List VD), deeps (a ++ b) = max (deeps a) (deeps b)
  | [], b => by simp [deeps]
  | x :: r, b => by rw [List.cons_append, deeps, deeps, deeps_append r b]; omega
theorem take_vg {l : List VD} {t : Nat} (h : t < l.length) : l.take (t + 1) = l.take t ++ [vg l t] := by
  rw [List.take_succ_eq_append_getElem h]
  unfold vg
  rw [List.getD_eq_getElem?_getD, List.getElem?_eq_getElem h]; rfl
theorem sizes_take {l : List VD} {t : Nat} (h : t < l.length) : sizes (l.take (t + 1)) = sizes (l.take t) + (vg l t).size := by
  rw [take_vg h, sizes_append]; simp [sizes]
theorem deeps_take {l : List VD} {t : Nat} (h : t < l.length) : deeps (l.take (t + 1)) = max (deeps (l.take t)) (vg l t).deep := by
  rw [take_vg h, deeps_append]; simp [deeps]
theorem sizes_le {l : List VD} (t : Nat) : sizes (l.take t) ≤ sizes l := by
  have h := sizes_append (l.take t) (l.drop t)
  rw [List.take_append_drop] at h
  omega
theorem VD.size_eq (d : VD) : d.size = 1 + sizes d.list := by cases d; rfl
theorem VD.deep_eq (d : VD) : d.deep = deeps d.list + 1 := by cases d; rfl
theorem size_pos (d : VD) : 1 ≤ d.size := by rw [VD.size_eq]; omega
theorem vg_size {l : List VD} {t : Nat} (h : t < l.length) : (vg l t).size ≤ sizes l := by
  have h1 := sizes_take h
  have h2 := sizes_le (l := l) (t + 1)
  omega
mutual
theorem deep_size : ∀ d : VD, d.deep ≤ d.size
  | .mk _ l _ => by rw [VD.deep, VD.size]; have := deeps_sizes l; omega
theorem deeps_sizes : ∀ l : List VD, deeps l ≤ sizes l
  | [] => Nat.le_refl _
  | x :: r => by rw [deeps, sizes]; have := deep_size x; have := deeps_sizes r; omega
end
theorem Nms.caps {w : World} {l : List (List UInt8)} {A : Option Addr} {n C : Nat} (h : Nms w (.slice A n C) l) : l.length ≤ C ∧ C ≤ 9223372036854775807 := by
  obtain ⟨A', C', h1, h2, _⟩ := h
  injection h1 with e1 e2 e3
  subst e3
  exact h2.2
theorem Vls.caps {R : Value → Value → VD → Prop} {w : World} {l : List VD} {A : Option Addr} {n C : Nat} (h : Vls R w (.slice A n C) l) : l.length ≤ C ∧ C ≤ 9223372036854775807 := by
  obtain ⟨A', C', h1, h2, _⟩ := h
  injection h1 with e1 e2 e3
  subst e3
  exact h2.2
/-- counted up to most and one more -/
def cnt (s : Nat) (most : Int) : Int := if (s : Int) ≤ most then s else most + 1
end Go.Proofs.YtanjbdhjnmmfdaaDoor

set_option linter.unusedSimpArgs false
set_option linter.unusedVariables false
namespace Go.Proofs.YtanjbdhjnmmfdaaDoor
open Go.RowKit
theorem wp_named {F : World → Prop} {w : World} (R : World → Prop) (hR : R w) (h : ∀ W, R W → F W) : F w := h w hR
theorem calls_named {P : Program} {f : FuncId} {args : Array Value} {K : Ending → World → Prop} {w : World} (R : World → Prop) (hR : R w) (h : ∀ W, R W → Calls P f args W K) : Calls P f args w K := h w hR
end Go.Proofs.YtanjbdhjnmmfdaaDoor

set_option linter.unusedSimpArgs false
set_option linter.unusedVariables false
namespace Go.Proofs.YtanjbdhjnmmfdaaDoor
open Go.RowKit

set_option maxRecDepth 100000 in
theorem veq_dec (b : Bool) (x y s : Int) (b' : Bool) (x' y' s' : Int) (W : World) : (binOp .eql 26 (.agg #[.bool b, .int .u64 x, .int .u64 y, .int .i64 s]) (.agg #[.bool b', .int .u64 x', .int .u64 y', .int .i64 s'])).run Tryd.prog W = .ok (.bool ((b == b') && ((x == x') && ((y == y') && (s == s'))))) W := by
  go_simp
  by_cases h0 : b = b' <;> by_cases h1 : x = x' <;> by_cases h2 : y = y' <;> by_cases h3 : s = s' <;> simp [h0, h1, h2, h3]
set_option maxRecDepth 100000 in
theorem vneq_dec (b : Bool) (x y s : Int) (b' : Bool) (x' y' s' : Int) (W : World) : (binOp .neq 26 (.agg #[.bool b, .int .u64 x, .int .u64 y, .int .i64 s]) (.agg #[.bool b', .int .u64 x', .int .u64 y', .int .i64 s'])).run Tryd.prog W = .ok (.bool (!((b == b') && ((x == x') && ((y == y') && (s == s')))))) W := by
  go_simp
  by_cases h0 : b = b' <;> by_cases h1 : x = x' <;> by_cases h2 : y = y' <;> by_cases h3 : s = s' <;> simp [h0, h1, h2, h3]
/-- the number is the zero value -/
def zn (s : VS) : Bool := (s.neg == false) && (((wd s.coef 1 : Int) == 0) && (((wd s.coef 0 : Int) == 0) && (s.sc == 0)))
/-- the fields that the kind does not use are zero; q: may there be items? -/
def bareQ (s : VS) (ll nl : Nat) (q : Prop) [Decidable q] : Bool := decide ((s.kind = 1 ∨ s.yes = false) ∧ (s.kind = 2 ∨ zn s = true) ∧ (s.kind = 3 ∨ s.text = []) ∧ (s.kind = 4 ∨ s.day = 0) ∧ (q ∨ ll = 0) ∧ (s.kind = 6 ∨ nl = 0))
theorem bareQ_iff {s : VS} {ll nl : Nat} {q : Prop} [Decidable q] : bareQ s ll nl q = true ↔ ((s.kind = 1 ∨ s.yes = false) ∧ (s.kind = 2 ∨ zn s = true) ∧ (s.kind = 3 ∨ s.text = []) ∧ (s.kind = 4 ∨ s.day = 0) ∧ (q ∨ ll = 0) ∧ (s.kind = 6 ∨ nl = 0)) := by
  unfold bareQ; exact decide_eq_true_iff

end Go.Proofs.YtanjbdhjnmmfdaaDoor

set_option linter.unusedSimpArgs false
set_option linter.unusedVariables false
namespace Go.Proofs.YtanjbdhjnmmfdaaDoor
open Go.RowKit

set_option maxHeartbeats 4000000 in
theorem vbare_any (s : VS) (l : List VD) (nm : List (List UInt8)) (A : Option Addr) (C : Nat) (A2 : Option Addr) (C2 : Nat) (hl : l.length ≤ 1048576) (hn : nm.length ≤ 1048576) (w : World) :
    Calls Tryd.prog 39 #[vagg s (.slice A l.length C) (.slice A2 nm.length C2)] w fun e w' => e = .returned (.bool (bareQ s l.length nm.length (s.kind = 5 ∨ s.kind = 6))) ∧ Below w.heap.size w w' := by
  obtain ⟨z, hz⟩ : ∃ z, z = bareQ s l.length nm.length (s.kind = 5 ∨ s.kind = 6) := ⟨_, rfl⟩
  have hz2 := bareQ_iff (s := s) (ll := l.length) (nl := nm.length) (q := s.kind = 5 ∨ s.kind = 6)
  rw [← hz] at hz2
  rw [← hz]
  obtain ⟨zb, hzb⟩ : ∃ zb, zb = zn s := ⟨_, rfl⟩
  rw [← hzb] at hz2
  obtain ⟨kind, yes, neg, coef, sc, text, day⟩ := s
  unfold vagg
  dsimp only at hz2 ⊢
  have r1 : ∀ W, (binOp .eql 26 (.agg #[.bool neg, .int .u64 (wd coef 1), .int .u64 (wd coef 0), .int .i64 sc]) (.agg #[.bool false, .int .u64 0, .int .u64 0, .int .i64 0])).run Tryd.prog W = .ok (.bool zb) W := fun W => by rw [veq_dec, hzb]; rfl
  have r2 : ∀ W, (binOp .neq 26 (.agg #[.bool neg, .int .u64 (wd coef 1), .int .u64 (wd coef 0), .int .i64 sc]) (.agg #[.bool false, .int .u64 0, .int .u64 0, .int .i64 0])).run Tryd.prog W = .ok (.bool (!zb)) W := fun W => by rw [vneq_dec, hzb]; rfl
  obtain ⟨x1, hx1⟩ : ∃ x1, x1 = wd coef 1 := ⟨_, rfl⟩
  obtain ⟨x0, hx0⟩ : ∃ x0, x0 = wd coef 0 := ⟨_, rfl⟩
  rw [← hx1, ← hx0] at r1 r2
  rw [← hx1, ← hx0]
  obtain ⟨ll, hll⟩ : ∃ ll, ll = l.length := ⟨_, rfl⟩
  obtain ⟨nl, hnl⟩ : ∃ nl, nl = nm.length := ⟨_, rfl⟩
  rw [← hll] at hl hz2
  rw [← hnl] at hn hz2
  rw [← hll, ← hnl]
  have HZ := Lib.hid hz2
  clear hz hz2 hzb hx1 hx0 hll hnl
  have hk : kind = 1 ∨ kind = 2 ∨ kind = 3 ∨ kind = 4 ∨ kind = 5 ∨ kind = 6 ∨ kind ≤ 0 ∨ 7 ≤ kind := by omega
  rcases hk with rfl | rfl | rfl | rfl | rfl | rfl | hk | hk
  · have tokc : (0 : Int) = 0 := rfl
    clear tokc
    cases zb with
    | false =>
      have hzz : z = false := by
        cases z with
        | false => rfl
        | true => obtain ⟨g1, g2, g3, g4, g5, g6⟩ := HZ.out.1 rfl; exfalso; rcases g2 with g | g <;> first | omega | exact Bool.noConfusion g
      subst hzz
      clear HZ
      go_enter Tryd.func39, Tryd.ntmps39
      go_wp2_with fail
      all_goals (go_ret; exact ⟨rfl, by (repeat' (first | (with_reducible exact Below.refl _ _) | (with_reducible assumption) | (with_reducible refine Below.drew ?_) | (with_reducible refine below_drewN ?_ _) | ((with_reducible refine Below.alloc ?_ ?_ _); rotate_left; focus (go_size; done)) | ((with_reducible refine Below.setCell ?_ ?_ _); rotate_left; focus (go_size; done)) | ((with_reducible refine Below.trans ?_ (Below.mono (by with_reducible assumption) ?_)); rotate_left; focus (go_size; done))))⟩)
    | true =>
      by_cases ht : text = []
      rotate_left
      · have t1 : text.isEmpty = false := by simpa using ht
        have hzz : z = false := by
          cases z with
          | false => rfl
          | true => obtain ⟨g1, g2, g3, g4, g5, g6⟩ := HZ.out.1 rfl; exfalso; rcases g3 with g | g <;> first | omega | exact ht g
        subst hzz
        clear HZ
        go_enter Tryd.func39, Tryd.ntmps39
        go_wp2_with fail
        all_goals (go_ret; exact ⟨rfl, by (repeat' (first | (with_reducible exact Below.refl _ _) | (with_reducible assumption) | (with_reducible refine Below.drew ?_) | (with_reducible refine below_drewN ?_ _) | ((with_reducible refine Below.alloc ?_ ?_ _); rotate_left; focus (go_size; done)) | ((with_reducible refine Below.setCell ?_ ?_ _); rotate_left; focus (go_size; done)) | ((with_reducible refine Below.trans ?_ (Below.mono (by with_reducible assumption) ?_)); rotate_left; focus (go_size; done))))⟩)
      subst ht
      by_cases hd : day = 0
      rotate_left
      · have d1 : (day == 0) = false := by rw [beq_eq_false_iff_ne]; exact hd
        have d2 : (day != 0) = true := by rw [bne_iff_ne]; exact hd
        have hzz : z = false := by
          cases z with
          | false => rfl
          | true => obtain ⟨g1, g2, g3, g4, g5, g6⟩ := HZ.out.1 rfl; exfalso; rcases g4 with g | g <;> first | omega | exact hd g
        subst hzz
        clear HZ
        go_enter Tryd.func39, Tryd.ntmps39
        go_wp2_with fail
        all_goals (go_ret; exact ⟨rfl, by (repeat' (first | (with_reducible exact Below.refl _ _) | (with_reducible assumption) | (with_reducible refine Below.drew ?_) | (with_reducible refine below_drewN ?_ _) | ((with_reducible refine Below.alloc ?_ ?_ _); rotate_left; focus (go_size; done)) | ((with_reducible refine Below.setCell ?_ ?_ _); rotate_left; focus (go_size; done)) | ((with_reducible refine Below.trans ?_ (Below.mono (by with_reducible assumption) ?_)); rotate_left; focus (go_size; done))))⟩)
      subst hd
      by_cases hn0 : nl = 0
      rotate_left
      · have l1 : ((nl : Int) == 0) = false := by rw [beq_eq_false_iff_ne]; omega
        have l2 : (0 : Int) < (nl : Int) := by omega
        have hzz : z = false := by
          cases z with
          | false => rfl
          | true => obtain ⟨g1, g2, g3, g4, g5, g6⟩ := HZ.out.1 rfl; exfalso; rcases g6 with g | g <;> omega
        subst hzz
        clear HZ
        go_enter Tryd.func39, Tryd.ntmps39
        go_wp2_with fail
        all_goals (go_ret; exact ⟨rfl, by (repeat' (first | (with_reducible exact Below.refl _ _) | (with_reducible assumption) | (with_reducible refine Below.drew ?_) | (with_reducible refine below_drewN ?_ _) | ((with_reducible refine Below.alloc ?_ ?_ _); rotate_left; focus (go_size; done)) | ((with_reducible refine Below.setCell ?_ ?_ _); rotate_left; focus (go_size; done)) | ((with_reducible refine Below.trans ?_ (Below.mono (by with_reducible assumption) ?_)); rotate_left; focus (go_size; done))))⟩)
      subst hn0
      by_cases hl0 : ll = 0
      rotate_left
      · have l1 : ((ll : Int) == 0) = false := by rw [beq_eq_false_iff_ne]; omega
        have hzz : z = false := by
          cases z with
          | false => rfl
          | true => obtain ⟨g1, g2, g3, g4, g5, g6⟩ := HZ.out.1 rfl; exfalso; rcases g5 with g | g <;> omega
        subst hzz
        clear HZ
        go_enter Tryd.func39, Tryd.ntmps39
        go_wp2_with fail
        all_goals (go_ret; exact ⟨rfl, by (repeat' (first | (with_reducible exact Below.refl _ _) | (with_reducible assumption) | (with_reducible refine Below.drew ?_) | (with_reducible refine below_drewN ?_ _) | ((with_reducible refine Below.alloc ?_ ?_ _); rotate_left; focus (go_size; done)) | ((with_reducible refine Below.setCell ?_ ?_ _); rotate_left; focus (go_size; done)) | ((with_reducible refine Below.trans ?_ (Below.mono (by with_reducible assumption) ?_)); rotate_left; focus (go_size; done))))⟩)
      subst hl0
      have hzz : z = true := by
        refine HZ.out.2 ⟨?_, ?_, ?_, ?_, ?_, ?_⟩ <;> first | (left; omega) | (right; first | rfl | assumption | omega)
      subst hzz
      clear HZ
      go_enter Tryd.func39, Tryd.ntmps39
      go_wp2_with fail
      all_goals (go_ret; exact ⟨rfl, by (repeat' (first | (with_reducible exact Below.refl _ _) | (with_reducible assumption) | (with_reducible refine Below.drew ?_) | (with_reducible refine below_drewN ?_ _) | ((with_reducible refine Below.alloc ?_ ?_ _); rotate_left; focus (go_size; done)) | ((with_reducible refine Below.setCell ?_ ?_ _); rotate_left; focus (go_size; done)) | ((with_reducible refine Below.trans ?_ (Below.mono (by with_reducible assumption) ?_)); rotate_left; focus (go_size; done))))⟩)
  · have tokc : (0 : Int) = 0 := rfl
    clear tokc
    cases yes with
    | true =>
      have hzz : z = false := by
        cases z with
        | false => rfl
        | true => obtain ⟨g1, g2, g3, g4, g5, g6⟩ := HZ.out.1 rfl; exfalso; rcases g1 with g | g <;> first | omega | exact Bool.noConfusion g
      subst hzz
      clear HZ
      go_enter Tryd.func39, Tryd.ntmps39
      go_wp2_with fail
      all_goals (go_ret; exact ⟨rfl, by (repeat' (first | (with_reducible exact Below.refl _ _) | (with_reducible assumption) | (with_reducible refine Below.drew ?_) | (with_reducible refine below_drewN ?_ _) | ((with_reducible refine Below.alloc ?_ ?_ _); rotate_left; focus (go_size; done)) | ((with_reducible refine Below.setCell ?_ ?_ _); rotate_left; focus (go_size; done)) | ((with_reducible refine Below.trans ?_ (Below.mono (by with_reducible assumption) ?_)); rotate_left; focus (go_size; done))))⟩)
    | false =>
      by_cases ht : text = []
      rotate_left
      · have t1 : text.isEmpty = false := by simpa using ht
        have hzz : z = false := by
          cases z with
          | false => rfl
          | true => obtain ⟨g1, g2, g3, g4, g5, g6⟩ := HZ.out.1 rfl; exfalso; rcases g3 with g | g <;> first | omega | exact ht g
        subst hzz
        clear HZ
        go_enter Tryd.func39, Tryd.ntmps39
        go_wp2_with fail
        all_goals (go_ret; exact ⟨rfl, by (repeat' (first | (with_reducible exact Below.refl _ _) | (with_reducible assumption) | (with_reducible refine Below.drew ?_) | (with_reducible refine below_drewN ?_ _) | ((with_reducible refine Below.alloc ?_ ?_ _); rotate_left; focus (go_size; done)) | ((with_reducible refine Below.setCell ?_ ?_ _); rotate_left; focus (go_size; done)) | ((with_reducible refine Below.trans ?_ (Below.mono (by with_reducible assumption) ?_)); rotate_left; focus (go_size; done))))⟩)
      subst ht
      by_cases hd : day = 0
      rotate_left
      · have d1 : (day == 0) = false := by rw [beq_eq_false_iff_ne]; exact hd
        have d2 : (day != 0) = true := by rw [bne_iff_ne]; exact hd
        have hzz : z = false := by
          cases z with
          | false => rfl
          | true => obtain ⟨g1, g2, g3, g4, g5, g6⟩ := HZ.out.1 rfl; exfalso; rcases g4 with g | g <;> first | omega | exact hd g
        subst hzz
        clear HZ
        go_enter Tryd.func39, Tryd.ntmps39
        go_wp2_with fail
        all_goals (go_ret; exact ⟨rfl, by (repeat' (first | (with_reducible exact Below.refl _ _) | (with_reducible assumption) | (with_reducible refine Below.drew ?_) | (with_reducible refine below_drewN ?_ _) | ((with_reducible refine Below.alloc ?_ ?_ _); rotate_left; focus (go_size; done)) | ((with_reducible refine Below.setCell ?_ ?_ _); rotate_left; focus (go_size; done)) | ((with_reducible refine Below.trans ?_ (Below.mono (by with_reducible assumption) ?_)); rotate_left; focus (go_size; done))))⟩)
      subst hd
      by_cases hn0 : nl = 0
      rotate_left
      · have l1 : ((nl : Int) == 0) = false := by rw [beq_eq_false_iff_ne]; omega
        have l2 : (0 : Int) < (nl : Int) := by omega
        have hzz : z = false := by
          cases z with
          | false => rfl
          | true => obtain ⟨g1, g2, g3, g4, g5, g6⟩ := HZ.out.1 rfl; exfalso; rcases g6 with g | g <;> omega
        subst hzz
        clear HZ
        go_enter Tryd.func39, Tryd.ntmps39
        go_wp2_with fail
        all_goals (go_ret; exact ⟨rfl, by (repeat' (first | (with_reducible exact Below.refl _ _) | (with_reducible assumption) | (with_reducible refine Below.drew ?_) | (with_reducible refine below_drewN ?_ _) | ((with_reducible refine Below.alloc ?_ ?_ _); rotate_left; focus (go_size; done)) | ((with_reducible refine Below.setCell ?_ ?_ _); rotate_left; focus (go_size; done)) | ((with_reducible refine Below.trans ?_ (Below.mono (by with_reducible assumption) ?_)); rotate_left; focus (go_size; done))))⟩)
      subst hn0
      by_cases hl0 : ll = 0
      rotate_left
      · have l1 : ((ll : Int) == 0) = false := by rw [beq_eq_false_iff_ne]; omega
        have hzz : z = false := by
          cases z with
          | false => rfl
          | true => obtain ⟨g1, g2, g3, g4, g5, g6⟩ := HZ.out.1 rfl; exfalso; rcases g5 with g | g <;> omega
        subst hzz
        clear HZ
        go_enter Tryd.func39, Tryd.ntmps39
        go_wp2_with fail
        all_goals (go_ret; exact ⟨rfl, by (repeat' (first | (with_reducible exact Below.refl _ _) | (with_reducible assumption) | (with_reducible refine Below.drew ?_) | (with_reducible refine below_drewN ?_ _) | ((with_reducible refine Below.alloc ?_ ?_ _); rotate_left; focus (go_size; done)) | ((with_reducible refine Below.setCell ?_ ?_ _); rotate_left; focus (go_size; done)) | ((with_reducible refine Below.trans ?_ (Below.mono (by with_reducible assumption) ?_)); rotate_left; focus (go_size; done))))⟩)
      subst hl0
      have hzz : z = true := by
        refine HZ.out.2 ⟨?_, ?_, ?_, ?_, ?_, ?_⟩ <;> first | (left; omega) | (right; first | rfl | assumption | omega)
      subst hzz
      clear HZ
      go_enter Tryd.func39, Tryd.ntmps39
      go_wp2_with fail
      all_goals (go_ret; exact ⟨rfl, by (repeat' (first | (with_reducible exact Below.refl _ _) | (with_reducible assumption) | (with_reducible refine Below.drew ?_) | (with_reducible refine below_drewN ?_ _) | ((with_reducible refine Below.alloc ?_ ?_ _); rotate_left; focus (go_size; done)) | ((with_reducible refine Below.setCell ?_ ?_ _); rotate_left; focus (go_size; done)) | ((with_reducible refine Below.trans ?_ (Below.mono (by with_reducible assumption) ?_)); rotate_left; focus (go_size; done))))⟩)
  · have tokc : (0 : Int) = 0 := rfl
    clear tokc
    cases yes with
    | true =>
      have hzz : z = false := by
        cases z with
        | false => rfl
        | true => obtain ⟨g1, g2, g3, g4, g5, g6⟩ := HZ.out.1 rfl; exfalso; rcases g1 with g | g <;> first | omega | exact Bool.noConfusion g
      subst hzz
      clear HZ
      go_enter Tryd.func39, Tryd.ntmps39
      go_wp2_with fail
      all_goals (go_ret; exact ⟨rfl, by (repeat' (first | (with_reducible exact Below.refl _ _) | (with_reducible assumption) | (with_reducible refine Below.drew ?_) | (with_reducible refine below_drewN ?_ _) | ((with_reducible refine Below.alloc ?_ ?_ _); rotate_left; focus (go_size; done)) | ((with_reducible refine Below.setCell ?_ ?_ _); rotate_left; focus (go_size; done)) | ((with_reducible refine Below.trans ?_ (Below.mono (by with_reducible assumption) ?_)); rotate_left; focus (go_size; done))))⟩)
    | false =>
      cases zb with
      | false =>
        have hzz : z = false := by
          cases z with
          | false => rfl
          | true => obtain ⟨g1, g2, g3, g4, g5, g6⟩ := HZ.out.1 rfl; exfalso; rcases g2 with g | g <;> first | omega | exact Bool.noConfusion g
        subst hzz
        clear HZ
        go_enter Tryd.func39, Tryd.ntmps39
        go_wp2_with fail
        all_goals (go_ret; exact ⟨rfl, by (repeat' (first | (with_reducible exact Below.refl _ _) | (with_reducible assumption) | (with_reducible refine Below.drew ?_) | (with_reducible refine below_drewN ?_ _) | ((with_reducible refine Below.alloc ?_ ?_ _); rotate_left; focus (go_size; done)) | ((with_reducible refine Below.setCell ?_ ?_ _); rotate_left; focus (go_size; done)) | ((with_reducible refine Below.trans ?_ (Below.mono (by with_reducible assumption) ?_)); rotate_left; focus (go_size; done))))⟩)
      | true =>
        by_cases hd : day = 0
        rotate_left
        · have d1 : (day == 0) = false := by rw [beq_eq_false_iff_ne]; exact hd
          have d2 : (day != 0) = true := by rw [bne_iff_ne]; exact hd
          have hzz : z = false := by
            cases z with
            | false => rfl
            | true => obtain ⟨g1, g2, g3, g4, g5, g6⟩ := HZ.out.1 rfl; exfalso; rcases g4 with g | g <;> first | omega | exact hd g
          subst hzz
          clear HZ
          go_enter Tryd.func39, Tryd.ntmps39
          go_wp2_with fail
          all_goals (go_ret; exact ⟨rfl, by (repeat' (first | (with_reducible exact Below.refl _ _) | (with_reducible assumption) | (with_reducible refine Below.drew ?_) | (with_reducible refine below_drewN ?_ _) | ((with_reducible refine Below.alloc ?_ ?_ _); rotate_left; focus (go_size; done)) | ((with_reducible refine Below.setCell ?_ ?_ _); rotate_left; focus (go_size; done)) | ((with_reducible refine Below.trans ?_ (Below.mono (by with_reducible assumption) ?_)); rotate_left; focus (go_size; done))))⟩)
        subst hd
        by_cases hn0 : nl = 0
        rotate_left
        · have l1 : ((nl : Int) == 0) = false := by rw [beq_eq_false_iff_ne]; omega
          have l2 : (0 : Int) < (nl : Int) := by omega
          have hzz : z = false := by
            cases z with
            | false => rfl
            | true => obtain ⟨g1, g2, g3, g4, g5, g6⟩ := HZ.out.1 rfl; exfalso; rcases g6 with g | g <;> omega
          subst hzz
          clear HZ
          go_enter Tryd.func39, Tryd.ntmps39
          go_wp2_with fail
          all_goals (go_ret; exact ⟨rfl, by (repeat' (first | (with_reducible exact Below.refl _ _) | (with_reducible assumption) | (with_reducible refine Below.drew ?_) | (with_reducible refine below_drewN ?_ _) | ((with_reducible refine Below.alloc ?_ ?_ _); rotate_left; focus (go_size; done)) | ((with_reducible refine Below.setCell ?_ ?_ _); rotate_left; focus (go_size; done)) | ((with_reducible refine Below.trans ?_ (Below.mono (by with_reducible assumption) ?_)); rotate_left; focus (go_size; done))))⟩)
        subst hn0
        by_cases hl0 : ll = 0
        rotate_left
        · have l1 : ((ll : Int) == 0) = false := by rw [beq_eq_false_iff_ne]; omega
          have hzz : z = false := by
            cases z with
            | false => rfl
            | true => obtain ⟨g1, g2, g3, g4, g5, g6⟩ := HZ.out.1 rfl; exfalso; rcases g5 with g | g <;> omega
          subst hzz
          clear HZ
          go_enter Tryd.func39, Tryd.ntmps39
          go_wp2_with fail
          all_goals (go_ret; exact ⟨rfl, by (repeat' (first | (with_reducible exact Below.refl _ _) | (with_reducible assumption) | (with_reducible refine Below.drew ?_) | (with_reducible refine below_drewN ?_ _) | ((with_reducible refine Below.alloc ?_ ?_ _); rotate_left; focus (go_size; done)) | ((with_reducible refine Below.setCell ?_ ?_ _); rotate_left; focus (go_size; done)) | ((with_reducible refine Below.trans ?_ (Below.mono (by with_reducible assumption) ?_)); rotate_left; focus (go_size; done))))⟩)
        subst hl0
        have hzz : z = true := by
          refine HZ.out.2 ⟨?_, ?_, ?_, ?_, ?_, ?_⟩ <;> first | (left; omega) | (right; first | rfl | assumption | omega)
        subst hzz
        clear HZ
        go_enter Tryd.func39, Tryd.ntmps39
        go_wp2_with fail
        all_goals (go_ret; exact ⟨rfl, by (repeat' (first | (with_reducible exact Below.refl _ _) | (with_reducible assumption) | (with_reducible refine Below.drew ?_) | (with_reducible refine below_drewN ?_ _) | ((with_reducible refine Below.alloc ?_ ?_ _); rotate_left; focus (go_size; done)) | ((with_reducible refine Below.setCell ?_ ?_ _); rotate_left; focus (go_size; done)) | ((with_reducible refine Below.trans ?_ (Below.mono (by with_reducible assumption) ?_)); rotate_left; focus (go_size; done))))⟩)
  · have tokc : (0 : Int) = 0 := rfl
    clear tokc
    cases yes with
    | true =>
      have hzz : z = false := by
        cases z with
        | false => rfl
        | true => obtain ⟨g1, g2, g3, g4, g5, g6⟩ := HZ.out.1 rfl; exfalso; rcases g1 with g | g <;> first | omega | exact Bool.noConfusion g
      subst hzz
      clear HZ
      go_enter Tryd.func39, Tryd.ntmps39
      go_wp2_with fail
      all_goals (go_ret; exact ⟨rfl, by (repeat' (first | (with_reducible exact Below.refl _ _) | (with_reducible assumption) | (with_reducible refine Below.drew ?_) | (with_reducible refine below_drewN ?_ _) | ((with_reducible refine Below.alloc ?_ ?_ _); rotate_left; focus (go_size; done)) | ((with_reducible refine Below.setCell ?_ ?_ _); rotate_left; focus (go_size; done)) | ((with_reducible refine Below.trans ?_ (Below.mono (by with_reducible assumption) ?_)); rotate_left; focus (go_size; done))))⟩)
    | false =>
      cases zb with
      | false =>
        have hzz : z = false := by
          cases z with
          | false => rfl
          | true => obtain ⟨g1, g2, g3, g4, g5, g6⟩ := HZ.out.1 rfl; exfalso; rcases g2 with g | g <;> first | omega | exact Bool.noConfusion g
        subst hzz
        clear HZ
        go_enter Tryd.func39, Tryd.ntmps39
        go_wp2_with fail
        all_goals (go_ret; exact ⟨rfl, by (repeat' (first | (with_reducible exact Below.refl _ _) | (with_reducible assumption) | (with_reducible refine Below.drew ?_) | (with_reducible refine below_drewN ?_ _) | ((with_reducible refine Below.alloc ?_ ?_ _); rotate_left; focus (go_size; done)) | ((with_reducible refine Below.setCell ?_ ?_ _); rotate_left; focus (go_size; done)) | ((with_reducible refine Below.trans ?_ (Below.mono (by with_reducible assumption) ?_)); rotate_left; focus (go_size; done))))⟩)
      | true =>
        by_cases ht : text = []
        rotate_left
        · have t1 : text.isEmpty = false := by simpa using ht
          have hzz : z = false := by
            cases z with
            | false => rfl
            | true => obtain ⟨g1, g2, g3, g4, g5, g6⟩ := HZ.out.1 rfl; exfalso; rcases g3 with g | g <;> first | omega | exact ht g
          subst hzz
          clear HZ
          go_enter Tryd.func39, Tryd.ntmps39
          go_wp2_with fail
          all_goals (go_ret; exact ⟨rfl, by (repeat' (first | (with_reducible exact Below.refl _ _) | (with_reducible assumption) | (with_reducible refine Below.drew ?_) | (with_reducible refine below_drewN ?_ _) | ((with_reducible refine Below.alloc ?_ ?_ _); rotate_left; focus (go_size; done)) | ((with_reducible refine Below.setCell ?_ ?_ _); rotate_left; focus (go_size; done)) | ((with_reducible refine Below.trans ?_ (Below.mono (by with_reducible assumption) ?_)); rotate_left; focus (go_size; done))))⟩)
        subst ht
        by_cases hn0 : nl = 0
        rotate_left
        · have l1 : ((nl : Int) == 0) = false := by rw [beq_eq_false_iff_ne]; omega
          have l2 : (0 : Int) < (nl : Int) := by omega
          have hzz : z = false := by
            cases z with
            | false => rfl
            | true => obtain ⟨g1, g2, g3, g4, g5, g6⟩ := HZ.out.1 rfl; exfalso; rcases g6 with g | g <;> omega
          subst hzz
          clear HZ
          go_enter Tryd.func39, Tryd.ntmps39
          go_wp2_with fail
          all_goals (go_ret; exact ⟨rfl, by (repeat' (first | (with_reducible exact Below.refl _ _) | (with_reducible assumption) | (with_reducible refine Below.drew ?_) | (with_reducible refine below_drewN ?_ _) | ((with_reducible refine Below.alloc ?_ ?_ _); rotate_left; focus (go_size; done)) | ((with_reducible refine Below.setCell ?_ ?_ _); rotate_left; focus (go_size; done)) | ((with_reducible refine Below.trans ?_ (Below.mono (by with_reducible assumption) ?_)); rotate_left; focus (go_size; done))))⟩)
        subst hn0
        by_cases hl0 : ll = 0
        rotate_left
        · have l1 : ((ll : Int) == 0) = false := by rw [beq_eq_false_iff_ne]; omega
          have hzz : z = false := by
            cases z with
            | false => rfl
            | true => obtain ⟨g1, g2, g3, g4, g5, g6⟩ := HZ.out.1 rfl; exfalso; rcases g5 with g | g <;> omega
          subst hzz
          clear HZ
          go_enter Tryd.func39, Tryd.ntmps39
          go_wp2_with fail
          all_goals (go_ret; exact ⟨rfl, by (repeat' (first | (with_reducible exact Below.refl _ _) | (with_reducible assumption) | (with_reducible refine Below.drew ?_) | (with_reducible refine below_drewN ?_ _) | ((with_reducible refine Below.alloc ?_ ?_ _); rotate_left; focus (go_size; done)) | ((with_reducible refine Below.setCell ?_ ?_ _); rotate_left; focus (go_size; done)) | ((with_reducible refine Below.trans ?_ (Below.mono (by with_reducible assumption) ?_)); rotate_left; focus (go_size; done))))⟩)
        subst hl0
        have hzz : z = true := by
          refine HZ.out.2 ⟨?_, ?_, ?_, ?_, ?_, ?_⟩ <;> first | (left; omega) | (right; first | rfl | assumption | omega)
        subst hzz
        clear HZ
        go_enter Tryd.func39, Tryd.ntmps39
        go_wp2_with fail
        all_goals (go_ret; exact ⟨rfl, by (repeat' (first | (with_reducible exact Below.refl _ _) | (with_reducible assumption) | (with_reducible refine Below.drew ?_) | (with_reducible refine below_drewN ?_ _) | ((with_reducible refine Below.alloc ?_ ?_ _); rotate_left; focus (go_size; done)) | ((with_reducible refine Below.setCell ?_ ?_ _); rotate_left; focus (go_size; done)) | ((with_reducible refine Below.trans ?_ (Below.mono (by with_reducible assumption) ?_)); rotate_left; focus (go_size; done))))⟩)
  · have tokc : (0 : Int) = 0 := rfl
    clear tokc
    cases yes with
    | true =>
      have hzz : z = false := by
        cases z with
        | false => rfl
        | true => obtain ⟨g1, g2, g3, g4, g5, g6⟩ := HZ.out.1 rfl; exfalso; rcases g1 with g | g <;> first | omega | exact Bool.noConfusion g
      subst hzz
      clear HZ
      go_enter Tryd.func39, Tryd.ntmps39
      go_wp2_with fail
      all_goals (go_ret; exact ⟨rfl, by (repeat' (first | (with_reducible exact Below.refl _ _) | (with_reducible assumption) | (with_reducible refine Below.drew ?_) | (with_reducible refine below_drewN ?_ _) | ((with_reducible refine Below.alloc ?_ ?_ _); rotate_left; focus (go_size; done)) | ((with_reducible refine Below.setCell ?_ ?_ _); rotate_left; focus (go_size; done)) | ((with_reducible refine Below.trans ?_ (Below.mono (by with_reducible assumption) ?_)); rotate_left; focus (go_size; done))))⟩)
    | false =>
      cases zb with
      | false =>
        have hzz : z = false := by
          cases z with
          | false => rfl
          | true => obtain ⟨g1, g2, g3, g4, g5, g6⟩ := HZ.out.1 rfl; exfalso; rcases g2 with g | g <;> first | omega | exact Bool.noConfusion g
        subst hzz
        clear HZ
        go_enter Tryd.func39, Tryd.ntmps39
        go_wp2_with fail
        all_goals (go_ret; exact ⟨rfl, by (repeat' (first | (with_reducible exact Below.refl _ _) | (with_reducible assumption) | (with_reducible refine Below.drew ?_) | (with_reducible refine below_drewN ?_ _) | ((with_reducible refine Below.alloc ?_ ?_ _); rotate_left; focus (go_size; done)) | ((with_reducible refine Below.setCell ?_ ?_ _); rotate_left; focus (go_size; done)) | ((with_reducible refine Below.trans ?_ (Below.mono (by with_reducible assumption) ?_)); rotate_left; focus (go_size; done))))⟩)
      | true =>
        by_cases ht : text = []
        rotate_left
        · have t1 : text.isEmpty = false := by simpa using ht
          have hzz : z = false := by
            cases z with
            | false => rfl
            | true => obtain ⟨g1, g2, g3, g4, g5, g6⟩ := HZ.out.1 rfl; exfalso; rcases g3 with g | g <;> first | omega | exact ht g
          subst hzz
          clear HZ
          go_enter Tryd.func39, Tryd.ntmps39
          go_wp2_with fail
          all_goals (go_ret; exact ⟨rfl, by (repeat' (first | (with_reducible exact Below.refl _ _) | (with_reducible assumption) | (with_reducible refine Below.drew ?_) | (with_reducible refine below_drewN ?_ _) | ((with_reducible refine Below.alloc ?_ ?_ _); rotate_left; focus (go_size; done)) | ((with_reducible refine Below.setCell ?_ ?_ _); rotate_left; focus (go_size; done)) | ((with_reducible refine Below.trans ?_ (Below.mono (by with_reducible assumption) ?_)); rotate_left; focus (go_size; done))))⟩)
        subst ht
        by_cases hd : day = 0
        rotate_left
        · have d1 : (day == 0) = false := by rw [beq_eq_false_iff_ne]; exact hd
          have d2 : (day != 0) = true := by rw [bne_iff_ne]; exact hd
          have hzz : z = false := by
            cases z with
            | false => rfl
            | true => obtain ⟨g1, g2, g3, g4, g5, g6⟩ := HZ.out.1 rfl; exfalso; rcases g4 with g | g <;> first | omega | exact hd g
          subst hzz
          clear HZ
          go_enter Tryd.func39, Tryd.ntmps39
          go_wp2_with fail
          all_goals (go_ret; exact ⟨rfl, by (repeat' (first | (with_reducible exact Below.refl _ _) | (with_reducible assumption) | (with_reducible refine Below.drew ?_) | (with_reducible refine below_drewN ?_ _) | ((with_reducible refine Below.alloc ?_ ?_ _); rotate_left; focus (go_size; done)) | ((with_reducible refine Below.setCell ?_ ?_ _); rotate_left; focus (go_size; done)) | ((with_reducible refine Below.trans ?_ (Below.mono (by with_reducible assumption) ?_)); rotate_left; focus (go_size; done))))⟩)
        subst hd
        by_cases hn0 : nl = 0
        rotate_left
        · have l1 : ((nl : Int) == 0) = false := by rw [beq_eq_false_iff_ne]; omega
          have l2 : (0 : Int) < (nl : Int) := by omega
          have hzz : z = false := by
            cases z with
            | false => rfl
            | true => obtain ⟨g1, g2, g3, g4, g5, g6⟩ := HZ.out.1 rfl; exfalso; rcases g6 with g | g <;> omega
          subst hzz
          clear HZ
          go_enter Tryd.func39, Tryd.ntmps39
          go_wp2_with fail
          all_goals (go_ret; exact ⟨rfl, by (repeat' (first | (with_reducible exact Below.refl _ _) | (with_reducible assumption) | (with_reducible refine Below.drew ?_) | (with_reducible refine below_drewN ?_ _) | ((with_reducible refine Below.alloc ?_ ?_ _); rotate_left; focus (go_size; done)) | ((with_reducible refine Below.setCell ?_ ?_ _); rotate_left; focus (go_size; done)) | ((with_reducible refine Below.trans ?_ (Below.mono (by with_reducible assumption) ?_)); rotate_left; focus (go_size; done))))⟩)
        subst hn0
        rcases Nat.eq_zero_or_pos ll with hl0 | hl0
        · subst hl0
          have hzz : z = true := by
            refine HZ.out.2 ⟨?_, ?_, ?_, ?_, ?_, ?_⟩ <;> first | (left; omega) | (right; first | rfl | assumption | omega)
          subst hzz
          clear HZ
          go_enter Tryd.func39, Tryd.ntmps39
          go_wp2_with fail
          all_goals (go_ret; exact ⟨rfl, by (repeat' (first | (with_reducible exact Below.refl _ _) | (with_reducible assumption) | (with_reducible refine Below.drew ?_) | (with_reducible refine below_drewN ?_ _) | ((with_reducible refine Below.alloc ?_ ?_ _); rotate_left; focus (go_size; done)) | ((with_reducible refine Below.setCell ?_ ?_ _); rotate_left; focus (go_size; done)) | ((with_reducible refine Below.trans ?_ (Below.mono (by with_reducible assumption) ?_)); rotate_left; focus (go_size; done))))⟩)
        · have l1 : ((ll : Int) == 0) = false := by rw [beq_eq_false_iff_ne]; omega
          have hzz : z = true := by
            refine HZ.out.2 ⟨?_, ?_, ?_, ?_, ?_, ?_⟩ <;> first | (left; omega) | (right; first | rfl | assumption | omega)
          subst hzz
          clear HZ
          go_enter Tryd.func39, Tryd.ntmps39
          go_wp2_with fail
          all_goals (go_ret; exact ⟨rfl, by (repeat' (first | (with_reducible exact Below.refl _ _) | (with_reducible assumption) | (with_reducible refine Below.drew ?_) | (with_reducible refine below_drewN ?_ _) | ((with_reducible refine Below.alloc ?_ ?_ _); rotate_left; focus (go_size; done)) | ((with_reducible refine Below.setCell ?_ ?_ _); rotate_left; focus (go_size; done)) | ((with_reducible refine Below.trans ?_ (Below.mono (by with_reducible assumption) ?_)); rotate_left; focus (go_size; done))))⟩)
  · have tokc : (0 : Int) = 0 := rfl
    clear tokc
    cases yes with
    | true =>
      have hzz : z = false := by
        cases z with
        | false => rfl
        | true => obtain ⟨g1, g2, g3, g4, g5, g6⟩ := HZ.out.1 rfl; exfalso; rcases g1 with g | g <;> first | omega | exact Bool.noConfusion g
      subst hzz
      clear HZ
      go_enter Tryd.func39, Tryd.ntmps39
      go_wp2_with fail
      all_goals (go_ret; exact ⟨rfl, by (repeat' (first | (with_reducible exact Below.refl _ _) | (with_reducible assumption) | (with_reducible refine Below.drew ?_) | (with_reducible refine below_drewN ?_ _) | ((with_reducible refine Below.alloc ?_ ?_ _); rotate_left; focus (go_size; done)) | ((with_reducible refine Below.setCell ?_ ?_ _); rotate_left; focus (go_size; done)) | ((with_reducible refine Below.trans ?_ (Below.mono (by with_reducible assumption) ?_)); rotate_left; focus (go_size; done))))⟩)
    | false =>
      cases zb with
      | false =>
        have hzz : z = false := by
          cases z with
          | false => rfl
          | true => obtain ⟨g1, g2, g3, g4, g5, g6⟩ := HZ.out.1 rfl; exfalso; rcases g2 with g | g <;> first | omega | exact Bool.noConfusion g
        subst hzz
        clear HZ
        go_enter Tryd.func39, Tryd.ntmps39
        go_wp2_with fail
        all_goals (go_ret; exact ⟨rfl, by (repeat' (first | (with_reducible exact Below.refl _ _) | (with_reducible assumption) | (with_reducible refine Below.drew ?_) | (with_reducible refine below_drewN ?_ _) | ((with_reducible refine Below.alloc ?_ ?_ _); rotate_left; focus (go_size; done)) | ((with_reducible refine Below.setCell ?_ ?_ _); rotate_left; focus (go_size; done)) | ((with_reducible refine Below.trans ?_ (Below.mono (by with_reducible assumption) ?_)); rotate_left; focus (go_size; done))))⟩)
      | true =>
        by_cases ht : text = []
        rotate_left
        · have t1 : text.isEmpty = false := by simpa using ht
          have hzz : z = false := by
            cases z with
            | false => rfl
            | true => obtain ⟨g1, g2, g3, g4, g5, g6⟩ := HZ.out.1 rfl; exfalso; rcases g3 with g | g <;> first | omega | exact ht g
          subst hzz
          clear HZ
          go_enter Tryd.func39, Tryd.ntmps39
          go_wp2_with fail
          all_goals (go_ret; exact ⟨rfl, by (repeat' (first | (with_reducible exact Below.refl _ _) | (with_reducible assumption) | (with_reducible refine Below.drew ?_) | (with_reducible refine below_drewN ?_ _) | ((with_reducible refine Below.alloc ?_ ?_ _); rotate_left; focus (go_size; done)) | ((with_reducible refine Below.setCell ?_ ?_ _); rotate_left; focus (go_size; done)) | ((with_reducible refine Below.trans ?_ (Below.mono (by with_reducible assumption) ?_)); rotate_left; focus (go_size; done))))⟩)
        subst ht
        by_cases hd : day = 0
        rotate_left
        · have d1 : (day == 0) = false := by rw [beq_eq_false_iff_ne]; exact hd
          have d2 : (day != 0) = true := by rw [bne_iff_ne]; exact hd
          have hzz : z = false := by
            cases z with
            | false => rfl
            | true => obtain ⟨g1, g2, g3, g4, g5, g6⟩ := HZ.out.1 rfl; exfalso; rcases g4 with g | g <;> first | omega | exact hd g
          subst hzz
          clear HZ
          go_enter Tryd.func39, Tryd.ntmps39
          go_wp2_with fail
          all_goals (go_ret; exact ⟨rfl, by (repeat' (first | (with_reducible exact Below.refl _ _) | (with_reducible assumption) | (with_reducible refine Below.drew ?_) | (with_reducible refine below_drewN ?_ _) | ((with_reducible refine Below.alloc ?_ ?_ _); rotate_left; focus (go_size; done)) | ((with_reducible refine Below.setCell ?_ ?_ _); rotate_left; focus (go_size; done)) | ((with_reducible refine Below.trans ?_ (Below.mono (by with_reducible assumption) ?_)); rotate_left; focus (go_size; done))))⟩)
        subst hd
        rcases Nat.eq_zero_or_pos ll with hl0 | hl0
        · subst hl0
          have hzz : z = true := by
            refine HZ.out.2 ⟨?_, ?_, ?_, ?_, ?_, ?_⟩ <;> first | (left; omega) | (right; first | rfl | assumption | omega)
          subst hzz
          clear HZ
          go_enter Tryd.func39, Tryd.ntmps39
          go_wp2_with fail
          all_goals (go_ret; exact ⟨rfl, by (repeat' (first | (with_reducible exact Below.refl _ _) | (with_reducible assumption) | (with_reducible refine Below.drew ?_) | (with_reducible refine below_drewN ?_ _) | ((with_reducible refine Below.alloc ?_ ?_ _); rotate_left; focus (go_size; done)) | ((with_reducible refine Below.setCell ?_ ?_ _); rotate_left; focus (go_size; done)) | ((with_reducible refine Below.trans ?_ (Below.mono (by with_reducible assumption) ?_)); rotate_left; focus (go_size; done))))⟩)
        · have l1 : ((ll : Int) == 0) = false := by rw [beq_eq_false_iff_ne]; omega
          have hzz : z = true := by
            refine HZ.out.2 ⟨?_, ?_, ?_, ?_, ?_, ?_⟩ <;> first | (left; omega) | (right; first | rfl | assumption | omega)
          subst hzz
          clear HZ
          go_enter Tryd.func39, Tryd.ntmps39
          go_wp2_with fail
          all_goals (go_ret; exact ⟨rfl, by (repeat' (first | (with_reducible exact Below.refl _ _) | (with_reducible assumption) | (with_reducible refine Below.drew ?_) | (with_reducible refine below_drewN ?_ _) | ((with_reducible refine Below.alloc ?_ ?_ _); rotate_left; focus (go_size; done)) | ((with_reducible refine Below.setCell ?_ ?_ _); rotate_left; focus (go_size; done)) | ((with_reducible refine Below.trans ?_ (Below.mono (by with_reducible assumption) ?_)); rotate_left; focus (go_size; done))))⟩)
  · have tokc : (0 : Int) = 0 := rfl
    clear tokc
    have e1 : (kind == 1) = false := by rw [beq_eq_false_iff_ne]; omega
    have f1 : (kind != 1) = true := by rw [bne_iff_ne]; omega
    have e2 : (kind == 2) = false := by rw [beq_eq_false_iff_ne]; omega
    have f2 : (kind != 2) = true := by rw [bne_iff_ne]; omega
    have e3 : (kind == 3) = false := by rw [beq_eq_false_iff_ne]; omega
    have f3 : (kind != 3) = true := by rw [bne_iff_ne]; omega
    have e4 : (kind == 4) = false := by rw [beq_eq_false_iff_ne]; omega
    have f4 : (kind != 4) = true := by rw [bne_iff_ne]; omega
    have e5 : (kind == 5) = false := by rw [beq_eq_false_iff_ne]; omega
    have f5 : (kind != 5) = true := by rw [bne_iff_ne]; omega
    have e6 : (kind == 6) = false := by rw [beq_eq_false_iff_ne]; omega
    have f6 : (kind != 6) = true := by rw [bne_iff_ne]; omega
    have k5 : decide (5 ≤ kind) = false := decide_eq_false (by omega)
    cases yes with
    | true =>
      have hzz : z = false := by
        cases z with
        | false => rfl
        | true => obtain ⟨g1, g2, g3, g4, g5, g6⟩ := HZ.out.1 rfl; exfalso; rcases g1 with g | g <;> first | omega | exact Bool.noConfusion g
      subst hzz
      clear HZ
      go_enter Tryd.func39, Tryd.ntmps39
      go_wp2_with fail
      all_goals (go_ret; exact ⟨rfl, by (repeat' (first | (with_reducible exact Below.refl _ _) | (with_reducible assumption) | (with_reducible refine Below.drew ?_) | (with_reducible refine below_drewN ?_ _) | ((with_reducible refine Below.alloc ?_ ?_ _); rotate_left; focus (go_size; done)) | ((with_reducible refine Below.setCell ?_ ?_ _); rotate_left; focus (go_size; done)) | ((with_reducible refine Below.trans ?_ (Below.mono (by with_reducible assumption) ?_)); rotate_left; focus (go_size; done))))⟩)
    | false =>
      cases zb with
      | false =>
        have hzz : z = false := by
          cases z with
          | false => rfl
          | true => obtain ⟨g1, g2, g3, g4, g5, g6⟩ := HZ.out.1 rfl; exfalso; rcases g2 with g | g <;> first | omega | exact Bool.noConfusion g
        subst hzz
        clear HZ
        go_enter Tryd.func39, Tryd.ntmps39
        go_wp2_with fail
        all_goals (go_ret; exact ⟨rfl, by (repeat' (first | (with_reducible exact Below.refl _ _) | (with_reducible assumption) | (with_reducible refine Below.drew ?_) | (with_reducible refine below_drewN ?_ _) | ((with_reducible refine Below.alloc ?_ ?_ _); rotate_left; focus (go_size; done)) | ((with_reducible refine Below.setCell ?_ ?_ _); rotate_left; focus (go_size; done)) | ((with_reducible refine Below.trans ?_ (Below.mono (by with_reducible assumption) ?_)); rotate_left; focus (go_size; done))))⟩)
      | true =>
        by_cases ht : text = []
        rotate_left
        · have t1 : text.isEmpty = false := by simpa using ht
          have hzz : z = false := by
            cases z with
            | false => rfl
            | true => obtain ⟨g1, g2, g3, g4, g5, g6⟩ := HZ.out.1 rfl; exfalso; rcases g3 with g | g <;> first | omega | exact ht g
          subst hzz
          clear HZ
          go_enter Tryd.func39, Tryd.ntmps39
          go_wp2_with fail
          all_goals (go_ret; exact ⟨rfl, by (repeat' (first | (with_reducible exact Below.refl _ _) | (with_reducible assumption) | (with_reducible refine Below.drew ?_) | (with_reducible refine below_drewN ?_ _) | ((with_reducible refine Below.alloc ?_ ?_ _); rotate_left; focus (go_size; done)) | ((with_reducible refine Below.setCell ?_ ?_ _); rotate_left; focus (go_size; done)) | ((with_reducible refine Below.trans ?_ (Below.mono (by with_reducible assumption) ?_)); rotate_left; focus (go_size; done))))⟩)
        subst ht
        by_cases hd : day = 0
        rotate_left
        · have d1 : (day == 0) = false := by rw [beq_eq_false_iff_ne]; exact hd
          have d2 : (day != 0) = true := by rw [bne_iff_ne]; exact hd
          have hzz : z = false := by
            cases z with
            | false => rfl
            | true => obtain ⟨g1, g2, g3, g4, g5, g6⟩ := HZ.out.1 rfl; exfalso; rcases g4 with g | g <;> first | omega | exact hd g
          subst hzz
          clear HZ
          go_enter Tryd.func39, Tryd.ntmps39
          go_wp2_with fail
          all_goals (go_ret; exact ⟨rfl, by (repeat' (first | (with_reducible exact Below.refl _ _) | (with_reducible assumption) | (with_reducible refine Below.drew ?_) | (with_reducible refine below_drewN ?_ _) | ((with_reducible refine Below.alloc ?_ ?_ _); rotate_left; focus (go_size; done)) | ((with_reducible refine Below.setCell ?_ ?_ _); rotate_left; focus (go_size; done)) | ((with_reducible refine Below.trans ?_ (Below.mono (by with_reducible assumption) ?_)); rotate_left; focus (go_size; done))))⟩)
        subst hd
        by_cases hn0 : nl = 0
        rotate_left
        · have l1 : ((nl : Int) == 0) = false := by rw [beq_eq_false_iff_ne]; omega
          have l2 : (0 : Int) < (nl : Int) := by omega
          have hzz : z = false := by
            cases z with
            | false => rfl
            | true => obtain ⟨g1, g2, g3, g4, g5, g6⟩ := HZ.out.1 rfl; exfalso; rcases g6 with g | g <;> omega
          subst hzz
          clear HZ
          go_enter Tryd.func39, Tryd.ntmps39
          go_wp2_with fail
          all_goals (go_ret; exact ⟨rfl, by (repeat' (first | (with_reducible exact Below.refl _ _) | (with_reducible assumption) | (with_reducible refine Below.drew ?_) | (with_reducible refine below_drewN ?_ _) | ((with_reducible refine Below.alloc ?_ ?_ _); rotate_left; focus (go_size; done)) | ((with_reducible refine Below.setCell ?_ ?_ _); rotate_left; focus (go_size; done)) | ((with_reducible refine Below.trans ?_ (Below.mono (by with_reducible assumption) ?_)); rotate_left; focus (go_size; done))))⟩)
        subst hn0
        by_cases hl0 : ll = 0
        rotate_left
        · have l1 : ((ll : Int) == 0) = false := by rw [beq_eq_false_iff_ne]; omega
          have hzz : z = false := by
            cases z with
            | false => rfl
            | true => obtain ⟨g1, g2, g3, g4, g5, g6⟩ := HZ.out.1 rfl; exfalso; rcases g5 with g | g <;> omega
          subst hzz
          clear HZ
          go_enter Tryd.func39, Tryd.ntmps39
          go_wp2_with fail
          all_goals (go_ret; exact ⟨rfl, by (repeat' (first | (with_reducible exact Below.refl _ _) | (with_reducible assumption) | (with_reducible refine Below.drew ?_) | (with_reducible refine below_drewN ?_ _) | ((with_reducible refine Below.alloc ?_ ?_ _); rotate_left; focus (go_size; done)) | ((with_reducible refine Below.setCell ?_ ?_ _); rotate_left; focus (go_size; done)) | ((with_reducible refine Below.trans ?_ (Below.mono (by with_reducible assumption) ?_)); rotate_left; focus (go_size; done))))⟩)
        subst hl0
        have hzz : z = true := by
          refine HZ.out.2 ⟨?_, ?_, ?_, ?_, ?_, ?_⟩ <;> first | (left; omega) | (right; first | rfl | assumption | omega)
        subst hzz
        clear HZ
        go_enter Tryd.func39, Tryd.ntmps39
        go_wp2_with fail
        all_goals (go_ret; exact ⟨rfl, by (repeat' (first | (with_reducible exact Below.refl _ _) | (with_reducible assumption) | (with_reducible refine Below.drew ?_) | (with_reducible refine below_drewN ?_ _) | ((with_reducible refine Below.alloc ?_ ?_ _); rotate_left; focus (go_size; done)) | ((with_reducible refine Below.setCell ?_ ?_ _); rotate_left; focus (go_size; done)) | ((with_reducible refine Below.trans ?_ (Below.mono (by with_reducible assumption) ?_)); rotate_left; focus (go_size; done))))⟩)
  · have tokc : (0 : Int) = 0 := rfl
    clear tokc
    have e1 : (kind == 1) = false := by rw [beq_eq_false_iff_ne]; omega
    have f1 : (kind != 1) = true := by rw [bne_iff_ne]; omega
    have e2 : (kind == 2) = false := by rw [beq_eq_false_iff_ne]; omega
    have f2 : (kind != 2) = true := by rw [bne_iff_ne]; omega
    have e3 : (kind == 3) = false := by rw [beq_eq_false_iff_ne]; omega
    have f3 : (kind != 3) = true := by rw [bne_iff_ne]; omega
    have e4 : (kind == 4) = false := by rw [beq_eq_false_iff_ne]; omega
    have f4 : (kind != 4) = true := by rw [bne_iff_ne]; omega
    have e5 : (kind == 5) = false := by rw [beq_eq_false_iff_ne]; omega
    have f5 : (kind != 5) = true := by rw [bne_iff_ne]; omega
    have e6 : (kind == 6) = false := by rw [beq_eq_false_iff_ne]; omega
    have f6 : (kind != 6) = true := by rw [bne_iff_ne]; omega
    have k5 : decide (5 ≤ kind) = true := decide_eq_true (by omega)
    cases yes with
    | true =>
      have hzz : z = false := by
        cases z with
        | false => rfl
        | true => obtain ⟨g1, g2, g3, g4, g5, g6⟩ := HZ.out.1 rfl; exfalso; rcases g1 with g | g <;> first | omega | exact Bool.noConfusion g
      subst hzz
      clear HZ
      go_enter Tryd.func39, Tryd.ntmps39
      go_wp2_with fail
      all_goals (go_ret; exact ⟨rfl, by (repeat' (first | (with_reducible exact Below.refl _ _) | (with_reducible assumption) | (with_reducible refine Below.drew ?_) | (with_reducible refine below_drewN ?_ _) | ((with_reducible refine Below.alloc ?_ ?_ _); rotate_left; focus (go_size; done)) | ((with_reducible refine Below.setCell ?_ ?_ _); rotate_left; focus (go_size; done)) | ((with_reducible refine Below.trans ?_ (Below.mono (by with_reducible assumption) ?_)); rotate_left; focus (go_size; done))))⟩)
    | false =>
      cases zb with
      | false =>
        have hzz : z = false := by
          cases z with
          | false => rfl
          | true => obtain ⟨g1, g2, g3, g4, g5, g6⟩ := HZ.out.1 rfl; exfalso; rcases g2 with g | g <;> first | omega | exact Bool.noConfusion g
        subst hzz
        clear HZ
        go_enter Tryd.func39, Tryd.ntmps39
        go_wp2_with fail
        all_goals (go_ret; exact ⟨rfl, by (repeat' (first | (with_reducible exact Below.refl _ _) | (with_reducible assumption) | (with_reducible refine Below.drew ?_) | (with_reducible refine below_drewN ?_ _) | ((with_reducible refine Below.alloc ?_ ?_ _); rotate_left; focus (go_size; done)) | ((with_reducible refine Below.setCell ?_ ?_ _); rotate_left; focus (go_size; done)) | ((with_reducible refine Below.trans ?_ (Below.mono (by with_reducible assumption) ?_)); rotate_left; focus (go_size; done))))⟩)
      | true =>
        by_cases ht : text = []
        rotate_left
        · have t1 : text.isEmpty = false := by simpa using ht
          have hzz : z = false := by
            cases z with
            | false => rfl
            | true => obtain ⟨g1, g2, g3, g4, g5, g6⟩ := HZ.out.1 rfl; exfalso; rcases g3 with g | g <;> first | omega | exact ht g
          subst hzz
          clear HZ
          go_enter Tryd.func39, Tryd.ntmps39
          go_wp2_with fail
          all_goals (go_ret; exact ⟨rfl, by (repeat' (first | (with_reducible exact Below.refl _ _) | (with_reducible assumption) | (with_reducible refine Below.drew ?_) | (with_reducible refine below_drewN ?_ _) | ((with_reducible refine Below.alloc ?_ ?_ _); rotate_left; focus (go_size; done)) | ((with_reducible refine Below.setCell ?_ ?_ _); rotate_left; focus (go_size; done)) | ((with_reducible refine Below.trans ?_ (Below.mono (by with_reducible assumption) ?_)); rotate_left; focus (go_size; done))))⟩)
        subst ht
        by_cases hd : day = 0
        rotate_left
        · have d1 : (day == 0) = false := by rw [beq_eq_false_iff_ne]; exact hd
          have d2 : (day != 0) = true := by rw [bne_iff_ne]; exact hd
          have hzz : z = false := by
            cases z with
            | false => rfl
            | true => obtain ⟨g1, g2, g3, g4, g5, g6⟩ := HZ.out.1 rfl; exfalso; rcases g4 with g | g <;> first | omega | exact hd g
          subst hzz
          clear HZ
          go_enter Tryd.func39, Tryd.ntmps39
          go_wp2_with fail
          all_goals (go_ret; exact ⟨rfl, by (repeat' (first | (with_reducible exact Below.refl _ _) | (with_reducible assumption) | (with_reducible refine Below.drew ?_) | (with_reducible refine below_drewN ?_ _) | ((with_reducible refine Below.alloc ?_ ?_ _); rotate_left; focus (go_size; done)) | ((with_reducible refine Below.setCell ?_ ?_ _); rotate_left; focus (go_size; done)) | ((with_reducible refine Below.trans ?_ (Below.mono (by with_reducible assumption) ?_)); rotate_left; focus (go_size; done))))⟩)
        subst hd
        by_cases hn0 : nl = 0
        rotate_left
        · have l1 : ((nl : Int) == 0) = false := by rw [beq_eq_false_iff_ne]; omega
          have l2 : (0 : Int) < (nl : Int) := by omega
          have hzz : z = false := by
            cases z with
            | false => rfl
            | true => obtain ⟨g1, g2, g3, g4, g5, g6⟩ := HZ.out.1 rfl; exfalso; rcases g6 with g | g <;> omega
          subst hzz
          clear HZ
          go_enter Tryd.func39, Tryd.ntmps39
          go_wp2_with fail
          all_goals (go_ret; exact ⟨rfl, by (repeat' (first | (with_reducible exact Below.refl _ _) | (with_reducible assumption) | (with_reducible refine Below.drew ?_) | (with_reducible refine below_drewN ?_ _) | ((with_reducible refine Below.alloc ?_ ?_ _); rotate_left; focus (go_size; done)) | ((with_reducible refine Below.setCell ?_ ?_ _); rotate_left; focus (go_size; done)) | ((with_reducible refine Below.trans ?_ (Below.mono (by with_reducible assumption) ?_)); rotate_left; focus (go_size; done))))⟩)
        subst hn0
        by_cases hl0 : ll = 0
        rotate_left
        · have l1 : ((ll : Int) == 0) = false := by rw [beq_eq_false_iff_ne]; omega
          have hzz : z = false := by
            cases z with
            | false => rfl
            | true => obtain ⟨g1, g2, g3, g4, g5, g6⟩ := HZ.out.1 rfl; exfalso; rcases g5 with g | g <;> omega
          subst hzz
          clear HZ
          go_enter Tryd.func39, Tryd.ntmps39
          go_wp2_with fail
          all_goals (go_ret; exact ⟨rfl, by (repeat' (first | (with_reducible exact Below.refl _ _) | (with_reducible assumption) | (with_reducible refine Below.drew ?_) | (with_reducible refine below_drewN ?_ _) | ((with_reducible refine Below.alloc ?_ ?_ _); rotate_left; focus (go_size; done)) | ((with_reducible refine Below.setCell ?_ ?_ _); rotate_left; focus (go_size; done)) | ((with_reducible refine Below.trans ?_ (Below.mono (by with_reducible assumption) ?_)); rotate_left; focus (go_size; done))))⟩)
        subst hl0
        have hzz : z = true := by
          refine HZ.out.2 ⟨?_, ?_, ?_, ?_, ?_, ?_⟩ <;> first | (left; omega) | (right; first | rfl | assumption | omega)
        subst hzz
        clear HZ
        go_enter Tryd.func39, Tryd.ntmps39
        go_wp2_with fail
        all_goals (go_ret; exact ⟨rfl, by (repeat' (first | (with_reducible exact Below.refl _ _) | (with_reducible assumption) | (with_reducible refine Below.drew ?_) | (with_reducible refine below_drewN ?_ _) | ((with_reducible refine Below.alloc ?_ ?_ _); rotate_left; focus (go_size; done)) | ((with_reducible refine Below.setCell ?_ ?_ _); rotate_left; focus (go_size; done)) | ((with_reducible refine Below.trans ?_ (Below.mono (by with_reducible assumption) ?_)); rotate_left; focus (go_size; done))))⟩)
end Go.Proofs.YtanjbdhjnmmfdaaDoor

set_option linter.unusedSimpArgs false
set_option linter.unusedVariables false
namespace Go.Proofs.YtanjbdhjnmmfdaaDoor
open Go.Lib

/-- a character of a text, as the document says -/
def chrP (c : Nat) : Prop := c = 9 ∨ c = 10 ∨ c = 13 ∨ (32 ≤ c ∧ c ≤ 55295) ∨ (57344 ≤ c ∧ c ≤ 65533) ∨ (65536 ≤ c ∧ c ≤ 1114111)
instance (c : Nat) : Decidable (chrP c) := by unfold chrP; infer_instance
def chr (c : Nat) : Bool := decide (chrP c)
/-- the document's decoder at the head of n bytes: the character, its bytes, and whether it is one in its shortest form -/
def oneN (n b0 b1 b2 b3 : Nat) : Nat × Nat × Bool :=
  if b0 < 128 then (b0, 1, true)
  else if 192 ≤ b0 ∧ b0 < 224 then
    (if 1 < n ∧ b1 / 64 = 2 then (b0 % 32 * 64 + b1 % 64, 2, decide (128 ≤ b0 % 32 * 64 + b1 % 64)) else (0, 0, false))
  else if 224 ≤ b0 ∧ b0 < 240 then
    (if 1 < n ∧ b1 / 64 = 2 then (if 2 < n ∧ b2 / 64 = 2 then ((b0 % 16 * 64 + b1 % 64) * 64 + b2 % 64, 3, decide (2048 ≤ (b0 % 16 * 64 + b1 % 64) * 64 + b2 % 64)) else (0, 0, false)) else (0, 0, false))
  else if 240 ≤ b0 ∧ b0 < 248 then
    (if 1 < n ∧ b1 / 64 = 2 then (if 2 < n ∧ b2 / 64 = 2 then (if 3 < n ∧ b3 / 64 = 2 then (((b0 % 8 * 64 + b1 % 64) * 64 + b2 % 64) * 64 + b3 % 64, 4, decide (65536 ≤ ((b0 % 8 * 64 + b1 % 64) * 64 + b2 % 64) * 64 + b3 % 64)) else (0, 0, false)) else (0, 0, false)) else (0, 0, false))
  else (0, 0, false)
/-- the two decoders, case by case: either both take the same character, or neither does -/
theorem one_dec {n b0 b1 b2 b3 : Nat} (h0 : b0 < 256) :
    (∃ c m, oneN n b0 b1 b2 b3 = (c, m, true) ∧ chrP c ∧ decodeN n b0 b1 b2 b3 = (c, m) ∧ ¬ (c = 65533 ∧ m = 1)) ∨
    (((oneN n b0 b1 b2 b3).2.2 = false ∨ ¬ chrP (oneN n b0 b1 b2 b3).1) ∧ (((decodeN n b0 b1 b2 b3).1 = 65533 ∧ (decodeN n b0 b1 b2 b3).2 = 1) ∨ ¬ chrP (decodeN n b0 b1 b2 b3).1)) := by
  by_cases a1 : b0 < 128
  · have e1 : oneN n b0 b1 b2 b3 = (b0, 1, true) := by unfold oneN; rw [if_pos a1]
    have e2 : decodeN n b0 b1 b2 b3 = (b0, 1) := by unfold decodeN; rw [if_pos a1]
    by_cases hc : chrP b0
    · exact .inl ⟨b0, 1, e1, hc, e2, by omega⟩
    · exact .inr ⟨.inr (by rw [e1]; exact hc), .inr (by rw [e2]; exact hc)⟩
  by_cases a2 : 192 ≤ b0 ∧ b0 < 224
  · by_cases t1 : 1 < n ∧ b1 / 64 = 2
    · have d : b0 / 32 = 6 ∧ (1 < n ∧ b1 / 64 = 2) := ⟨by omega, t1⟩
      have e1 : oneN n b0 b1 b2 b3 = (b0 % 32 * 64 + b1 % 64, 2, decide (128 ≤ b0 % 32 * 64 + b1 % 64)) := by unfold oneN; rw [if_neg a1, if_pos a2, if_pos t1]
      by_cases g : 128 ≤ b0 % 32 * 64 + b1 % 64
      · have e2 : decodeN n b0 b1 b2 b3 = (b0 % 32 * 64 + b1 % 64, 2) := by unfold decodeN; rw [if_neg a1, if_pos d, if_pos g]
        rw [decide_eq_true g] at e1
        by_cases hc : chrP (b0 % 32 * 64 + b1 % 64)
        · exact .inl ⟨_, 2, e1, hc, e2, by omega⟩
        · exact .inr ⟨.inr (by rw [e1]; exact hc), .inr (by rw [e2]; exact hc)⟩
      · have e2 : decodeN n b0 b1 b2 b3 = (65533, 1) := by unfold decodeN; rw [if_neg a1, if_pos d, if_neg g]
        exact .inr ⟨.inl (by rw [e1]; exact decide_eq_false g), .inl (by rw [e2]; exact ⟨rfl, rfl⟩)⟩
    · have e1 : oneN n b0 b1 b2 b3 = (0, 0, false) := by unfold oneN; rw [if_neg a1, if_pos a2, if_neg t1]
      have e2 : decodeN n b0 b1 b2 b3 = (65533, 1) := by
        unfold decodeN; rw [if_neg a1, if_neg (fun h => t1 h.2), if_neg (by omega), if_neg (by omega)]
      exact .inr ⟨.inl (by rw [e1]), .inl (by rw [e2]; exact ⟨rfl, rfl⟩)⟩
  by_cases a3 : 224 ≤ b0 ∧ b0 < 240
  · have n1 : ¬ (b0 / 32 = 6 ∧ (1 < n ∧ b1 / 64 = 2)) := by omega
    by_cases t1 : 1 < n ∧ b1 / 64 = 2
    · by_cases t2 : 2 < n ∧ b2 / 64 = 2
      · have d : b0 / 16 = 14 ∧ (1 < n ∧ b1 / 64 = 2) ∧ (2 < n ∧ b2 / 64 = 2) := ⟨by omega, t1, t2⟩
        have ec : b0 % 16 * 4096 + b1 % 64 * 64 + b2 % 64 = (b0 % 16 * 64 + b1 % 64) * 64 + b2 % 64 := by omega
        have e1 : oneN n b0 b1 b2 b3 = ((b0 % 16 * 64 + b1 % 64) * 64 + b2 % 64, 3, decide (2048 ≤ (b0 % 16 * 64 + b1 % 64) * 64 + b2 % 64)) := by unfold oneN; rw [if_neg a1, if_neg a2, if_pos a3, if_pos t1, if_pos t2]
        obtain ⟨c, hc⟩ : ∃ c, c = (b0 % 16 * 64 + b1 % 64) * 64 + b2 % 64 := ⟨_, rfl⟩
        rw [← hc] at e1 ec
        have hcl : c < 65536 := by omega
        by_cases g : c ≥ 2048 ∧ (c < 55296 ∨ (57344 ≤ c ∧ c ≤ 1114111))
        · have e2 : decodeN n b0 b1 b2 b3 = (c, 3) := by unfold decodeN; rw [if_neg a1, if_neg n1, if_pos d, ec, if_pos g]
          rw [decide_eq_true g.1] at e1
          by_cases hcc : chrP c
          · exact .inl ⟨_, 3, e1, hcc, e2, by omega⟩
          · exact .inr ⟨.inr (by rw [e1]; exact hcc), .inr (by rw [e2]; exact hcc)⟩
        · have e2 : decodeN n b0 b1 b2 b3 = (65533, 1) := by unfold decodeN; rw [if_neg a1, if_neg n1, if_pos d, ec, if_neg g]
          refine .inr ⟨?_, .inl (by rw [e2]; exact ⟨rfl, rfl⟩)⟩
          rw [e1]
          by_cases g2 : 2048 ≤ c
          · right; unfold chrP; show ¬ _; omega
          · left; exact decide_eq_false g2
      · have e1 : oneN n b0 b1 b2 b3 = (0, 0, false) := by unfold oneN; rw [if_neg a1, if_neg a2, if_pos a3, if_pos t1, if_neg t2]
        have e2 : decodeN n b0 b1 b2 b3 = (65533, 1) := by
          unfold decodeN; rw [if_neg a1, if_neg n1, if_neg (fun h => t2 h.2.2), if_neg (by omega)]
        exact .inr ⟨.inl (by rw [e1]), .inl (by rw [e2]; exact ⟨rfl, rfl⟩)⟩
    · have e1 : oneN n b0 b1 b2 b3 = (0, 0, false) := by unfold oneN; rw [if_neg a1, if_neg a2, if_pos a3, if_neg t1]
      have e2 : decodeN n b0 b1 b2 b3 = (65533, 1) := by
        unfold decodeN; rw [if_neg a1, if_neg n1, if_neg (fun h => t1 h.2.1), if_neg (by omega)]
      exact .inr ⟨.inl (by rw [e1]), .inl (by rw [e2]; exact ⟨rfl, rfl⟩)⟩
  by_cases a4 : 240 ≤ b0 ∧ b0 < 248
  · have n1 : ¬ (b0 / 32 = 6 ∧ (1 < n ∧ b1 / 64 = 2)) := by omega
    have n2 : ¬ (b0 / 16 = 14 ∧ (1 < n ∧ b1 / 64 = 2) ∧ (2 < n ∧ b2 / 64 = 2)) := by omega
    by_cases t1 : 1 < n ∧ b1 / 64 = 2
    · by_cases t2 : 2 < n ∧ b2 / 64 = 2
      · by_cases t3 : 3 < n ∧ b3 / 64 = 2
        · have d : b0 / 8 = 30 ∧ (1 < n ∧ b1 / 64 = 2) ∧ (2 < n ∧ b2 / 64 = 2) ∧ (3 < n ∧ b3 / 64 = 2) := ⟨by omega, t1, t2, t3⟩
          have ec : b0 % 8 * 262144 + b1 % 64 * 4096 + b2 % 64 * 64 + b3 % 64 = ((b0 % 8 * 64 + b1 % 64) * 64 + b2 % 64) * 64 + b3 % 64 := by omega
          have e1 : oneN n b0 b1 b2 b3 = (((b0 % 8 * 64 + b1 % 64) * 64 + b2 % 64) * 64 + b3 % 64, 4, decide (65536 ≤ ((b0 % 8 * 64 + b1 % 64) * 64 + b2 % 64) * 64 + b3 % 64)) := by unfold oneN; rw [if_neg a1, if_neg a2, if_neg a3, if_pos a4, if_pos t1, if_pos t2, if_pos t3]
          obtain ⟨c, hc⟩ : ∃ c, c = ((b0 % 8 * 64 + b1 % 64) * 64 + b2 % 64) * 64 + b3 % 64 := ⟨_, rfl⟩
          rw [← hc] at e1 ec
          by_cases g : c ≥ 65536 ∧ (c < 55296 ∨ (57344 ≤ c ∧ c ≤ 1114111))
          · have e2 : decodeN n b0 b1 b2 b3 = (c, 4) := by unfold decodeN; rw [if_neg a1, if_neg n1, if_neg n2, if_pos d, ec, if_pos g]
            rw [decide_eq_true g.1] at e1
            by_cases hcc : chrP c
            · exact .inl ⟨_, 4, e1, hcc, e2, by omega⟩
            · exact .inr ⟨.inr (by rw [e1]; exact hcc), .inr (by rw [e2]; exact hcc)⟩
          · have e2 : decodeN n b0 b1 b2 b3 = (65533, 1) := by unfold decodeN; rw [if_neg a1, if_neg n1, if_neg n2, if_pos d, ec, if_neg g]
            refine .inr ⟨?_, .inl (by rw [e2]; exact ⟨rfl, rfl⟩)⟩
            rw [e1]
            by_cases g2 : 65536 ≤ c
            · right; unfold chrP; show ¬ _; omega
            · left; exact decide_eq_false g2
        · have e1 : oneN n b0 b1 b2 b3 = (0, 0, false) := by unfold oneN; rw [if_neg a1, if_neg a2, if_neg a3, if_pos a4, if_pos t1, if_pos t2, if_neg t3]
          have e2 : decodeN n b0 b1 b2 b3 = (65533, 1) := by
            unfold decodeN; rw [if_neg a1, if_neg n1, if_neg n2, if_neg (fun h => t3 h.2.2.2)]
          exact .inr ⟨.inl (by rw [e1]), .inl (by rw [e2]; exact ⟨rfl, rfl⟩)⟩
      · have e1 : oneN n b0 b1 b2 b3 = (0, 0, false) := by unfold oneN; rw [if_neg a1, if_neg a2, if_neg a3, if_pos a4, if_pos t1, if_neg t2]
        have e2 : decodeN n b0 b1 b2 b3 = (65533, 1) := by
          unfold decodeN; rw [if_neg a1, if_neg n1, if_neg n2, if_neg (fun h => t2 h.2.2.1)]
        exact .inr ⟨.inl (by rw [e1]), .inl (by rw [e2]; exact ⟨rfl, rfl⟩)⟩
    · have e1 : oneN n b0 b1 b2 b3 = (0, 0, false) := by unfold oneN; rw [if_neg a1, if_neg a2, if_neg a3, if_pos a4, if_neg t1]
      have e2 : decodeN n b0 b1 b2 b3 = (65533, 1) := by
        unfold decodeN; rw [if_neg a1, if_neg n1, if_neg n2, if_neg (fun h => t1 h.2.1)]
      exact .inr ⟨.inl (by rw [e1]), .inl (by rw [e2]; exact ⟨rfl, rfl⟩)⟩
  · have e1 : oneN n b0 b1 b2 b3 = (0, 0, false) := by unfold oneN; rw [if_neg a1, if_neg a2, if_neg a3, if_neg a4]
    have e2 : decodeN n b0 b1 b2 b3 = (65533, 1) := by
      unfold decodeN; rw [if_neg a1, if_neg (by omega), if_neg (by omega), if_neg (by omega)]
    exact .inr ⟨.inl (by rw [e1]), .inl (by rw [e2]; exact ⟨rfl, rfl⟩)⟩

/-- the document's decoder at the head of a list of bytes -/
def oneL (l : List UInt8) : Nat × Nat × Bool := oneN l.length (l.getD 0 0).toNat (l.getD 1 0).toNat (l.getD 2 0).toNat (l.getD 3 0).toNat
/-- is it a text, as the document says: as many steps as there is fuel -/
def ztxtF : Nat → List UInt8 → Bool
  | 0, l => l.isEmpty
  | f + 1, l => if l = [] then true else if (oneL l).2.2 = true ∧ chrP (oneL l).1 then ztxtF f (l.drop (oneL l).2.1) else false
def ztxt (l : List UInt8) : Bool := ztxtF l.length l
theorem oneN_pos {n b0 b1 b2 b3 : Nat} (h : (oneN n b0 b1 b2 b3).2.2 = true) : 1 ≤ (oneN n b0 b1 b2 b3).2.1 := by
  unfold oneN at h ⊢
  repeat' split
  all_goals first | (simp only []; omega) | (exfalso; simp_all)
theorem txtF_more : ∀ (f : Nat) (l : List UInt8), l.length ≤ f → ztxtF (f + 1) l = ztxtF f l
  | 0, l, h => by
    have : l = [] := List.length_eq_zero_iff.1 (by omega)
    subst this; rfl
  | f + 1, l, h => by
    show (if l = [] then true else if (oneL l).2.2 = true ∧ chrP (oneL l).1 then ztxtF (f + 1) (l.drop (oneL l).2.1) else false) = (if l = [] then true else if (oneL l).2.2 = true ∧ chrP (oneL l).1 then ztxtF f (l.drop (oneL l).2.1) else false)
    by_cases e : l = []
    · rw [if_pos e, if_pos e]
    · rw [if_neg e, if_neg e]
      by_cases hk : (oneL l).2.2 = true ∧ chrP (oneL l).1
      · rw [if_pos hk, if_pos hk]
        have := oneN_pos (n := l.length) hk.1
        refine txtF_more f _ ?_
        rw [List.length_drop]
        have hl : 0 < l.length := List.length_pos_iff.2 e
        unfold oneL
        omega
      · rw [if_neg hk, if_neg hk]
theorem txtF_eq {l : List UInt8} : ∀ f, l.length ≤ f → ztxtF f l = ztxt l
  | 0, h => by
    have : l.length = 0 := by omega
    unfold ztxt; rw [this]
  | f + 1, h => by
    by_cases e : l.length = f + 1
    · unfold ztxt; rw [e]
    · rw [txtF_more f l (by omega), txtF_eq f (by omega)]
/-- the program's way: valid, and no character that is none of a text's -/
theorem txt_go (s : ByteArray) (f : Nat) : ∀ pos, s.size ≤ pos + f →
    ((validGoD f (s.data.toList.drop pos) = true ∧ idxFuncFrom (fun r => !chr r) true s f pos = -1) ↔ ztxtF f (s.data.toList.drop pos) = true) := by
  have hsz : s.size = s.data.toList.length := size_eq s
  induction f with
  | zero =>
    intro pos h
    have : s.data.toList.drop pos = [] := List.drop_eq_nil_of_le (by omega)
    rw [this]
    exact ⟨fun _ => rfl, fun _ => ⟨rfl, rfl⟩⟩
  | succ f ih =>
    intro pos h
    show ((if s.data.toList.drop pos = [] then true else if (decodeL (s.data.toList.drop pos)).1 = 65533 ∧ (decodeL (s.data.toList.drop pos)).2 = 1 then false else validGoD f ((s.data.toList.drop pos).drop (decodeL (s.data.toList.drop pos)).2)) = true ∧
      (if pos < s.size then (if (!chr (Utf8.decode s pos).1) = true then (pos : Int) else idxFuncFrom (fun r => !chr r) true s f (pos + (Utf8.decode s pos).2)) else -1) = -1) ↔
      (if s.data.toList.drop pos = [] then true else if (oneL (s.data.toList.drop pos)).2.2 = true ∧ chrP (oneL (s.data.toList.drop pos)).1 then ztxtF f ((s.data.toList.drop pos).drop (oneL (s.data.toList.drop pos)).2.1) else false) = true
    by_cases hp : pos < s.size
    · have hne : ¬ s.data.toList.drop pos = [] := fun e => by
        have := congrArg List.length e
        rw [List.length_drop, List.length_nil] at this
        omega
      rw [if_neg hne, if_neg hne, if_pos hp, ← decodeL_drop]
      obtain ⟨l, hl⟩ : ∃ l, l = s.data.toList.drop pos := ⟨_, rfl⟩
      rw [← hl]
      have hd := decodeL_N l
      rcases one_dec (n := l.length) (b1 := (l.getD 1 0).toNat) (b2 := (l.getD 2 0).toNat) (b3 := (l.getD 3 0).toNat) (UInt8.toNat_lt (l.getD 0 0)) with ⟨c, m, e1, e2, e3, e4⟩ | ⟨h1, h2⟩
      · rw [e3] at hd
        have e1' : oneL l = (c, m, true) := e1
        have hm := oneN_pos (n := l.length) (b0 := (l.getD 0 0).toNat) (b1 := (l.getD 1 0).toNat) (b2 := (l.getD 2 0).toNat) (b3 := (l.getD 3 0).toNat) (by rw [e1])
        rw [e1] at hm
        rw [hd, e1', if_neg e4, if_neg (by unfold chr; rw [decide_eq_true e2]; decide), if_pos ⟨rfl, e2⟩]
        have := ih (pos + m) (by have : 1 ≤ m := hm; omega)
        rw [hl, List.drop_drop]
        exact this
      · have hd2 : ¬ ((oneL l).2.2 = true ∧ chrP (oneL l).1) := by
          rintro ⟨a, b⟩
          rcases h1 with h1 | h1
          · have : (oneL l).2.2 = false := h1
            rw [this] at a; cases a
          · exact h1 b
        rw [if_neg hd2]
        rw [← hd] at h2
        constructor
        · rintro ⟨g1, g2⟩
          exfalso
          rcases h2 with h2 | h2
          · rw [if_pos h2] at g1; cases g1
          · rw [if_pos (by unfold chr; rw [decide_eq_false h2]; rfl)] at g2
            omega
        · intro g; cases g
    · have he : s.data.toList.drop pos = [] := List.drop_eq_nil_of_le (by omega)
      rw [if_pos he, if_pos he, if_neg hp]
      exact ⟨fun _ => rfl, fun _ => ⟨rfl, rfl⟩⟩
theorem ztxt_is (s : ByteArray) : (validD s.data.toList && decide (idxFunc (fun r => !chr r) true s < 0)) = ztxt s.data.toList := by
  have h := txt_go s s.size 0 (by omega)
  have hr := idxFunc_range (fun r => !chr r) true s
  have hsz : s.size = s.data.toList.length := size_eq s
  rw [List.drop_zero] at h
  rw [Bool.eq_iff_iff, Bool.and_eq_true, decide_eq_true_eq]
  unfold validD ztxt
  rw [← hsz]
  refine Iff.trans ⟨fun ⟨a, b⟩ => ⟨a, ?_⟩, fun ⟨a, b⟩ => ⟨a, ?_⟩⟩ h
  · have : idxFunc (fun r => !chr r) true s = idxFuncFrom (fun r => !chr r) true s s.size 0 := rfl
    omega
  · have : idxFunc (fun r => !chr r) true s = idxFuncFrom (fun r => !chr r) true s s.size 0 := rfl
    omega
end Go.Proofs.YtanjbdhjnmmfdaaDoor

set_option linter.unusedSimpArgs false
set_option linter.unusedVariables false
namespace Go.Proofs.YtanjbdhjnmmfdaaDoor
open Go.RowKit

theorem chr_lo {r : Nat} (h : chr r = true) : r ≤ 1114111 := by
  have := of_decide_eq_true h
  unfold chrP at this
  omega
set_option maxHeartbeats 1000000 in
theorem char_any (r : Nat) (w : World) : Calls Tryd.prog 57 #[.int .i32 r] w fun e w' => e = .returned (.bool (chr r)) ∧ w = w' := by
  obtain ⟨z, hz⟩ : ∃ z, z = chr r := ⟨_, rfl⟩
  have hc : z = true ↔ chrP r := by rw [hz]; exact decide_eq_true_iff
  rw [← hz]
  have HC := Far.mk hc
  clear hz hc
  go_enter Tryd.func57, Tryd.ntmps57
  go_wp2
  all_goals go_ret
  all_goals refine ⟨ret_bool ?_, rfl⟩
  all_goals rw [Bool.eq_iff_iff, HC.out]
  all_goals clear HC
  all_goals simp [chrP]
  all_goals (first | done | omega | (simp_all; done) | (simp_all; omega))
theorem closure_chr (w : World) : Go.Proofs.PredAt Tryd.prog 56 #[] Go.Proofs.encR (fun r => !chr r) w := by
  intro W r hb
  have HK := Lib.hid (char_any r W)
  show Calls Tryd.prog 56 #[.int .i32 r] W fun e w' => e = .returned (.bool (!chr r)) ∧ ∃ q, w' = W.drewN q
  generalize chr r = z at *
  go_enter Tryd.func56, Tryd.ntmps56
  go_wp2_with fail
  refine HK.out.mono ?_
  rintro _ _ ⟨rfl, rfl⟩
  go_wp2_with fail
  go_ret
  exact ⟨rfl, 0, rfl⟩
/-- the keywords -/
def words : List (List UInt8) := [[97, 110, 100], [98, 101, 116, 119, 101, 101, 110], [101, 108, 115, 101], [102, 97, 108, 115, 101], [105, 102], [105, 110], [110, 111, 116], [110, 117, 108, 108], [111, 114], [116, 104, 101, 110], [116, 114, 117, 101]]
set_option maxHeartbeats 1000000 in
theorem word_any (l : List UInt8) (w : World) : Calls Tryd.prog 67 #[.string ⟨l.toArray⟩] w fun e w' => e = .returned (.bool (words.contains l)) ∧ w = w' := by
  obtain ⟨z, hz⟩ : ∃ z, z = words.contains l := ⟨_, rfl⟩
  rw [← hz]
  have HZ := Far.mk hz
  clear hz
  go_enter Tryd.func67, Tryd.ntmps67
  go_wp2
  all_goals go_ret
  all_goals refine ⟨ret_bool ?_, rfl⟩
  all_goals rw [HZ.out]
  all_goals clear HZ
  all_goals simp_all [words, List.contains_cons]
/-- a letter of a name -/
def ltr (c : UInt8) : Bool := decide (97 ≤ c.toNat ∧ c.toNat ≤ 122 ∨ 65 ≤ c.toNat ∧ c.toNat ≤ 90 ∨ c.toNat = 95)
def dgt (c : UInt8) : Bool := decide (48 ≤ c.toNat ∧ c.toNat ≤ 57)
/-- is it a name? -/
def nam (l : List UInt8) : Bool := !l.isEmpty && decide (l.length ≤ 64) && !words.contains l && ltr (l.getD 0 0) && l.all fun c => ltr c || dgt c
theorem name_bad {l : List UInt8} (h : l = [] ∨ 64 < l.length ∨ words.contains l = true) : nam l = false := by
  unfold nam
  rcases h with h | h | h
  · subst h; rfl
  · rw [decide_eq_false (by omega)]; simp
  · rw [h]; simp
theorem name_at {l : List UInt8} {k : Nat} (hk : k < l.length) (h1 : ltr (l.getD k 0) = false) (h2 : k = 0 ∨ dgt (l.getD k 0) = false) : nam l = false := by
  rw [Bool.eq_false_iff]
  intro hn
  unfold nam at hn
  simp only [Bool.and_eq_true] at hn
  rcases h2 with rfl | h2
  · rw [h1] at hn; cases hn.1.2
  · have := List.all_eq_true.1 hn.2 (l.getD k 0) (by rw [List.getD_eq_getElem?_getD, List.getElem?_eq_getElem hk]; exact List.getElem_mem _)
    rw [h1, h2] at this; cases this
theorem name_ok {l : List UInt8} (h1 : l ≠ []) (h2 : l.length ≤ 64) (h3 : words.contains l = false) (h : ∀ k, k < l.length → ltr (l.getD k 0) = true ∨ (k ≠ 0 ∧ dgt (l.getD k 0) = true)) : nam l = true := by
  have hp : 0 < l.length := List.length_pos_iff.2 h1
  have h0 : ltr (l.getD 0 0) = true := by
    rcases h 0 hp with h | h
    · exact h
    · exact absurd rfl h.1
  unfold nam
  simp only [Bool.and_eq_true]
  refine ⟨⟨⟨⟨by simpa using h1, decide_eq_true h2⟩, by rw [h3]; rfl⟩, h0⟩, ?_⟩
  rw [List.all_eq_true]
  intro c hc
  obtain ⟨k, hk, rfl⟩ := List.mem_iff_getElem.1 hc
  have := h k hk
  rw [List.getD_eq_getElem?_getD, List.getElem?_eq_getElem hk] at this
  rw [Bool.or_eq_true]
  rcases this with h | h
  · exact .inl h
  · exact .inr h.2
set_option maxHeartbeats 1000000 in
theorem name_any (l : List UInt8) (hl : l.length ≤ 9223372036854775807) (w : World) : Calls Tryd.prog 58 #[.string ⟨l.toArray⟩] w fun e w' => e = .returned (.bool (nam l)) ∧ w = w' := by
  have HW := Lib.hid (word_any l w)
  by_cases h1 : l = []
  · have HE := Lib.hid (name_bad (.inl h1))
    subst h1
    clear hl HW
    go_enter Tryd.func58, Tryd.ntmps58
    go_wp2_with fail
    go_ret
    exact ⟨rfl, rfl⟩
  by_cases h2 : 64 < l.length
  · have HE := Lib.hid (name_bad (.inr (.inl h2)))
    have e1 : l.isEmpty = false := by simpa using h1
    have h2' : 64 < (l.length : Int) := by omega
    clear HW h2
    go_enter Tryd.func58, Tryd.ntmps58
    go_wp2_with fail
    go_ret
    exact ⟨ret_bool HE.out.symm, rfl⟩
  have e1 : l.isEmpty = false := by simpa using h1
  have h2' : ¬ 64 < (l.length : Int) := by omega
  obtain ⟨z, hz⟩ : ∃ z, z = words.contains l := ⟨_, rfl⟩
  rw [← hz] at HW
  cases z with
  | true =>
    have HE := Lib.hid (name_bad (.inr (.inr hz.symm)))
    clear hz h2
    go_enter Tryd.func58, Tryd.ntmps58
    go_wp2_with fail
    refine HW.out.mono ?_
    rintro _ _ ⟨rfl, rfl⟩
    go_wp2_with fail
    go_ret
    exact ⟨ret_bool HE.out.symm, rfl⟩
  | false =>
    have HZ := Lib.hid hz.symm
    have H1 := Lib.hid h1
    have H2 := Lib.hid h2
    clear hz h2
    go_enter Tryd.func58, Tryd.ntmps58
    go_wp2_with fail
    refine HW.out.mono ?_
    rintro _ _ ⟨rfl, rfl⟩
    go_wp2_with fail
    go_loopg [19] l.length (fun k i wr => ∃ t : Nat, k + t = l.length ∧ i = .int .i64 t ∧ Hid (∀ k, k < t → ltr (l.getD k 0) = true ∨ (k ≠ 0 ∧ dgt (l.getD k 0) = true)) ∧ w = wr)
    case atStart => exact ⟨0, by omega, rfl, Lib.hid (fun k hk => absurd hk (Nat.not_lt_zero _)), rfl⟩
    case round =>
      obtain ⟨t, hk, rfl, HA, rfl⟩ := hrel
      have HK := Lib.hid hk
      have htn : t ≤ l.length := by omega
      clear hk
      by_cases hlt : t < l.length
      · have hs : t < (⟨l.toArray⟩ : ByteArray).size := by show t < l.toArray.size; simpa using hlt
        have hc : (⟨l.toArray⟩ : ByteArray)[t] = l.getD t 0 := by
          rw [List.getD_eq_getElem?_getD, List.getElem?_eq_getElem hlt]; rfl
        have hu := UInt8.toNat_lt (l.getD t 0)
        have hcase : (97 ≤ (l.getD t 0).toNat ∧ (l.getD t 0).toNat ≤ 122) ∨ (65 ≤ (l.getD t 0).toNat ∧ (l.getD t 0).toNat ≤ 90) ∨ (95 ≤ (l.getD t 0).toNat ∧ (l.getD t 0).toNat ≤ 95) ∨ (0 ≤ (l.getD t 0).toNat ∧ (l.getD t 0).toNat ≤ 47) ∨ (48 ≤ (l.getD t 0).toNat ∧ (l.getD t 0).toNat ≤ 57) ∨ (58 ≤ (l.getD t 0).toNat ∧ (l.getD t 0).toNat ≤ 64) ∨ (91 ≤ (l.getD t 0).toNat ∧ (l.getD t 0).toNat ≤ 94) ∨ (96 ≤ (l.getD t 0).toNat ∧ (l.getD t 0).toNat ≤ 96) ∨ (123 ≤ (l.getD t 0).toNat ∧ (l.getD t 0).toNat ≤ 255) := by omega
        rcases hcase with hcase | hcase | hcase | hcase | hcase | hcase | hcase | hcase | hcase
        · obtain ⟨h1c, h2c⟩ := hcase
          have HY : Hid (ltr (l.getD t 0) = true ∨ (t ≠ 0 ∧ dgt (l.getD t 0) = true)) := Lib.hid (.inl (by unfold ltr; exact decide_eq_true (by omega)))
          have d1 : (97 : Int) ≤ ((⟨l.toArray⟩ : ByteArray)[t].toNat : Int) := by rw [hc]; have := h1c; omega
          have d2 : ((⟨l.toArray⟩ : ByteArray)[t].toNat : Int) ≤ (122 : Int) := by rw [hc]; have := h2c; omega
          have d3 : (((⟨l.toArray⟩ : ByteArray)[t].toNat : Int) == 95) = false := by rw [hc]; first | (rw [beq_eq_false_iff_ne]; omega) | (rw [beq_iff_eq]; omega)
          clear h1c h2c hc
          go_wp2_with fail
          go_roundg (gk - 1)
          case measure => have := HK.out; omega
          case rel =>
            refine ⟨t + 1, by have := HK.out; omega, by go_num, Lib.hid fun k hk => ?_, rfl⟩
            by_cases e : k = t
            · subst e; exact HY.out
            · exact HA.out k (by omega)
        · obtain ⟨h1c, h2c⟩ := hcase
          have HY : Hid (ltr (l.getD t 0) = true ∨ (t ≠ 0 ∧ dgt (l.getD t 0) = true)) := Lib.hid (.inl (by unfold ltr; exact decide_eq_true (by omega)))
          have d1 : (65 : Int) ≤ ((⟨l.toArray⟩ : ByteArray)[t].toNat : Int) := by rw [hc]; have := h1c; omega
          have d2 : ((⟨l.toArray⟩ : ByteArray)[t].toNat : Int) ≤ (90 : Int) := by rw [hc]; have := h2c; omega
          have d3 : (((⟨l.toArray⟩ : ByteArray)[t].toNat : Int) == 95) = false := by rw [hc]; first | (rw [beq_eq_false_iff_ne]; omega) | (rw [beq_iff_eq]; omega)
          clear h1c h2c hc
          go_wp2_with fail
          go_roundg (gk - 1)
          case measure => have := HK.out; omega
          case rel =>
            refine ⟨t + 1, by have := HK.out; omega, by go_num, Lib.hid fun k hk => ?_, rfl⟩
            by_cases e : k = t
            · subst e; exact HY.out
            · exact HA.out k (by omega)
        · obtain ⟨h1c, h2c⟩ := hcase
          have HY : Hid (ltr (l.getD t 0) = true ∨ (t ≠ 0 ∧ dgt (l.getD t 0) = true)) := Lib.hid (.inl (by unfold ltr; exact decide_eq_true (by omega)))
          have d1 : (95 : Int) ≤ ((⟨l.toArray⟩ : ByteArray)[t].toNat : Int) := by rw [hc]; have := h1c; omega
          have d2 : ((⟨l.toArray⟩ : ByteArray)[t].toNat : Int) ≤ (95 : Int) := by rw [hc]; have := h2c; omega
          have d3 : (((⟨l.toArray⟩ : ByteArray)[t].toNat : Int) == 95) = true := by rw [hc]; first | (rw [beq_eq_false_iff_ne]; omega) | (rw [beq_iff_eq]; omega)
          clear h1c h2c hc
          go_wp2_with fail
          go_roundg (gk - 1)
          case measure => have := HK.out; omega
          case rel =>
            refine ⟨t + 1, by have := HK.out; omega, by go_num, Lib.hid fun k hk => ?_, rfl⟩
            by_cases e : k = t
            · subst e; exact HY.out
            · exact HA.out k (by omega)
        · obtain ⟨h1c, h2c⟩ := hcase
          have HE := Lib.hid (name_at hlt (by unfold ltr; exact decide_eq_false (by omega)) (.inr (by unfold dgt; exact decide_eq_false (by omega))))
          have d1 : (0 : Int) ≤ ((⟨l.toArray⟩ : ByteArray)[t].toNat : Int) := by rw [hc]; have := h1c; omega
          have d2 : ((⟨l.toArray⟩ : ByteArray)[t].toNat : Int) ≤ (47 : Int) := by rw [hc]; have := h2c; omega
          have d3 : (((⟨l.toArray⟩ : ByteArray)[t].toNat : Int) == 95) = false := by rw [hc]; first | (rw [beq_eq_false_iff_ne]; omega) | (rw [beq_iff_eq]; omega)
          clear h1c h2c hc
          have tz : (t : Int) = 0 ∨ ¬ (t : Int) = 0 := by omega
          rcases tz with tz | tz
          · obtain rfl : t = 0 := by omega
            clear tz
            go_wp2_with fail
            go_ret
            exact ⟨ret_bool HE.out.symm, rfl⟩
          · have tz' : ((t : Int) == 0) = false := by simpa using tz
            go_wp2_with fail
            go_ret
            exact ⟨ret_bool HE.out.symm, rfl⟩
        · obtain ⟨h1c, h2c⟩ := hcase
          by_cases tz : t = 0
          · have HE := Lib.hid (name_at hlt (by unfold ltr; exact decide_eq_false (by omega)) (.inl tz))
            have d1 : (48 : Int) ≤ ((⟨l.toArray⟩ : ByteArray)[t].toNat : Int) := by rw [hc]; have := h1c; omega
            have d2 : ((⟨l.toArray⟩ : ByteArray)[t].toNat : Int) ≤ (57 : Int) := by rw [hc]; have := h2c; omega
            have d3 : (((⟨l.toArray⟩ : ByteArray)[t].toNat : Int) == 95) = false := by rw [hc]; first | (rw [beq_eq_false_iff_ne]; omega) | (rw [beq_iff_eq]; omega)
            clear h1c h2c hc
            subst tz
            go_wp2_with fail
            go_ret
            exact ⟨ret_bool HE.out.symm, rfl⟩
          · have HY : Hid (ltr (l.getD t 0) = true ∨ (t ≠ 0 ∧ dgt (l.getD t 0) = true)) := Lib.hid (.inr ⟨tz, by unfold dgt; exact decide_eq_true (by omega)⟩)
            have d1 : (48 : Int) ≤ ((⟨l.toArray⟩ : ByteArray)[t].toNat : Int) := by rw [hc]; have := h1c; omega
            have d2 : ((⟨l.toArray⟩ : ByteArray)[t].toNat : Int) ≤ (57 : Int) := by rw [hc]; have := h2c; omega
            have d3 : (((⟨l.toArray⟩ : ByteArray)[t].toNat : Int) == 95) = false := by rw [hc]; first | (rw [beq_eq_false_iff_ne]; omega) | (rw [beq_iff_eq]; omega)
            clear h1c h2c hc
            have tz' : ((t : Int) == 0) = false := by simpa using tz
            go_wp2_with fail
            go_roundg (gk - 1)
            case measure => have := HK.out; omega
            case rel =>
              refine ⟨t + 1, by have := HK.out; omega, by go_num, Lib.hid fun k hk => ?_, rfl⟩
              by_cases e : k = t
              · subst e; exact HY.out
              · exact HA.out k (by omega)
        · obtain ⟨h1c, h2c⟩ := hcase
          have HE := Lib.hid (name_at hlt (by unfold ltr; exact decide_eq_false (by omega)) (.inr (by unfold dgt; exact decide_eq_false (by omega))))
          have d1 : (58 : Int) ≤ ((⟨l.toArray⟩ : ByteArray)[t].toNat : Int) := by rw [hc]; have := h1c; omega
          have d2 : ((⟨l.toArray⟩ : ByteArray)[t].toNat : Int) ≤ (64 : Int) := by rw [hc]; have := h2c; omega
          have d3 : (((⟨l.toArray⟩ : ByteArray)[t].toNat : Int) == 95) = false := by rw [hc]; first | (rw [beq_eq_false_iff_ne]; omega) | (rw [beq_iff_eq]; omega)
          clear h1c h2c hc
          have tz : (t : Int) = 0 ∨ ¬ (t : Int) = 0 := by omega
          rcases tz with tz | tz
          · obtain rfl : t = 0 := by omega
            clear tz
            go_wp2_with fail
            go_ret
            exact ⟨ret_bool HE.out.symm, rfl⟩
          · have tz' : ((t : Int) == 0) = false := by simpa using tz
            go_wp2_with fail
            go_ret
            exact ⟨ret_bool HE.out.symm, rfl⟩
        · obtain ⟨h1c, h2c⟩ := hcase
          have HE := Lib.hid (name_at hlt (by unfold ltr; exact decide_eq_false (by omega)) (.inr (by unfold dgt; exact decide_eq_false (by omega))))
          have d1 : (91 : Int) ≤ ((⟨l.toArray⟩ : ByteArray)[t].toNat : Int) := by rw [hc]; have := h1c; omega
          have d2 : ((⟨l.toArray⟩ : ByteArray)[t].toNat : Int) ≤ (94 : Int) := by rw [hc]; have := h2c; omega
          have d3 : (((⟨l.toArray⟩ : ByteArray)[t].toNat : Int) == 95) = false := by rw [hc]; first | (rw [beq_eq_false_iff_ne]; omega) | (rw [beq_iff_eq]; omega)
          clear h1c h2c hc
          have d4 : decide (((⟨l.toArray⟩ : ByteArray)[t].toNat : Int) ≤ 90) = false := decide_eq_false (by omega)
          have tz : (t : Int) = 0 ∨ ¬ (t : Int) = 0 := by omega
          rcases tz with tz | tz
          · obtain rfl : t = 0 := by omega
            clear tz
            go_wp2_with fail
            go_ret
            exact ⟨ret_bool HE.out.symm, rfl⟩
          · have tz' : ((t : Int) == 0) = false := by simpa using tz
            go_wp2_with fail
            go_ret
            exact ⟨ret_bool HE.out.symm, rfl⟩
        · obtain ⟨h1c, h2c⟩ := hcase
          have HE := Lib.hid (name_at hlt (by unfold ltr; exact decide_eq_false (by omega)) (.inr (by unfold dgt; exact decide_eq_false (by omega))))
          have d1 : (96 : Int) ≤ ((⟨l.toArray⟩ : ByteArray)[t].toNat : Int) := by rw [hc]; have := h1c; omega
          have d2 : ((⟨l.toArray⟩ : ByteArray)[t].toNat : Int) ≤ (96 : Int) := by rw [hc]; have := h2c; omega
          have d3 : (((⟨l.toArray⟩ : ByteArray)[t].toNat : Int) == 95) = false := by rw [hc]; first | (rw [beq_eq_false_iff_ne]; omega) | (rw [beq_iff_eq]; omega)
          clear h1c h2c hc
          have d4 : decide (((⟨l.toArray⟩ : ByteArray)[t].toNat : Int) ≤ 90) = false := decide_eq_false (by omega)
          have tz : (t : Int) = 0 ∨ ¬ (t : Int) = 0 := by omega
          rcases tz with tz | tz
          · obtain rfl : t = 0 := by omega
            clear tz
            go_wp2_with fail
            go_ret
            exact ⟨ret_bool HE.out.symm, rfl⟩
          · have tz' : ((t : Int) == 0) = false := by simpa using tz
            go_wp2_with fail
            go_ret
            exact ⟨ret_bool HE.out.symm, rfl⟩
        · obtain ⟨h1c, h2c⟩ := hcase
          have HE := Lib.hid (name_at hlt (by unfold ltr; exact decide_eq_false (by omega)) (.inr (by unfold dgt; exact decide_eq_false (by omega))))
          have d1 : (123 : Int) ≤ ((⟨l.toArray⟩ : ByteArray)[t].toNat : Int) := by rw [hc]; have := h1c; omega
          have d2 : ((⟨l.toArray⟩ : ByteArray)[t].toNat : Int) ≤ (255 : Int) := by rw [hc]; have := h2c; omega
          have d3 : (((⟨l.toArray⟩ : ByteArray)[t].toNat : Int) == 95) = false := by rw [hc]; first | (rw [beq_eq_false_iff_ne]; omega) | (rw [beq_iff_eq]; omega)
          clear h1c h2c hc
          have d4 : decide (((⟨l.toArray⟩ : ByteArray)[t].toNat : Int) ≤ 90) = false := decide_eq_false (by omega)
          have d5 : decide (((⟨l.toArray⟩ : ByteArray)[t].toNat : Int) ≤ 122) = false := decide_eq_false (by omega)
          have tz : (t : Int) = 0 ∨ ¬ (t : Int) = 0 := by omega
          rcases tz with tz | tz
          · obtain rfl : t = 0 := by omega
            clear tz
            go_wp2_with fail
            go_ret
            exact ⟨ret_bool HE.out.symm, rfl⟩
          · have tz' : ((t : Int) == 0) = false := by simpa using tz
            go_wp2_with fail
            go_ret
            exact ⟨ret_bool HE.out.symm, rfl⟩
      · have HE := Lib.hid (name_ok H1.out (by have := H2.out; omega) HZ.out (fun k hk => HA.out k (by omega)))
        go_wp2_with fail
        go_ret
        exact ⟨ret_bool HE.out.symm, rfl⟩
end Go.Proofs.YtanjbdhjnmmfdaaDoor

set_option linter.unusedSimpArgs false
set_option linter.unusedVariables false
namespace Go.Proofs.YtanjbdhjnmmfdaaDoor
open Go.RowKit

def lcells (m : Nat) : List Value := (List.range 4).map fun j => .int .u64 (wd m j)
theorem lcells_eq (m : Nat) : lcells m = [.int .u64 (wd m 0), .int .u64 (wd m 1), .int .u64 (wd m 2), .int .u64 (wd m 3)] := rfl
theorem lcells_at (m j : Nat) (hj : j < 4) : (lcells m)[j]? = some (.int .u64 (wd m j)) := by
  unfold lcells
  rw [List.getElem?_map, List.getElem?_range hj]; rfl
theorem lcells_set (V j : Nat) (hj : j < 4) (hV : V < 2 ^ 256) (v : Int) (h0 : 0 ≤ v) (h1 : v < 18446744073709551616) :
    ∃ V' : Nat, V' < 2 ^ 256 ∧ (V' : Int) = V + (v - wd V j) * ((2 ^ (64 * j) : Nat) : Int) ∧ (lcells V).set j (.int .u64 v) = lcells V' ∧ (∀ i, i < 4 → i ≠ j → wd V' i = wd V i) ∧ wd V' j = v := by
  have hf := wd_four hV
  have a0 := wd_nn V 0
  have a1 := wd_lt V 0
  have b0 := wd_nn V 1
  have b1 := wd_lt V 1
  have c0 := wd_nn V 2
  have c1 := wd_lt V 2
  have d0 := wd_nn V 3
  have d1 := wd_lt V 3
  have key : ∀ (x0 x1 x2 x3 : Int), 0 ≤ x0 → x0 < 18446744073709551616 → 0 ≤ x1 → x1 < 18446744073709551616 → 0 ≤ x2 → x2 < 18446744073709551616 → 0 ≤ x3 → x3 < 18446744073709551616 →
      ∃ V' : Nat, V' < 2 ^ 256 ∧ (V' : Int) = x3 * 6277101735386680763835789423207666416102355444464034512896 + x2 * 340282366920938463463374607431768211456 + x1 * 18446744073709551616 + x0 ∧ x0 = wd V' 0 ∧ x1 = wd V' 1 ∧ x2 = wd V' 2 ∧ x3 = wd V' 3 := by
    intro x0 x1 x2 x3 e0 e1 e2 e3 e4 e5 e6 e7
    refine ⟨(x3 * 6277101735386680763835789423207666416102355444464034512896 + x2 * 340282366920938463463374607431768211456 + x1 * 18446744073709551616 + x0).toNat, by omega, by omega, ?_⟩
    exact wd_of4 _ x0 x1 x2 x3 e0 e1 e2 e3 e4 e5 e6 e7 (by omega)
  have hc : j = 0 ∨ j = 1 ∨ j = 2 ∨ j = 3 := by omega
  rcases hc with rfl | rfl | rfl | rfl
  · obtain ⟨V', g1, g2, e0, e1, e2, e3⟩ := key v (wd V 1) (wd V 2) (wd V 3) h0 h1 b0 b1 c0 c1 d0 d1
    refine ⟨V', g1, ?_, ?_, ?_, e0.symm⟩
    · rw [g2]; omega
    · rw [lcells_eq, lcells_eq, ← e0, ← e1, ← e2, ← e3]; rfl
    · intro i hi hne
      have hc : i = 1 ∨ i = 2 ∨ i = 3 := by omega
      rcases hc with rfl | rfl | rfl
      · exact e1.symm
      · exact e2.symm
      · exact e3.symm
  · obtain ⟨V', g1, g2, e0, e1, e2, e3⟩ := key (wd V 0) v (wd V 2) (wd V 3) a0 a1 h0 h1 c0 c1 d0 d1
    refine ⟨V', g1, ?_, ?_, ?_, e1.symm⟩
    · rw [g2]; omega
    · rw [lcells_eq, lcells_eq, ← e0, ← e1, ← e2, ← e3]; rfl
    · intro i hi hne
      have hc : i = 0 ∨ i = 2 ∨ i = 3 := by omega
      rcases hc with rfl | rfl | rfl
      · exact e0.symm
      · exact e2.symm
      · exact e3.symm
  · obtain ⟨V', g1, g2, e0, e1, e2, e3⟩ := key (wd V 0) (wd V 1) v (wd V 3) a0 a1 b0 b1 h0 h1 d0 d1
    refine ⟨V', g1, ?_, ?_, ?_, e2.symm⟩
    · rw [g2]; omega
    · rw [lcells_eq, lcells_eq, ← e0, ← e1, ← e2, ← e3]; rfl
    · intro i hi hne
      have hc : i = 0 ∨ i = 1 ∨ i = 3 := by omega
      rcases hc with rfl | rfl | rfl
      · exact e0.symm
      · exact e1.symm
      · exact e3.symm
  · obtain ⟨V', g1, g2, e0, e1, e2, e3⟩ := key (wd V 0) (wd V 1) (wd V 2) v a0 a1 b0 b1 c0 c1 h0 h1
    refine ⟨V', g1, ?_, ?_, ?_, e3.symm⟩
    · rw [g2]; omega
    · rw [lcells_eq, lcells_eq, ← e0, ← e1, ← e2, ← e3]; rfl
    · intro i hi hne
      have hc : i = 0 ∨ i = 1 ∨ i = 2 := by omega
      rcases hc with rfl | rfl | rfl
      · exact e0.symm
      · exact e1.symm
      · exact e2.symm
theorem wd_past {V k j : Nat} (h : V < 2 ^ (64 * k)) (hj : k ≤ j) : wd V j = 0 := by
  unfold wd
  rw [Nat.div_eq_of_lt (Nat.lt_of_lt_of_le h (Nat.pow_le_pow_right (by decide) (by omega)))]; rfl
/-- one word more of a number from below -/
theorem wd_mod_succ (n t : Nat) : ((n % 2 ^ (64 * (t + 1)) : Nat) : Int) = ((n % 2 ^ (64 * t) : Nat) : Int) + wd n t * ((2 ^ (64 * t) : Nat) : Int) := by
  unfold wd
  rw [show 64 * (t + 1) = 64 * t + 64 by omega, Nat.pow_add, Nat.mod_mul, Int.natCast_add, Int.natCast_mul, Int.mul_comm]
end Go.Proofs.YtanjbdhjnmmfdaaDoor

set_option linter.unusedSimpArgs false
set_option linter.unusedVariables false
namespace Go.Proofs.YtanjbdhjnmmfdaaDoor
open Go.RowKit
theorem eq_wide (a b c d : Int) (W : World) : (binOp .eql 24 (.agg #[.int .u64 a, .int .u64 b]) (.agg #[.int .u64 c, .int .u64 d])).run Tryd.prog W = .ok (.bool ((a == c) && (b == d))) W := by
  go_simp
  by_cases h0 : a = c <;> by_cases h1 : b = d <;> simp [h0, h1]
set_option maxRecDepth 100000 in
theorem eq_long (a b c d e f g h : Int) (W : World) : (binOp .eql 85 (.agg #[.int .u64 a, .int .u64 b, .int .u64 c, .int .u64 d]) (.agg #[.int .u64 e, .int .u64 f, .int .u64 g, .int .u64 h])).run Tryd.prog W = .ok (.bool ((a == e) && ((b == f) && ((c == g) && (d == h))))) W := by
  obtain ⟨i0, hi⟩ : ∃ i, Tryd.prog.info? 22 = some i := ⟨_, rfl⟩
  have hc : Tryd.prog.cellsOf 22 = 1 := by kernel_rfl
  have hr : List.range 4 = [0, 1, 2, 3] := rfl
  go_simp
  rw [Go.run_equalIn_array W 9999 _ _ Tryd.underlying85 hi, hc, hr]
  simp [Op.eqItems, go_sem]
  by_cases h0 : a = e <;> by_cases h1 : b = f <;> by_cases h2 : c = g <;> by_cases h3 : d = h <;> simp [h0, h1, h2, h3]
theorem neq_wide (a b c d : Int) (W : World) : (binOp .neq 24 (.agg #[.int .u64 a, .int .u64 b]) (.agg #[.int .u64 c, .int .u64 d])).run Tryd.prog W = .ok (.bool (!((a == c) && (b == d)))) W := by
  go_simp
  by_cases h0 : a = c <;> by_cases h1 : b = d <;> simp [h0, h1]
set_option maxRecDepth 100000 in
theorem neq_long (a b c d e f g h : Int) (W : World) : (binOp .neq 85 (.agg #[.int .u64 a, .int .u64 b, .int .u64 c, .int .u64 d]) (.agg #[.int .u64 e, .int .u64 f, .int .u64 g, .int .u64 h])).run Tryd.prog W = .ok (.bool (!((a == e) && ((b == f) && ((c == g) && (d == h)))))) W := by
  obtain ⟨i0, hi⟩ : ∃ i, Tryd.prog.info? 22 = some i := ⟨_, rfl⟩
  have hc : Tryd.prog.cellsOf 22 = 1 := by kernel_rfl
  have hr : List.range 4 = [0, 1, 2, 3] := rfl
  go_simp
  rw [Go.run_equalIn_array W 9999 _ _ Tryd.underlying85 hi, hc, hr]
  simp [Op.eqItems, go_sem]
  by_cases h0 : a = e <;> by_cases h1 : b = f <;> by_cases h2 : c = g <;> by_cases h3 : d = h <;> simp [h0, h1, h2, h3]
theorem wd_eq0 {n : Nat} (hn : n < 2 ^ 256) : ((wd n 0 == 0) && ((wd n 1 == 0) && ((wd n 2 == 0) && (wd n 3 == 0)))) = decide (n = 0) := by
  have h := wd_four hn
  rw [Bool.eq_iff_iff]
  simp only [Bool.and_eq_true, beq_iff_eq, decide_eq_true_eq]
  constructor
  · rintro ⟨h0, h1, h2, h3⟩
    rw [h0, h1, h2, h3] at h
    omega
  · rintro rfl
    exact ⟨wd_zero 0, wd_zero 1, wd_zero 2, wd_zero 3⟩
end Go.Proofs.YtanjbdhjnmmfdaaDoor

set_option linter.unusedSimpArgs false
set_option linter.unusedVariables false
namespace Go.Proofs.YtanjbdhjnmmfdaaDoor

/-- a bound that is far out -/
def Small (n : Nat) : Prop := True → n < 10 ^ 1000
theorem Small.of_le {n m : Nat} (h : Small n) (hm : m ≤ n) : Small m := fun t => Nat.lt_of_le_of_lt hm (h t)
def dval : List Int → Int
  | [] => 0
  | d :: r => d + 10 * dval r
def Digs (l : List Int) : Prop := ∀ d ∈ l, 0 ≤ d ∧ d ≤ 9
def Top (l : List Int) : Prop := l.getLast? ≠ some 0
/-- l is the list of the digits of n, the least first, without noughts at the top. -/
def IsDg (l : List Int) (n : Nat) : Prop := Digs l ∧ Top l ∧ dval l = (n : Int)

theorem getD_lt (l : List Int) (k : Nat) (h : k < l.length) : l.getD k 0 = l[k] := by
  rw [List.getD_eq_getElem?_getD, List.getElem?_eq_getElem h]; rfl
theorem ten_mono {a b : Nat} (h : a ≤ b) : (10 : Int) ^ a ≤ 10 ^ b := by
  have := Nat.pow_le_pow_right (n := 10) (by decide) h
  exact_mod_cast this
theorem dval_append (a b : List Int) : dval (a ++ b) = dval a + 10 ^ a.length * dval b := by
  induction a with
  | nil => simp [dval]
  | cons d r ih =>
    simp only [List.cons_append, dval, ih, List.length_cons, Int.pow_succ]
    rw [Int.mul_add, Int.mul_comm (10 ^ r.length) 10, Int.mul_assoc]; omega
theorem dval_snoc (a : List Int) (x : Int) : dval (a ++ [x]) = dval a + 10 ^ a.length * x := by
  rw [dval_append]; simp [dval]
theorem ten_pos (k : Nat) : (0 : Int) < 10 ^ k := Int.pow_pos (by decide)
theorem Digs.nil : Digs [] := by intro d h; cases h
theorem Digs.snoc {a : List Int} {x : Int} (h : Digs a) (h0 : 0 ≤ x) (h1 : x ≤ 9) : Digs (a ++ [x]) := by
  intro d hd
  rcases List.mem_append.1 hd with hd | hd
  · exact h d hd
  · rw [List.mem_singleton.1 hd]; exact ⟨h0, h1⟩
theorem Digs.take {a : List Int} (h : Digs a) (k : Nat) : Digs (a.take k) := fun d hd => h d (List.mem_of_mem_take hd)
theorem Digs.drop {a : List Int} (h : Digs a) (k : Nat) : Digs (a.drop k) := fun d hd => h d (List.mem_of_mem_drop hd)
theorem Digs.append {a b : List Int} (h : Digs a) (h' : Digs b) : Digs (a ++ b) := by
  intro d hd
  rcases List.mem_append.1 hd with hd | hd
  · exact h d hd
  · exact h' d hd
theorem Digs.get {a : List Int} (h : Digs a) (k : Nat) : 0 ≤ a.getD k 0 ∧ a.getD k 0 ≤ 9 := by
  rw [List.getD_eq_getElem?_getD]
  rcases hk : a[k]? with _ | x
  · simp
  · exact h x (List.mem_of_getElem? hk)
theorem dval_bd {a : List Int} (h : Digs a) : 0 ≤ dval a ∧ dval a < 10 ^ a.length := by
  induction a with
  | nil => simp [dval]
  | cons d r ih =>
    have h1 := ih fun x hx => h x (List.mem_cons_of_mem _ hx)
    have h2 := h d List.mem_cons_self
    simp only [dval, List.length_cons, Int.pow_succ]
    omega
theorem take_snoc_int (l : List Int) (k : Nat) (h : k < l.length) : l.take (k + 1) = l.take k ++ [l.getD k 0] := by
  rw [List.take_succ_eq_append_getElem h, getD_lt _ _ h]
theorem dval_take_succ (l : List Int) (k : Nat) (h : k < l.length) : dval (l.take (k + 1)) = dval (l.take k) + 10 ^ k * l.getD k 0 := by
  rw [take_snoc_int l k h, dval_snoc, List.length_take, Nat.min_eq_left (by omega)]
theorem dval_drop (l : List Int) (k : Nat) (h : k < l.length) : dval (l.drop k) = l.getD k 0 + 10 * dval (l.drop (k + 1)) := by
  rw [List.drop_eq_getElem_cons h, getD_lt _ _ h]; rfl
theorem dval_replicate (k : Nat) : dval (List.replicate k 0) = 0 := by
  induction k with
  | zero => rfl
  | succ k ih => simp [List.replicate_succ, dval, ih]
theorem dval_zeros {l : List Int} (h : ∀ d ∈ l, d = 0) : dval l = 0 := by
  induction l with
  | nil => rfl
  | cons d r ih => simp only [dval, ih fun x hx => h x (List.mem_cons_of_mem _ hx), h d List.mem_cons_self]; rfl

/-- What is cut off at the top are noughts: the value stays. -/
theorem dval_take_zeros (l : List Int) (n : Nat) (h : ∀ i, n ≤ i → i < l.length → l.getD i 0 = 0) : dval (l.take n) = dval l := by
  have e := dval_append (l.take n) (l.drop n)
  rw [List.take_append_drop] at e
  rw [e, dval_zeros (l := l.drop n), Int.mul_zero, Int.add_zero]
  intro d hd
  obtain ⟨i, hi, rfl⟩ := List.getElem_of_mem hd
  rw [List.length_drop] at hi
  have := h (n + i) (by omega) (by omega)
  rw [getD_lt _ _ (by omega)] at this
  rw [List.getElem_drop]; exact this
theorem top_take (l : List Int) (n : Nat) (hn : n ≤ l.length) (h : n = 0 ∨ l.getD (n - 1) 0 ≠ 0) : Top (l.take n) := by
  rcases h with rfl | h
  · simp [Top]
  · by_cases h0 : n = 0
    · subst h0; simp [Top]
    · unfold Top
      rw [List.getLast?_eq_getElem?, List.length_take, Nat.min_eq_left hn, List.getElem?_take_of_lt (by omega), List.getElem?_eq_getElem (by omega)]
      rw [getD_lt _ _ (by omega)] at h
      intro e; exact h (by injection e)

theorem IsDg.len_le {l : List Int} {n k : Nat} (h : IsDg l n) (hn : n < 10 ^ k) : l.length ≤ k := by
  obtain ⟨hd, ht, hv⟩ := h
  rcases Nat.lt_or_ge k l.length with hk | hk
  · exfalso
    have hne : l ≠ [] := by intro e; subst e; simp at hk
    obtain ⟨i, x, rfl⟩ : ∃ i x, l = i ++ [x] := ⟨l.dropLast, l.getLast hne, (List.dropLast_concat_getLast hne).symm⟩
    have hx := hd x (by simp)
    have hx0 : x ≠ 0 := by intro e; subst e; exact ht (by simp)
    have hb := dval_bd (a := i) fun d hd' => hd d (by simp [hd'])
    rw [dval_snoc] at hv
    simp only [List.length_append, List.length_cons, List.length_nil] at hk
    have hp : (10 : Int) ^ k ≤ 10 ^ i.length := ten_mono (by omega)
    have hm : (10 : Int) ^ i.length * 1 ≤ 10 ^ i.length * x := Int.mul_le_mul_of_nonneg_left (by omega) (Int.le_of_lt (ten_pos _))
    have hn' : (n : Int) < 10 ^ k := by exact_mod_cast hn
    omega
  · exact hk
theorem IsDg.lt_of_len {l : List Int} {n k : Nat} (h : IsDg l n) (hk : l.length ≤ k) : n < 10 ^ k := by
  obtain ⟨hd, _, hv⟩ := h
  have hb := dval_bd hd
  have hp : (10 : Int) ^ l.length ≤ 10 ^ k := ten_mono hk
  have : (n : Int) < 10 ^ k := by omega
  exact_mod_cast this
theorem IsDg.nil : IsDg [] 0 := ⟨Digs.nil, by simp [Top], rfl⟩
theorem IsDg.zero_iff {l : List Int} {n : Nat} (h : IsDg l n) : l.length = 0 ↔ n = 0 := by
  constructor
  · intro h0
    have := h.lt_of_len (k := 0) (by omega)
    simpa using this
  · intro h0; subst h0
    have := h.len_le (k := 0) (by simp)
    omega
theorem IsDg.get {l : List Int} {n : Nat} (h : IsDg l n) (k : Nat) : 0 ≤ l.getD k 0 ∧ l.getD k 0 ≤ 9 := h.1.get k
/-- The digit at a place, as a number. -/
theorem dval_digit {l : List Int} (h : Digs l) (k : Nat) (hk : k < l.length) : l.getD k 0 = dval l / 10 ^ k % 10 := by
  have e := dval_append (l.take k) (l.drop k)
  rw [List.take_append_drop, List.length_take, Nat.min_eq_left (by omega), dval_drop l k hk] at e
  have hb := dval_bd (h.take k)
  rw [List.length_take, Nat.min_eq_left (by omega)] at hb
  have hp := ten_pos k
  have hg := h.get k
  have : dval l / 10 ^ k = l.getD k 0 + 10 * dval (l.drop (k + 1)) := by
    rw [e, Int.add_mul_ediv_left _ _ (by omega), Int.ediv_eq_zero_of_lt hb.1 hb.2, Int.zero_add]
  rw [this]; omega
theorem IsDg.le_of_ne {l : List Int} {n : Nat} (h : IsDg l n) (hne : l ≠ []) : 10 ^ (l.length - 1) ≤ n := by
  rcases Nat.lt_or_ge n (10 ^ (l.length - 1)) with hlt | hge
  · have := h.len_le hlt
    have : l.length ≠ 0 := fun e => hne (List.length_eq_zero_iff.1 e)
    omega
  · exact hge
theorem top_of_val {l : List Int} (hd : Digs l) (h : l = [] ∨ (10 : Int) ^ (l.length - 1) ≤ dval l) : Top l := by
  rcases h with rfl | h
  · simp [Top]
  · by_cases hne : l = []
    · subst hne; simp [Top]
    · obtain ⟨i, x, rfl⟩ : ∃ i x, l = i ++ [x] := ⟨l.dropLast, l.getLast hne, (List.dropLast_concat_getLast hne).symm⟩
      have hb := dval_bd (a := i) fun d hd' => hd d (by simp [hd'])
      rw [dval_snoc] at h
      simp only [List.length_append, List.length_cons, List.length_nil, Nat.add_sub_cancel] at h
      unfold Top
      intro e
      have hx : x = 0 := by simpa using e
      subst hx
      omega
theorem Digs.set_ {l : List Int} (h : Digs l) (k : Nat) {x : Int} (h0 : 0 ≤ x) (h1 : x ≤ 9) : Digs (l.set k x) := by
  intro d hd
  rcases List.mem_or_eq_of_mem_set hd with hd | rfl
  · exact h d hd
  · exact ⟨h0, h1⟩
theorem Digs.zeros (n : Nat) : Digs (List.replicate n 0) := by
  intro d hd
  rw [List.eq_of_mem_replicate hd]
  decide
theorem drop_set (l : List Int) (k : Nat) (x : Int) (h : k < l.length) : (l.set k x).drop k = x :: l.drop (k + 1) := by
  rw [List.drop_eq_getElem_cons (by simpa using h), List.drop_set_of_lt (by omega)]
  simp
theorem carry_step (P s : Int) : P * (s % 10) + P * 10 * (s / 10) = P * s := by
  rw [Int.mul_assoc, ← Int.mul_add, Int.emod_add_mul_ediv]
/-- Digits of one number are one list. -/
theorem IsDg.uniq {a b : List Int} {n : Nat} (ha : IsDg a n) (hb : IsDg b n) : a = b := by
  induction a generalizing b n with
  | nil =>
    have : n = 0 := ha.zero_iff.1 rfl
    subst this
    exact (List.length_eq_zero_iff.1 (hb.zero_iff.2 rfl)).symm
  | cons d r ih =>
    cases b with
    | nil =>
      have : n = 0 := hb.zero_iff.1 rfl
      subst this
      exact List.length_eq_zero_iff.1 (ha.zero_iff.2 rfl)
    | cons e s =>
      have hd := ha.1 d List.mem_cons_self
      have he := hb.1 e List.mem_cons_self
      have h1 := ha.2.2
      have h2 := hb.2.2
      simp only [dval] at h1 h2
      have hr := dval_bd (a := r) fun x hx => ha.1 x (List.mem_cons_of_mem _ hx)
      have hs := dval_bd (a := s) fun x hx => hb.1 x (List.mem_cons_of_mem _ hx)
      have hde : d = e := by omega
      have hrs : dval r = dval s := by omega
      subst hde
      have key : ∀ q : List Int, Top (d :: q) → Top q := by
        intro q hq
        cases q with
        | nil => simp [Top]
        | cons x y => simpa [Top] using hq
      rw [ih (n := (dval r).toNat) ⟨fun x hx => ha.1 x (List.mem_cons_of_mem _ hx), key r ha.2.1, by omega⟩ ⟨fun x hx => hb.1 x (List.mem_cons_of_mem _ hx), key s hb.2.1, by omega⟩]
end Go.Proofs.YtanjbdhjnmmfdaaDoor

set_option linter.unusedSimpArgs false
set_option linter.unusedVariables false
namespace Go.Proofs.YtanjbdhjnmmfdaaDoor

def tch (N k : Nat) : Nat := 48 + N / 10 ^ k % 10
def txl (N L : Nat) : List UInt8 := (List.range L).map fun i => UInt8.ofNat (tch N (L - 1 - i))
def txt (N L : Nat) : ByteArray := ⟨(txl N L).toArray⟩
/-- L is how many digits N has, one at least -/
def IsNd (N L : Nat) : Prop := 1 ≤ L ∧ N < 10 ^ L ∧ (L = 1 ∨ 10 ^ (L - 1) ≤ N)
theorem tch_lt (N k : Nat) : tch N k < 58 := by unfold tch; omega
theorem tch_ge (N k : Nat) : 48 ≤ tch N k := by unfold tch; omega
theorem txl_length (N L : Nat) : (txl N L).length = L := by simp [txl]
theorem txl_get (N L j : Nat) (h : j < (txl N L).length) : (txl N L)[j].toNat = tch N (L - 1 - j) := by
  have := tch_lt N (L - 1 - j)
  simp only [txl, List.getElem_map, List.getElem_range]
  rw [UInt8.toNat_ofNat']
  omega
theorem pow_mono10 {a b : Nat} (h : a ≤ b) : (10 : Nat) ^ a ≤ 10 ^ b := Nat.pow_le_pow_right (by decide) h
theorem pow_lt10 {a b : Nat} (h : (10 : Nat) ^ a < 10 ^ b) : a < b := (Nat.pow_lt_pow_iff_right (by decide)).1 h
theorem IsNd.le {N L M : Nat} (h : IsNd N L) (hM : 1 ≤ M) (hN : N < 10 ^ M) : L ≤ M := by
  obtain ⟨h1, h2, h3⟩ := h
  rcases h3 with h3 | h3
  · omega
  · have := pow_lt10 (Nat.lt_of_le_of_lt h3 hN)
    omega
theorem IsNd.uniq {N L M : Nat} (h : IsNd N L) (h' : IsNd N M) : L = M :=
  Nat.le_antisymm (h.le h'.1 h'.2.1) (h'.le h.1 h.2.1)
theorem nd_upto (N k : Nat) (h : N < 10 ^ k) : ∃ L, IsNd N L := by
  induction k with
  | zero => exact ⟨1, by omega, by simp at h; omega, .inl rfl⟩
  | succ k ih =>
    by_cases hk : N < 10 ^ k
    · exact ih hk
    · exact ⟨k + 1, by omega, h, .inr (by rw [Nat.add_sub_cancel]; omega)⟩
theorem nd_128 {N : Nat} (h : N < 2 ^ 128) : ∃ L, IsNd N L ∧ L ≤ 39 := by
  have h1 : N < 10 ^ 39 := Nat.lt_trans h (by decide)
  obtain ⟨L, hL⟩ := nd_upto N 39 h1
  exact ⟨L, hL, hL.le (by decide) h1⟩
theorem nd_of_dg {l : List Int} {N : Nat} (h : IsDg l N) : IsNd N (max l.length 1) := by
  have h1 := h.lt_of_len (Nat.le_refl _)
  by_cases h0 : l = []
  · subst h0
    have := h.zero_iff.1 rfl
    subst this
    exact ⟨by decide, by decide, .inl rfl⟩
  · have h2 := h.le_of_ne h0
    have h3 : 0 < l.length := List.length_pos_iff.2 h0
    rw [Nat.max_eq_left (by omega)]
    exact ⟨by omega, h1, .inr h2⟩
/-- when the quotient comes to nought -/
theorem nd_stop {N L t : Nat} (h : IsNd N L) (ht : t < L) : N / 10 ^ (t + 1) = 0 ↔ t + 1 = L := by
  obtain ⟨h1, h2, h3⟩ := h
  constructor
  · intro h0
    by_cases hlt : t + 1 < L
    · rcases h3 with h3 | h3
      · omega
      · exfalso
        have h4 : 10 ^ (t + 1) ≤ N := Nat.le_trans (pow_mono10 (by omega)) h3
        have h5 := Nat.div_pos h4 (Nat.pow_pos (by decide))
        omega
    · omega
  · rintro rfl
    exact Nat.div_eq_of_lt h2
/-- the number that bytes tell -/
def dvb : List UInt8 → Nat → Nat
  | [], a => a
  | c :: r, a => dvb r (a * 10 + (c.toNat - 48))
theorem dvb_append (l : List UInt8) (c : UInt8) (a : Nat) : dvb (l ++ [c]) a = dvb l a * 10 + (c.toNat - 48) := by
  induction l generalizing a with
  | nil => rfl
  | cons d r ih => exact ih _
theorem dvb_ge (l : List UInt8) (a b : Nat) (h : a ≤ b) : dvb l a ≤ dvb l b := by
  induction l generalizing a b with
  | nil => exact h
  | cons d r ih => exact ih _ _ (by omega)
theorem dvb_from (l : List UInt8) (a : Nat) : a ≤ dvb l a := by
  induction l generalizing a with
  | nil => exact Nat.le_refl _
  | cons d r ih => exact Nat.le_trans (by omega) (ih (a * 10 + (d.toNat - 48)))
theorem dvb_split (l m : List UInt8) (a : Nat) : dvb (l ++ m) a = dvb m (dvb l a) := by
  induction l generalizing a with
  | nil => rfl
  | cons d r ih => exact ih _
theorem dvb_low (l : List UInt8) (a k : Nat) (ha : 10 ^ k ≤ a) : 10 ^ (k + l.length) ≤ dvb l a := by
  induction l generalizing a k with
  | nil => simpa [dvb] using ha
  | cons d r ih =>
    have := ih (a * 10 + (d.toNat - 48)) (k + 1) (by rw [Nat.pow_succ]; omega)
    rw [List.length_cons, show k + (r.length + 1) = k + 1 + r.length by omega]
    exact this
theorem dvb_txl (N L : Nat) (h : N < 10 ^ L) : dvb (txl N L) 0 = N := by
  have key : ∀ k, k ≤ L → dvb ((txl N L).take k) 0 = N / 10 ^ (L - k) := by
    intro k
    induction k with
    | zero => intro _; rw [List.take_zero, Nat.sub_zero, Nat.div_eq_of_lt h]; rfl
    | succ k ih =>
      intro hk
      have hl : k < (txl N L).length := by rw [txl_length]; omega
      rw [List.take_succ_eq_append_getElem hl, dvb_append, ih (by omega), txl_get]
      unfold tch
      have e1 : L - k = L - 1 - k + 1 := by omega
      have e2 : L - (k + 1) = L - 1 - k := by omega
      rw [e1, e2, Nat.pow_succ, ← Nat.div_div_eq_div_mul]
      omega
  have := key L (Nat.le_refl _)
  rw [Nat.sub_self, Nat.pow_zero, Nat.div_one] at this
  rwa [List.take_of_length_le (by rw [txl_length]; exact Nat.le_refl _)] at this
def isD (c : UInt8) : Bool := decide (48 ≤ c.toNat ∧ c.toNat ≤ 57)
/-- a text of a number: digits alone, one at least, no nought ahead of others -/
def okB (l : List UInt8) : Bool := decide (l ≠ []) && (decide (l.length ≤ 1) || decide ((l.headD 0).toNat ≠ 48)) && l.all isD
theorem txl_digits (N L : Nat) : (txl N L).all isD = true := by
  rw [List.all_eq_true]
  intro c hc
  obtain ⟨j, hj, rfl⟩ := List.getElem_of_mem hc
  have := txl_get N L j hj
  have h1 := tch_lt N (L - 1 - j)
  have h2 := tch_ge N (L - 1 - j)
  unfold isD
  simp; omega
theorem txl_ok {N L : Nat} (h : IsNd N L) : okB (txl N L) = true := by
  have hl := txl_length N L
  obtain ⟨h1, h2, h3⟩ := h
  have hne : txl N L ≠ [] := by intro e; rw [e] at hl; simp at hl; omega
  unfold okB
  rw [txl_digits, Bool.and_true, Bool.and_eq_true]
  refine ⟨by simpa using hne, ?_⟩
  rw [Bool.or_eq_true, hl]
  rcases h3 with h3 | h3
  · left; simp; omega
  · by_cases hL : L ≤ 1
    · left; simpa using hL
    · right
      have e : (txl N L).headD 0 = (txl N L)[0]'(by rw [hl]; omega) := by
        have key : ∀ (l : List UInt8) (hl : 0 < l.length), l.headD 0 = l[0] := by
          intro l hl
          cases l with
          | nil => cases hl
          | cons a r => rfl
        exact key _ _
      rw [e, txl_get, Nat.sub_zero]
      have h4 : 1 ≤ N / 10 ^ (L - 1) := Nat.div_pos h3 (Nat.pow_pos (by decide))
      have h5 : N / 10 ^ (L - 1) < 10 := by
        refine Nat.div_lt_of_lt_mul ?_
        rw [← Nat.pow_succ, show (L - 1).succ = L by omega]; exact h2
      unfold tch
      simp; omega
end Go.Proofs.YtanjbdhjnmmfdaaDoor

set_option linter.unusedSimpArgs false
set_option linter.unusedVariables false
namespace Go.Proofs.YtanjbdhjnmmfdaaDoor
open Go.RowKit

set_option maxHeartbeats 400000 in
theorem letter_any (c : UInt8) (w : World) : Calls Tryd.prog 45 #[.int .u8 c.toNat] w fun e w' => e = .returned (.bool (ltr c)) ∧ w = w' := by
  have hc := UInt8.toNat_lt c
  go_enter Tryd.func45, Tryd.ntmps45
  go_wp2
  all_goals go_ret
  all_goals refine ⟨ret_bool ?_, rfl⟩
  all_goals rw [Bool.eq_iff_iff]
  all_goals simp [ltr]
  all_goals (first | done | omega | (simp_all; done) | (simp_all; omega))
set_option maxHeartbeats 400000 in
theorem digit_any (c : UInt8) (w : World) : Calls Tryd.prog 47 #[.int .u8 c.toNat] w fun e w' => e = .returned (.bool (dgt c)) ∧ w = w' := by
  have hc := UInt8.toNat_lt c
  go_enter Tryd.func47, Tryd.ntmps47
  go_wp2
  all_goals go_ret
  all_goals refine ⟨ret_bool ?_, rfl⟩
  all_goals rw [Bool.eq_iff_iff]
  all_goals simp [dgt]
  all_goals (first | done | omega | (simp_all; done) | (simp_all; omega))
set_option maxHeartbeats 1000000 in
theorem rword_any (l : List UInt8) (w : World) : Calls Tryd.prog 46 #[.string ⟨l.toArray⟩] w fun e w' => e = .returned (.bool (words.contains l)) ∧ w = w' := by
  obtain ⟨z, hz⟩ : ∃ z, z = words.contains l := ⟨_, rfl⟩
  rw [← hz]
  have HZ := Far.mk hz
  clear hz
  go_enter Tryd.func46, Tryd.ntmps46
  go_wp2
  all_goals go_ret
  all_goals refine ⟨ret_bool ?_, rfl⟩
  all_goals rw [HZ.out]
  all_goals clear HZ
  all_goals simp_all [words, List.contains_cons]
theorem bytes_at {l : List UInt8} {t : Nat} (hlt : t < l.length) : t < (⟨l.toArray⟩ : ByteArray).size ∧ ∀ h : t < (⟨l.toArray⟩ : ByteArray).size, (⟨l.toArray⟩ : ByteArray)[t] = l.getD t 0 := by
  refine ⟨by show t < l.toArray.size; simpa using hlt, fun _ => ?_⟩
  rw [List.getD_eq_getElem?_getD, List.getElem?_eq_getElem hlt]; rfl
set_option maxHeartbeats 1000000 in
theorem rname4_any (l : List UInt8) (hl : l.length ≤ 9223372036854775807) (w : World) : Calls Tryd.prog 36 #[.string ⟨l.toArray⟩] w fun e w' => e = .returned (.bool (nam l)) ∧ w = w' := by
  have HW := Lib.hid (rword_any l w)
  by_cases h1 : l = []
  · have HE := Lib.hid (name_bad (.inl h1))
    subst h1
    clear hl HW
    go_enter Tryd.func36, Tryd.ntmps36
    go_wp2_with fail
    go_ret
    exact ⟨rfl, rfl⟩
  have e1 : l.isEmpty = false := by simpa using h1
  by_cases h2 : 64 < l.length
  · have HE := Lib.hid (name_bad (.inr (.inl h2)))
    have h2' : 64 < (l.length : Int) := by omega
    clear HW h2
    go_enter Tryd.func36, Tryd.ntmps36
    go_wp2_with fail
    go_ret
    exact ⟨ret_bool HE.out.symm, rfl⟩
  have h2' : ¬ 64 < (l.length : Int) := by omega
  have hp : 0 < l.length := List.length_pos_iff.2 h1
  obtain ⟨g1, g2⟩ := bytes_at hp
  have hg : l[0]'hp = l.getD 0 0 := by rw [List.getD_eq_getElem?_getD, List.getElem?_eq_getElem hp]; rfl
  have HL := fun W => letter_any (l.getD 0 0) W
  rw [← g2 g1] at HL
  obtain ⟨y, hy⟩ : ∃ y, y = ltr (l.getD 0 0) := ⟨_, rfl⟩
  have HLT : Hid (∀ W, Calls Tryd.prog 45 #[.int .u8 ((⟨l.toArray⟩ : ByteArray)[0]'g1).toNat] W fun e w' => e = .returned (.bool y) ∧ W = w') := Lib.hid (fun W => by rw [hy, ← g2 g1]; exact HL W)
  have HY := Lib.hid hy
  clear HL g2 hy hg
  obtain ⟨z, hz⟩ : ∃ z, z = words.contains l := ⟨_, rfl⟩
  rw [← hz] at HW
  have HZ := Lib.hid hz
  have H1 := Lib.hid h1
  have H2 := Lib.hid h2
  clear hz h2
  cases y with
  | false =>
    have HE : Hid (nam l = false) := Lib.hid (name_at hp HY.out.symm (.inl rfl))
    go_enter Tryd.func36, Tryd.ntmps36
    go_wp2_with fail
    refine (HLT.out _).mono ?_
    rintro _ _ ⟨rfl, rfl⟩
    go_wp2_with fail
    go_ret
    exact ⟨ret_bool HE.out.symm, rfl⟩
  | true =>
    cases z with
    | true =>
      have HE := Lib.hid (name_bad (.inr (.inr HZ.out.symm)))
      go_enter Tryd.func36, Tryd.ntmps36
      go_wp2_with fail
      refine (HLT.out _).mono ?_
      rintro _ _ ⟨rfl, rfl⟩
      go_wp2_with fail
      refine HW.out.mono ?_
      rintro _ _ ⟨rfl, rfl⟩
      go_wp2_with fail
      go_ret
      exact ⟨ret_bool HE.out.symm, rfl⟩
    | false =>
      go_enter Tryd.func36, Tryd.ntmps36
      go_wp2_with fail
      refine (HLT.out _).mono ?_
      rintro _ _ ⟨rfl, rfl⟩
      go_wp2_with fail
      refine HW.out.mono ?_
      rintro _ _ ⟨rfl, rfl⟩
      go_wp2_with fail
      go_loopg [3] (l.length - 1) (fun k i wr => ∃ t : Nat, k + t = l.length ∧ 1 ≤ t ∧ i = .int .i64 t ∧ Hid (∀ k, k < t → ltr (l.getD k 0) = true ∨ (k ≠ 0 ∧ dgt (l.getD k 0) = true)) ∧ w = wr)
      case atStart => exact ⟨1, by omega, by omega, rfl, Lib.hid (fun k hk => by obtain rfl : k = 0 := by omega
                                                                                 exact .inl HY.out.symm), rfl⟩
      case round =>
        obtain ⟨t, hk, ht1, rfl, HA, rfl⟩ := hrel
        have HK := Lib.hid hk
        have htn : t ≤ l.length := by omega
        clear hk
        by_cases hlt : t < l.length
        · obtain ⟨g3, g4⟩ := bytes_at hlt
          have hg : l[t]'hlt = l.getD t 0 := by rw [List.getD_eq_getElem?_getD, List.getElem?_eq_getElem hlt]; rfl
          obtain ⟨c, hc⟩ : ∃ c, c = l.getD t 0 := ⟨_, rfl⟩
          have HL1 := Lib.hid (letter_any c w)
          have HD1 := Lib.hid (digit_any c w)
          obtain ⟨yl, hyl⟩ : ∃ y, y = ltr c := ⟨_, rfl⟩
          obtain ⟨yd, hyd⟩ : ∃ y, y = dgt c := ⟨_, rfl⟩
          rw [← hyl] at HL1
          rw [← hyd] at HD1
          have HYL : Hid (ltr (l.getD t 0) = yl) := Lib.hid (by rw [← hc, hyl])
          have HYD : Hid (dgt (l.getD t 0) = yd) := Lib.hid (by rw [← hc, hyd])
          have hcc : (⟨l.toArray⟩ : ByteArray)[t] = c := by rw [hc]; exact g4 g3
          clear g4 hg hyl hyd hc
          cases yl with
          | true =>
            go_wp2_with fail
            refine HL1.out.mono ?_
            rintro _ _ ⟨rfl, rfl⟩
            go_wp2_with fail
            go_roundg (gk - 1)
            case measure => have := HK.out; omega
            case rel => exact ⟨t + 1, by have := HK.out; omega, by omega, by go_num, Lib.hid (fun k hk => by
              by_cases e : k = t
              · subst e; exact .inl HYL.out
              · exact HA.out k (by omega)), rfl⟩
          | false =>
            cases yd with
            | true =>
              go_wp2_with fail
              refine HL1.out.mono ?_
              rintro _ _ ⟨rfl, rfl⟩
              go_wp2_with fail
              refine HD1.out.mono ?_
              rintro _ _ ⟨rfl, rfl⟩
              go_wp2_with fail
              go_roundg (gk - 1)
              case measure => have := HK.out; omega
              case rel => exact ⟨t + 1, by have := HK.out; omega, by omega, by go_num, Lib.hid (fun k hk => by
                by_cases e : k = t
                · subst e; exact .inr ⟨by omega, HYD.out⟩
                · exact HA.out k (by omega)), rfl⟩
            | false =>
              have HE : Hid (nam l = false) := Lib.hid (name_at hlt HYL.out (.inr HYD.out))
              go_wp2_with fail
              refine HL1.out.mono ?_
              rintro _ _ ⟨rfl, rfl⟩
              go_wp2_with fail
              refine HD1.out.mono ?_
              rintro _ _ ⟨rfl, rfl⟩
              go_wp2_with fail
              go_ret
              exact ⟨ret_bool HE.out.symm, rfl⟩
        · have HE : Hid (nam l = true) := Lib.hid (name_ok H1.out (by have := H2.out; omega) HZ.out.symm (fun k hk => HA.out k (by omega)))
          go_wp2_with fail
          go_ret
          exact ⟨ret_bool HE.out.symm, rfl⟩
def dayB (d : Int) : Bool := decide (1 ≤ d ∧ d ≤ 3652059)
set_option maxHeartbeats 400000 in
theorem ris_any (d : Int) (w : World) : Calls Tryd.prog 35 #[.int .i64 d] w fun e w' => e = .returned (.bool (dayB d)) ∧ w = w' := by
  go_enter Tryd.func35, Tryd.ntmps35
  go_wp2
  all_goals go_ret
  all_goals refine ⟨ret_bool ?_, rfl⟩
  all_goals rw [Bool.eq_iff_iff]
  all_goals simp [dayB]
  all_goals (first | done | omega | (simp_all; done) | (simp_all; omega))
end Go.Proofs.YtanjbdhjnmmfdaaDoor

set_option linter.unusedSimpArgs false
set_option linter.unusedVariables false
namespace Go.Proofs.YtanjbdhjnmmfdaaDoor
open Go.RowKit

set_option maxHeartbeats 4000000 in
theorem rbare_any (s : VS) (l : List VD) (nm : List (List UInt8)) (A : Option Addr) (C : Nat) (A2 : Option Addr) (C2 : Nat) (hl : l.length ≤ 1048576) (hn : nm.length ≤ 1048576) (w : World) :
    Calls Tryd.prog 32 #[vagg s (.slice A l.length C) (.slice A2 nm.length C2)] w fun e w' => e = .returned (.bool (bareQ s l.length nm.length (5 ≤ s.kind))) ∧ Below w.heap.size w w' := by
  obtain ⟨z, hz⟩ : ∃ z, z = bareQ s l.length nm.length (5 ≤ s.kind) := ⟨_, rfl⟩
  have hz2 := bareQ_iff (s := s) (ll := l.length) (nl := nm.length) (q := 5 ≤ s.kind)
  rw [← hz] at hz2
  rw [← hz]
  obtain ⟨zb, hzb⟩ : ∃ zb, zb = zn s := ⟨_, rfl⟩
  rw [← hzb] at hz2
  obtain ⟨kind, yes, neg, coef, sc, text, day⟩ := s
  unfold vagg
  dsimp only at hz2 ⊢
  have r1 : ∀ W, (binOp .eql 26 (.agg #[.bool neg, .int .u64 (wd coef 1), .int .u64 (wd coef 0), .int .i64 sc]) (.agg #[.bool false, .int .u64 0, .int .u64 0, .int .i64 0])).run Tryd.prog W = .ok (.bool zb) W := fun W => by rw [veq_dec, hzb]; rfl
  have r2 : ∀ W, (binOp .neq 26 (.agg #[.bool neg, .int .u64 (wd coef 1), .int .u64 (wd coef 0), .int .i64 sc]) (.agg #[.bool false, .int .u64 0, .int .u64 0, .int .i64 0])).run Tryd.prog W = .ok (.bool (!zb)) W := fun W => by rw [vneq_dec, hzb]; rfl
  obtain ⟨x1, hx1⟩ : ∃ x1, x1 = wd coef 1 := ⟨_, rfl⟩
  obtain ⟨x0, hx0⟩ : ∃ x0, x0 = wd coef 0 := ⟨_, rfl⟩
  rw [← hx1, ← hx0] at r1 r2
  rw [← hx1, ← hx0]
  obtain ⟨ll, hll⟩ : ∃ ll, ll = l.length := ⟨_, rfl⟩
  obtain ⟨nl, hnl⟩ : ∃ nl, nl = nm.length := ⟨_, rfl⟩
  rw [← hll] at hl hz2
  rw [← hnl] at hn hz2
  rw [← hll, ← hnl]
  have HZ := Lib.hid hz2
  clear hz hz2 hzb hx1 hx0 hll hnl
  have hk : kind = 1 ∨ kind = 2 ∨ kind = 3 ∨ kind = 4 ∨ kind = 5 ∨ kind = 6 ∨ kind ≤ 0 ∨ 7 ≤ kind := by omega
  rcases hk with rfl | rfl | rfl | rfl | rfl | rfl | hk | hk
  · have tokc : (0 : Int) = 0 := rfl
    clear tokc
    cases zb with
    | false =>
      have hzz : z = false := by
        cases z with
        | false => rfl
        | true => obtain ⟨g1, g2, g3, g4, g5, g6⟩ := HZ.out.1 rfl; exfalso; rcases g2 with g | g <;> first | omega | exact Bool.noConfusion g
      subst hzz
      clear HZ
      go_enter Tryd.func32, Tryd.ntmps32
      go_wp2_with fail
      all_goals (go_ret; exact ⟨rfl, by (repeat' (first | (with_reducible exact Below.refl _ _) | (with_reducible assumption) | (with_reducible refine Below.drew ?_) | (with_reducible refine below_drewN ?_ _) | ((with_reducible refine Below.alloc ?_ ?_ _); rotate_left; focus (go_size; done)) | ((with_reducible refine Below.setCell ?_ ?_ _); rotate_left; focus (go_size; done)) | ((with_reducible refine Below.trans ?_ (Below.mono (by with_reducible assumption) ?_)); rotate_left; focus (go_size; done))))⟩)
    | true =>
      by_cases ht : text = []
      rotate_left
      · have t1 : text.isEmpty = false := by simpa using ht
        have hzz : z = false := by
          cases z with
          | false => rfl
          | true => obtain ⟨g1, g2, g3, g4, g5, g6⟩ := HZ.out.1 rfl; exfalso; rcases g3 with g | g <;> first | omega | exact ht g
        subst hzz
        clear HZ
        go_enter Tryd.func32, Tryd.ntmps32
        go_wp2_with fail
        all_goals (go_ret; exact ⟨rfl, by (repeat' (first | (with_reducible exact Below.refl _ _) | (with_reducible assumption) | (with_reducible refine Below.drew ?_) | (with_reducible refine below_drewN ?_ _) | ((with_reducible refine Below.alloc ?_ ?_ _); rotate_left; focus (go_size; done)) | ((with_reducible refine Below.setCell ?_ ?_ _); rotate_left; focus (go_size; done)) | ((with_reducible refine Below.trans ?_ (Below.mono (by with_reducible assumption) ?_)); rotate_left; focus (go_size; done))))⟩)
      subst ht
      by_cases hd : day = 0
      rotate_left
      · have d1 : (day == 0) = false := by rw [beq_eq_false_iff_ne]; exact hd
        have d2 : (day != 0) = true := by rw [bne_iff_ne]; exact hd
        have hzz : z = false := by
          cases z with
          | false => rfl
          | true => obtain ⟨g1, g2, g3, g4, g5, g6⟩ := HZ.out.1 rfl; exfalso; rcases g4 with g | g <;> first | omega | exact hd g
        subst hzz
        clear HZ
        go_enter Tryd.func32, Tryd.ntmps32
        go_wp2_with fail
        all_goals (go_ret; exact ⟨rfl, by (repeat' (first | (with_reducible exact Below.refl _ _) | (with_reducible assumption) | (with_reducible refine Below.drew ?_) | (with_reducible refine below_drewN ?_ _) | ((with_reducible refine Below.alloc ?_ ?_ _); rotate_left; focus (go_size; done)) | ((with_reducible refine Below.setCell ?_ ?_ _); rotate_left; focus (go_size; done)) | ((with_reducible refine Below.trans ?_ (Below.mono (by with_reducible assumption) ?_)); rotate_left; focus (go_size; done))))⟩)
      subst hd
      by_cases hl0 : ll = 0
      rotate_left
      · have l1 : ((ll : Int) == 0) = false := by rw [beq_eq_false_iff_ne]; omega
        have hzz : z = false := by
          cases z with
          | false => rfl
          | true => obtain ⟨g1, g2, g3, g4, g5, g6⟩ := HZ.out.1 rfl; exfalso; rcases g5 with g | g <;> omega
        subst hzz
        clear HZ
        go_enter Tryd.func32, Tryd.ntmps32
        go_wp2_with fail
        all_goals (go_ret; exact ⟨rfl, by (repeat' (first | (with_reducible exact Below.refl _ _) | (with_reducible assumption) | (with_reducible refine Below.drew ?_) | (with_reducible refine below_drewN ?_ _) | ((with_reducible refine Below.alloc ?_ ?_ _); rotate_left; focus (go_size; done)) | ((with_reducible refine Below.setCell ?_ ?_ _); rotate_left; focus (go_size; done)) | ((with_reducible refine Below.trans ?_ (Below.mono (by with_reducible assumption) ?_)); rotate_left; focus (go_size; done))))⟩)
      subst hl0
      by_cases hn0 : nl = 0
      rotate_left
      · have l1 : ((nl : Int) == 0) = false := by rw [beq_eq_false_iff_ne]; omega
        have l2 : (0 : Int) < (nl : Int) := by omega
        have hzz : z = false := by
          cases z with
          | false => rfl
          | true => obtain ⟨g1, g2, g3, g4, g5, g6⟩ := HZ.out.1 rfl; exfalso; rcases g6 with g | g <;> omega
        subst hzz
        clear HZ
        go_enter Tryd.func32, Tryd.ntmps32
        go_wp2_with fail
        all_goals (go_ret; exact ⟨rfl, by (repeat' (first | (with_reducible exact Below.refl _ _) | (with_reducible assumption) | (with_reducible refine Below.drew ?_) | (with_reducible refine below_drewN ?_ _) | ((with_reducible refine Below.alloc ?_ ?_ _); rotate_left; focus (go_size; done)) | ((with_reducible refine Below.setCell ?_ ?_ _); rotate_left; focus (go_size; done)) | ((with_reducible refine Below.trans ?_ (Below.mono (by with_reducible assumption) ?_)); rotate_left; focus (go_size; done))))⟩)
      subst hn0
      have hzz : z = true := by
        refine HZ.out.2 ⟨?_, ?_, ?_, ?_, ?_, ?_⟩ <;> first | (left; omega) | (right; first | rfl | assumption | omega)
      subst hzz
      clear HZ
      go_enter Tryd.func32, Tryd.ntmps32
      go_wp2_with fail
      all_goals (go_ret; exact ⟨rfl, by (repeat' (first | (with_reducible exact Below.refl _ _) | (with_reducible assumption) | (with_reducible refine Below.drew ?_) | (with_reducible refine below_drewN ?_ _) | ((with_reducible refine Below.alloc ?_ ?_ _); rotate_left; focus (go_size; done)) | ((with_reducible refine Below.setCell ?_ ?_ _); rotate_left; focus (go_size; done)) | ((with_reducible refine Below.trans ?_ (Below.mono (by with_reducible assumption) ?_)); rotate_left; focus (go_size; done))))⟩)
  · have tokc : (0 : Int) = 0 := rfl
    clear tokc
    cases yes with
    | true =>
      have hzz : z = false := by
        cases z with
        | false => rfl
        | true => obtain ⟨g1, g2, g3, g4, g5, g6⟩ := HZ.out.1 rfl; exfalso; rcases g1 with g | g <;> first | omega | exact Bool.noConfusion g
      subst hzz
      clear HZ
      go_enter Tryd.func32, Tryd.ntmps32
      go_wp2_with fail
      all_goals (go_ret; exact ⟨rfl, by (repeat' (first | (with_reducible exact Below.refl _ _) | (with_reducible assumption) | (with_reducible refine Below.drew ?_) | (with_reducible refine below_drewN ?_ _) | ((with_reducible refine Below.alloc ?_ ?_ _); rotate_left; focus (go_size; done)) | ((with_reducible refine Below.setCell ?_ ?_ _); rotate_left; focus (go_size; done)) | ((with_reducible refine Below.trans ?_ (Below.mono (by with_reducible assumption) ?_)); rotate_left; focus (go_size; done))))⟩)
    | false =>
      by_cases ht : text = []
      rotate_left
      · have t1 : text.isEmpty = false := by simpa using ht
        have hzz : z = false := by
          cases z with
          | false => rfl
          | true => obtain ⟨g1, g2, g3, g4, g5, g6⟩ := HZ.out.1 rfl; exfalso; rcases g3 with g | g <;> first | omega | exact ht g
        subst hzz
        clear HZ
        go_enter Tryd.func32, Tryd.ntmps32
        go_wp2_with fail
        all_goals (go_ret; exact ⟨rfl, by (repeat' (first | (with_reducible exact Below.refl _ _) | (with_reducible assumption) | (with_reducible refine Below.drew ?_) | (with_reducible refine below_drewN ?_ _) | ((with_reducible refine Below.alloc ?_ ?_ _); rotate_left; focus (go_size; done)) | ((with_reducible refine Below.setCell ?_ ?_ _); rotate_left; focus (go_size; done)) | ((with_reducible refine Below.trans ?_ (Below.mono (by with_reducible assumption) ?_)); rotate_left; focus (go_size; done))))⟩)
      subst ht
      by_cases hd : day = 0
      rotate_left
      · have d1 : (day == 0) = false := by rw [beq_eq_false_iff_ne]; exact hd
        have d2 : (day != 0) = true := by rw [bne_iff_ne]; exact hd
        have hzz : z = false := by
          cases z with
          | false => rfl
          | true => obtain ⟨g1, g2, g3, g4, g5, g6⟩ := HZ.out.1 rfl; exfalso; rcases g4 with g | g <;> first | omega | exact hd g
        subst hzz
        clear HZ
        go_enter Tryd.func32, Tryd.ntmps32
        go_wp2_with fail
        all_goals (go_ret; exact ⟨rfl, by (repeat' (first | (with_reducible exact Below.refl _ _) | (with_reducible assumption) | (with_reducible refine Below.drew ?_) | (with_reducible refine below_drewN ?_ _) | ((with_reducible refine Below.alloc ?_ ?_ _); rotate_left; focus (go_size; done)) | ((with_reducible refine Below.setCell ?_ ?_ _); rotate_left; focus (go_size; done)) | ((with_reducible refine Below.trans ?_ (Below.mono (by with_reducible assumption) ?_)); rotate_left; focus (go_size; done))))⟩)
      subst hd
      by_cases hl0 : ll = 0
      rotate_left
      · have l1 : ((ll : Int) == 0) = false := by rw [beq_eq_false_iff_ne]; omega
        have hzz : z = false := by
          cases z with
          | false => rfl
          | true => obtain ⟨g1, g2, g3, g4, g5, g6⟩ := HZ.out.1 rfl; exfalso; rcases g5 with g | g <;> omega
        subst hzz
        clear HZ
        go_enter Tryd.func32, Tryd.ntmps32
        go_wp2_with fail
        all_goals (go_ret; exact ⟨rfl, by (repeat' (first | (with_reducible exact Below.refl _ _) | (with_reducible assumption) | (with_reducible refine Below.drew ?_) | (with_reducible refine below_drewN ?_ _) | ((with_reducible refine Below.alloc ?_ ?_ _); rotate_left; focus (go_size; done)) | ((with_reducible refine Below.setCell ?_ ?_ _); rotate_left; focus (go_size; done)) | ((with_reducible refine Below.trans ?_ (Below.mono (by with_reducible assumption) ?_)); rotate_left; focus (go_size; done))))⟩)
      subst hl0
      by_cases hn0 : nl = 0
      rotate_left
      · have l1 : ((nl : Int) == 0) = false := by rw [beq_eq_false_iff_ne]; omega
        have l2 : (0 : Int) < (nl : Int) := by omega
        have hzz : z = false := by
          cases z with
          | false => rfl
          | true => obtain ⟨g1, g2, g3, g4, g5, g6⟩ := HZ.out.1 rfl; exfalso; rcases g6 with g | g <;> omega
        subst hzz
        clear HZ
        go_enter Tryd.func32, Tryd.ntmps32
        go_wp2_with fail
        all_goals (go_ret; exact ⟨rfl, by (repeat' (first | (with_reducible exact Below.refl _ _) | (with_reducible assumption) | (with_reducible refine Below.drew ?_) | (with_reducible refine below_drewN ?_ _) | ((with_reducible refine Below.alloc ?_ ?_ _); rotate_left; focus (go_size; done)) | ((with_reducible refine Below.setCell ?_ ?_ _); rotate_left; focus (go_size; done)) | ((with_reducible refine Below.trans ?_ (Below.mono (by with_reducible assumption) ?_)); rotate_left; focus (go_size; done))))⟩)
      subst hn0
      have hzz : z = true := by
        refine HZ.out.2 ⟨?_, ?_, ?_, ?_, ?_, ?_⟩ <;> first | (left; omega) | (right; first | rfl | assumption | omega)
      subst hzz
      clear HZ
      go_enter Tryd.func32, Tryd.ntmps32
      go_wp2_with fail
      all_goals (go_ret; exact ⟨rfl, by (repeat' (first | (with_reducible exact Below.refl _ _) | (with_reducible assumption) | (with_reducible refine Below.drew ?_) | (with_reducible refine below_drewN ?_ _) | ((with_reducible refine Below.alloc ?_ ?_ _); rotate_left; focus (go_size; done)) | ((with_reducible refine Below.setCell ?_ ?_ _); rotate_left; focus (go_size; done)) | ((with_reducible refine Below.trans ?_ (Below.mono (by with_reducible assumption) ?_)); rotate_left; focus (go_size; done))))⟩)
  · have tokc : (0 : Int) = 0 := rfl
    clear tokc
    cases yes with
    | true =>
      have hzz : z = false := by
        cases z with
        | false => rfl
        | true => obtain ⟨g1, g2, g3, g4, g5, g6⟩ := HZ.out.1 rfl; exfalso; rcases g1 with g | g <;> first | omega | exact Bool.noConfusion g
      subst hzz
      clear HZ
      go_enter Tryd.func32, Tryd.ntmps32
      go_wp2_with fail
      all_goals (go_ret; exact ⟨rfl, by (repeat' (first | (with_reducible exact Below.refl _ _) | (with_reducible assumption) | (with_reducible refine Below.drew ?_) | (with_reducible refine below_drewN ?_ _) | ((with_reducible refine Below.alloc ?_ ?_ _); rotate_left; focus (go_size; done)) | ((with_reducible refine Below.setCell ?_ ?_ _); rotate_left; focus (go_size; done)) | ((with_reducible refine Below.trans ?_ (Below.mono (by with_reducible assumption) ?_)); rotate_left; focus (go_size; done))))⟩)
    | false =>
      cases zb with
      | false =>
        have hzz : z = false := by
          cases z with
          | false => rfl
          | true => obtain ⟨g1, g2, g3, g4, g5, g6⟩ := HZ.out.1 rfl; exfalso; rcases g2 with g | g <;> first | omega | exact Bool.noConfusion g
        subst hzz
        clear HZ
        go_enter Tryd.func32, Tryd.ntmps32
        go_wp2_with fail
        all_goals (go_ret; exact ⟨rfl, by (repeat' (first | (with_reducible exact Below.refl _ _) | (with_reducible assumption) | (with_reducible refine Below.drew ?_) | (with_reducible refine below_drewN ?_ _) | ((with_reducible refine Below.alloc ?_ ?_ _); rotate_left; focus (go_size; done)) | ((with_reducible refine Below.setCell ?_ ?_ _); rotate_left; focus (go_size; done)) | ((with_reducible refine Below.trans ?_ (Below.mono (by with_reducible assumption) ?_)); rotate_left; focus (go_size; done))))⟩)
      | true =>
        by_cases hd : day = 0
        rotate_left
        · have d1 : (day == 0) = false := by rw [beq_eq_false_iff_ne]; exact hd
          have d2 : (day != 0) = true := by rw [bne_iff_ne]; exact hd
          have hzz : z = false := by
            cases z with
            | false => rfl
            | true => obtain ⟨g1, g2, g3, g4, g5, g6⟩ := HZ.out.1 rfl; exfalso; rcases g4 with g | g <;> first | omega | exact hd g
          subst hzz
          clear HZ
          go_enter Tryd.func32, Tryd.ntmps32
          go_wp2_with fail
          all_goals (go_ret; exact ⟨rfl, by (repeat' (first | (with_reducible exact Below.refl _ _) | (with_reducible assumption) | (with_reducible refine Below.drew ?_) | (with_reducible refine below_drewN ?_ _) | ((with_reducible refine Below.alloc ?_ ?_ _); rotate_left; focus (go_size; done)) | ((with_reducible refine Below.setCell ?_ ?_ _); rotate_left; focus (go_size; done)) | ((with_reducible refine Below.trans ?_ (Below.mono (by with_reducible assumption) ?_)); rotate_left; focus (go_size; done))))⟩)
        subst hd
        by_cases hl0 : ll = 0
        rotate_left
        · have l1 : ((ll : Int) == 0) = false := by rw [beq_eq_false_iff_ne]; omega
          have hzz : z = false := by
            cases z with
            | false => rfl
            | true => obtain ⟨g1, g2, g3, g4, g5, g6⟩ := HZ.out.1 rfl; exfalso; rcases g5 with g | g <;> omega
          subst hzz
          clear HZ
          go_enter Tryd.func32, Tryd.ntmps32
          go_wp2_with fail
          all_goals (go_ret; exact ⟨rfl, by (repeat' (first | (with_reducible exact Below.refl _ _) | (with_reducible assumption) | (with_reducible refine Below.drew ?_) | (with_reducible refine below_drewN ?_ _) | ((with_reducible refine Below.alloc ?_ ?_ _); rotate_left; focus (go_size; done)) | ((with_reducible refine Below.setCell ?_ ?_ _); rotate_left; focus (go_size; done)) | ((with_reducible refine Below.trans ?_ (Below.mono (by with_reducible assumption) ?_)); rotate_left; focus (go_size; done))))⟩)
        subst hl0
        by_cases hn0 : nl = 0
        rotate_left
        · have l1 : ((nl : Int) == 0) = false := by rw [beq_eq_false_iff_ne]; omega
          have l2 : (0 : Int) < (nl : Int) := by omega
          have hzz : z = false := by
            cases z with
            | false => rfl
            | true => obtain ⟨g1, g2, g3, g4, g5, g6⟩ := HZ.out.1 rfl; exfalso; rcases g6 with g | g <;> omega
          subst hzz
          clear HZ
          go_enter Tryd.func32, Tryd.ntmps32
          go_wp2_with fail
          all_goals (go_ret; exact ⟨rfl, by (repeat' (first | (with_reducible exact Below.refl _ _) | (with_reducible assumption) | (with_reducible refine Below.drew ?_) | (with_reducible refine below_drewN ?_ _) | ((with_reducible refine Below.alloc ?_ ?_ _); rotate_left; focus (go_size; done)) | ((with_reducible refine Below.setCell ?_ ?_ _); rotate_left; focus (go_size; done)) | ((with_reducible refine Below.trans ?_ (Below.mono (by with_reducible assumption) ?_)); rotate_left; focus (go_size; done))))⟩)
        subst hn0
        have hzz : z = true := by
          refine HZ.out.2 ⟨?_, ?_, ?_, ?_, ?_, ?_⟩ <;> first | (left; omega) | (right; first | rfl | assumption | omega)
        subst hzz
        clear HZ
        go_enter Tryd.func32, Tryd.ntmps32
        go_wp2_with fail
        all_goals (go_ret; exact ⟨rfl, by (repeat' (first | (with_reducible exact Below.refl _ _) | (with_reducible assumption) | (with_reducible refine Below.drew ?_) | (with_reducible refine below_drewN ?_ _) | ((with_reducible refine Below.alloc ?_ ?_ _); rotate_left; focus (go_size; done)) | ((with_reducible refine Below.setCell ?_ ?_ _); rotate_left; focus (go_size; done)) | ((with_reducible refine Below.trans ?_ (Below.mono (by with_reducible assumption) ?_)); rotate_left; focus (go_size; done))))⟩)
  · have tokc : (0 : Int) = 0 := rfl
    clear tokc
    cases yes with
    | true =>
      have hzz : z = false := by
        cases z with
        | false => rfl
        | true => obtain ⟨g1, g2, g3, g4, g5, g6⟩ := HZ.out.1 rfl; exfalso; rcases g1 with g | g <;> first | omega | exact Bool.noConfusion g
      subst hzz
      clear HZ
      go_enter Tryd.func32, Tryd.ntmps32
      go_wp2_with fail
      all_goals (go_ret; exact ⟨rfl, by (repeat' (first | (with_reducible exact Below.refl _ _) | (with_reducible assumption) | (with_reducible refine Below.drew ?_) | (with_reducible refine below_drewN ?_ _) | ((with_reducible refine Below.alloc ?_ ?_ _); rotate_left; focus (go_size; done)) | ((with_reducible refine Below.setCell ?_ ?_ _); rotate_left; focus (go_size; done)) | ((with_reducible refine Below.trans ?_ (Below.mono (by with_reducible assumption) ?_)); rotate_left; focus (go_size; done))))⟩)
    | false =>
      cases zb with
      | false =>
        have hzz : z = false := by
          cases z with
          | false => rfl
          | true => obtain ⟨g1, g2, g3, g4, g5, g6⟩ := HZ.out.1 rfl; exfalso; rcases g2 with g | g <;> first | omega | exact Bool.noConfusion g
        subst hzz
        clear HZ
        go_enter Tryd.func32, Tryd.ntmps32
        go_wp2_with fail
        all_goals (go_ret; exact ⟨rfl, by (repeat' (first | (with_reducible exact Below.refl _ _) | (with_reducible assumption) | (with_reducible refine Below.drew ?_) | (with_reducible refine below_drewN ?_ _) | ((with_reducible refine Below.alloc ?_ ?_ _); rotate_left; focus (go_size; done)) | ((with_reducible refine Below.setCell ?_ ?_ _); rotate_left; focus (go_size; done)) | ((with_reducible refine Below.trans ?_ (Below.mono (by with_reducible assumption) ?_)); rotate_left; focus (go_size; done))))⟩)
      | true =>
        by_cases ht : text = []
        rotate_left
        · have t1 : text.isEmpty = false := by simpa using ht
          have hzz : z = false := by
            cases z with
            | false => rfl
            | true => obtain ⟨g1, g2, g3, g4, g5, g6⟩ := HZ.out.1 rfl; exfalso; rcases g3 with g | g <;> first | omega | exact ht g
          subst hzz
          clear HZ
          go_enter Tryd.func32, Tryd.ntmps32
          go_wp2_with fail
          all_goals (go_ret; exact ⟨rfl, by (repeat' (first | (with_reducible exact Below.refl _ _) | (with_reducible assumption) | (with_reducible refine Below.drew ?_) | (with_reducible refine below_drewN ?_ _) | ((with_reducible refine Below.alloc ?_ ?_ _); rotate_left; focus (go_size; done)) | ((with_reducible refine Below.setCell ?_ ?_ _); rotate_left; focus (go_size; done)) | ((with_reducible refine Below.trans ?_ (Below.mono (by with_reducible assumption) ?_)); rotate_left; focus (go_size; done))))⟩)
        subst ht
        by_cases hl0 : ll = 0
        rotate_left
        · have l1 : ((ll : Int) == 0) = false := by rw [beq_eq_false_iff_ne]; omega
          have hzz : z = false := by
            cases z with
            | false => rfl
            | true => obtain ⟨g1, g2, g3, g4, g5, g6⟩ := HZ.out.1 rfl; exfalso; rcases g5 with g | g <;> omega
          subst hzz
          clear HZ
          go_enter Tryd.func32, Tryd.ntmps32
          go_wp2_with fail
          all_goals (go_ret; exact ⟨rfl, by (repeat' (first | (with_reducible exact Below.refl _ _) | (with_reducible assumption) | (with_reducible refine Below.drew ?_) | (with_reducible refine below_drewN ?_ _) | ((with_reducible refine Below.alloc ?_ ?_ _); rotate_left; focus (go_size; done)) | ((with_reducible refine Below.setCell ?_ ?_ _); rotate_left; focus (go_size; done)) | ((with_reducible refine Below.trans ?_ (Below.mono (by with_reducible assumption) ?_)); rotate_left; focus (go_size; done))))⟩)
        subst hl0
        by_cases hn0 : nl = 0
        rotate_left
        · have l1 : ((nl : Int) == 0) = false := by rw [beq_eq_false_iff_ne]; omega
          have l2 : (0 : Int) < (nl : Int) := by omega
          have hzz : z = false := by
            cases z with
            | false => rfl
            | true => obtain ⟨g1, g2, g3, g4, g5, g6⟩ := HZ.out.1 rfl; exfalso; rcases g6 with g | g <;> omega
          subst hzz
          clear HZ
          go_enter Tryd.func32, Tryd.ntmps32
          go_wp2_with fail
          all_goals (go_ret; exact ⟨rfl, by (repeat' (first | (with_reducible exact Below.refl _ _) | (with_reducible assumption) | (with_reducible refine Below.drew ?_) | (with_reducible refine below_drewN ?_ _) | ((with_reducible refine Below.alloc ?_ ?_ _); rotate_left; focus (go_size; done)) | ((with_reducible refine Below.setCell ?_ ?_ _); rotate_left; focus (go_size; done)) | ((with_reducible refine Below.trans ?_ (Below.mono (by with_reducible assumption) ?_)); rotate_left; focus (go_size; done))))⟩)
        subst hn0
        have hzz : z = true := by
          refine HZ.out.2 ⟨?_, ?_, ?_, ?_, ?_, ?_⟩ <;> first | (left; omega) | (right; first | rfl | assumption | omega)
        subst hzz
        clear HZ
        go_enter Tryd.func32, Tryd.ntmps32
        go_wp2_with fail
        all_goals (go_ret; exact ⟨rfl, by (repeat' (first | (with_reducible exact Below.refl _ _) | (with_reducible assumption) | (with_reducible refine Below.drew ?_) | (with_reducible refine below_drewN ?_ _) | ((with_reducible refine Below.alloc ?_ ?_ _); rotate_left; focus (go_size; done)) | ((with_reducible refine Below.setCell ?_ ?_ _); rotate_left; focus (go_size; done)) | ((with_reducible refine Below.trans ?_ (Below.mono (by with_reducible assumption) ?_)); rotate_left; focus (go_size; done))))⟩)
  · have tokc : (0 : Int) = 0 := rfl
    clear tokc
    cases yes with
    | true =>
      have hzz : z = false := by
        cases z with
        | false => rfl
        | true => obtain ⟨g1, g2, g3, g4, g5, g6⟩ := HZ.out.1 rfl; exfalso; rcases g1 with g | g <;> first | omega | exact Bool.noConfusion g
      subst hzz
      clear HZ
      go_enter Tryd.func32, Tryd.ntmps32
      go_wp2_with fail
      all_goals (go_ret; exact ⟨rfl, by (repeat' (first | (with_reducible exact Below.refl _ _) | (with_reducible assumption) | (with_reducible refine Below.drew ?_) | (with_reducible refine below_drewN ?_ _) | ((with_reducible refine Below.alloc ?_ ?_ _); rotate_left; focus (go_size; done)) | ((with_reducible refine Below.setCell ?_ ?_ _); rotate_left; focus (go_size; done)) | ((with_reducible refine Below.trans ?_ (Below.mono (by with_reducible assumption) ?_)); rotate_left; focus (go_size; done))))⟩)
    | false =>
      cases zb with
      | false =>
        have hzz : z = false := by
          cases z with
          | false => rfl
          | true => obtain ⟨g1, g2, g3, g4, g5, g6⟩ := HZ.out.1 rfl; exfalso; rcases g2 with g | g <;> first | omega | exact Bool.noConfusion g
        subst hzz
        clear HZ
        go_enter Tryd.func32, Tryd.ntmps32
        go_wp2_with fail
        all_goals (go_ret; exact ⟨rfl, by (repeat' (first | (with_reducible exact Below.refl _ _) | (with_reducible assumption) | (with_reducible refine Below.drew ?_) | (with_reducible refine below_drewN ?_ _) | ((with_reducible refine Below.alloc ?_ ?_ _); rotate_left; focus (go_size; done)) | ((with_reducible refine Below.setCell ?_ ?_ _); rotate_left; focus (go_size; done)) | ((with_reducible refine Below.trans ?_ (Below.mono (by with_reducible assumption) ?_)); rotate_left; focus (go_size; done))))⟩)
      | true =>
        by_cases ht : text = []
        rotate_left
        · have t1 : text.isEmpty = false := by simpa using ht
          have hzz : z = false := by
            cases z with
            | false => rfl
            | true => obtain ⟨g1, g2, g3, g4, g5, g6⟩ := HZ.out.1 rfl; exfalso; rcases g3 with g | g <;> first | omega | exact ht g
          subst hzz
          clear HZ
          go_enter Tryd.func32, Tryd.ntmps32
          go_wp2_with fail
          all_goals (go_ret; exact ⟨rfl, by (repeat' (first | (with_reducible exact Below.refl _ _) | (with_reducible assumption) | (with_reducible refine Below.drew ?_) | (with_reducible refine below_drewN ?_ _) | ((with_reducible refine Below.alloc ?_ ?_ _); rotate_left; focus (go_size; done)) | ((with_reducible refine Below.setCell ?_ ?_ _); rotate_left; focus (go_size; done)) | ((with_reducible refine Below.trans ?_ (Below.mono (by with_reducible assumption) ?_)); rotate_left; focus (go_size; done))))⟩)
        subst ht
        by_cases hd : day = 0
        rotate_left
        · have d1 : (day == 0) = false := by rw [beq_eq_false_iff_ne]; exact hd
          have d2 : (day != 0) = true := by rw [bne_iff_ne]; exact hd
          have hzz : z = false := by
            cases z with
            | false => rfl
            | true => obtain ⟨g1, g2, g3, g4, g5, g6⟩ := HZ.out.1 rfl; exfalso; rcases g4 with g | g <;> first | omega | exact hd g
          subst hzz
          clear HZ
          go_enter Tryd.func32, Tryd.ntmps32
          go_wp2_with fail
          all_goals (go_ret; exact ⟨rfl, by (repeat' (first | (with_reducible exact Below.refl _ _) | (with_reducible assumption) | (with_reducible refine Below.drew ?_) | (with_reducible refine below_drewN ?_ _) | ((with_reducible refine Below.alloc ?_ ?_ _); rotate_left; focus (go_size; done)) | ((with_reducible refine Below.setCell ?_ ?_ _); rotate_left; focus (go_size; done)) | ((with_reducible refine Below.trans ?_ (Below.mono (by with_reducible assumption) ?_)); rotate_left; focus (go_size; done))))⟩)
        subst hd
        by_cases hn0 : nl = 0
        rotate_left
        · have l1 : ((nl : Int) == 0) = false := by rw [beq_eq_false_iff_ne]; omega
          have l2 : (0 : Int) < (nl : Int) := by omega
          have hzz : z = false := by
            cases z with
            | false => rfl
            | true => obtain ⟨g1, g2, g3, g4, g5, g6⟩ := HZ.out.1 rfl; exfalso; rcases g6 with g | g <;> omega
          subst hzz
          clear HZ
          go_enter Tryd.func32, Tryd.ntmps32
          go_wp2_with fail
          all_goals (go_ret; exact ⟨rfl, by (repeat' (first | (with_reducible exact Below.refl _ _) | (with_reducible assumption) | (with_reducible refine Below.drew ?_) | (with_reducible refine below_drewN ?_ _) | ((with_reducible refine Below.alloc ?_ ?_ _); rotate_left; focus (go_size; done)) | ((with_reducible refine Below.setCell ?_ ?_ _); rotate_left; focus (go_size; done)) | ((with_reducible refine Below.trans ?_ (Below.mono (by with_reducible assumption) ?_)); rotate_left; focus (go_size; done))))⟩)
        subst hn0
        have hzz : z = true := by
          refine HZ.out.2 ⟨?_, ?_, ?_, ?_, ?_, ?_⟩ <;> first | (left; omega) | (right; first | rfl | assumption | omega)
        subst hzz
        clear HZ
        go_enter Tryd.func32, Tryd.ntmps32
        go_wp2_with fail
        all_goals (go_ret; exact ⟨rfl, by (repeat' (first | (with_reducible exact Below.refl _ _) | (with_reducible assumption) | (with_reducible refine Below.drew ?_) | (with_reducible refine below_drewN ?_ _) | ((with_reducible refine Below.alloc ?_ ?_ _); rotate_left; focus (go_size; done)) | ((with_reducible refine Below.setCell ?_ ?_ _); rotate_left; focus (go_size; done)) | ((with_reducible refine Below.trans ?_ (Below.mono (by with_reducible assumption) ?_)); rotate_left; focus (go_size; done))))⟩)
  · have tokc : (0 : Int) = 0 := rfl
    clear tokc
    cases yes with
    | true =>
      have hzz : z = false := by
        cases z with
        | false => rfl
        | true => obtain ⟨g1, g2, g3, g4, g5, g6⟩ := HZ.out.1 rfl; exfalso; rcases g1 with g | g <;> first | omega | exact Bool.noConfusion g
      subst hzz
      clear HZ
      go_enter Tryd.func32, Tryd.ntmps32
      go_wp2_with fail
      all_goals (go_ret; exact ⟨rfl, by (repeat' (first | (with_reducible exact Below.refl _ _) | (with_reducible assumption) | (with_reducible refine Below.drew ?_) | (with_reducible refine below_drewN ?_ _) | ((with_reducible refine Below.alloc ?_ ?_ _); rotate_left; focus (go_size; done)) | ((with_reducible refine Below.setCell ?_ ?_ _); rotate_left; focus (go_size; done)) | ((with_reducible refine Below.trans ?_ (Below.mono (by with_reducible assumption) ?_)); rotate_left; focus (go_size; done))))⟩)
    | false =>
      cases zb with
      | false =>
        have hzz : z = false := by
          cases z with
          | false => rfl
          | true => obtain ⟨g1, g2, g3, g4, g5, g6⟩ := HZ.out.1 rfl; exfalso; rcases g2 with g | g <;> first | omega | exact Bool.noConfusion g
        subst hzz
        clear HZ
        go_enter Tryd.func32, Tryd.ntmps32
        go_wp2_with fail
        all_goals (go_ret; exact ⟨rfl, by (repeat' (first | (with_reducible exact Below.refl _ _) | (with_reducible assumption) | (with_reducible refine Below.drew ?_) | (with_reducible refine below_drewN ?_ _) | ((with_reducible refine Below.alloc ?_ ?_ _); rotate_left; focus (go_size; done)) | ((with_reducible refine Below.setCell ?_ ?_ _); rotate_left; focus (go_size; done)) | ((with_reducible refine Below.trans ?_ (Below.mono (by with_reducible assumption) ?_)); rotate_left; focus (go_size; done))))⟩)
      | true =>
        by_cases ht : text = []
        rotate_left
        · have t1 : text.isEmpty = false := by simpa using ht
          have hzz : z = false := by
            cases z with
            | false => rfl
            | true => obtain ⟨g1, g2, g3, g4, g5, g6⟩ := HZ.out.1 rfl; exfalso; rcases g3 with g | g <;> first | omega | exact ht g
          subst hzz
          clear HZ
          go_enter Tryd.func32, Tryd.ntmps32
          go_wp2_with fail
          all_goals (go_ret; exact ⟨rfl, by (repeat' (first | (with_reducible exact Below.refl _ _) | (with_reducible assumption) | (with_reducible refine Below.drew ?_) | (with_reducible refine below_drewN ?_ _) | ((with_reducible refine Below.alloc ?_ ?_ _); rotate_left; focus (go_size; done)) | ((with_reducible refine Below.setCell ?_ ?_ _); rotate_left; focus (go_size; done)) | ((with_reducible refine Below.trans ?_ (Below.mono (by with_reducible assumption) ?_)); rotate_left; focus (go_size; done))))⟩)
        subst ht
        by_cases hd : day = 0
        rotate_left
        · have d1 : (day == 0) = false := by rw [beq_eq_false_iff_ne]; exact hd
          have d2 : (day != 0) = true := by rw [bne_iff_ne]; exact hd
          have hzz : z = false := by
            cases z with
            | false => rfl
            | true => obtain ⟨g1, g2, g3, g4, g5, g6⟩ := HZ.out.1 rfl; exfalso; rcases g4 with g | g <;> first | omega | exact hd g
          subst hzz
          clear HZ
          go_enter Tryd.func32, Tryd.ntmps32
          go_wp2_with fail
          all_goals (go_ret; exact ⟨rfl, by (repeat' (first | (with_reducible exact Below.refl _ _) | (with_reducible assumption) | (with_reducible refine Below.drew ?_) | (with_reducible refine below_drewN ?_ _) | ((with_reducible refine Below.alloc ?_ ?_ _); rotate_left; focus (go_size; done)) | ((with_reducible refine Below.setCell ?_ ?_ _); rotate_left; focus (go_size; done)) | ((with_reducible refine Below.trans ?_ (Below.mono (by with_reducible assumption) ?_)); rotate_left; focus (go_size; done))))⟩)
        subst hd
        have hzz : z = true := by
          refine HZ.out.2 ⟨?_, ?_, ?_, ?_, ?_, ?_⟩ <;> first | (left; omega) | (right; first | rfl | assumption | omega)
        subst hzz
        clear HZ
        go_enter Tryd.func32, Tryd.ntmps32
        go_wp2_with fail
        all_goals (go_ret; exact ⟨rfl, by (repeat' (first | (with_reducible exact Below.refl _ _) | (with_reducible assumption) | (with_reducible refine Below.drew ?_) | (with_reducible refine below_drewN ?_ _) | ((with_reducible refine Below.alloc ?_ ?_ _); rotate_left; focus (go_size; done)) | ((with_reducible refine Below.setCell ?_ ?_ _); rotate_left; focus (go_size; done)) | ((with_reducible refine Below.trans ?_ (Below.mono (by with_reducible assumption) ?_)); rotate_left; focus (go_size; done))))⟩)
  · have tokc : (0 : Int) = 0 := rfl
    clear tokc
    have e1 : (kind == 1) = false := by rw [beq_eq_false_iff_ne]; omega
    have f1 : (kind != 1) = true := by rw [bne_iff_ne]; omega
    have e2 : (kind == 2) = false := by rw [beq_eq_false_iff_ne]; omega
    have f2 : (kind != 2) = true := by rw [bne_iff_ne]; omega
    have e3 : (kind == 3) = false := by rw [beq_eq_false_iff_ne]; omega
    have f3 : (kind != 3) = true := by rw [bne_iff_ne]; omega
    have e4 : (kind == 4) = false := by rw [beq_eq_false_iff_ne]; omega
    have f4 : (kind != 4) = true := by rw [bne_iff_ne]; omega
    have e5 : (kind == 5) = false := by rw [beq_eq_false_iff_ne]; omega
    have f5 : (kind != 5) = true := by rw [bne_iff_ne]; omega
    have e6 : (kind == 6) = false := by rw [beq_eq_false_iff_ne]; omega
    have f6 : (kind != 6) = true := by rw [bne_iff_ne]; omega
    have k5 : decide (5 ≤ kind) = false := decide_eq_false (by omega)
    cases yes with
    | true =>
      have hzz : z = false := by
        cases z with
        | false => rfl
        | true => obtain ⟨g1, g2, g3, g4, g5, g6⟩ := HZ.out.1 rfl; exfalso; rcases g1 with g | g <;> first | omega | exact Bool.noConfusion g
      subst hzz
      clear HZ
      go_enter Tryd.func32, Tryd.ntmps32
      go_wp2_with fail
      all_goals (go_ret; exact ⟨rfl, by (repeat' (first | (with_reducible exact Below.refl _ _) | (with_reducible assumption) | (with_reducible refine Below.drew ?_) | (with_reducible refine below_drewN ?_ _) | ((with_reducible refine Below.alloc ?_ ?_ _); rotate_left; focus (go_size; done)) | ((with_reducible refine Below.setCell ?_ ?_ _); rotate_left; focus (go_size; done)) | ((with_reducible refine Below.trans ?_ (Below.mono (by with_reducible assumption) ?_)); rotate_left; focus (go_size; done))))⟩)
    | false =>
      cases zb with
      | false =>
        have hzz : z = false := by
          cases z with
          | false => rfl
          | true => obtain ⟨g1, g2, g3, g4, g5, g6⟩ := HZ.out.1 rfl; exfalso; rcases g2 with g | g <;> first | omega | exact Bool.noConfusion g
        subst hzz
        clear HZ
        go_enter Tryd.func32, Tryd.ntmps32
        go_wp2_with fail
        all_goals (go_ret; exact ⟨rfl, by (repeat' (first | (with_reducible exact Below.refl _ _) | (with_reducible assumption) | (with_reducible refine Below.drew ?_) | (with_reducible refine below_drewN ?_ _) | ((with_reducible refine Below.alloc ?_ ?_ _); rotate_left; focus (go_size; done)) | ((with_reducible refine Below.setCell ?_ ?_ _); rotate_left; focus (go_size; done)) | ((with_reducible refine Below.trans ?_ (Below.mono (by with_reducible assumption) ?_)); rotate_left; focus (go_size; done))))⟩)
      | true =>
        by_cases ht : text = []
        rotate_left
        · have t1 : text.isEmpty = false := by simpa using ht
          have hzz : z = false := by
            cases z with
            | false => rfl
            | true => obtain ⟨g1, g2, g3, g4, g5, g6⟩ := HZ.out.1 rfl; exfalso; rcases g3 with g | g <;> first | omega | exact ht g
          subst hzz
          clear HZ
          go_enter Tryd.func32, Tryd.ntmps32
          go_wp2_with fail
          all_goals (go_ret; exact ⟨rfl, by (repeat' (first | (with_reducible exact Below.refl _ _) | (with_reducible assumption) | (with_reducible refine Below.drew ?_) | (with_reducible refine below_drewN ?_ _) | ((with_reducible refine Below.alloc ?_ ?_ _); rotate_left; focus (go_size; done)) | ((with_reducible refine Below.setCell ?_ ?_ _); rotate_left; focus (go_size; done)) | ((with_reducible refine Below.trans ?_ (Below.mono (by with_reducible assumption) ?_)); rotate_left; focus (go_size; done))))⟩)
        subst ht
        by_cases hd : day = 0
        rotate_left
        · have d1 : (day == 0) = false := by rw [beq_eq_false_iff_ne]; exact hd
          have d2 : (day != 0) = true := by rw [bne_iff_ne]; exact hd
          have hzz : z = false := by
            cases z with
            | false => rfl
            | true => obtain ⟨g1, g2, g3, g4, g5, g6⟩ := HZ.out.1 rfl; exfalso; rcases g4 with g | g <;> first | omega | exact hd g
          subst hzz
          clear HZ
          go_enter Tryd.func32, Tryd.ntmps32
          go_wp2_with fail
          all_goals (go_ret; exact ⟨rfl, by (repeat' (first | (with_reducible exact Below.refl _ _) | (with_reducible assumption) | (with_reducible refine Below.drew ?_) | (with_reducible refine below_drewN ?_ _) | ((with_reducible refine Below.alloc ?_ ?_ _); rotate_left; focus (go_size; done)) | ((with_reducible refine Below.setCell ?_ ?_ _); rotate_left; focus (go_size; done)) | ((with_reducible refine Below.trans ?_ (Below.mono (by with_reducible assumption) ?_)); rotate_left; focus (go_size; done))))⟩)
        subst hd
        by_cases hl0 : ll = 0
        rotate_left
        · have l1 : ((ll : Int) == 0) = false := by rw [beq_eq_false_iff_ne]; omega
          have hzz : z = false := by
            cases z with
            | false => rfl
            | true => obtain ⟨g1, g2, g3, g4, g5, g6⟩ := HZ.out.1 rfl; exfalso; rcases g5 with g | g <;> omega
          subst hzz
          clear HZ
          go_enter Tryd.func32, Tryd.ntmps32
          go_wp2_with fail
          all_goals (go_ret; exact ⟨rfl, by (repeat' (first | (with_reducible exact Below.refl _ _) | (with_reducible assumption) | (with_reducible refine Below.drew ?_) | (with_reducible refine below_drewN ?_ _) | ((with_reducible refine Below.alloc ?_ ?_ _); rotate_left; focus (go_size; done)) | ((with_reducible refine Below.setCell ?_ ?_ _); rotate_left; focus (go_size; done)) | ((with_reducible refine Below.trans ?_ (Below.mono (by with_reducible assumption) ?_)); rotate_left; focus (go_size; done))))⟩)
        subst hl0
        by_cases hn0 : nl = 0
        rotate_left
        · have l1 : ((nl : Int) == 0) = false := by rw [beq_eq_false_iff_ne]; omega
          have l2 : (0 : Int) < (nl : Int) := by omega
          have hzz : z = false := by
            cases z with
            | false => rfl
            | true => obtain ⟨g1, g2, g3, g4, g5, g6⟩ := HZ.out.1 rfl; exfalso; rcases g6 with g | g <;> omega
          subst hzz
          clear HZ
          go_enter Tryd.func32, Tryd.ntmps32
          go_wp2_with fail
          all_goals (go_ret; exact ⟨rfl, by (repeat' (first | (with_reducible exact Below.refl _ _) | (with_reducible assumption) | (with_reducible refine Below.drew ?_) | (with_reducible refine below_drewN ?_ _) | ((with_reducible refine Below.alloc ?_ ?_ _); rotate_left; focus (go_size; done)) | ((with_reducible refine Below.setCell ?_ ?_ _); rotate_left; focus (go_size; done)) | ((with_reducible refine Below.trans ?_ (Below.mono (by with_reducible assumption) ?_)); rotate_left; focus (go_size; done))))⟩)
        subst hn0
        have hzz : z = true := by
          refine HZ.out.2 ⟨?_, ?_, ?_, ?_, ?_, ?_⟩ <;> first | (left; omega) | (right; first | rfl | assumption | omega)
        subst hzz
        clear HZ
        go_enter Tryd.func32, Tryd.ntmps32
        go_wp2_with fail
        all_goals (go_ret; exact ⟨rfl, by (repeat' (first | (with_reducible exact Below.refl _ _) | (with_reducible assumption) | (with_reducible refine Below.drew ?_) | (with_reducible refine below_drewN ?_ _) | ((with_reducible refine Below.alloc ?_ ?_ _); rotate_left; focus (go_size; done)) | ((with_reducible refine Below.setCell ?_ ?_ _); rotate_left; focus (go_size; done)) | ((with_reducible refine Below.trans ?_ (Below.mono (by with_reducible assumption) ?_)); rotate_left; focus (go_size; done))))⟩)
  · have tokc : (0 : Int) = 0 := rfl
    clear tokc
    have e1 : (kind == 1) = false := by rw [beq_eq_false_iff_ne]; omega
    have f1 : (kind != 1) = true := by rw [bne_iff_ne]; omega
    have e2 : (kind == 2) = false := by rw [beq_eq_false_iff_ne]; omega
    have f2 : (kind != 2) = true := by rw [bne_iff_ne]; omega
    have e3 : (kind == 3) = false := by rw [beq_eq_false_iff_ne]; omega
    have f3 : (kind != 3) = true := by rw [bne_iff_ne]; omega
    have e4 : (kind == 4) = false := by rw [beq_eq_false_iff_ne]; omega
    have f4 : (kind != 4) = true := by rw [bne_iff_ne]; omega
    have e5 : (kind == 5) = false := by rw [beq_eq_false_iff_ne]; omega
    have f5 : (kind != 5) = true := by rw [bne_iff_ne]; omega
    have e6 : (kind == 6) = false := by rw [beq_eq_false_iff_ne]; omega
    have f6 : (kind != 6) = true := by rw [bne_iff_ne]; omega
    have k5 : decide (5 ≤ kind) = true := decide_eq_true (by omega)
    cases yes with
    | true =>
      have hzz : z = false := by
        cases z with
        | false => rfl
        | true => obtain ⟨g1, g2, g3, g4, g5, g6⟩ := HZ.out.1 rfl; exfalso; rcases g1 with g | g <;> first | omega | exact Bool.noConfusion g
      subst hzz
      clear HZ
      go_enter Tryd.func32, Tryd.ntmps32
      go_wp2_with fail
      all_goals (go_ret; exact ⟨rfl, by (repeat' (first | (with_reducible exact Below.refl _ _) | (with_reducible assumption) | (with_reducible refine Below.drew ?_) | (with_reducible refine below_drewN ?_ _) | ((with_reducible refine Below.alloc ?_ ?_ _); rotate_left; focus (go_size; done)) | ((with_reducible refine Below.setCell ?_ ?_ _); rotate_left; focus (go_size; done)) | ((with_reducible refine Below.trans ?_ (Below.mono (by with_reducible assumption) ?_)); rotate_left; focus (go_size; done))))⟩)
    | false =>
      cases zb with
      | false =>
        have hzz : z = false := by
          cases z with
          | false => rfl
          | true => obtain ⟨g1, g2, g3, g4, g5, g6⟩ := HZ.out.1 rfl; exfalso; rcases g2 with g | g <;> first | omega | exact Bool.noConfusion g
        subst hzz
        clear HZ
        go_enter Tryd.func32, Tryd.ntmps32
        go_wp2_with fail
        all_goals (go_ret; exact ⟨rfl, by (repeat' (first | (with_reducible exact Below.refl _ _) | (with_reducible assumption) | (with_reducible refine Below.drew ?_) | (with_reducible refine below_drewN ?_ _) | ((with_reducible refine Below.alloc ?_ ?_ _); rotate_left; focus (go_size; done)) | ((with_reducible refine Below.setCell ?_ ?_ _); rotate_left; focus (go_size; done)) | ((with_reducible refine Below.trans ?_ (Below.mono (by with_reducible assumption) ?_)); rotate_left; focus (go_size; done))))⟩)
      | true =>
        by_cases ht : text = []
        rotate_left
        · have t1 : text.isEmpty = false := by simpa using ht
          have hzz : z = false := by
            cases z with
            | false => rfl
            | true => obtain ⟨g1, g2, g3, g4, g5, g6⟩ := HZ.out.1 rfl; exfalso; rcases g3 with g | g <;> first | omega | exact ht g
          subst hzz
          clear HZ
          go_enter Tryd.func32, Tryd.ntmps32
          go_wp2_with fail
          all_goals (go_ret; exact ⟨rfl, by (repeat' (first | (with_reducible exact Below.refl _ _) | (with_reducible assumption) | (with_reducible refine Below.drew ?_) | (with_reducible refine below_drewN ?_ _) | ((with_reducible refine Below.alloc ?_ ?_ _); rotate_left; focus (go_size; done)) | ((with_reducible refine Below.setCell ?_ ?_ _); rotate_left; focus (go_size; done)) | ((with_reducible refine Below.trans ?_ (Below.mono (by with_reducible assumption) ?_)); rotate_left; focus (go_size; done))))⟩)
        subst ht
        by_cases hd : day = 0
        rotate_left
        · have d1 : (day == 0) = false := by rw [beq_eq_false_iff_ne]; exact hd
          have d2 : (day != 0) = true := by rw [bne_iff_ne]; exact hd
          have hzz : z = false := by
            cases z with
            | false => rfl
            | true => obtain ⟨g1, g2, g3, g4, g5, g6⟩ := HZ.out.1 rfl; exfalso; rcases g4 with g | g <;> first | omega | exact hd g
          subst hzz
          clear HZ
          go_enter Tryd.func32, Tryd.ntmps32
          go_wp2_with fail
          all_goals (go_ret; exact ⟨rfl, by (repeat' (first | (with_reducible exact Below.refl _ _) | (with_reducible assumption) | (with_reducible refine Below.drew ?_) | (with_reducible refine below_drewN ?_ _) | ((with_reducible refine Below.alloc ?_ ?_ _); rotate_left; focus (go_size; done)) | ((with_reducible refine Below.setCell ?_ ?_ _); rotate_left; focus (go_size; done)) | ((with_reducible refine Below.trans ?_ (Below.mono (by with_reducible assumption) ?_)); rotate_left; focus (go_size; done))))⟩)
        subst hd
        by_cases hn0 : nl = 0
        rotate_left
        · have l1 : ((nl : Int) == 0) = false := by rw [beq_eq_false_iff_ne]; omega
          have l2 : (0 : Int) < (nl : Int) := by omega
          have hzz : z = false := by
            cases z with
            | false => rfl
            | true => obtain ⟨g1, g2, g3, g4, g5, g6⟩ := HZ.out.1 rfl; exfalso; rcases g6 with g | g <;> omega
          subst hzz
          clear HZ
          go_enter Tryd.func32, Tryd.ntmps32
          go_wp2_with fail
          all_goals (go_ret; exact ⟨rfl, by (repeat' (first | (with_reducible exact Below.refl _ _) | (with_reducible assumption) | (with_reducible refine Below.drew ?_) | (with_reducible refine below_drewN ?_ _) | ((with_reducible refine Below.alloc ?_ ?_ _); rotate_left; focus (go_size; done)) | ((with_reducible refine Below.setCell ?_ ?_ _); rotate_left; focus (go_size; done)) | ((with_reducible refine Below.trans ?_ (Below.mono (by with_reducible assumption) ?_)); rotate_left; focus (go_size; done))))⟩)
        subst hn0
        have hzz : z = true := by
          refine HZ.out.2 ⟨?_, ?_, ?_, ?_, ?_, ?_⟩ <;> first | (left; omega) | (right; first | rfl | assumption | omega)
        subst hzz
        clear HZ
        go_enter Tryd.func32, Tryd.ntmps32
        go_wp2_with fail
        all_goals (go_ret; exact ⟨rfl, by (repeat' (first | (with_reducible exact Below.refl _ _) | (with_reducible assumption) | (with_reducible refine Below.drew ?_) | (with_reducible refine below_drewN ?_ _) | ((with_reducible refine Below.alloc ?_ ?_ _); rotate_left; focus (go_size; done)) | ((with_reducible refine Below.setCell ?_ ?_ _); rotate_left; focus (go_size; done)) | ((with_reducible refine Below.trans ?_ (Below.mono (by with_reducible assumption) ?_)); rotate_left; focus (go_size; done))))⟩)
end Go.Proofs.YtanjbdhjnmmfdaaDoor

set_option linter.unusedSimpArgs false
set_option linter.unusedVariables false
namespace Go.Proofs.YtanjbdhjnmmfdaaDoor
open Go.RowKit

/-- from address A on lie, in a block of ints, the numbers xs (nothing is said where there are none) -/
def Sl (w : World) (A : Option Addr) (xs : List Int) : Prop :=
  xs ≠ [] → ∃ g o cs, A = some ⟨g, o, none⟩ ∧ Bk w g 3 cs ∧ ∀ j, j < xs.length → cs[o + j]? = some (.int .i64 (xs.getD j 0))
def IsSl (w : World) (v : Value) (xs : List Int) : Prop := ∃ A c, v = .slice A xs.length c ∧ xs.length ≤ c ∧ Sl w A xs
/-- v holds the digits of n, the least first -/
def Dg (w : World) (v : Value) (n : Nat) : Prop := ∃ xs, IsSl w v xs ∧ IsDg xs n
def RetDg (n : Nat) (w : World) (e : Ending) (w' : World) : Prop := ∃ v, e = .returned v ∧ Dg w' v n ∧ Below w.heap.size w w'

section
variable {w w' : World} {A : Option Addr} {xs : List Int} {v : Value} {n B : Nat}
theorem Sl.below (h : Sl w A xs) (hb : Below w.heap.size w w') : Sl w' A xs := fun hne => by
  obtain ⟨g, o, cs, e, hg, hc⟩ := h hne
  exact ⟨g, o, cs, e, hg.below hb hg.lt, hc⟩
theorem Sl.far (h : Sl w A xs) {b : Nat} {T : TypeId} {ds : List Value} (hb : Bk w b T ds) (hT : 3 ≠ T) (i : Nat) (u : Value) : Sl (w.setCell ⟨b, i, none⟩ u) A xs := fun hne => by
  obtain ⟨g, o, cs, e, hg, hc⟩ := h hne
  refine ⟨g, o, cs, e, hg.far ?_ u, hc⟩
  rintro rfl
  unfold Bk at hg hb
  rw [hg] at hb
  injection hb with hb
  injection hb with _ ht
  exact hT ht
theorem IsSl.below (h : IsSl w v xs) (hb : Below w.heap.size w w') : IsSl w' v xs := by
  obtain ⟨A, c, e, hc, hs⟩ := h
  exact ⟨A, c, e, hc, hs.below hb⟩
theorem Dg.below (h : Dg w v n) (hb : Below w.heap.size w w') : Dg w' v n := by
  obtain ⟨xs, hs, hd⟩ := h
  exact ⟨xs, hs.below hb, hd⟩
theorem Dg.far (h : Dg w v n) {b : Nat} {T : TypeId} {ds : List Value} (hb : Bk w b T ds) (hT : 3 ≠ T) (i : Nat) (u : Value) : Dg (w.setCell ⟨b, i, none⟩ u) v n := by
  obtain ⟨xs, ⟨A, c, e, hc, hs⟩, hd⟩ := h
  exact ⟨xs, ⟨A, c, e, hc, hs.far hb hT i u⟩, hd⟩
theorem Dg.drew (h : Dg w v n) : Dg w.drew v n := h
theorem Dg.drewN (h : Dg w v n) (k : Nat) : Dg (w.drewN k) v n := h
theorem Sl.take (h : Sl w A xs) (k : Nat) : Sl w A (xs.take k) := fun hne => by
  have hx : xs ≠ [] := fun e => hne (by rw [e]; simp)
  obtain ⟨g, o, cs, e, hg, hc⟩ := h hx
  refine ⟨g, o, cs, e, hg, fun j hj => ?_⟩
  rw [List.length_take] at hj
  rw [hc j (by omega), List.getD_eq_getElem?_getD, List.getD_eq_getElem?_getD, List.getElem?_take_of_lt (by omega)]
/-- the cell at a place -/
theorem Sl.at_ (h : Sl w A xs) {k : Nat} (hk : k < xs.length) : ∃ g o, A = some ⟨g, o, none⟩ ∧ g < w.heap.size ∧ w.cell? ⟨g, o + k, none⟩ = some (.int .i64 (xs.getD k 0)) := by
  obtain ⟨g, o, cs, e, hg, hc⟩ := h (by intro e; subst e; simp at hk)
  exact ⟨g, o, e, hg.lt, hg.cell _ (hc k hk)⟩
/-- a row of the call's own, read as a list of ints -/
theorem IsSl.of_own {base : Nat} (h : w.ownsRow base 3 1 v xs.length (xs.map (Value.int .i64))) : IsSl w v xs := by
  rcases h.2 with ⟨rfl, hn⟩ | ⟨g, cap, cur, rfl, hg, hh, r1, r2, r3, r4⟩
  · have : xs = [] := List.length_eq_zero_iff.1 hn
    subst this
    exact ⟨none, 0, rfl, Nat.le_refl _, fun hne => absurd rfl hne⟩
  · refine ⟨some ⟨g, 0, none⟩, cap, rfl, r1, fun hne => ⟨g, 0, cur.toList, rfl, by unfold Bk; simpa using hh, fun j hj => ?_⟩⟩
    have hu : (xs.map (Value.int .i64))[j]? = some (.int .i64 (xs.getD j 0)) := by
      rw [List.getElem?_map, List.getElem?_eq_getElem hj, getD_lt _ _ hj]; rfl
    rw [← r4, List.getElem?_take_of_lt (by omega)] at hu
    rw [Nat.zero_add]; exact hu
end

/-- where it has an address, it lies from block B on -/
def New (B : Nat) (v : Value) : Prop := ∀ g o p n c, v = .slice (some ⟨g, o, p⟩) n c → B ≤ g
theorem New.mono {B C : Nat} {v : Value} (h : New C v) (hb : B ≤ C) : New B v := fun g o p n c e => Nat.le_trans hb (h g o p n c e)
theorem New.nil (B n c : Nat) : New B (.slice none n c) := by intro g o p n c e; cases e
theorem New.same {B : Nat} {A : Option Addr} {n c : Nat} (h : New B (.slice A n c)) (k d : Nat) : New B (.slice A k d) := by
  intro g o p n' c' e; injection e with e1 e2 e3; subst e1; exact h g o p n c rfl
theorem New.at_ {B g : Nat} (h : B ≤ g) (o : Nat) (p : Option Nat) (n c : Nat) : New B (.slice (some ⟨g, o, p⟩) n c) := by
  intro g' o' p' n' c' e; injection e with e1 e2 e3; injection e1 with e1; injection e1 with e1; subst e1; exact h
theorem New.own {w : World} {B : Nat} {E : TypeId} {v : Value} {n : Nat} {xs : List Value} (h : w.ownsRow B E 1 v n xs) : New B v := by
  rcases h.2 with ⟨rfl, _⟩ | ⟨g, cap, cur, rfl, hg, _⟩
  · exact New.nil _ _ _
  · exact New.at_ hg _ _ _ _
theorem Dg.away {w : World} {v : Value} {n B b : Nat} (h : Dg w v n) (hn : New B v) (hb : b < B) (i : Nat) (u : Value) : Dg (w.setCell ⟨b, i, none⟩ u) v n := by
  obtain ⟨xs, ⟨A, c, e, hc, hs⟩, hd⟩ := h
  refine ⟨xs, ⟨A, c, e, hc, fun hne => ?_⟩, hd⟩
  obtain ⟨g, o, cs, e2, hg, hc2⟩ := hs hne
  have := hn g o none xs.length c (by rw [e, e2])
  exact ⟨g, o, cs, e2, hg.far (by show g ≠ b; omega) u, hc2⟩
/-- a block of ints, read as a list -/
theorem IsSl.of_bk {w : World} {g : Nat} {ds : List Int} {n c : Nat} (h : Bk w g 3 (ds.map (Value.int .i64))) (hn : ds.length = n) (hc : n ≤ c) : IsSl w (.slice (some ⟨g, 0, none⟩) n c) ds := by
  subst hn
  refine ⟨_, c, rfl, hc, fun hne => ⟨g, 0, _, rfl, h, fun j hj => ?_⟩⟩
  rw [Nat.zero_add, List.getElem?_map, List.getElem?_eq_getElem hj, getD_lt _ _ hj]; rfl
/-- a new row of noughts -/
def zrow (n : Nat) : List Value := (List.replicate n (0 : Int)).map (Value.int .i64)
theorem zrow_made (n : Nat) : madeCells #[.int .i64 0] n = (zrow n).toArray := by
  apply Array.ext
  · simp [madeCells, zrow]
  · intro i h1 h2
    simp [madeCells, zrow, Nat.mod_one]
theorem info_int : (Tryd.prog.info? 3).map (fun i => (i.zero, i.size, i.bytes)) = some (some (.int .i64 0), 1, 8) := by kernel_rfl
/-- one int is appended to a row of the call's own -/
theorem wpList_push {w : World} {ops : Array Oper} {rest : List Oper} {o : Oper} {a : Act} {Q : Exit → Act → World → Prop} (hgd : o.guard = none) (s x : Operand)
    (ho : o.op = .call { callee := .builtin .append, args := #[s, x], argTypes := #[66, 66] })
    (base : Nat) (v : Value) (ds : List Int) (hs : a.eval s = v) (hown : w.ownsRow base 3 1 v ds.length (ds.map (Value.int .i64)))
    (b : Nat) (d : Int) (hx : a.eval x = .slice (some ⟨b, 0, none⟩) 1 1) (hd : w.cell? ⟨b, 0, none⟩ = some (.int .i64 d)) (hlen : ds.length ≤ 2000000) (hbase : base ≤ w.heap.size)
    (h : ∀ v' w', w'.ownsRow base 3 1 v' (ds ++ [d]).length ((ds ++ [d]).map (Value.int .i64)) → w.grownBy w' v.ownBlock → wpList Tryd.prog ops Q rest (a.put o.dst v') w') : wpList Tryd.prog ops Q (o :: rest) a w := by
  obtain ⟨i0, hi0, hz0, hz1, hz2⟩ := info_parts info_int
  refine wpList_append_own w hgd s x 66 ho base 3 i0 (.int .i64 0) 1 8 Tryd.underlying66 hi0 hz0 hz1 hz2 rfl (by decide) v ds.length _ hs hown ⟨b, 0, none⟩ 1 1 [.int .i64 d] hx rfl ?_ ?_ (by unfold maxLen; omega) (by omega) hbase ?_
  · intro j u hj
    match j with
    | 0 => simp at hj; subst hj; exact hd
    | j + 1 => simp at hj
  · intro u hu
    rw [List.mem_singleton.1 hu]; rfl
  · intro v' w' h1 h2 _
    refine h v' w' ?_ h2
    rw [List.length_append, List.map_append]
    exact h1
theorem run_append_nil (w : World) (base : Nat) (i : TypeInfo) (hi : Tryd.prog.info? 3 = some i) (ty : TypeId)
    (v : Value) (n : Nat) (xs : List Value) (hown : w.ownsRow base 3 1 v n xs) (c : Nat) : (Builtin.append_ #[66, 66] ty #[v, .slice none 0 c]).run Tryd.prog w = .ok v w := by
  rcases hown.2 with ⟨rfl, rfl⟩ | ⟨g, cap, cur, rfl, _, _, hnc, _⟩
  · simp [Builtin.append_, run_underlying Tryd.underlying66, sizeOf, typeInfo, hi, Builtin.lenOf, Builtin.firstCells]
  · simp [Builtin.append_, run_underlying Tryd.underlying66, sizeOf, typeInfo, hi, Builtin.lenOf, Builtin.firstCells, hnc, storeCells]
set_option maxRecDepth 100000 in
/-- a list of ints is appended to a row of the call's own -/
theorem wpList_join {w : World} {ops : Array Oper} {rest : List Oper} {o : Oper} {a : Act} {Q : Exit → Act → World → Prop} (hgd : o.guard = none) (s x : Operand)
    (ho : o.op = .call { callee := .builtin .append, args := #[s, x], argTypes := #[66, 66] })
    (base : Nat) (v : Value) (ds : List Int) (hs : a.eval s = v) (hown : w.ownsRow base 3 1 v ds.length (ds.map (Value.int .i64)))
    (A : Option Addr) (c : Nat) (ys : List Int) (hx : a.eval x = .slice A ys.length c) (hd : Sl w A ys) (hlen : ds.length + ys.length ≤ 1000000) (hbase : base ≤ w.heap.size)
    (h : ∀ v' w', w'.ownsRow base 3 1 v' (ds ++ ys).length ((ds ++ ys).map (Value.int .i64)) → w.grownBy w' v.ownBlock → wpList Tryd.prog ops Q rest (a.put o.dst v') w') : wpList Tryd.prog ops Q (o :: rest) a w := by
  obtain ⟨i0, hi0, hz0, hz1, hz2⟩ := info_parts info_int
  rcases A with _ | ad
  · have hy : ys = [] := by
      by_cases hne : ys = []
      · exact hne
      · obtain ⟨g, o, cs, e, _⟩ := hd hne
        cases e
    subst hy
    refine wpList_plain hgd fun K hK => ?_
    have hrun := run_append_nil w base i0 hi0 o.type v ds.length _ hown c
    unfold Oper.wp execOp
    simp only [ho, resolve, invoke, builtin, Sem.run_bind, Sem.run_pure, Result.andThen_ok, List.map_toArray, List.map_cons, List.map_nil, hs, hx, List.length_nil, hrun]
    exact hK _ _ (h v w (by rw [List.append_nil]; exact hown) (World.grownBy.refl w _))
  · refine wpList_append_own w hgd s x 66 ho base 3 i0 (.int .i64 0) 1 8 Tryd.underlying66 hi0 hz0 hz1 hz2 rfl (by decide) v ds.length _ hs hown ad ys.length c (ys.map (Value.int .i64)) hx (by simp) ?_ ?_ (by unfold maxLen; omega) (by omega) hbase ?_
    · intro j u hj
      rw [List.getElem?_map] at hj
      by_cases hjl : j < ys.length
      · obtain ⟨g, o', e, _, hc⟩ := hd.at_ hjl
        injection e with e
        subst e
        rw [List.getElem?_eq_getElem hjl, ← getD_lt _ _ hjl] at hj
        simp only [Option.map_some, Option.some.injEq] at hj
        subst hj
        rw [← hc]
        congr 1
        unfold Addr.add
        split
        · subst_vars; rfl
        · rfl
      · rw [List.getElem?_eq_none (by omega)] at hj
        cases hj
    · intro u hu
      obtain ⟨x, _, rfl⟩ := List.mem_map.1 hu
      rfl
    · intro v' w' h1 h2 _
      refine h v' w' ?_ h2
      rw [List.length_append, List.map_append]
      exact h1
theorem make_ints (n : Nat) (hn : n ≤ 1000000) (W : World) : (Instr.makeSlice 66 (.int .i64 (n : Int)) (.int .i64 (n : Int))).run Tryd.prog W = .ok (.slice (some ⟨W.heap.size, 0, none⟩) n n) (W.alloc (.cells (zrow n).toArray 3)) := by
  rw [← zrow_made]
  exact run_make_row' 66 3 (.int .i64 0) 8 Tryd.underlying66 info_int rfl .i64 .i64 n (by omega) (by omega) W
theorem below_push {a w w' : World} {B : Nat} {E : TypeId} {v : Value} {n : Nat} {xs : List Value} (h : Below B a w) (hown : w.ownsRow B E 1 v n xs) (hg : w.grownBy w' v.ownBlock) (hB : B ≤ w.heap.size) : Below B a w' :=
  h.grown hg hB fun k hk => (hown.lt k hk).1
end Go.Proofs.YtanjbdhjnmmfdaaDoor

set_option linter.unusedSimpArgs false
set_option linter.unusedVariables false
namespace Go.Proofs.YtanjbdhjnmmfdaaDoor
open Go.RowKit

/-- the answer lies where the argument lay -/
def RetCut (A : Option Addr) (n : Nat) (w : World) (e : Ending) (w' : World) : Prop := ∃ k c, e = .returned (.slice A k c) ∧ Dg w' (.slice A k c) n ∧ Below w.heap.size w w'
theorem pow_big {n : Nat} (h : Small n) {l : List Int} (hl : IsDg l n) : l.length ≤ 1000 := hl.len_le (h trivial)
set_option maxHeartbeats 1000000 in
theorem twice_any (N : Nat) (b0 : Int) (hb0 : 0 ≤ b0) (hb1 : b0 ≤ 1) (v : Value) (w : World) (hv : Dg w v N) (hN : Small N) :
    Calls Tryd.prog 69 #[v, .int .i64 b0] w (RetDg (2 * N + b0.toNat) w) := by
  obtain ⟨xs, ⟨A, c, rfl, hc, hs⟩, hd⟩ := hv
  have hlen := pow_big hN hd
  have HD := Lib.hid hd
  have HS := Lib.hid hs
  clear hd hs hN
  go_enter Tryd.func69, Tryd.ntmps69
  go_wp2_with fail
  go_loopg [1, 5, 6] xs.length (fun k b out i wr => ∃ (n : Nat) (bb : Int) (ds : List Int), k + n = xs.length ∧ i = .int .i64 n ∧ b = .int .i64 bb ∧ 0 ≤ bb ∧ bb ≤ 1 ∧
    wr.ownsRow w.heap.size 3 1 out ds.length (ds.map (Value.int .i64)) ∧ ds.length = n ∧ Digs ds ∧ dval ds + 10 ^ n * bb = 2 * dval (xs.take n) + b0 ∧ Below w.heap.size w wr)
  case atStart =>
    exact ⟨0, b0, [], by omega, rfl, rfl, hb0, hb1, World.ownsRow_nil _ _ _ _, rfl, Digs.nil, by simp [dval], Below.refl _ _⟩
  case round =>
    obtain ⟨n, bb, ds, hk, rfl, rfl, hbb0, hbb1, hown, hdl, hdd, hval, hbel⟩ := hrel
    have HK := Lib.hid hk
    have HL := Lib.hid hdl
    have HDD := Lib.hid hdd
    have HV := Lib.hid hval
    have hn : n ≤ xs.length := by omega
    have hwr := hbel.size
    clear hk hdl hdd hval
    by_cases hlt : n < xs.length
    · obtain ⟨g, o, rfl, hg, hcell⟩ := HS.out.at_ hlt
      have hx := HD.out.get n
      have hcell2 := (hbel.cell (p := ⟨g, o + n, none⟩) hg).trans hcell
      obtain ⟨d, hd⟩ : ∃ d, d = xs.getD n 0 := ⟨_, rfl⟩
      rw [← hd] at hcell2 hx
      obtain ⟨hx0, hx9⟩ := hx
      have HE := Lib.hid hd
      clear hd hcell
      go_wp2_with (at_builtin; refine wpList_push rfl (.tmp 21) (.tmp 24) rfl w.heap.size u5 ds rfl (hown.alloc _) wr.heap.size ((2 * d + bb) % 10) rfl ?hc ?hl ?hb ?_; rotate_left 3; intro v1 w1 hown1 hg1)
      case hc => simp [go_sem]
      case hl => have := HL.out; omega
      case hb => go_size
      go_roundg (gk - 1)
      case measure => have := HK.out; omega
      case rel =>
        refine ⟨n + 1, (2 * d + bb) / 10, ds ++ [(2 * d + bb) % 10], by have := HK.out; omega, by go_num, rfl, by omega, by omega, hown1, by rw [List.length_append, HL.out]; rfl, HDD.out.snoc (by omega) (by omega), ?_, below_push (hbel.alloc (by go_size) _) (hown.alloc _) hg1 (by go_size)⟩
        rw [dval_snoc, HL.out, dval_take_succ xs n hlt, ← HE.out, Int.pow_succ]
        have e1 := carry_step (10 ^ n) (2 * d + bb)
        have e2 : (10 : Int) ^ n * (2 * d + bb) = 2 * (10 ^ n * d) + 10 ^ n * bb := by rw [Int.mul_add, Int.mul_left_comm]
        have e3 := HV.out
        omega
    · obtain rfl : n = xs.length := by omega
      have hbz : bb = 0 ∨ bb = 1 := by omega
      have hv : dval ds + 10 ^ ds.length * bb = 2 * N + b0.toNat := by
        have := HV.out
        rw [List.take_length, HD.out.2.2, ← HL.out] at this
        omega
      have HW := Lib.hid hv
      clear hv
      rcases hbz with rfl | rfl
      · go_wp2_with fail
        go_ret
        refine ⟨u5, rfl, ⟨ds, IsSl.of_own hown, HDD.out, ?_, ?_⟩, hbel⟩
        · refine top_of_val HDD.out ?_
          by_cases hne : xs = []
          · left
            have := HL.out
            subst hne
            exact List.length_eq_zero_iff.1 this
          · right
            have h1 := HD.out.le_of_ne hne
            have h2 := HW.out
            rw [Int.mul_zero, Int.add_zero] at h2
            rw [HL.out, h2]
            have h3 : ((10 ^ (xs.length - 1) : Nat) : Int) ≤ (N : Int) := by exact_mod_cast h1
            rw [Int.natCast_pow] at h3
            have h4 : ((10 : Nat) : Int) = 10 := rfl
            rw [h4] at h3
            omega
        · have h2 := HW.out
          rw [Int.mul_zero, Int.add_zero] at h2
          rw [h2]; omega
      · go_wp2_with (at_builtin; refine wpList_push rfl (.tmp 30) (.tmp 32) rfl w.heap.size u5 ds rfl (hown.alloc _) wr.heap.size 1 rfl ?hc ?hl ?hb ?_; rotate_left 3; intro v1 w1 hown1 hg1)
        case hc => simp [go_sem]
        case hl => have := HL.out; omega
        case hb => go_size
        go_ret
        have h2 := HW.out
        have h0 := (dval_bd HDD.out).1
        refine ⟨v1, rfl, ⟨ds ++ [1], IsSl.of_own hown1, HDD.out.snoc (by decide) (by decide), ?_, ?_⟩, below_push (hbel.alloc (by go_size) _) (hown.alloc _) hg1 (by go_size)⟩
        · simp [Top]
        · rw [dval_snoc, h2]; omega
end Go.Proofs.YtanjbdhjnmmfdaaDoor

set_option linter.unusedSimpArgs false
set_option linter.unusedVariables false
namespace Go.Proofs.YtanjbdhjnmmfdaaDoor
open Go.RowKit

def RetHalf (n : Nat) (w : World) (e : Ending) (w' : World) : Prop := ∃ v, e = .returned (.tuple #[v, .int .i64 ((n % 2 : Nat) : Int)]) ∧ Dg w' v (n / 2) ∧ Below w.heap.size w w'
end Go.Proofs.YtanjbdhjnmmfdaaDoor

set_option linter.unusedSimpArgs false
set_option linter.unusedVariables false
namespace Go.Proofs.YtanjbdhjnmmfdaaDoor
open Go.RowKit

theorem bit_step (n m j : Nat) (hj : j < 64) : 2 * (n / 2 ^ (64 * m + (j + 1))) + (n / 2 ^ (64 * m) % 2 ^ 64 / 2 ^ j % 2) = n / 2 ^ (64 * m + j) := by
  have e1 : 2 ^ 64 = 2 ^ j * 2 ^ (64 - j) := by rw [← Nat.pow_add]; congr 1; omega
  have e2 : n / 2 ^ (64 * m) % 2 ^ 64 / 2 ^ j % 2 = n / 2 ^ (64 * m + j) % 2 := by
    rw [e1, Nat.mod_mul_right_div_self, Nat.div_div_eq_div_mul, ← Nat.pow_add]
    have hd : 2 ^ 1 ∣ 2 ^ (64 - j) := Nat.pow_dvd_pow 2 (by omega)
    exact Nat.mod_mod_of_dvd _ hd
  rw [e2, ← Nat.add_assoc, Nat.pow_succ, ← Nat.div_div_eq_div_mul]
  omega
theorem pow_le_gen (a b : Nat) (h : a ≤ b) : 2 ^ a ≤ 10 ^ b := Nat.le_trans (Nat.pow_le_pow_left (by decide) a) (Nat.pow_le_pow_right (by decide) h)
theorem lt_ten_1000 {n : Nat} (h : n < 2 ^ 256) : Small n := fun _ => Nat.lt_of_lt_of_le h (pow_le_gen 256 1000 (by decide))
theorem div_lt_1000 {n : Nat} (h : n < 2 ^ 256) (d : Nat) : Small (n / d) := lt_ten_1000 (Nat.lt_of_le_of_lt (Nat.div_le_self _ _) h)

theorem bit_val (n m j : Nat) : wrap64 (bits .and .u64 (wd n m / 2 ^ j) 1) = ((n / 2 ^ (64 * m) % 2 ^ 64 / 2 ^ j % 2 : Nat) : Int) := by
  unfold wd
  have hx : n / 2 ^ (64 * m) % 2 ^ 64 < 18446744073709551616 := Nat.mod_lt _ (by decide)
  generalize n / 2 ^ (64 * m) % 2 ^ 64 = x at *
  have e : ((x : Nat) : Int) / 2 ^ j = ((x / 2 ^ j : Nat) : Int) := by
    rw [Int.natCast_ediv, Int.natCast_pow]; rfl
  have hy : x / 2 ^ j ≤ x := Nat.div_le_self _ _
  rw [e]
  generalize x / 2 ^ j = y at *
  have h := bits_and_u64_nat y 1 (by omega) (by decide)
  rw [Nat.and_one_is_mod] at h
  have e1 : ((1 : Nat) : Int) = 1 := rfl
  rw [e1] at h
  rw [h]
  exact IntWalk.wrap64_in _ (by omega)

set_option maxHeartbeats 1000000 in
theorem words_any (n b L c : Nat) (w : World) (hn : n < 2 ^ 256) (hL : n < 2 ^ (64 * L)) (hL4 : L ≤ 4) (hb : b < w.heap.size) (hc : L ≤ c) (hw : ∀ i, i < L → w.cell? ⟨b, i, none⟩ = some (.int .u64 (wd n i))) :
    Calls Tryd.prog 60 #[.slice (some ⟨b, 0, none⟩) L c] w (RetDg n w) := by
  have HW := Lib.hid hw
  have HN := Lib.hid hn
  have HL := Lib.hid hL
  clear hw hn hL
  go_enter Tryd.func60, Tryd.ntmps60
  go_wp2_with fail
  go_loopg [3, 4] L (fun k v i wr => k ≤ L ∧ i = .int .i64 ((k : Int) - 1) ∧ Dg wr v (n / 2 ^ (64 * k)) ∧ Below w.heap.size w wr)
  case atStart =>
    refine ⟨Nat.le_refl _, rfl, ⟨[], ⟨none, 0, rfl, Nat.le_refl _, fun h => absurd rfl h⟩, ?_⟩, by (repeat' (first | (with_reducible exact Below.refl _ _) | (with_reducible assumption) | (with_reducible refine Below.drew ?_) | (with_reducible refine below_drewN ?_ _) | ((with_reducible refine Below.alloc ?_ ?_ _); rotate_left; focus (go_size; done)) | ((with_reducible refine Below.setCell ?_ ?_ _); rotate_left; focus (go_size; done)) | ((with_reducible refine Below.trans ?_ (Below.mono (by with_reducible assumption) ?_)); rotate_left; focus (go_size; done))))⟩
    rw [Nat.div_eq_of_lt HL.out]
    exact IsDg.nil
  case round =>
    obtain ⟨hk, rfl, hdg, hbel⟩ := hrel
    have HD := Lib.hid hdg
    clear hdg
    by_cases h0 : gk = 0
    · subst h0
      have hm : ¬ (0 : Int) ≤ ((0 : Nat) : Int) - 1 := by omega
      go_wp2_with fail
      go_ret
      refine ⟨u3, rfl, ?_, hbel⟩
      have := HD.out
      rwa [Nat.mul_zero, Nat.pow_zero, Nat.div_one] at this
    · obtain ⟨m, rfl⟩ : ∃ m, gk = m + 1 := ⟨gk - 1, by omega⟩
      have hp : (0 : Int) < ((m + 1 : Nat) : Int) := by omega
      have hx : ((m + 1 : Nat) : Int) - 1 = (m : Int) := by omega
      have hcw := HW.out m (by omega)
      clear h0
      go_wp2_with fail
      simp only [hx]
      clear hx hp
      obtain ⟨wo, rfl⟩ : ∃ wo : World, wo = wr := ⟨_, rfl⟩
      go_loopg [3, 5] 64 (fun k v i wr => k ≤ 64 ∧ i = .int .i64 ((k : Int) - 1) ∧ Dg wr v (n / 2 ^ (64 * m + k)) ∧ Below w.heap.size w wr)
      case atStart =>
        refine ⟨by decide, rfl, ?_, hbel⟩
        have := HD.out
        rwa [Nat.mul_add] at this
      case round =>
        obtain ⟨hk2, rfl, hdg2, hbel2⟩ := hrel
        have HD2 := Lib.hid hdg2
        clear hdg2
        by_cases h0 : gk = 0
        · subst h0
          have hm : ¬ (0 : Int) ≤ ((0 : Nat) : Int) - 1 := by omega
          go_wp2_with fail
          go_roundg m
          case measure => omega
          case rel =>
            refine ⟨by omega, rfl, ?_, hbel2⟩
            have := HD2.out
            rwa [Nat.add_zero] at this
        · obtain ⟨j, rfl⟩ : ∃ j, gk = j + 1 := ⟨gk - 1, by omega⟩
          have hp2 : (0 : Int) < ((j + 1 : Nat) : Int) := by omega
          have hx2 : ((j + 1 : Nat) : Int) - 1 = (j : Int) := by omega
          have hcw2 := (hbel2.cell (p := ⟨b, m, none⟩) hb).trans hcw
          go_wp2_with fail
          have hbv := bit_val n m j
          have hb2 : n / 2 ^ (64 * m) % 2 ^ 64 / 2 ^ j % 2 < 2 := Nat.mod_lt _ (by decide)
          have hst := bit_step n m j (by omega)
          obtain ⟨t, ht⟩ : ∃ t, t = n / 2 ^ (64 * m) % 2 ^ 64 / 2 ^ j % 2 := ⟨_, rfl⟩
          rw [← ht] at hbv hb2 hst
          rw [hbv]
          have HS := Lib.hid hst
          clear hbv hst ht
          refine (twice_any (n / 2 ^ (64 * m + (j + 1))) (t : Int) (by omega) (by omega) u3 _ HD2.out (div_lt_1000 HN.out _)).mono ?_
          rintro _ w2 ⟨v2, rfl, hdg3, hb3⟩
          have hb3s := hb3.size
          have hb2s := hbel2.size
          rw [Int.toNat_natCast, HS.out] at hdg3
          have HD3 := Lib.hid hdg3
          clear hdg3
          go_wp2_with fail
          go_roundg j
          case measure => omega
          case rel => exact ⟨by omega, rfl, HD3.out, by (repeat' (first | (with_reducible exact Below.refl _ _) | (with_reducible assumption) | (with_reducible refine Below.drew ?_) | (with_reducible refine below_drewN ?_ _) | ((with_reducible refine Below.alloc ?_ ?_ _); rotate_left; focus (go_size; done)) | ((with_reducible refine Below.setCell ?_ ?_ _); rotate_left; focus (go_size; done)) | ((with_reducible refine Below.trans ?_ (Below.mono (by with_reducible assumption) ?_)); rotate_left; focus (go_size; done))))⟩
end Go.Proofs.YtanjbdhjnmmfdaaDoor

set_option linter.unusedSimpArgs false
set_option linter.unusedVariables false
namespace Go.Proofs.YtanjbdhjnmmfdaaDoor
open Go.RowKit

set_option maxHeartbeats 1000000 in
theorem of_any (n : Nat) (hn : n < 2 ^ 128) (w : World) : Calls Tryd.prog 43 #[.agg #[.int .u64 (wd n 1), .int .u64 (wd n 0)]] w (RetDg n w) := by
  have HN := Lib.hid hn
  clear hn
  have H := Lib.hid (fun (W : World) (b : Nat) (hb : b < W.heap.size) (hw : ∀ i, i < 2 → W.cell? ⟨b, i, none⟩ = some (.int .u64 (wd n i))) =>
    words_any n b 2 2 W (Nat.lt_of_lt_of_le HN.out (Nat.pow_le_pow_right (by decide) (by decide))) HN.out (by decide) hb (Nat.le_refl _) hw)
  go_enter Tryd.func43, Tryd.ntmps43
  go_wp2_with fail
  refine (H.out _ _ (by go_size) ?_).mono ?_
  · intro i hi
    match i, hi with
    | 0, _ => simp [go_sem]
    | 1, _ => simp [go_sem]
  rintro _ w1 ⟨v, rfl, hdg, hb⟩
  have HD := Lib.hid hdg
  clear hdg
  go_wp2_with fail
  go_ret
  exact ⟨v, rfl, HD.out, by (repeat' (first | (with_reducible exact Below.refl _ _) | (with_reducible assumption) | (with_reducible refine Below.drew ?_) | (with_reducible refine below_drewN ?_ _) | ((with_reducible refine Below.alloc ?_ ?_ _); rotate_left; focus (go_size; done)) | ((with_reducible refine Below.setCell ?_ ?_ _); rotate_left; focus (go_size; done)) | ((with_reducible refine Below.trans ?_ (Below.mono (by with_reducible assumption) ?_)); rotate_left; focus (go_size; done))))⟩
theorem bit_top (N n : Nat) : N % 2 ^ (n + 1) = N % 2 ^ n + 2 ^ n * (N / 2 ^ n % 2) := by
  rw [Nat.pow_succ, Nat.mod_mul]
theorem or_gen2 (i a b : Nat) (hb : b < 2 ^ i) : b ||| a * 2 ^ i = b + a * 2 ^ i := by
  rw [Nat.or_comm, Nat.mul_comm, Nat.add_comm b]; exact (Nat.two_pow_add_eq_or_of_lt hb a).symm
theorem word_here (N n t : Nat) (ht : t = N / 2 ^ n % 2) : bits .or .u64 (wd (N % 2 ^ n) (n / 64)) (IntKind.u64.wrap ((t : Int) * 2 ^ (n % 64))) = wd (N % 2 ^ (n + 1)) (n / 64) := by
  have ht2 : t < 2 := by omega
  have hr : n % 64 < 64 := Nat.mod_lt _ (by decide)
  have en : 2 ^ n = 2 ^ (64 * (n / 64)) * 2 ^ (n % 64) := by rw [← Nat.pow_add]; congr 1; omega
  have hM : N % 2 ^ n < 2 ^ n := Nat.mod_lt _ (Nat.two_pow_pos n)
  have e1 : (N % 2 ^ (n + 1)) / 2 ^ (64 * (n / 64)) = N % 2 ^ n / 2 ^ (64 * (n / 64)) + t * 2 ^ (n % 64) := by
    rw [bit_top N n, ← ht]
    generalize N % 2 ^ n = M
    rw [en, Nat.mul_assoc, Nat.add_mul_div_left _ _ (Nat.two_pow_pos _), Nat.mul_comm t]
  have hA : N % 2 ^ n / 2 ^ (64 * (n / 64)) < 2 ^ (n % 64) := Nat.div_lt_of_lt_mul (by rw [← en]; exact hM)
  unfold wd
  rw [e1]
  generalize N % 2 ^ n / 2 ^ (64 * (n / 64)) = A at *
  have h2 : 2 ^ (n % 64) ≤ 2 ^ 63 := Nat.pow_le_pow_right (by decide) (by omega)
  have hor := or_gen2 (n % 64) t A hA
  have e2 : (t : Int) * 2 ^ (n % 64) = ((t * 2 ^ (n % 64) : Nat) : Int) := by rw [Int.natCast_mul, Int.natCast_pow]; rfl
  rw [e2]
  have hle : t * 2 ^ (n % 64) ≤ 2 ^ (n % 64) := by
    have : t = 0 ∨ t = 1 := by omega
    rcases this with rfl | rfl <;> simp
  generalize t * 2 ^ (n % 64) = T at *
  generalize 2 ^ (n % 64) = P at *
  have e3 : IntKind.u64.wrap (T : Int) = (T : Int) := by rw [IntKind.wrap_u64]; omega
  rw [e3, Nat.mod_eq_of_lt (show A < 2 ^ 64 by omega), bits_or_u64_nat A T (by omega) (by omega), hor, Nat.mod_eq_of_lt (show A + T < 2 ^ 64 by omega)]
theorem word_else (N n j : Nat) (hj : j ≠ n / 64) : wd (N % 2 ^ (n + 1)) j = wd (N % 2 ^ n) j := by
  unfold wd
  congr 1
  rw [bit_top N n]
  have hM : N % 2 ^ n < 2 ^ n := Nat.mod_lt _ (Nat.two_pow_pos n)
  have ht : N / 2 ^ n % 2 < 2 := Nat.mod_lt _ (by decide)
  generalize N % 2 ^ n = M at *
  generalize N / 2 ^ n % 2 = t at *
  rcases Nat.lt_or_ge j (n / 64) with h | h
  · have en : 2 ^ n = 2 ^ (64 * j) * (2 ^ 64 * 2 ^ (n - 64 * j - 64)) := by rw [← Nat.pow_add, ← Nat.pow_add]; congr 1; omega
    rw [en, Nat.mul_assoc, Nat.add_mul_div_left _ _ (Nat.two_pow_pos _), Nat.mul_assoc, Nat.add_mul_mod_self_left]
  · have hp : 2 ^ (n + 1) ≤ 2 ^ (64 * j) := Nat.pow_le_pow_right (by decide) (by omega)
    rw [Nat.pow_succ] at hp
    have h1 : 2 ^ n * t ≤ 2 ^ n := by
      have : t = 0 ∨ t = 1 := by omega
      rcases this with rfl | rfl <;> simp
    rw [Nat.div_eq_of_lt (by omega), Nat.div_eq_of_lt (by omega)]
theorem lcells_step (N n : Nat) (x : Int) (hx : x = wd (N % 2 ^ (n + 1)) (n / 64)) : (lcells (N % 2 ^ n)).set (n / 64) (.int .u64 x) = lcells (N % 2 ^ (n + 1)) := by
  apply List.ext_getElem
  · simp [lcells]
  · intro j h1 h2
    simp only [lcells, List.getElem_set, List.getElem_map, List.getElem_range]
    by_cases hj : n / 64 = j
    · rw [if_pos hj, hx, hj]
    · rw [if_neg hj, word_else N n j (fun e => hj e.symm)]
def fitsL (N : Nat) : Bool := decide (N < 2 ^ 256)
def RetLong (N : Nat) (w : World) (e : Ending) (w' : World) : Prop := e = .returned (.tuple #[.agg #[.int .u64 (wd (N % 2 ^ 256) 0), .int .u64 (wd (N % 2 ^ 256) 1), .int .u64 (wd (N % 2 ^ 256) 2), .int .u64 (wd (N % 2 ^ 256) 3)], .bool (fitsL N)]) ∧ Below w.heap.size w w'
def RetWide (N : Nat) (w : World) (e : Ending) (w' : World) : Prop := e = .returned (.tuple #[.agg #[.int .u64 (wd (N % 2 ^ 256) 1), .int .u64 (wd (N % 2 ^ 256) 0)], .bool (decide (N < 2 ^ 128))]) ∧ Below w.heap.size w w'
theorem wide_flag (N : Nat) : (fitsL N && ((wd (N % 2 ^ 256) 2 == 0) && (wd (N % 2 ^ 256) 3 == 0))) = decide (N < 2 ^ 128) := by
  unfold fitsL
  rw [Bool.eq_iff_iff]
  simp only [Bool.and_eq_true, beq_iff_eq, decide_eq_true_eq]
  have h := wd_low4 (n := N % 2 ^ 256) (Nat.mod_lt _ (by decide))
  constructor
  · rintro ⟨h1, h2⟩
    have := h.1 h2
    rwa [Nat.mod_eq_of_lt h1] at this
  · intro h1
    have h2 : N < 2 ^ 256 := Nat.lt_trans h1 (by decide)
    refine ⟨h2, h.2 ?_⟩
    rwa [Nat.mod_eq_of_lt h2]
end Go.Proofs.YtanjbdhjnmmfdaaDoor

set_option linter.unusedSimpArgs false
set_option linter.unusedVariables false
namespace Go.Proofs.YtanjbdhjnmmfdaaDoor
open Go.RowKit

def DepthOf (R : World → Value → Value → VD → Prop) : Prop := ∀ (x : VD) (L N : Value) (w : World), x.size ≤ 1000000 → R w L N x →
  Calls Tryd.prog 24 #[vagg x.s L N] w fun e w' => e = .returned (.int .i64 x.deep) ∧ Below w.heap.size w w'
theorem deeps_take_le {l : List VD} (t : Nat) : deeps (l.take t) ≤ sizes l := Nat.le_trans (deeps_sizes _) (sizes_le t)
set_option maxHeartbeats 1000000 in
theorem depth_step (R : World → Value → Value → VD → Prop) (hR : ∀ w w' L N x, R w L N x → Below w.heap.size w w' → R w' L N x) (H : DepthOf R)
    (s : VS) (l : List VD) (L N : Value) (w : World) (h1 : sizes l ≤ 999999) (hv : Vls (R w) w L l) :
    Calls Tryd.prog 24 #[vagg s L N] w fun e w' => e = .returned (.int .i64 ((deeps l + 1 : Nat) : Int)) ∧ Below w.heap.size w w' := by
  have HV := Lib.hid hv
  have HH := Lib.hid H
  have HR := Lib.hid hR
  obtain ⟨A, C, rfl, hl⟩ := hv.is
  clear hv H hR
  go_enter Tryd.func24, Tryd.ntmps24
  go_wp2_with fail
  go_loopg [3, 4] l.length (fun k s3 s4 wr => ∃ (t n : Nat), k + t = l.length ∧ s4 = .int .i64 t ∧ s3 = .int .i64 n ∧ Hid (n = deeps (l.take t)) ∧ n ≤ 1000000 ∧ wr.cell? ⟨w.heap.size, 8, none⟩ = some (.slice A l.length C) ∧ w.heap.size < wr.heap.size ∧ Below w.heap.size w wr)
  case atStart => exact ⟨0, 0, by omega, rfl, rfl, Lib.hid (by rw [List.take_zero]; rfl), by omega, by go_simp, by go_size, by (repeat' (first | (with_reducible exact Below.refl _ _) | (with_reducible assumption) | (with_reducible refine Below.drew ?_) | (with_reducible refine below_drewN ?_ _) | ((with_reducible refine Below.alloc ?_ ?_ _); rotate_left; focus (go_size; done)) | ((with_reducible refine Below.setCell ?_ ?_ _); rotate_left; focus (go_size; done)) | ((with_reducible refine Below.trans ?_ (Below.mono (by with_reducible assumption) ?_)); rotate_left; focus (go_size; done))))⟩
  case round =>
    obtain ⟨t, n, hk, rfl, rfl, HN, n2, c8, hsz, hbel⟩ := hrel
    have HK := Lib.hid hk
    have htn : t ≤ l.length := by omega
    clear hk
    by_cases hlt : t < l.length
    · obtain ⟨b, o, A1, C1, A2, C2, rfl, hat, hx⟩ := (HV.out.below hbel (fun _ _ _ h => HR.out _ _ _ _ _ h hbel)).at hlt
      obtain ⟨a0, a1, a2, a3, a4, a5, a6, a7, a8, a9⟩ := hat.val
      have lb := vcell_lt a0
      have hst := deeps_take hlt
      have hs2 := vg_size hlt
      have hd := deep_size (vg l t)
      have hle := deeps_take_le (l := l) (t + 1)
      obtain ⟨x, hxx⟩ : ∃ x, x = vg l t := ⟨_, rfl⟩
      rw [← hxx] at hx a0 a1 a2 a3 a4 a5 a6 a7 a8 a9 hst hs2 hd
      obtain ⟨n1', hn1⟩ : ∃ n1', n1' = x.list.length := ⟨_, rfl⟩
      obtain ⟨n2', hn2⟩ : ∃ n2', n2' = x.names.length := ⟨_, rfl⟩
      rw [← hn1] at a8 hx
      rw [← hn2] at a9 hx
      have HC := Lib.hid (HH.out x (.slice A1 n1' C1) (.slice A2 n2' C2) wr (by omega) hx)
      obtain ⟨q, hq⟩ : ∃ q, q = x.deep := ⟨_, rfl⟩
      rw [← hq] at HC hst hd
      have hq2 : q ≤ 1000000 := by omega
      rw [hst, ← HN.out] at hle
      have HQ := Lib.hid hst
      clear hat hx hxx hn1 hn2 hst hd hs2 hq hle
      rcases Int.lt_or_le (n : Int) (q : Int) with hm | hm
      · go_wp2_with fail
        refine HC.out.mono ?_
        rintro _ w2 ⟨rfl, hb2⟩; have hb2s := hb2.size; (try simp only [World.size_alloc, World.size_setCell, World.size_drew, World.heap_drewN] at hb2s); obtain ⟨hb2c, hb2f⟩ := bcell hb2; (try have : w.heap.size < w2.heap.size := by omega); (try have : w.heap.size + 1 < w2.heap.size := by omega); (try have : w.heap.size + 1 + 1 < w2.heap.size := by omega); (try have : w.heap.size + 1 + 1 + 1 < w2.heap.size := by omega)
        go_wp2_with fail
        go_roundg (gk - 1)
        case measure => have := HK.out; omega
        case rel => exact ⟨t + 1, q, by have := HK.out; omega, by go_num, by (first | rfl | (congr 1; omega)), Lib.hid (by rw [HQ.out, ← HN.out]; omega), hq2, (hb2.cell (p := ⟨w.heap.size, 8, none⟩) (by omega)).trans c8, by omega, by (repeat' (first | (with_reducible exact Below.refl _ _) | (with_reducible assumption) | (with_reducible refine Below.drew ?_) | (with_reducible refine below_drewN ?_ _) | ((with_reducible refine Below.alloc ?_ ?_ _); rotate_left; focus (go_size; done)) | ((with_reducible refine Below.setCell ?_ ?_ _); rotate_left; focus (go_size; done)) | ((with_reducible refine Below.trans ?_ (Below.mono (by with_reducible assumption) ?_)); rotate_left; focus (go_size; done))))⟩
      · go_wp2_with fail
        refine HC.out.mono ?_
        rintro _ w2 ⟨rfl, hb2⟩; have hb2s := hb2.size; (try simp only [World.size_alloc, World.size_setCell, World.size_drew, World.heap_drewN] at hb2s); obtain ⟨hb2c, hb2f⟩ := bcell hb2; (try have : w.heap.size < w2.heap.size := by omega); (try have : w.heap.size + 1 < w2.heap.size := by omega); (try have : w.heap.size + 1 + 1 < w2.heap.size := by omega); (try have : w.heap.size + 1 + 1 + 1 < w2.heap.size := by omega)
        go_wp2_with fail
        go_roundg (gk - 1)
        case measure => have := HK.out; omega
        case rel => exact ⟨t + 1, n, by have := HK.out; omega, by go_num, by (first | rfl | (congr 1; omega)), Lib.hid (by rw [HQ.out, ← HN.out]; omega), n2, (hb2.cell (p := ⟨w.heap.size, 8, none⟩) (by omega)).trans c8, by omega, by (repeat' (first | (with_reducible exact Below.refl _ _) | (with_reducible assumption) | (with_reducible refine Below.drew ?_) | (with_reducible refine below_drewN ?_ _) | ((with_reducible refine Below.alloc ?_ ?_ _); rotate_left; focus (go_size; done)) | ((with_reducible refine Below.setCell ?_ ?_ _); rotate_left; focus (go_size; done)) | ((with_reducible refine Below.trans ?_ (Below.mono (by with_reducible assumption) ?_)); rotate_left; focus (go_size; done))))⟩
    · obtain rfl : t = l.length := by omega
      have hz : n = deeps l := by have := HN.out; rwa [List.take_length] at this
      clear HN
      subst hz
      go_wp2_with fail
      go_ret
      exact ⟨by go_num, by (repeat' (first | (with_reducible exact Below.refl _ _) | (with_reducible assumption) | (with_reducible refine Below.drew ?_) | (with_reducible refine below_drewN ?_ _) | ((with_reducible refine Below.alloc ?_ ?_ _); rotate_left; focus (go_size; done)) | ((with_reducible refine Below.setCell ?_ ?_ _); rotate_left; focus (go_size; done)) | ((with_reducible refine Below.trans ?_ (Below.mono (by with_reducible assumption) ?_)); rotate_left; focus (go_size; done))))⟩
theorem depth_any : ∀ n, DepthOf (VR n)
  | 0, _, _, _, _, _, h => h.elim
  | n + 1, x, L, N, w, h1, h => by
    rw [VD.deep_eq]
    exact depth_step (VR n) (fun _ _ _ _ _ h hb => h.below hb) (depth_any n) x.s x.list L N w (by rw [VD.size_eq] at h1; omega) h.2.1
end Go.Proofs.YtanjbdhjnmmfdaaDoor

set_option linter.unusedSimpArgs false
set_option linter.unusedVariables false
namespace Go.Proofs.YtanjbdhjnmmfdaaDoor
open Go.RowKit

theorem cnt_in {s : Nat} {m : Int} (h : (s : Int) ≤ m) : cnt s m = s := if_pos h
theorem cnt_out {s : Nat} {m : Int} (h : m < s) : cnt s m = m + 1 := if_neg (by omega)
theorem cnt_le {s : Nat} {m : Int} (h : 0 ≤ m) (h1 : 1 ≤ s) : 1 ≤ cnt s m ∧ cnt s m ≤ m + 1 := by unfold cnt; split <;> omega
def CountOf (R : World → Value → Value → VD → Prop) : Prop := ∀ (x : VD) (L N : Value) (most : Int) (w : World), 0 ≤ most → most ≤ 1000000 → R w L N x →
  Calls Tryd.prog 30 #[vagg x.s L N, .int .i64 most] w fun e w' => e = .returned (.int .i64 (cnt x.size most)) ∧ Below w.heap.size w w'
set_option maxHeartbeats 1000000 in
theorem count_step (R : World → Value → Value → VD → Prop) (hR : ∀ w w' L N x, R w L N x → Below w.heap.size w w' → R w' L N x) (H : CountOf R)
    (s : VS) (l : List VD) (L N : Value) (most : Int) (w : World) (h0 : 0 ≤ most) (h1 : most ≤ 1000000) (hv : Vls (R w) w L l) :
    Calls Tryd.prog 30 #[vagg s L N, .int .i64 most] w fun e w' => e = .returned (.int .i64 (cnt (1 + sizes l) most)) ∧ Below w.heap.size w w' := by
  have HV := Lib.hid hv
  have HH := Lib.hid H
  have HR := Lib.hid hR
  obtain ⟨A, C, rfl, hl⟩ := hv.is
  clear hv H hR
  obtain ⟨z, hz⟩ : ∃ z, z = cnt (1 + sizes l) most := ⟨_, rfl⟩
  rw [← hz]
  have HZ := Lib.hid hz
  clear hz
  go_enter Tryd.func30, Tryd.ntmps30
  go_wp2_with fail
  go_loopg [5, 11] l.length (fun k s5 s11 wr => ∃ (t : Nat) (n : Int), k + t = l.length ∧ s11 = .int .i64 t ∧ s5 = .int .i64 n ∧ Hid (n = cnt (1 + sizes (l.take t)) most) ∧ 1 ≤ n ∧ n ≤ most + 1 ∧ w.heap.size < wr.heap.size ∧ Below w.heap.size w wr)
  case atStart => exact ⟨0, 1, by omega, rfl, rfl, Lib.hid (by rw [List.take_zero]; unfold cnt sizes; split <;> omega), by omega, by omega, by go_size, by (repeat' (first | (with_reducible exact Below.refl _ _) | (with_reducible assumption) | (with_reducible refine Below.drew ?_) | (with_reducible refine below_drewN ?_ _) | ((with_reducible refine Below.alloc ?_ ?_ _); rotate_left; focus (go_size; done)) | ((with_reducible refine Below.setCell ?_ ?_ _); rotate_left; focus (go_size; done)) | ((with_reducible refine Below.trans ?_ (Below.mono (by with_reducible assumption) ?_)); rotate_left; focus (go_size; done))))⟩
  case round =>
    obtain ⟨t, n, hk, rfl, rfl, HN, n1, n2, hsz, hbel⟩ := hrel
    have HK := Lib.hid hk
    have htn : t ≤ l.length := by omega
    clear hk
    by_cases hlt : t < l.length
    · obtain ⟨b, o, A1, C1, A2, C2, rfl, hat, hx⟩ := (HV.out.below hbel (fun _ _ _ h => HR.out _ _ _ _ _ h hbel)).at hlt
      obtain ⟨a0, a1, a2, a3, a4, a5, a6, a7, a8, a9⟩ := hat.val
      have lb := vcell_lt a0
      have HST := Lib.hid (sizes_take hlt)
      have HPOS := Lib.hid (size_pos (vg l t))
      have HSL := Lib.hid (sizes_le (l := l) (t + 1))
      obtain ⟨x, hxx⟩ : ∃ x, x = vg l t := ⟨_, rfl⟩
      rw [← hxx] at hx a0 a1 a2 a3 a4 a5 a6 a7 a8 a9 HST HPOS
      have HX := Lib.hid hx
      obtain ⟨n1', hn1⟩ : ∃ n1', n1' = x.list.length := ⟨_, rfl⟩
      obtain ⟨n2', hn2⟩ : ∃ n2', n2' = x.names.length := ⟨_, rfl⟩
      rw [← hn1, ← hn2] at HX
      rw [← hn1] at a8
      rw [← hn2] at a9
      clear hat hx hxx hn1 hn2
      by_cases hm : most < n
      · have hz : z = n := by
          have e1 := HN.out; have e2 := HST.out; have e3 := HSL.out; have e4 := HZ.out
          have : ¬ ((1 + sizes (l.take t) : Nat) : Int) ≤ most := fun q => by rw [cnt_in q] at e1; omega
          rw [e4, cnt_out (by omega)]; omega
        subst hz
        go_wp2_with fail
        go_ret
        exact ⟨rfl, by (repeat' (first | (with_reducible exact Below.refl _ _) | (with_reducible assumption) | (with_reducible refine Below.drew ?_) | (with_reducible refine below_drewN ?_ _) | ((with_reducible refine Below.alloc ?_ ?_ _); rotate_left; focus (go_size; done)) | ((with_reducible refine Below.setCell ?_ ?_ _); rotate_left; focus (go_size; done)) | ((with_reducible refine Below.trans ?_ (Below.mono (by with_reducible assumption) ?_)); rotate_left; focus (go_size; done))))⟩
      · have hm' : n ≤ most := by omega
        have HC := Lib.hid (fun W hW => HH.out x (.slice A1 n1' C1) (.slice A2 n2' C2) (most - n) W (by omega) (by omega) hW)
        have HQ : Hid (n + cnt x.size (most - n) = cnt (1 + sizes (l.take (t + 1))) most) := Lib.hid (by
          have e1 := HN.out; have e2 := HST.out
          have : ((1 + sizes (l.take t) : Nat) : Int) ≤ most := by
            rcases Int.lt_or_le most ((1 + sizes (l.take t) : Nat) : Int) with q | q
            · rw [cnt_out q] at e1; omega
            · exact q
          rw [cnt_in this] at e1
          rw [e2]
          unfold cnt
          split <;> split <;> omega)
        have hcl := cnt_le (s := x.size) (m := most - n) (by omega) HPOS.out
        obtain ⟨q, hq⟩ : ∃ q, q = cnt x.size (most - n) := ⟨_, rfl⟩
        rw [← hq] at HC HQ hcl
        obtain ⟨hc1, hc2⟩ := hcl
        clear hm hq
        go_wp2_with fail
        refine (HC.out _ (HR.out _ _ _ _ _ HX.out (by (repeat' (first | (with_reducible exact Below.refl _ _) | (with_reducible assumption) | (with_reducible refine Below.drew ?_) | (with_reducible refine below_drewN ?_ _) | ((with_reducible refine Below.alloc ?_ ?_ _); rotate_left; focus (go_size; done)) | ((with_reducible refine Below.setCell ?_ ?_ _); rotate_left; focus (go_size; done)) | ((with_reducible refine Below.trans ?_ (Below.mono (by with_reducible assumption) ?_)); rotate_left; focus (go_size; done))))))).mono ?_
        rintro _ w2 ⟨rfl, hb2⟩; have hb2s := hb2.size; (try simp only [World.size_alloc, World.size_setCell, World.size_drew, World.heap_drewN] at hb2s); obtain ⟨hb2c, hb2f⟩ := bcell hb2; (try have : w.heap.size < w2.heap.size := by omega); (try have : w.heap.size + 1 < w2.heap.size := by omega); (try have : w.heap.size + 1 + 1 < w2.heap.size := by omega); (try have : w.heap.size + 1 + 1 + 1 < w2.heap.size := by omega)
        go_wp2_with fail
        go_roundg (gk - 1)
        case measure => have := HK.out; omega
        case rel => exact ⟨t + 1, n + q, by have := HK.out; omega, by go_num, rfl, HQ, by omega, by omega, by omega, by (repeat' (first | (with_reducible exact Below.refl _ _) | (with_reducible assumption) | (with_reducible refine Below.drew ?_) | (with_reducible refine below_drewN ?_ _) | ((with_reducible refine Below.alloc ?_ ?_ _); rotate_left; focus (go_size; done)) | ((with_reducible refine Below.setCell ?_ ?_ _); rotate_left; focus (go_size; done)) | ((with_reducible refine Below.trans ?_ (Below.mono (by with_reducible assumption) ?_)); rotate_left; focus (go_size; done))))⟩
    · obtain rfl : t = l.length := by omega
      have hz : z = n := by have := HN.out; rw [List.take_length] at this; rw [this, HZ.out]
      subst hz
      go_wp2_with fail
      go_ret
      exact ⟨rfl, by (repeat' (first | (with_reducible exact Below.refl _ _) | (with_reducible assumption) | (with_reducible refine Below.drew ?_) | (with_reducible refine below_drewN ?_ _) | ((with_reducible refine Below.alloc ?_ ?_ _); rotate_left; focus (go_size; done)) | ((with_reducible refine Below.setCell ?_ ?_ _); rotate_left; focus (go_size; done)) | ((with_reducible refine Below.trans ?_ (Below.mono (by with_reducible assumption) ?_)); rotate_left; focus (go_size; done))))⟩
theorem count_any : ∀ n, CountOf (VR n)
  | 0, _, _, _, _, _, _, _, h => h.elim
  | n + 1, x, L, N, most, w, h0, h1, h => by
    rw [VD.size_eq]
    exact count_step (VR n) (fun _ _ _ _ _ h hb => h.below hb) (count_any n) x.s x.list L N most w h0 h1 h.2.1
end Go.Proofs.YtanjbdhjnmmfdaaDoor

set_option linter.unusedSimpArgs false
set_option linter.unusedVariables false
namespace Go.Proofs.YtanjbdhjnmmfdaaDoor
open Go.RowKit

/-- a value at its two slices, at whatever depth -/
def RV (w : World) (L N : Value) (d : VD) : Prop := ∃ n, VR n w L N d
theorem RV.below {w w' : World} {L N : Value} {d : VD} (h : RV w L N d) (hb : Below w.heap.size w w') : RV w' L N d := by
  obtain ⟨n, h⟩ := h
  exact ⟨n, h.below hb⟩
theorem Vls.imp {R R' : Value → Value → VD → Prop} {w : World} {L : Value} {l : List VD} (h : Vls R w L l) (hR : ∀ L N d, R L N d → R' L N d) : Vls R' w L l := h.below (Below.refl _ _) hR
theorem RV.list {w : World} {L N : Value} {d : VD} (h : RV w L N d) : d.s.ok ∧ Vls (RV w) w L d.list ∧ Nms w N d.names := by
  obtain ⟨n, h⟩ := h
  cases n with
  | zero => exact h.elim
  | succ n => exact ⟨h.1, h.2.1.imp (fun _ _ _ h => ⟨n, h⟩), h.2.2⟩
theorem Vls.kept {w w' : World} {L : Value} {l : List VD} (h : Vls (RV w) w L l) (hb : Below w.heap.size w w') : Vls (RV w') w' L l := h.below hb (fun _ _ _ h => h.below hb)
/-- lists that are still to be counted -/
inductive Stk (w0 : World) : List Value → List (List VD) → Prop
  | nil : Stk w0 [] []
  | snoc {vs : List Value} {td : List (List VD)} {L : Value} {l : List VD} : Stk w0 vs td → Vls (RV w0) w0 L l → l ≠ [] → Stk w0 (vs ++ [L]) (td ++ [l])
theorem Stk.cases {w0 : World} {vs : List Value} {td : List (List VD)} (h : Stk w0 vs td) : (vs = [] ∧ td = []) ∨ ∃ vs' L td' l, vs = vs' ++ [L] ∧ td = td' ++ [l] ∧ Stk w0 vs' td' ∧ Vls (RV w0) w0 L l ∧ l ≠ [] := by
  cases h with
  | nil => exact .inl ⟨rfl, rfl⟩
  | snoc a b c => exact .inr ⟨_, _, _, _, rfl, rfl, a, b, c⟩
theorem Stk.len {w0 : World} {vs : List Value} {td : List (List VD)} (h : Stk w0 vs td) : vs.length = td.length := by
  induction h with
  | nil => rfl
  | snoc _ _ _ ih => simp [ih]
def tots : List (List VD) → Nat
  | [] => 0
  | l :: r => sizes l + tots r
theorem tots_snoc (td : List (List VD)) (l : List VD) : tots (td ++ [l]) = tots td + sizes l := by
  induction td with
  | nil => simp [tots]
  | cons x r ih => rw [List.cons_append, tots, tots, ih]; omega
theorem tots_len {w0 : World} {vs : List Value} {td : List (List VD)} (h : Stk w0 vs td) : td.length ≤ tots td := by
  induction h with
  | nil => exact Nat.le_refl _
  | @snoc vs td L l _ _ c ih =>
    rw [tots_snoc, List.length_append, List.length_singleton]
    have : 1 ≤ sizes l := by
      cases l with
      | nil => exact absurd rfl c
      | cons x r => rw [sizes]; have := size_pos x; omega
    omega
theorem sizes_drop {l : List VD} {t : Nat} (h : t < l.length) : sizes (l.drop t) = (vg l t).size + sizes (l.drop (t + 1)) := by
  rw [List.drop_eq_getElem_cons h, sizes]
  unfold vg
  rw [List.getD_eq_getElem?_getD, List.getElem?_eq_getElem h]; rfl
theorem own_pop {w : World} {base : Nat} {E : TypeId} {v x : Value} {n : Nat} {xs : List Value} (h : w.ownsRow base E 1 v (n + 1) (xs ++ [x])) :
    ∃ g cap, v = .slice (some ⟨g, 0, none⟩) (n + 1) cap ∧ base ≤ g ∧ n + 1 ≤ cap ∧ cap ≤ maxLen ∧ w.cell? ⟨g, n, none⟩ = some x ∧ w.ownsRow base E 1 (.slice (some ⟨g, 0, none⟩) n cap) n xs := by
  obtain ⟨hl, hc⟩ := h
  rcases hc with ⟨_, h0⟩ | ⟨g, cap, cur, rfl, hb, hg, h1, h2, h3, h4⟩
  · omega
  · have hlx : xs.length = n := by simp at hl; omega
    rw [Nat.mul_one] at h4
    refine ⟨g, cap, rfl, hb, h1, h2, ?_, by omega, .inr ⟨g, cap, cur, rfl, hb, hg, by omega, h2, h3, ?_⟩⟩
    · have e : cur.toList[n]? = some x := by
        have := congrArg (fun l => l[n]?) h4
        simp only [List.getElem?_take_of_lt (show n < n + 1 by omega)] at this
        rw [this, List.getElem?_append_right (by omega), hlx, Nat.sub_self]; rfl
      rw [cell_of_row w g n cur E (0, 0) hg, ← e]; simp
    · rw [Nat.mul_one]
      have := congrArg (List.take n) h4
      have e2 : (xs ++ [x]).take n = xs := by rw [List.take_append_of_le_length (by omega), List.take_of_length_le (by omega)]
      rw [List.take_take, Nat.min_eq_left (by omega), e2] at this
      exact this
theorem own_nil {w : World} {base : Nat} {E : TypeId} {v : Value} {xs : List Value} (h : w.ownsRow base E 1 v 0 xs) : ∃ A C, v = .slice A 0 C := by
  rcases h.2 with ⟨rfl, _⟩ | ⟨g, cap, cur, rfl, _⟩
  · exact ⟨_, _, rfl⟩
  · exact ⟨_, _, rfl⟩
theorem info_vals : (Tryd.prog.info? 27).map (fun i => (i.zero, i.size, i.bytes)) = some (some (.slice none 0 0), 1, 24) := by kernel_rfl
/-- a list is pushed -/
theorem wpList_pushV {w : World} {ops : Array Oper} {rest : List Oper} {o : Oper} {a : Act} {Q : Exit → Act → World → Prop} (hgd : o.guard = none) (s x : Operand)
    (ho : o.op = .call { callee := .builtin .append, args := #[s, x], argTypes := #[60, 60] })
    (base : Nat) (v : Value) (n : Nat) (vs : List Value) (hs : a.eval s = v) (hown : w.ownsRow base 27 1 v n vs)
    (b : Nat) (A : Option Addr) (m c : Nat) (hx : a.eval x = .slice (some ⟨b, 0, none⟩) 1 1) (hd : w.cell? ⟨b, 0, none⟩ = some (.slice A m c)) (hlen : n ≤ 2000000) (hbase : base ≤ w.heap.size)
    (h : ∀ v' w', w'.ownsRow base 27 1 v' (n + 1) (vs ++ [.slice A m c]) → w.grownBy w' v.ownBlock → wpList Tryd.prog ops Q rest (a.put o.dst v') w') : wpList Tryd.prog ops Q (o :: rest) a w := by
  obtain ⟨i0, hi0, hz0, hz1, hz2⟩ := info_parts info_vals
  refine wpList_append_own w hgd s x 60 ho base 27 i0 (.slice none 0 0) 1 24 Tryd.underlying60 hi0 hz0 hz1 hz2 rfl (by decide) v n vs hs hown ⟨b, 0, none⟩ 1 1 [.slice A m c] hx rfl ?_ ?_ (by unfold maxLen; omega) (by omega) hbase ?_
  · intro j u hj
    match j with
    | 0 => simp at hj; subst hj; exact hd
    | j + 1 => simp at hj
  · intro u hu
    rw [List.mem_singleton.1 hu]; rfl
  · intro v' w' h1 h2 _
    exact h v' w' h1 h2
theorem below_pushV {a w w' : World} {B : Nat} {E : TypeId} {v : Value} {n : Nat} {xs : List Value} (h : Below B a w) (hown : w.ownsRow B E 1 v n xs) (hg : w.grownBy w' v.ownBlock) (hB : B ≤ w.heap.size) : Below B a w' :=
  h.grown hg hB fun k hk => (hown.lt k hk).1
def vobj (s : VS) (L N : Value) : Obj := .cells #[.int .i64 s.kind, .bool s.yes, .bool s.neg, .int .u64 (wd s.coef 1), .int .u64 (wd s.coef 0), .int .i64 s.sc, .string ⟨s.text.toArray⟩, .int .i64 s.day, L, N] 30
/-- the list of the one value, as it is laid at the start -/
theorem vls_one {w : World} {d : VD} {A : Option Addr} {C : Nat} {A2 : Option Addr} {C2 : Nat} (h : RV w (.slice A d.list.length C) (.slice A2 d.names.length C2) d) :
    Vls (RV (w.alloc (vobj d.s (.slice A d.list.length C) (.slice A2 d.names.length C2)))) (w.alloc (vobj d.s (.slice A d.list.length C) (.slice A2 d.names.length C2))) (.slice (some ⟨w.heap.size, 0, none⟩) 1 1) [d] := by
  have hb : Below w.heap.size w (w.alloc (vobj d.s (.slice A d.list.length C) (.slice A2 d.names.length C2))) := (Below.refl _ _).alloc (Nat.le_refl _) _
  refine ⟨_, _, rfl, ⟨by simp, by simp, by unfold maxLen; simp⟩, fun r hr => ?_⟩
  obtain rfl : r = 0 := by simp at hr; omega
  refine ⟨w.heap.size, 0, A, C, A2, C2, rfl, fun j hj => ?_, h.below hb⟩
  have := Bk.new w 30 (d.s.cs ++ [.slice A d.list.length C, .slice A2 d.names.length C2])
  rw [Nat.zero_mul, Nat.zero_add]
  have e : vg [d] 0 = d := rfl
  rw [e] at hj ⊢
  have hc := this.cell j (List.getElem?_eq_getElem hj)
  rw [List.getElem?_eq_getElem hj]
  exact hc
end Go.Proofs.YtanjbdhjnmmfdaaDoor

set_option linter.unusedSimpArgs false
set_option linter.unusedVariables false
namespace Go.Proofs.YtanjbdhjnmmfdaaDoor
open Go.RowKit

set_option maxRecDepth 100000 in
set_option maxHeartbeats 4000000 in
theorem rcount_any (d : VD) (A : Option Addr) (C : Nat) (A2 : Option Addr) (C2 : Nat) (most : Int) (w : World) (h0 : 0 ≤ most) (h1 : most ≤ 1000000) (h : RV w (.slice A d.list.length C) (.slice A2 d.names.length C2) d) (hsz : d.size ≤ 1048576) :
    Calls Tryd.prog 23 #[vagg d.s (.slice A d.list.length C) (.slice A2 d.names.length C2), .int .i64 most] w fun e w' => e = .returned (.int .i64 (cnt d.size most)) ∧ Below w.heap.size w w' := by
  have hb0 : Below w.heap.size w (w.alloc (vobj d.s (.slice A d.list.length C) (.slice A2 d.names.length C2))) := (Below.refl _ _).alloc (Nat.le_refl _) _
  have hone := vls_one (h.below hb0)
  rw [World.size_alloc] at hone
  obtain ⟨S, hS⟩ : ∃ S, S = d.size := ⟨_, rfl⟩
  have hsum : sizes [d] = S := by rw [hS]; simp [sizes]
  rw [← hS] at hsz ⊢
  have hS1 : 1 ≤ S := by rw [hS]; exact size_pos d
  obtain ⟨z, hz⟩ : ∃ z, z = cnt S most := ⟨_, rfl⟩
  rw [← hz]
  have HZ := Lib.hid hz
  have HONE := Lib.hid hone
  have HSUM := Lib.hid hsum
  obtain ⟨s, l0, nm0⟩ := d
  unfold vobj at HONE
  unfold vagg
  obtain ⟨kind, yes, neg, coef, sc, text, day⟩ := s
  dsimp only [VD.s, VD.list, VD.names] at HONE ⊢
  obtain ⟨n1, hn1⟩ : ∃ n1, n1 = l0.length := ⟨_, rfl⟩
  obtain ⟨n2, hn2⟩ : ∃ n2, n2 = nm0.length := ⟨_, rfl⟩
  rw [← hn1, ← hn2] at HONE ⊢
  obtain ⟨x1, hx1⟩ : ∃ x1, x1 = wd coef 1 := ⟨_, rfl⟩
  obtain ⟨x0, hx0⟩ : ∃ x0, x0 = wd coef 0 := ⟨_, rfl⟩
  rw [← hx1, ← hx0] at HONE ⊢
  clear hb0 hone hS hsum hz h hn1 hn2 hx1 hx0
  obtain ⟨LD, hLD⟩ : ∃ LD, LD = [VD.mk ⟨kind, yes, neg, coef, sc, text, day⟩ l0 nm0] := ⟨_, rfl⟩
  rw [← hLD] at HONE HSUM
  have HNE : Hid (LD ≠ []) := Lib.hid (by rw [hLD]; simp)
  clear hLD
  obtain ⟨w0, hw0⟩ : ∃ w0, w0 = (w.alloc (.cells #[.int .i64 kind, .bool yes, .bool neg, .int .u64 x1, .int .u64 x0, .int .i64 sc, .string ⟨text.toArray⟩, .int .i64 day, .slice A n1 C, .slice A2 n2 C2] 30)).alloc (.cells #[.int .i64 kind, .bool yes, .bool neg, .int .u64 x1, .int .u64 x0, .int .i64 sc, .string ⟨text.toArray⟩, .int .i64 day, .slice A n1 C, .slice A2 n2 C2] 30) := ⟨_, rfl⟩
  rw [← hw0] at HONE
  have hbw : Below w.heap.size w w0 := by rw [hw0]; exact ((Below.refl _ _).alloc (Nat.le_refl _) _).alloc (by simp) _
  have hz0 : w0.heap.size = w.heap.size + 1 + 1 := by rw [hw0, World.size_alloc, World.size_alloc]
  have HW0 := Lib.hid hw0
  clear hw0
  go_enter Tryd.func23, Tryd.ntmps23
  go_wp2_with fail
  rw [← HW0.out]
  go_loopg [5, 6] (most + 1).toNat (fun k s5 s6 wr => ∃ (n : Int) (vs : List Value) (td : List (List VD)), n + k = most + 1 ∧ 0 ≤ n ∧ s5 = .int .i64 n ∧ wr.ownsRow w0.heap.size 27 1 s6 td.length vs ∧ Hid (Stk w0 vs td) ∧ Hid ((n ≤ most → n + tots td = S) ∧ (most < n → most < S)) ∧ w0.heap.size ≤ wr.heap.size ∧ Below w0.heap.size w0 wr)
  case atStart => 
    refine ⟨0, [.slice (some ⟨w.heap.size + 1, 0, none⟩) 1 1], [LD], by omega, by omega, rfl, ?_, Lib.hid (Stk.nil.snoc HONE.out HNE.out), Lib.hid ⟨fun _ => ?_, fun _ => by omega⟩, by simp, (Below.refl _ _).alloc (Nat.le_refl _) _⟩
    · exact ⟨rfl, .inr ⟨w0.heap.size, 1, #[.slice (some ⟨w.heap.size + 1, 0, none⟩) 1 1], by rw [hz0]; rfl, Nat.le_refl _, Bk.new w0 27 [.slice (some ⟨w.heap.size + 1, 0, none⟩) 1 1], by simp, by unfold maxLen; omega, rfl, rfl⟩⟩
    · have := HSUM.out
      simp only [tots]; omega
  case round =>
    obtain ⟨n, vs, td, hk, hn0, rfl, hown, HS, HI, hB, hbel⟩ := hrel
    have HK := Lib.hid hk
    have hnm : n ≤ most + 1 := by omega
    clear hk
    have hbel2 : Below w.heap.size w wr := hbw.trans (hbel.mono (by omega))
    rcases HS.out.cases with ⟨rfl, rfl⟩ | ⟨vs', L, td', l, rfl, rfl, hs', hl, hne⟩
    · have hf := own_nil hown
      obtain ⟨A0, C0, rfl⟩ := hf
      have hzn : z = n := by
        have h1 := HI.out
        simp only [tots] at h1
        rw [HZ.out]
        unfold cnt
        split <;> omega
      subst hzn
      clear HS HI HZ
      go_wp2_with fail
      go_ret
      exact ⟨rfl, by (repeat' (first | (with_reducible exact Below.refl _ _) | (with_reducible assumption) | (with_reducible refine Below.drew ?_) | (with_reducible refine below_drewN ?_ _) | ((with_reducible refine Below.alloc ?_ ?_ _); rotate_left; focus (go_size; done)) | ((with_reducible refine Below.setCell ?_ ?_ _); rotate_left; focus (go_size; done)) | ((with_reducible refine Below.trans ?_ (Below.mono (by with_reducible assumption) ?_)); rotate_left; focus (go_size; done))))⟩
    · rw [List.length_append, List.length_singleton] at hown
      obtain ⟨g, cap, rfl, hg, hcap, hcm, hcell, hown2⟩ := own_pop hown
      unfold maxLen at hcm
      have HTL := Lib.hid (Nat.le_trans (tots_len HS.out) (Nat.le_refl _))
      rw [tots_snoc] at HI HTL
      obtain ⟨m, hm⟩ : ∃ m, m = td'.length := ⟨_, rfl⟩
      rw [← hm] at hown hown2 hcap hcell
      rw [← hm]
      have HM := Lib.hid hm
      have HSP := Lib.hid hs'
      have HL := Lib.hid hl
      have HNEL := Lib.hid hne
      obtain ⟨A1, C1, rfl, hll⟩ := hl.is
      have lg := vcell_lt hcell
      clear hm hs' hl hne HS
      by_cases hle : n ≤ most
      · have hS := HI.out.1 hle
        have HI2 := Lib.hid hS
        have hx1 : ((m + 1 : Nat) : Int) - 1 = (m : Int) := by omega
        have m0 : (0 : Int) ≤ (m : Int) := by omega
        have m1 : (m : Int) < ((m + 1 : Nat) : Int) := by omega
        have m2 : (0 : Int) < ((m + 1 : Nat) : Int) := by omega
        have m3 : (m : Int) ≤ (cap : Int) := by omega
        clear hS HI hown
        go_wp2_with fail
        obtain ⟨wo, hwo⟩ : ∃ wo : World, wo = wr := ⟨_, rfl⟩
        obtain ⟨go, hgo⟩ : ∃ go : Nat, go = gk := ⟨_, rfl⟩
        rw [← hgo] at HK
        have HGO := Lib.hid hgo
        clear hgo
        go_loopg [5, 6, 8] l.length (fun k s5 s6 s8 wr => ∃ (t : Nat) (vs2 : List Value) (td2 : List (List VD)), k + t = l.length ∧ s8 = .int .i64 t ∧ s5 = .int .i64 (n + t) ∧ n + t ≤ most + 1 ∧ wr.ownsRow w0.heap.size 27 1 s6 td2.length vs2 ∧ Hid (Stk w0 vs2 td2) ∧ Hid ((n + t ≤ most → n + t + (tots td2 + sizes (l.drop t)) = S) ∧ (most < n + t → most < S)) ∧ w0.heap.size ≤ wr.heap.size ∧ Below w0.heap.size w0 wr)
        case atStart =>
          refine ⟨0, vs', td', by omega, rfl, by simp, by omega, ?_, HSP, Lib.hid ⟨fun _ => ?_, fun _ => by omega⟩, hB, hbel⟩
          · rw [← HM.out]; exact hown2
          · have := HI2.out
            rw [List.drop_zero]; omega
        case round =>
          obtain ⟨t, vs2, td2, hk2, rfl, rfl, hnt, hown3, HS2, HJ, hB2, hbel3⟩ := hrel
          have HK2 := Lib.hid hk2
          have htl : t ≤ l.length := by omega
          have hbel4 : Below w.heap.size w wr := hbw.trans (hbel3.mono (by omega))
          clear hk2 hB hbel hbel2 hown2 hcell lg
          have HLL := Lib.hid hll
          have hll2 : (l.length : Int) ≤ 1048576 := by omega
          clear hll
          by_cases hlt : t < l.length
          · by_cases hm2 : n + t ≤ most
            · obtain ⟨b, o, B1, D1, B2, D2, e, hat, hx⟩ := (HL.out.kept hbel3).at hlt
              subst e
              obtain ⟨a0, a1, a2, a3, a4, a5, a6, a7, a8, a9⟩ := hat.val
              have lb := vcell_lt a0
              have hdr := sizes_drop hlt
              have hSt := HJ.out.1 hm2
              rw [hdr] at hSt
              obtain ⟨x, hxx⟩ : ∃ x, x = vg l t := ⟨_, rfl⟩
              rw [← hxx] at hx a8 hSt
              have hxs := VD.size_eq x
              have HTL2 := Lib.hid (tots_len HS2.out)
              have hxl : (x.list.length : Int) ≤ 1048576 := by
                obtain ⟨_, _, _, q⟩ := hx.list.2.1.is
                omega
              have HXL : Hid (Vls (RV w0) w0 (.slice B1 x.list.length D1) x.list) := by
                obtain ⟨b', o', B1', D1', B2', D2', e', hat', hx'⟩ := HL.out.at hlt
                rw [← hxx] at hx' hat'
                have q8 := hat'.val.2.2.2.2.2.2.2.2.1
                have q8' := (hbel3.cell (p := ⟨b', o' + t * 10 + 8, none⟩) (vcell_lt q8)).trans q8
                injection e' with e'
                injection e' with e1 e2
                subst e1 e2
                rw [a8] at q8'
                injection q8' with q8'
                injection q8' with q1 q2 q3
                subst q1 q3
                exact Lib.hid hx'.list.2.1
              obtain ⟨xl, hxl0⟩ : ∃ xl, xl = x.list := ⟨_, rfl⟩
              rw [← hxl0] at a8 hxs hxl HXL
              obtain ⟨nl, hnl⟩ : ∃ nl, nl = xl.length := ⟨_, rfl⟩
              rw [← hnl] at a8 hxl HXL
              have HNL := Lib.hid hnl
              have HST := Lib.hid hSt
              have HXS := Lib.hid hxs
              clear a0 a1 a2 a3 a4 a5 a6 a7 a9 hat hx hxx hdr hSt hxs hxl0 hnl
              by_cases hne0 : nl = 0
              · subst hne0
                have hxe : xl = [] := List.length_eq_zero_iff.1 HNL.out.symm
                go_wp2_with fail
                go_roundg (gk - 1)
                case measure => have := HK2.out; omega
                case rel =>
                  refine ⟨t + 1, vs2, td2, by have := HK2.out; omega, by go_num, by (congr 1; omega), by omega, hown3, HS2, Lib.hid ⟨fun _ => ?_, fun _ => ?_⟩, hB2, hbel3⟩
                  · have h1 := HST.out; have h2 := HXS.out; rw [hxe] at h2; simp only [sizes] at h2; omega
                  · have h1 := HST.out; have h2 := HXS.out; omega
              · have hne1 : (0 : Int) < (nl : Int) := by omega
                have hd2 : td2.length ≤ 2000000 := by have := HST.out; have := HTL2.out; omega
                have HD2 := Lib.hid hd2
                have HNE0 := Lib.hid hne0
                clear hne0 hd2
                go_wp2_with (at_builtin; refine wpList_pushV rfl (.tmp 51) (.tmp 57) rfl w0.heap.size u6 td2.length vs2 rfl (hown3.alloc _) wr.heap.size B1 nl D1 rfl ?hc ?hl ?hb ?_; rotate_left 3; intro v1 w1 hown5 hg1)
                case hc => simp [go_sem]
                case hl => exact HD2.out
                case hb => rw [World.size_alloc]; omega
                have hbp := below_pushV (hbel3.alloc hB2 _) (hown3.alloc _) hg1 (by rw [World.size_alloc]; omega)
                go_wp2_with fail
                go_roundg (gk - 1)
                case measure => have := HK2.out; omega
                case rel =>
                  refine ⟨t + 1, _, td2 ++ [xl], by have := HK2.out; omega, by go_num, by (congr 1; omega), by omega, by rw [List.length_append]; exact hown5, Lib.hid (HS2.out.snoc HXL.out (fun e => HNE0.out (by rw [HNL.out, e]; rfl))), Lib.hid ⟨fun _ => ?_, fun _ => ?_⟩, hbp.size, hbp⟩
                  · have h1 := HST.out; have h2 := HXS.out; rw [tots_snoc]; omega
                  · have h1 := HST.out; have h2 := HXS.out; omega
            · have ht1 : 1 ≤ t := by
                rcases Nat.eq_zero_or_pos t with e | e
                · subst e; exfalso; simp at hm2; omega
                · exact e
              have HE := Lib.hid (HJ.out.2 (by omega))
              clear HJ
              go_wp2_with fail
              go_roundg (most + 1 - (n + t)).toNat
              case measure => have := HK.out; have := HGO.out; omega
              case rel => exact ⟨n + t, vs2, td2, by omega, by omega, rfl, hown3, HS2, Lib.hid ⟨fun q => absurd q (by omega), fun _ => HE.out⟩, hB2, hbel3⟩
          · obtain rfl : t = l.length := by omega
            have ht1 : 1 ≤ l.length := List.length_pos_iff.2 HNEL.out
            have hj := HJ.out
            rw [List.drop_length] at hj
            simp only [sizes] at hj
            have HJ2 := Lib.hid hj
            clear hj HJ hlt
            go_wp2_with fail
            go_roundg (most + 1 - (n + l.length)).toNat
            case measure => have := HK.out; have := HGO.out; omega
            case rel => exact ⟨n + l.length, vs2, td2, by omega, by omega, rfl, hown3, HS2, Lib.hid ⟨fun q => by have := HJ2.out.1 q; omega, HJ2.out.2⟩, hB2, hbel3⟩
      · have hzn : z = n := by
          have h1 := HI.out
          rw [HZ.out]
          unfold cnt
          split <;> omega
        subst hzn
        have m2 : (0 : Int) < ((m + 1 : Nat) : Int) := by omega
        clear HI HZ
        go_wp2_with fail
        go_ret
        exact ⟨rfl, by (repeat' (first | (with_reducible exact Below.refl _ _) | (with_reducible assumption) | (with_reducible refine Below.drew ?_) | (with_reducible refine below_drewN ?_ _) | ((with_reducible refine Below.alloc ?_ ?_ _); rotate_left; focus (go_size; done)) | ((with_reducible refine Below.setCell ?_ ?_ _); rotate_left; focus (go_size; done)) | ((with_reducible refine Below.trans ?_ (Below.mono (by with_reducible assumption) ?_)); rotate_left; focus (go_size; done))))⟩
end Go.Proofs.YtanjbdhjnmmfdaaDoor

set_option linter.unusedSimpArgs false
set_option linter.unusedVariables false
namespace Go.Proofs.YtanjbdhjnmmfdaaDoor
open Go.RowKit

/-- the one kind of the items, so far k; 0: there is none -/
def itemsF (k : Int) : List VD → Int
  | [] => k
  | x :: r => if x.s.kind = 0 then itemsF k r else if 4 < x.s.kind ∨ (k ≠ 0 ∧ x.s.kind ≠ k) then 0 else itemsF x.s.kind r
theorem drop_vg {l : List VD} {t : Nat} (h : t < l.length) : l.drop t = vg l t :: l.drop (t + 1) := by
  rw [List.drop_eq_getElem_cons h]
  unfold vg
  rw [List.getD_eq_getElem?_getD, List.getElem?_eq_getElem h]; rfl
set_option maxRecDepth 100000 in
set_option maxHeartbeats 1000000 in
theorem items_any (l : List VD) (A : Option Addr) (C : Nat) (w : World) (h : Vls (RV w) w (.slice A l.length C) l) :
    Calls Tryd.prog 18 #[.slice A l.length C] w fun e w' => e = .returned (.int .i64 (itemsF 0 l)) ∧ Below w.heap.size w w' := by
  obtain ⟨_, _, _, hll⟩ := h.is
  have HV := Lib.hid h
  obtain ⟨z, hz⟩ : ∃ z, z = itemsF 0 l := ⟨_, rfl⟩
  rw [← hz]
  have HZ := Lib.hid hz
  clear h hz
  have hll2 : (l.length : Int) ≤ 1048576 := by omega
  clear hll
  go_enter Tryd.func18, Tryd.ntmps18
  go_wp2_with fail
  go_loopg [3, 8] l.length (fun k s3 s8 wr => ∃ (t : Nat) (q : Int), k + t = l.length ∧ s8 = .int .i64 t ∧ s3 = .int .i64 q ∧ Hid (z = itemsF q (l.drop t)) ∧ w.heap.size ≤ wr.heap.size ∧ Below w.heap.size w wr)
  case atStart => exact ⟨0, 0, by omega, rfl, rfl, Lib.hid (by rw [List.drop_zero]; exact HZ.out), by omega, by (repeat' (first | (with_reducible exact Below.refl _ _) | (with_reducible assumption) | (with_reducible refine Below.drew ?_) | (with_reducible refine below_drewN ?_ _) | ((with_reducible refine Below.alloc ?_ ?_ _); rotate_left; focus (go_size; done)) | ((with_reducible refine Below.setCell ?_ ?_ _); rotate_left; focus (go_size; done)) | ((with_reducible refine Below.trans ?_ (Below.mono (by with_reducible assumption) ?_)); rotate_left; focus (go_size; done))))⟩
  case round =>
    obtain ⟨t, q, hk, rfl, rfl, HI, hsz, hbel⟩ := hrel
    have HK := Lib.hid hk
    have htl : t ≤ l.length := by omega
    clear hk
    by_cases hlt : t < l.length
    · obtain ⟨b, o, B1, D1, B2, D2, rfl, hat, hx⟩ := (HV.out.kept hbel).at hlt
      obtain ⟨a0, a1, a2, a3, a4, a5, a6, a7, a8, a9⟩ := hat.val
      have lb := vcell_lt a0
      have hz := HI.out
      rw [drop_vg hlt] at hz
      unfold itemsF at hz
      obtain ⟨x, hxx⟩ : ∃ x, x = vg l t := ⟨_, rfl⟩
      rw [← hxx] at hz a0 a1 a2 a3 a4 a5 a6 a7 a8 a9
      obtain ⟨k, hkk⟩ : ∃ k, k = x.s.kind := ⟨_, rfl⟩
      rw [← hkk] at hz a0
      clear hat hx hxx HI hkk
      by_cases k0 : k = 0
      · subst k0
        rw [if_pos rfl] at hz
        have HZ2 := Lib.hid hz
        clear hz
        go_wp2_with fail
        go_roundg (gk - 1)
        case measure => have := HK.out; omega
        case rel => exact ⟨t + 1, q, by have := HK.out; omega, by go_num, rfl, HZ2, by first | omega | (rw [World.size_alloc]; omega), by (repeat' (first | (with_reducible exact Below.refl _ _) | (with_reducible assumption) | (with_reducible refine Below.drew ?_) | (with_reducible refine below_drewN ?_ _) | ((with_reducible refine Below.alloc ?_ ?_ _); rotate_left; focus (go_size; done)) | ((with_reducible refine Below.setCell ?_ ?_ _); rotate_left; focus (go_size; done)) | ((with_reducible refine Below.trans ?_ (Below.mono (by with_reducible assumption) ?_)); rotate_left; focus (go_size; done))))⟩
      · rw [if_neg k0] at hz
        have e0 : (k == 0) = false := by rw [beq_eq_false_iff_ne]; exact k0
        by_cases k4 : 4 < k
        · rw [if_pos (.inl k4)] at hz
          subst hz
          go_wp2_with fail
          go_ret
          exact ⟨rfl, by (repeat' (first | (with_reducible exact Below.refl _ _) | (with_reducible assumption) | (with_reducible refine Below.drew ?_) | (with_reducible refine below_drewN ?_ _) | ((with_reducible refine Below.alloc ?_ ?_ _); rotate_left; focus (go_size; done)) | ((with_reducible refine Below.setCell ?_ ?_ _); rotate_left; focus (go_size; done)) | ((with_reducible refine Below.trans ?_ (Below.mono (by with_reducible assumption) ?_)); rotate_left; focus (go_size; done))))⟩
        · by_cases q0 : q = 0
          · subst q0
            rw [if_neg (by rintro (h | h); exact k4 h; exact h.1 rfl)] at hz
            have HZ2 := Lib.hid hz
            clear hz
            go_wp2_with fail
            go_roundg (gk - 1)
            case measure => have := HK.out; omega
            case rel => exact ⟨t + 1, k, by have := HK.out; omega, by go_num, rfl, HZ2, by first | omega | (rw [World.size_alloc]; omega), by (repeat' (first | (with_reducible exact Below.refl _ _) | (with_reducible assumption) | (with_reducible refine Below.drew ?_) | (with_reducible refine below_drewN ?_ _) | ((with_reducible refine Below.alloc ?_ ?_ _); rotate_left; focus (go_size; done)) | ((with_reducible refine Below.setCell ?_ ?_ _); rotate_left; focus (go_size; done)) | ((with_reducible refine Below.trans ?_ (Below.mono (by with_reducible assumption) ?_)); rotate_left; focus (go_size; done))))⟩
          · have f0 : (q != 0) = true := by rw [bne_iff_ne]; exact q0
            by_cases kq : k = q
            · have f1 : (k != q) = false := by rw [bne_eq_false_iff_eq]; exact kq
              rw [if_neg (by rintro (h | h); exact k4 h; exact h.2 kq)] at hz
              have HZ2 := Lib.hid hz
              clear hz kq
              go_wp2_with fail
              go_roundg (gk - 1)
              case measure => have := HK.out; omega
              case rel => exact ⟨t + 1, k, by have := HK.out; omega, by go_num, rfl, HZ2, by first | omega | (rw [World.size_alloc]; omega), by (repeat' (first | (with_reducible exact Below.refl _ _) | (with_reducible assumption) | (with_reducible refine Below.drew ?_) | (with_reducible refine below_drewN ?_ _) | ((with_reducible refine Below.alloc ?_ ?_ _); rotate_left; focus (go_size; done)) | ((with_reducible refine Below.setCell ?_ ?_ _); rotate_left; focus (go_size; done)) | ((with_reducible refine Below.trans ?_ (Below.mono (by with_reducible assumption) ?_)); rotate_left; focus (go_size; done))))⟩
            · have f1 : (k != q) = true := by rw [bne_iff_ne]; exact kq
              rw [if_pos (.inr ⟨q0, kq⟩)] at hz
              subst hz
              clear kq
              go_wp2_with fail
              go_ret
              exact ⟨rfl, by (repeat' (first | (with_reducible exact Below.refl _ _) | (with_reducible assumption) | (with_reducible refine Below.drew ?_) | (with_reducible refine below_drewN ?_ _) | ((with_reducible refine Below.alloc ?_ ?_ _); rotate_left; focus (go_size; done)) | ((with_reducible refine Below.setCell ?_ ?_ _); rotate_left; focus (go_size; done)) | ((with_reducible refine Below.trans ?_ (Below.mono (by with_reducible assumption) ?_)); rotate_left; focus (go_size; done))))⟩
    · obtain rfl : t = l.length := by omega
      have hz := HI.out
      rw [List.drop_length] at hz
      unfold itemsF at hz
      subst hz
      go_wp2_with fail
      go_ret
      exact ⟨rfl, by (repeat' (first | (with_reducible exact Below.refl _ _) | (with_reducible assumption) | (with_reducible refine Below.drew ?_) | (with_reducible refine below_drewN ?_ _) | ((with_reducible refine Below.alloc ?_ ?_ _); rotate_left; focus (go_size; done)) | ((with_reducible refine Below.setCell ?_ ?_ _); rotate_left; focus (go_size; done)) | ((with_reducible refine Below.trans ?_ (Below.mono (by with_reducible assumption) ?_)); rotate_left; focus (go_size; done))))⟩
end Go.Proofs.YtanjbdhjnmmfdaaDoor

set_option linter.unusedSimpArgs false
set_option linter.unusedVariables false
namespace Go.Proofs.YtanjbdhjnmmfdaaDoor
open Go.RowKit

def formB (k o : Int) : Bool := if k = 5 then decide (0 ≤ o ∧ o < 5) else decide (0 ≤ k ∧ k < 5 ∧ o = 0)
def numB (k o : Int) : Int := if 0 ≤ k ∧ k ≤ 4 ∧ o = 0 then k else if k = 5 ∧ 0 ≤ o ∧ o ≤ 4 then 5 + o else -1
def underB (a b c d : Int) : Bool := decide (a = c ∧ b = d) || decide (c = 0) || decide (a = 5 ∧ c = 5 ∧ d = 0)


theorem form_num (k o : Int) : decide (0 ≤ numB k o) = formB k o := by
  unfold numB formB
  rw [Bool.eq_iff_iff]
  split
  · split <;> simp <;> omega
  · split <;> split <;> simp <;> omega

set_option maxHeartbeats 400000 in
theorem kform_any (k o : Int) (w : World) : Calls Tryd.prog 20 #[.agg #[.int .i64 k, .int .i64 o]] w fun e w' => e = .returned (.bool (formB k o)) ∧ Below w.heap.size w w' := by
  go_enter Tryd.func20, Tryd.ntmps20
  go_wp2
  all_goals go_ret
  all_goals refine ⟨?_, by (repeat' (first | (with_reducible exact Below.refl _ _) | (with_reducible assumption) | (with_reducible refine Below.drew ?_) | (with_reducible refine below_drewN ?_ _) | ((with_reducible refine Below.alloc ?_ ?_ _); rotate_left; focus (go_size; done)) | ((with_reducible refine Below.setCell ?_ ?_ _); rotate_left; focus (go_size; done)) | ((with_reducible refine Below.trans ?_ (Below.mono (by with_reducible assumption) ?_)); rotate_left; focus (go_size; done))))⟩
  all_goals simp [formB]
  all_goals (first | done | omega | (simp_all; done) | (simp_all; omega) | (rw [Bool.eq_iff_iff]; simp_all; done) | (rw [Bool.eq_iff_iff]; simp_all; omega))

set_option maxHeartbeats 400000 in
theorem knumber_any (k o : Int) (w : World) : Calls Tryd.prog 22 #[.agg #[.int .i64 k, .int .i64 o]] w fun e w' => e = .returned (.int .i64 (numB k o)) ∧ Below w.heap.size w w' := by
  go_enter Tryd.func22, Tryd.ntmps22
  go_wp2
  all_goals go_ret
  all_goals refine ⟨?_, by (repeat' (first | (with_reducible exact Below.refl _ _) | (with_reducible assumption) | (with_reducible refine Below.drew ?_) | (with_reducible refine below_drewN ?_ _) | ((with_reducible refine Below.alloc ?_ ?_ _); rotate_left; focus (go_size; done)) | ((with_reducible refine Below.setCell ?_ ?_ _); rotate_left; focus (go_size; done)) | ((with_reducible refine Below.trans ?_ (Below.mono (by with_reducible assumption) ?_)); rotate_left; focus (go_size; done))))⟩
  all_goals simp [numB]
  all_goals (first | done | omega | (simp_all; done) | (simp_all; omega))

set_option maxHeartbeats 400000 in
theorem under_any (a b c d : Int) (w : World) : Calls Tryd.prog 26 #[.agg #[.int .i64 a, .int .i64 b], .agg #[.int .i64 c, .int .i64 d]] w fun e w' => e = .returned (.bool (underB a b c d)) ∧ Below w.heap.size w w' := by
  go_enter Tryd.func26, Tryd.ntmps26
  go_wp2
  all_goals go_ret
  all_goals refine ⟨?_, by (repeat' (first | (with_reducible exact Below.refl _ _) | (with_reducible assumption) | (with_reducible refine Below.drew ?_) | (with_reducible refine below_drewN ?_ _) | ((with_reducible refine Below.alloc ?_ ?_ _); rotate_left; focus (go_size; done)) | ((with_reducible refine Below.setCell ?_ ?_ _); rotate_left; focus (go_size; done)) | ((with_reducible refine Below.trans ?_ (Below.mono (by with_reducible assumption) ?_)); rotate_left; focus (go_size; done))))⟩
  all_goals simp [underB]
  all_goals (first | done | omega | (simp_all; done) | (simp_all; omega) | (rw [Bool.eq_iff_iff]; simp_all; done) | (rw [Bool.eq_iff_iff]; simp_all; omega))

set_option maxHeartbeats 400000 in
theorem krform_any (k o : Int) (w : World) : Calls Tryd.prog 10 #[.agg #[.int .i64 k, .int .i64 o]] w fun e w' => e = .returned (.bool (formB k o)) ∧ Below w.heap.size w w' := by
  go_enter Tryd.func10, Tryd.ntmps10
  go_wp2_with ((go_at_call 22; with_reducible refine (knumber_any k o _).mono ?_); rintro _ w1 ⟨rfl, hb⟩; have hbs := hb.size; (try simp only [World.size_alloc, World.size_setCell, World.size_drew, World.heap_drewN] at hbs); obtain ⟨hbc, hbf⟩ := bcell hb; (try have : w.heap.size < w1.heap.size := by omega); (try have : w.heap.size + 1 < w1.heap.size := by omega); (try have : w.heap.size + 1 + 1 < w1.heap.size := by omega); (try have : w.heap.size + 1 + 1 + 1 < w1.heap.size := by omega))
  go_ret
  exact ⟨ret_bool (form_num k o), by (repeat' (first | (with_reducible exact Below.refl _ _) | (with_reducible assumption) | (with_reducible refine Below.drew ?_) | (with_reducible refine below_drewN ?_ _) | ((with_reducible refine Below.alloc ?_ ?_ _); rotate_left; focus (go_size; done)) | ((with_reducible refine Below.setCell ?_ ?_ _); rotate_left; focus (go_size; done)) | ((with_reducible refine Below.trans ?_ (Below.mono (by with_reducible assumption) ?_)); rotate_left; focus (go_size; done))))⟩
end Go.Proofs.YtanjbdhjnmmfdaaDoor

set_option linter.unusedSimpArgs false
set_option linter.unusedVariables false
namespace Go.Proofs.YtanjbdhjnmmfdaaDoor
open Go.RowKit

def OneItem (w : World) (L : Value) (k1 : Int) : Prop := ∃ b, L = .slice (some ⟨b, 0, none⟩) 1 1 ∧ b < w.heap.size ∧ w.cell? ⟨b, 0, none⟩ = some (.int .i64 k1)

def fitsN (k tk : Int) : Bool := decide (k = 0) || decide (tk = 0) || decide (k = tk)
set_option maxHeartbeats 400000 in
theorem fits_nil (k D tk to : Int) (w : World) : Calls Tryd.prog 19 #[.agg #[.int .i64 k, .bool false, .bool false, .int .u64 0, .int .u64 0, .int .i64 0, .string ⟨#[]⟩, .int .i64 D, .slice none 0 0, .slice none 0 0], .agg #[.int .i64 tk, .int .i64 to]] w fun e w' => e = .returned (.bool (fitsN k tk)) ∧ Below w.heap.size w w' := by
  go_enter Tryd.func19, Tryd.ntmps19
  go_wp2
  all_goals try go_rounds 1
  all_goals go_ret
  all_goals refine ⟨?_, by (repeat' (first | (with_reducible exact Below.refl _ _) | (with_reducible assumption) | (with_reducible refine Below.drew ?_) | (with_reducible refine below_drewN ?_ _) | ((with_reducible refine Below.alloc ?_ ?_ _); rotate_left; focus (go_size; done)) | ((with_reducible refine Below.setCell ?_ ?_ _); rotate_left; focus (go_size; done)) | ((with_reducible refine Below.trans ?_ (Below.mono (by with_reducible assumption) ?_)); rotate_left; focus (go_size; done))))⟩
  all_goals simp [fitsN]
  all_goals try simp_all
  all_goals omega
def fitsO (k1 tk to : Int) : Bool := decide (tk = 0) || (decide (tk = 5) && (decide (to = 0) || decide (k1 = to)))
set_option maxHeartbeats 400000 in
theorem fits_one (k1 D tk to : Int) (L : Value) (w : World) (h1 : k1 ≠ 0) (hL : OneItem w L k1) : Calls Tryd.prog 19 #[.agg #[.int .i64 5, .bool false, .bool false, .int .u64 0, .int .u64 0, .int .i64 0, .string ⟨#[]⟩, .int .i64 D, L, .slice none 0 0], .agg #[.int .i64 tk, .int .i64 to]] w fun e w' => e = .returned (.bool (fitsO k1 tk to)) ∧ Below w.heap.size w w' := by
  obtain ⟨b, rfl, hlt, hc⟩ := hL
  by_cases h0 : tk = 0
  · subst h0
    go_enter Tryd.func19, Tryd.ntmps19
    go_wp2
    go_ret
    exact ⟨by simp [fitsO], by (repeat' (first | (with_reducible exact Below.refl _ _) | (with_reducible assumption) | (with_reducible refine Below.drew ?_) | (with_reducible refine below_drewN ?_ _) | ((with_reducible refine Below.alloc ?_ ?_ _); rotate_left; focus (go_size; done)) | ((with_reducible refine Below.setCell ?_ ?_ _); rotate_left; focus (go_size; done)) | ((with_reducible refine Below.trans ?_ (Below.mono (by with_reducible assumption) ?_)); rotate_left; focus (go_size; done))))⟩
  by_cases h5 : tk = 5
  · subst h5
    by_cases hto : to = 0
    · subst hto
      go_enter Tryd.func19, Tryd.ntmps19
      go_wp2
      go_rounds 1
      go_ret
      exact ⟨by simp [fitsO], by (repeat' (first | (with_reducible exact Below.refl _ _) | (with_reducible assumption) | (with_reducible refine Below.drew ?_) | (with_reducible refine below_drewN ?_ _) | ((with_reducible refine Below.alloc ?_ ?_ _); rotate_left; focus (go_size; done)) | ((with_reducible refine Below.setCell ?_ ?_ _); rotate_left; focus (go_size; done)) | ((with_reducible refine Below.trans ?_ (Below.mono (by with_reducible assumption) ?_)); rotate_left; focus (go_size; done))))⟩
    · have e1 : (to != 0) = true := by simpa using hto
      have e2 : (k1 != 0) = true := by simpa using h1
      by_cases h6 : k1 = to
      · have e3 : (k1 != to) = false := by simpa using h6
        have H6 := Lib.hid h6
        clear h6 hto h1
        go_enter Tryd.func19, Tryd.ntmps19
        go_wp2
        refine wp_loop_rounds 2 ?_
        rw [rounds_succ]
        go_wp2
        go_quiet (fail)
        go_wp2
        rw [rounds_succ]
        go_wp2
        go_ret
        exact ⟨by simp [fitsO, H6.out], by (repeat' (first | (with_reducible exact Below.refl _ _) | (with_reducible assumption) | (with_reducible refine Below.drew ?_) | (with_reducible refine below_drewN ?_ _) | ((with_reducible refine Below.alloc ?_ ?_ _); rotate_left; focus (go_size; done)) | ((with_reducible refine Below.setCell ?_ ?_ _); rotate_left; focus (go_size; done)) | ((with_reducible refine Below.trans ?_ (Below.mono (by with_reducible assumption) ?_)); rotate_left; focus (go_size; done))))⟩
      · have e3 : (k1 != to) = true := by simpa using h6
        have H6 := Lib.hid h6
        have H0 := Lib.hid hto
        clear h6 hto h1
        go_enter Tryd.func19, Tryd.ntmps19
        go_wp2
        refine wp_loop_rounds 2 ?_
        rw [rounds_succ]
        go_wp2
        go_quiet (fail)
        go_wp2
        go_ret
        exact ⟨by simp [fitsO, H6.out, H0.out], by (repeat' (first | (with_reducible exact Below.refl _ _) | (with_reducible assumption) | (with_reducible refine Below.drew ?_) | (with_reducible refine below_drewN ?_ _) | ((with_reducible refine Below.alloc ?_ ?_ _); rotate_left; focus (go_size; done)) | ((with_reducible refine Below.setCell ?_ ?_ _); rotate_left; focus (go_size; done)) | ((with_reducible refine Below.trans ?_ (Below.mono (by with_reducible assumption) ?_)); rotate_left; focus (go_size; done))))⟩
  · have e5 : (5 != tk) = true := by simp; omega
    have e0 : (tk == 0) = false := by simpa using h0
    have H0 := Lib.hid h0
    have H5 := Lib.hid h5
    clear h0 h5
    go_enter Tryd.func19, Tryd.ntmps19
    go_wp2
    go_ret
    exact ⟨by simp [fitsO, H0.out, H5.out], by (repeat' (first | (with_reducible exact Below.refl _ _) | (with_reducible assumption) | (with_reducible refine Below.drew ?_) | (with_reducible refine below_drewN ?_ _) | ((with_reducible refine Below.alloc ?_ ?_ _); rotate_left; focus (go_size; done)) | ((with_reducible refine Below.setCell ?_ ?_ _); rotate_left; focus (go_size; done)) | ((with_reducible refine Below.trans ?_ (Below.mono (by with_reducible assumption) ?_)); rotate_left; focus (go_size; done))))⟩
end Go.Proofs.YtanjbdhjnmmfdaaDoor

set_option linter.unusedSimpArgs false
set_option linter.unusedVariables false
namespace Go.Proofs.YtanjbdhjnmmfdaaDoor
open Go.RowKit

/-- what the reference's Under computes of types in form -/
def refU (k o c d : Int) : Bool :=
  if k = 0 then fitsN 6 c else if k = 5 then fitsO (if o = 0 then 5 else o) c d else fitsN k c

theorem refU_under (k o c d : Int) (hf : formB k o = true) (hg : formB c d = true) : refU k o c d = underB k o c d := by
  have h1 : (k = 5 ∧ 0 ≤ o ∧ o < 5) ∨ (k ≠ 5 ∧ 0 ≤ k ∧ k < 5 ∧ o = 0) := by
    unfold formB at hf; split at hf <;> simp_all
  have h2 : (c = 5 ∧ 0 ≤ d ∧ d < 5) ∨ (c ≠ 5 ∧ 0 ≤ c ∧ c < 5 ∧ d = 0) := by
    unfold formB at hg; split at hg <;> simp_all
  clear hf hg
  unfold refU underB fitsN fitsO
  rw [Bool.eq_iff_iff]
  split
  · simp; omega
  · split
    · split <;> simp <;> omega
    · simp; omega

def ofT (i : Int) : Int × Int := if i < 5 then (i, 0) else (5, i - 5)
theorem form_of (i : Int) (h1 : 0 ≤ i) (h2 : i < 10) : formB (ofT i).1 (ofT i).2 = true := by
  unfold formB ofT
  split <;> simp <;> omega

/-- the reference's Join, round by round -/
def joinT (a b : Int × Int) : Nat → Int × Int
  | 0 => (0, 0)
  | n + 1 => let c := ofT n
    if refU a.1 a.2 c.1 c.2 = true ∧ refU b.1 b.2 c.1 c.2 = true ∧ refU c.1 c.2 (joinT a b n).1 (joinT a b n).2 = true then c else joinT a b n
theorem joinT_form (a b : Int × Int) (n : Nat) (h : n ≤ 10) : formB (joinT a b n).1 (joinT a b n).2 = true := by
  induction n with
  | zero => rfl
  | succ n ih =>
    unfold joinT
    dsimp only
    split
    · exact form_of n (by omega) (by omega)
    · exact ih (by omega)
end Go.Proofs.YtanjbdhjnmmfdaaDoor

set_option linter.unusedSimpArgs false
set_option linter.unusedVariables false
namespace Go.Proofs.YtanjbdhjnmmfdaaDoor
open Go.RowKit

def joinP (a b : Int × Int) : Int × Int :=
  if underB a.1 a.2 b.1 b.2 = true then b else if underB b.1 b.2 a.1 a.2 = true then a else if a.1 = 5 ∧ b.1 = 5 then (5, 0) else (0, 0)
theorem form_cases (k o : Int) (h : formB k o = true) : ∃ i : Fin 10, ofT (i.val : Int) = (k, o) := by
  have h1 : (k = 5 ∧ 0 ≤ o ∧ o < 5) ∨ (k ≠ 5 ∧ 0 ≤ k ∧ k < 5 ∧ o = 0) := by
    unfold formB at h; split at h <;> simp_all
  rcases h1 with ⟨rfl, h1, h2⟩ | ⟨_, h1, h2, rfl⟩
  · refine ⟨⟨(5 + o).toNat, by omega⟩, ?_⟩
    have e : (((5 + o).toNat : Nat) : Int) = 5 + o := by omega
    simp only [ofT, e]
    rw [if_neg (by omega)]
    congr 1
    omega
  · refine ⟨⟨k.toNat, by omega⟩, ?_⟩
    have e : ((k.toNat : Nat) : Int) = k := by omega
    simp only [ofT, e]
    rw [if_pos (by omega)]
theorem joins_agree : ∀ i j : Fin 10, joinT (ofT (i.val : Int)) (ofT (j.val : Int)) 10 = joinP (ofT (i.val : Int)) (ofT (j.val : Int)) := by decide +kernel
theorem join_eq (a1 a2 b1 b2 : Int) (ha : formB a1 a2 = true) (hb : formB b1 b2 = true) : joinT (a1, a2) (b1, b2) 10 = joinP (a1, a2) (b1, b2) := by
  obtain ⟨i, hi⟩ := form_cases a1 a2 ha
  obtain ⟨j, hj⟩ := form_cases b1 b2 hb
  rw [← hi, ← hj]
  exact joins_agree i j
end Go.Proofs.YtanjbdhjnmmfdaaDoor
