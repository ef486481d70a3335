/- The contracts of the functions that the law reaches, part 1: what each returns and what becomes of memory. -/
import Derived.WalkKit
import Derived.Test.YtldhhoinjdkdgaaRows
import Derived.WalkSpells
import Derived.WalkLawsBesides
import Derived.Handy
import Derived.Lib.Hide
import Derived.BigQuiet
import Derived.Deep.QuietTactic
import Derived.Deep.LoopGhost
import Derived.Deep.RegionHeld3
import Derived.Deep.AppendLies
import Derived.Deep.RegionLaw
import Derived.Laws.OwnMore
import Derived.OwnWalk
import Derived.ProofKit
import Derived.OpenShut
import Derived.ShutString
import Derived.ChangeOld
import Derived.Below
import Derived.Lib.SmallJoins
import Derived.Deep.Matrix
import Derived.Laws.Tables
import Derived.BigRegion
set_option linter.unusedSimpArgs false
set_option linter.unusedVariables false
namespace Go.Proofs.Ytldhhoinjdkdgaa

def swapL (l : List Int) (i j : Nat) : List Int := (l.set i (l.getD j 0)).set j (l.getD i 0)
theorem swapL_length (l : List Int) (i j : Nat) : (swapL l i j).length = l.length := by unfold swapL; simp
theorem getD_set2 (l : List Int) (i k : Nat) (x : Int) (hi : i < l.length) : (l.set i x).getD k 0 = if k = i then x else l.getD k 0 := by
  rw [List.getD_eq_getElem?_getD, List.getD_eq_getElem?_getD]
  by_cases h : k = i
  · subst h
    rw [if_pos rfl, List.getElem?_set_self hi]; rfl
  · rw [if_neg h, List.getElem?_set_ne (fun e => h e.symm)]
theorem swapL_getD {l : List Int} {i j : Nat} (hi : i < l.length) (hj : j < l.length) (k : Nat) : (swapL l i j).getD k 0 = if k = j then l.getD i 0 else if k = i then l.getD j 0 else l.getD k 0 := by
  unfold swapL
  rw [getD_set2 _ _ _ _ (by simpa using hj), getD_set2 _ _ _ _ hi]
theorem getD_get {l : List Int} {k : Nat} (h : k < l.length) : l.getD k 0 = l[k] := by
  rw [List.getD_eq_getElem?_getD, List.getElem?_eq_getElem h]; rfl
theorem swapL_perm {l : List Int} {i j : Nat} (hi : i < l.length) (hj : j < l.length) : (swapL l i j).Perm l := by
  unfold swapL
  rw [getD_get hi, getD_get hj]
  exact List.set_set_perm hi hj
/-- among the first n each is no less than the one above it -/
def heapN (l : List Int) (n : Nat) : Prop := ∀ c, 0 < c → c < n → l.getD ((c - 1) / 2) 0 ≤ l.getD c 0
theorem heap_min {l : List Int} {n : Nat} (h : heapN l n) : ∀ k, k < n → l.getD 0 0 ≤ l.getD k 0 := by
  intro k
  induction k using Nat.strongRecOn with
  | ind k ih =>
    intro hk
    by_cases h0 : k = 0
    · subst h0; exact Int.le_refl _
    · have h1 := ih ((k - 1) / 2) (by omega) (by omega)
      have h2 := h k (by omega) hk
      omega
/-- a heap but for the one at j, which may be too small -/
def UpInv (l : List Int) (j : Nat) : Prop := ∀ c, 0 < c → c < l.length → (c ≠ j → l.getD ((c - 1) / 2) 0 ≤ l.getD c 0) ∧ ((c - 1) / 2 = j → 0 < j → l.getD ((j - 1) / 2) 0 ≤ l.getD c 0)
theorem up_done {l : List Int} {j : Nat} (h : UpInv l j) (hj : j = 0 ∨ l.getD ((j - 1) / 2) 0 ≤ l.getD j 0) : heapN l l.length := by
  intro c h0 hc
  by_cases e : c = j
  · subst e
    rcases hj with hj | hj
    · omega
    · exact hj
  · exact (h c h0 hc).1 e
theorem up_step {l : List Int} {j : Nat} (h : UpInv l j) (h0 : 0 < j) (hj : j < l.length) (hlt : l.getD j 0 < l.getD ((j - 1) / 2) 0) : UpInv (swapL l ((j - 1) / 2) j) ((j - 1) / 2) := by
  intro c hc0 hc
  rw [swapL_length] at hc
  have hp : (j - 1) / 2 < l.length := by omega
  have g := fun k => swapL_getD hp hj k
  have hcj := h c hc0 hc
  refine ⟨fun hne => ?_, fun hpar hpos => ?_⟩
  · rw [g, g]
    by_cases e1 : c = j
    · subst e1
      rw [if_neg (by omega), if_pos rfl, if_pos rfl]
      omega
    · rw [if_neg e1, if_neg hne]
      by_cases e2 : (c - 1) / 2 = j
      · rw [if_pos e2]
        exact hcj.2 e2 h0
      · rw [if_neg e2]
        by_cases e3 : (c - 1) / 2 = (j - 1) / 2
        · rw [if_pos e3]
          have := hcj.1 e1
          rw [e3] at this
          omega
        · rw [if_neg e3]
          exact hcj.1 e1
  · rw [g, g]
    have hpp := (h ((j - 1) / 2) hpos hp).1 (by omega)
    rw [if_neg (by omega), if_neg (by omega)]
    by_cases e1 : c = j
    · subst e1
      rw [if_pos rfl]
      exact hpp
    · rw [if_neg e1, if_neg (by omega)]
      have := hcj.1 e1
      rw [hpar] at this
      omega
theorem up_start {l : List Int} {x : Int} (h : heapN l l.length) : UpInv (l ++ [x]) l.length := by
  intro c h0 hc
  rw [List.length_append, List.length_singleton] at hc
  have g : ∀ k, k < l.length → (l ++ [x]).getD k 0 = l.getD k 0 := fun k hk => by
    rw [List.getD_eq_getElem?_getD, List.getD_eq_getElem?_getD, List.getElem?_append_left hk]
  refine ⟨fun hne => ?_, fun hp => ?_⟩
  · rw [g _ (by omega), g _ (by omega)]
    exact h c h0 (by omega)
  · omega
/-- a heap among the first n but for the one at i, which may be too great -/
def DownInv (l : List Int) (i n : Nat) : Prop := ∀ c, 0 < c → c < n → ((c - 1) / 2 ≠ i → l.getD ((c - 1) / 2) 0 ≤ l.getD c 0) ∧ ((c - 1) / 2 = i → 0 < i → l.getD ((i - 1) / 2) 0 ≤ l.getD c 0)
theorem down_done {l : List Int} {i n : Nat} (h : DownInv l i n) (h1 : 2 * i + 1 < n → l.getD i 0 ≤ l.getD (2 * i + 1) 0) (h2 : 2 * i + 2 < n → l.getD i 0 ≤ l.getD (2 * i + 2) 0) : heapN l n := by
  intro c h0 hc
  by_cases e : (c - 1) / 2 = i
  · have : c = 2 * i + 1 ∨ c = 2 * i + 2 := by omega
    rw [e]
    rcases this with rfl | rfl
    · exact h1 hc
    · exact h2 hc
  · exact (h c h0 hc).1 e
theorem down_step {l : List Int} {i j n : Nat} (h : DownInv l i n) (hn : n ≤ l.length) (hij : (j - 1) / 2 = i) (hj0 : 0 < j) (hj : j < n) (hlt : l.getD j 0 < l.getD i 0)
    (hmin : ∀ c, 0 < c → c < n → (c - 1) / 2 = i → l.getD j 0 ≤ l.getD c 0) : DownInv (swapL l i j) j n := by
  intro c hc0 hc
  have hi : i < l.length := by omega
  have g := fun k => swapL_getD hi (show j < l.length by omega) k
  have hcc := h c hc0 hc
  refine ⟨fun hne => ?_, fun hpar hpos => ?_⟩
  · rw [g, g]
    rw [if_neg hne]
    by_cases e1 : (c - 1) / 2 = i
    · rw [if_pos e1]
      by_cases e2 : c = j
      · rw [if_pos e2]; omega
      · rw [if_neg e2, if_neg (by omega)]
        exact hmin c hc0 hc e1
    · rw [if_neg e1]
      by_cases e2 : c = j
      · subst e2; exact absurd hij e1
      · rw [if_neg e2]
        by_cases e3 : c = i
        · subst e3
          rw [if_pos rfl]
          exact (h j hj0 hj).2 hij (by omega)
        · rw [if_neg e3]
          exact hcc.1 e1
  · rw [g, g, hij]
    rw [if_neg (by omega), if_pos rfl, if_neg (by omega), if_neg (by omega)]
    have := hcc.1 (by omega)
    rw [hpar] at this
    exact this
theorem down_start {l : List Int} {n : Nat} (hn : l.length = n + 1) (h : heapN l (n + 1)) : DownInv (swapL l 0 n) 0 n := by
  intro c h0 hc
  have g := fun k => swapL_getD (l := l) (i := 0) (j := n) (by omega) (by omega) k
  refine ⟨fun hne => ?_, fun _ hp => absurd hp (Nat.lt_irrefl _)⟩
  rw [g, g, if_neg (by omega), if_neg (by omega), if_neg (by omega), if_neg (by omega)]
  exact h c h0 (by omega)
theorem heapN_take {l : List Int} {n : Nat} (hn : n ≤ l.length) (h : heapN l n) : heapN (l.take n) (l.take n).length := by
  intro c h0 hc
  rw [List.length_take, Nat.min_eq_left hn] at hc
  have g : ∀ k, k < n → (l.take n).getD k 0 = l.getD k 0 := fun k hk => by
    rw [List.getD_eq_getElem?_getD, List.getD_eq_getElem?_getD, List.getElem?_take_of_lt hk]
  rw [g _ (by omega), g _ hc]
  exact h c h0 hc
theorem take_last {l : List Int} {n : Nat} (hn : l.length = n + 1) : l = l.take n ++ [l.getD n 0] := by
  conv => lhs; rw [← List.take_append_drop n l]
  congr 1
  have : l.drop n = [l[n]] := by
    rw [List.drop_eq_getElem_cons (by omega), List.drop_of_length_le (by omega)]
  rw [this, getD_get (by omega)]
end Go.Proofs.Ytldhhoinjdkdgaa

set_option linter.unusedSimpArgs false
set_option linter.unusedVariables false
namespace Go.Proofs.Ytldhhoinjdkdgaa
open Go.RowKit

theorem bcell {W w1 : World} (hb : Below W.heap.size W w1) : (∀ b o, b < W.heap.size → w1.cell? ⟨b, o, none⟩ = W.cell? ⟨b, o, none⟩) ∧ (∀ b o, b < W.heap.size → w1.frozen? ⟨b, o, none⟩ = W.frozen? ⟨b, o, none⟩) :=
  ⟨fun b o h => hb.cell (p := ⟨b, o, none⟩) h, fun b o h => hb.frozen (p := ⟨b, o, none⟩) h⟩
theorem ret_int {k : IntKind} {a b : Int} (h : a = b) : Ending.returned (.int k a) = .returned (.int k b) := by rw [h]
theorem ret_bool {a b : Bool} (h : a = b) : Ending.returned (.bool a) = .returned (.bool b) := by rw [h]
theorem below_drewN {B : Nat} {a w : World} (h : Below B a w) (n : Nat) : Below B a (w.drewN n) := ⟨h.os, h.tape, h.output, h.size, h.block⟩

theorem quiet_add {P : Program} {f : FuncId} {args : Array Value} {w : World} {a n : Nat} {v : Value}
    (h : Calls P f args (w.drewN (a + n)) fun e w' => e = .returned v ∧ ∃ m, w' = (w.drewN (a + n)).drewN m) :
    Calls P f args (w.drewN (a + n)) fun e w' => e = .returned v ∧ ∃ m, w' = w.drewN (a + m) :=
  h.mono fun _ _ ⟨he, m, hm⟩ => ⟨he, n + m, by rw [hm, World.drewN_drewN, Nat.add_assoc]⟩

/-- a fact that no tactic looks into: the walk's own 'contradiction' unfolds what 'Hid' hides (powers!), but not this -/
def Far (p : Prop) : Prop := True → p
theorem Far.mk {p : Prop} (h : p) : Far p := fun _ => h
theorem Far.out {p : Prop} (h : Far p) : p := h trivial

/-- Block g holds just the cells cs of type t, none of them frozen. -/
def Bk (w : World) (g : Nat) (t : TypeId) (cs : List Value) : Prop := w.heap[g]? = some (.cells cs.toArray t (0, 0))
section
variable {w w' : World} {g : Nat} {t : TypeId} {cs : List Value}
theorem Bk.lt (h : Bk w g t cs) : g < w.heap.size := by
  rcases Nat.lt_or_ge g w.heap.size with hlt | hge
  · exact hlt
  · unfold Bk at h; rw [Array.getElem?_eq_none hge] at h; cases h
theorem Bk.cell (h : Bk w g t cs) (i : Nat) {v : Value} (hv : cs[i]? = some v) : w.cell? ⟨g, i, none⟩ = some v := by
  rw [cell_of_row w g i cs.toArray t (0, 0) h, ← hv]; simp
theorem Bk.frozen (h : Bk w g t cs) (i : Nat) : w.frozen? ⟨g, i, none⟩ = false := by
  unfold Bk at h
  simp [World.frozen?, h]
theorem Bk.new (w : World) (t : TypeId) (cs : List Value) : Bk (w.alloc (.cells cs.toArray t)) w.heap.size t cs := heap_alloc_new w _
theorem Bk.new_ {w : World} {t : TypeId} {cs : List Value} {g : Nat} (hg : g = w.heap.size) : Bk (w.alloc (.cells cs.toArray t)) g t cs := by subst hg; exact Bk.new w t cs
theorem Bk.drew (h : Bk w g t cs) : Bk w.drew g t cs := h
theorem Bk.drewN (h : Bk w g t cs) (n : Nat) : Bk (w.drewN n) g t cs := h
theorem Bk.alloc (h : Bk w g t cs) (o : Obj) : Bk (w.alloc o) g t cs := (Below.heap_alloc w o g h.lt).trans h
theorem Bk.set_ (h : Bk w g t cs) (i : Nat) (u : Value) : Bk (w.setCell ⟨g, i, none⟩ u) g t (cs.set i u) := by
  unfold Bk at h ⊢
  simp [World.setCell, Array.getElem?_modify, h]
theorem Bk.far (h : Bk w g t cs) {p : Addr} (hp : g ≠ p.block) (u : Value) : Bk (w.setCell p u) g t cs := (Below.heap_setCell w p u g hp).trans h
theorem Bk.below {B : Nat} (h : Bk w g t cs) (hb : Below B w w') (hg : g < B) : Bk w' g t cs := (hb.block g hg).trans h
end
end Go.Proofs.Ytldhhoinjdkdgaa

set_option linter.unusedSimpArgs false
set_option linter.unusedVariables false
namespace Go.Proofs.Ytldhhoinjdkdgaa
open Go.RowKit

/-- what lay in w lies in w' as it did, but for blocks whose number S allows; numbers stay -/
structure Turn (S : Nat → Prop) (w : World) (o : Nat → Nat) (w' : World) (o' : Nat → Nat) : Prop where
  os : w'.os = w.os
  tape : w'.tape = w.tape
  output : w'.output = w.output
  size : w.heap.size ≤ w'.heap.size
  num : ∀ k, k < w.heap.size → o' k = o k
  block : ∀ k, k < w.heap.size → ¬ S (o k) → w'.heap[k]? = w.heap[k]?
section
variable {S S' : Nat → Prop} {w w' w'' : World} {o o' o'' : Nat → Nat}
theorem Turn.refl (S : Nat → Prop) (w : World) (o : Nat → Nat) : Turn S w o w o := ⟨rfl, rfl, rfl, Nat.le_refl _, fun _ _ => rfl, fun _ _ _ => rfl⟩
theorem Turn.trans (h : Turn S w o w' o') (k : Turn S w' o' w'' o'') : Turn S w o w'' o'' :=
  ⟨k.os.trans h.os, k.tape.trans h.tape, k.output.trans h.output, Nat.le_trans h.size k.size, fun i hi => (k.num i (Nat.lt_of_lt_of_le hi h.size)).trans (h.num i hi),
    fun i hi hs => (k.block i (Nat.lt_of_lt_of_le hi h.size) (by rw [h.num i hi]; exact hs)).trans (h.block i hi hs)⟩
theorem Turn.mono (h : Turn S w o w' o') (hs : ∀ l, S l → S' l) : Turn S' w o w' o' := ⟨h.os, h.tape, h.output, h.size, h.num, fun i hi hn => h.block i hi fun hh => hn (hs _ hh)⟩
theorem Turn.drew (h : Turn S w o w' o') : Turn S w o w'.drew o' := ⟨h.os, h.tape, h.output, h.size, h.num, h.block⟩
theorem Turn.drewN (h : Turn S w o w' o') (n : Nat) : Turn S w o (w'.drewN n) o' := ⟨h.os, h.tape, h.output, h.size, h.num, h.block⟩
theorem Turn.alloc (h : Turn S w o w' o') (ob : Obj) : Turn S w o (w'.alloc ob) o' :=
  ⟨h.os, h.tape, h.output, by rw [World.size_alloc]; exact Nat.le_succ_of_le h.size, h.num, fun i hi hn => (Below.heap_alloc w' ob i (Nat.lt_of_lt_of_le hi h.size)).trans (h.block i hi hn)⟩
theorem Turn.setCell (h : Turn S w o w' o') {p : Addr} (hp : w.heap.size ≤ p.block ∨ S (o p.block)) (u : Value) : Turn S w o (w'.setCell p u) o' :=
  ⟨h.os, h.tape, h.output, by rw [World.size_setCell]; exact h.size, h.num, fun i hi hn => (Below.heap_setCell w' p u i (by
    rintro rfl
    rcases hp with hp | hp
    · omega
    · exact hn hp)).trans (h.block i hi hn)⟩
theorem Turn.below {B : Nat} (h : Turn S w o w' o') (hB : ∀ k, k < B → ¬ S (o k)) (hs : B ≤ w.heap.size) : Below B w w' :=
  ⟨h.os, h.tape, h.output, h.size, fun k hk => h.block k (Nat.lt_of_lt_of_le hk hs) (hB k hk)⟩
theorem Turn.of_below (S : Nat → Prop) (o : Nat → Nat) (h : Below w.heap.size w w') : Turn S w o w' o := ⟨h.os, h.tape, h.output, h.size, fun _ _ => rfl, fun k hk _ => h.block k hk⟩
theorem Turn.num0 {B : Nat} (h : Turn S w o w' o') (hs : B ≤ w.heap.size) (hB : ∀ k, k < B → o k = 0) : ∀ k, k < B → o' k = 0 := fun k hk => (h.num k (Nat.lt_of_lt_of_le hk hs)).trans (hB k hk)

/-- block g is known whole, and bears the number l -/
def Lb (w : World) (o : Nat → Nat) (l g : Nat) (t : TypeId) (cs : List Value) : Prop := Bk w g t cs ∧ o g = l
/-- v is a row of ints of the call's own, and its block bears the number l -/
def Row (w : World) (o : Nat → Nat) (l : Nat) (v : Value) (xs : List Int) : Prop := w.ownsRow 0 3 1 v xs.length (xs.map (Value.int .i64)) ∧ ∀ g, v.ownBlock = some g → o g = l
variable {l g : Nat} {t : TypeId} {cs : List Value} {v : Value} {xs : List Int}
theorem Lb.turn (h : Lb w o l g t cs) (k : Turn S w o w' o') (hs : ¬ S l) : Lb w' o' l g t cs :=
  ⟨(k.block g h.1.lt (by rw [h.2]; exact hs)).trans h.1, (k.num g h.1.lt).trans h.2⟩
theorem Lb.alloc (h : Lb w o l g t cs) (ob : Obj) : Lb (w.alloc ob) o l g t cs := ⟨h.1.alloc ob, h.2⟩
theorem Lb.drew (h : Lb w o l g t cs) : Lb w.drew o l g t cs := h
theorem Lb.drewN (h : Lb w o l g t cs) (n : Nat) : Lb (w.drewN n) o l g t cs := h
theorem Lb.set_ (h : Lb w o l g t cs) (i : Nat) (u : Value) : Lb (w.setCell ⟨g, i, none⟩ u) o l g t (cs.set i u) := ⟨h.1.set_ i u, h.2⟩
theorem Lb.far (h : Lb w o l g t cs) {p : Addr} (hp : o p.block ≠ l) (u : Value) : Lb (w.setCell p u) o l g t cs := ⟨h.1.far (fun e => hp (by rw [← e]; exact h.2)) u, h.2⟩
theorem Row.turn (h : Row w o l v xs) (k : Turn S w o w' o') (hs : ¬ S l) : Row w' o' l v xs := by
  refine ⟨⟨h.1.1, ?_⟩, fun g hg => ?_⟩
  · rcases h.1.2 with hn | ⟨g, cap, cur, rfl, hb, hgg, rest⟩
    · exact .inl hn
    · refine .inr ⟨g, cap, cur, rfl, hb, ?_, rest⟩
      have hlt := (Array.getElem?_eq_some_iff.1 hgg).1
      rw [k.block g hlt (by rw [h.2 g rfl]; exact hs)]
      exact hgg
  · obtain ⟨_, hlt⟩ := h.1.lt g hg
    exact (k.num g hlt).trans (h.2 g hg)
theorem Row.alloc (h : Row w o l v xs) (ob : Obj) : Row (w.alloc ob) o l v xs := ⟨h.1.alloc ob, h.2⟩
theorem Row.drew (h : Row w o l v xs) : Row w.drew o l v xs := h
theorem Row.drewN (h : Row w o l v xs) (n : Nat) : Row (w.drewN n) o l v xs := h
theorem Row.nil (w : World) (o : Nat → Nat) (l : Nat) : Row w o l (.slice none 0 0) [] := ⟨World.ownsRow_nil _ _ _ _, fun g hg => by cases hg⟩
theorem Row.set (h : Row w o l v xs) {p : Addr} (hp : o p.block ≠ l) (u : Value) : Row (w.setCell p u) o l v xs := by
  refine ⟨⟨h.1.1, ?_⟩, h.2⟩
  rcases h.1.2 with hn | ⟨g, cap, cur, rfl, hb, hgg, rest⟩
  · exact .inl hn
  · exact .inr ⟨g, cap, cur, rfl, hb, (Below.heap_setCell w p u g (fun e => hp (by rw [← e]; exact h.2 g rfl))).trans hgg, rest⟩
/-- what a row of the call's own looks like where it is not empty -/
theorem Row.form (h : Row w o l v xs) (hne : 0 < xs.length) : ∃ g cap cs, v = .slice (some ⟨g, 0, none⟩) xs.length cap ∧ xs.length ≤ cap ∧ cap ≤ maxLen ∧ cs.length = cap ∧ Lb w o l g 3 cs ∧ cs.take xs.length = xs.map (Value.int .i64) := by
  rcases h.1.2 with ⟨_, hn⟩ | ⟨g, cap, cur, rfl, _, hg, h1, h2, h3, h4⟩
  · omega
  · refine ⟨g, cap, cur.toList, rfl, h1, h2, by simpa using h3, ⟨by unfold Bk; simpa using hg, h.2 g rfl⟩, by simpa using h4⟩
theorem take_get {cs : List Value} {xs : List Int} (h : cs.take xs.length = xs.map (Value.int .i64)) {k : Nat} (hk : k < xs.length) : cs[k]? = some (.int .i64 (xs.getD k 0)) := by
  have e : (cs.take xs.length)[k]? = cs[k]? := List.getElem?_take_of_lt hk
  rw [← e, h, List.getElem?_map, List.getElem?_eq_getElem hk, List.getD_eq_getElem?_getD, List.getElem?_eq_getElem hk]
  rfl
theorem Row.of_block {w : World} {o : Nat → Nat} {l g cap : Nat} {cs : List Value} {xs : List Int} (h : Lb w o l g 3 cs) (h1 : xs.length ≤ cap) (h2 : cap ≤ maxLen) (h3 : cs.length = cap) (h4 : cs.take xs.length = xs.map (Value.int .i64)) :
    Row w o l (.slice (some ⟨g, 0, none⟩) xs.length cap) xs := by
  refine ⟨⟨by simp, .inr ⟨g, cap, cs.toArray, rfl, Nat.zero_le _, h.1, h1, h2, by simpa using h3, by simpa using h4⟩⟩, fun k hk => ?_⟩
  injection hk with hk
  subst hk
  exact h.2
theorem take_set {cs : List Value} {xs : List Int} (h : cs.take xs.length = xs.map (Value.int .i64)) (k : Nat) (x : Int) : (cs.set k (.int .i64 x)).take (xs.set k x).length = (xs.set k x).map (Value.int .i64) := by
  rw [List.length_set, List.take_set, h, List.map_set]
end
/-- what is new bears the number l -/
def relabel (o : Nat → Nat) (n l : Nat) : Nat → Nat := fun k => if k < n then o k else l
theorem relabel_old {o : Nat → Nat} {n l k : Nat} (h : k < n) : relabel o n l k = o k := if_pos h
theorem relabel_new {o : Nat → Nat} {n l k : Nat} (h : n ≤ k) : relabel o n l k = l := if_neg (Nat.not_lt.2 h)
theorem Turn.relabel {S : Nat → Prop} {w w' : World} {o : Nat → Nat} (h : Turn S w o w' o) {n : Nat} (hn : w.heap.size ≤ n) (l : Nat) : Turn S w o w' (relabel o n l) :=
  ⟨h.os, h.tape, h.output, h.size, fun k hk => relabel_old (Nat.lt_of_lt_of_le hk hn), h.block⟩
theorem Lb.new {w : World} (o : Nat → Nat) (l : Nat) (t : TypeId) (cs : List Value) {n : Nat} (hn : n ≤ w.heap.size) : Lb (w.alloc (.cells cs.toArray t)) (relabel o n l) l w.heap.size t cs := ⟨Bk.new w t cs, relabel_new hn⟩
/-- a row that has grown -/
theorem Row.push {w w' : World} {o : Nat → Nat} {l : Nat} {v : Value} {xs : List Int} (h : Row w o l v xs) {x : Int} {g cap : Nat}
    (h1 : w'.ownsRow 0 3 1 (.slice (some ⟨g, 0, none⟩) (xs.length + 1) cap) (xs.length + 1) (xs.map (Value.int .i64) ++ [.int .i64 x])) (hg : w.grownBy w' v.ownBlock) (hf : v.ownBlock = some g ∨ g = w.heap.size) :
    Row w' (relabel o w.heap.size l) l (.slice (some ⟨g, 0, none⟩) (xs.length + 1) cap) (xs ++ [x]) ∧ Turn (· = l) w o w' (relabel o w.heap.size l) := by
  refine ⟨⟨?_, fun k hk => ?_⟩, ⟨hg.os, hg.tape, hg.output, hg.size, fun k hk => relabel_old hk, fun k hk hn => hg.block k hk fun e => hn (h.2 k e.symm)⟩⟩
  · rw [List.length_append, List.map_append]; exact h1
  · injection hk with hk
    subst hk
    rcases hf with hf | hf
    · rw [relabel_old (h.1.lt g hf).2]; exact h.2 g hf
    · subst hf; exact relabel_new (Nat.le_refl _)
theorem info_int2 : (Try.prog.info? 3).map (fun i => (i.zero, i.size, i.bytes)) = some (some (.int .i64 0), 1, 8) := by kernel_rfl
theorem news_one {w : World} {b : Nat} {d : Int} (hd : w.cell? ⟨b, 0, none⟩ = some (.int .i64 d)) : ∀ (j : Nat) (u : Value), [Value.int .i64 d][j]? = some u → w.cell? ((⟨b, 0, none⟩ : Addr).add j) = some u := fun j u hj => by
  match j with
  | 0 => simp at hj; subst hj; exact hd
  | j + 1 => simp at hj
theorem one_cell (d : Int) : ∀ u ∈ [Value.int .i64 d], u.oneCell' = true := fun u hu => by rw [List.mem_singleton.1 hu]; rfl
/-- one int is appended to a row, as a step of a region that draws -/
theorem step_push {ops : Array Oper} {o : Oper} {a : Act} {w : World} {K : Act → World → Prop} {Q : Exit → Act → World → Prop} {E : Prop} (hgd : o.guard = none) (s x : Operand) (t : TypeId)
    (ho : o.op = .call { callee := .builtin .append, args := #[s, x], argTypes := #[t, t] }) (ht : Try.prog.underlying t = some (.slice 3))
    (own : Nat → Nat) (l : Nat) (v : Value) (ds : List Int) (hs : a.eval s = v) (hrow : Row w own l v ds)
    (b : Nat) (d : Int) (hx : a.eval x = .slice (some ⟨b, 0, none⟩) 1 1) (hd : w.cell? ⟨b, 0, none⟩ = some (.int .i64 d)) (hlen : ds.length ≤ 1000000)
    (h : ∀ g cap w', Row w' (relabel own w.heap.size l) l (.slice (some ⟨g, 0, none⟩) (ds.length + 1) cap) (ds ++ [d]) → Turn (· = l) w own w' (relabel own w.heap.size l) → g < w'.heap.size → K (a.put o.dst (.slice (some ⟨g, 0, none⟩) (ds.length + 1) cap)) w') :
    if Region.wanted o (yielded ops a.tmps) = true then Oper.wp Try.prog o a w K Q else E := by
  obtain ⟨i0, hi0, hz0, hz1, hz2⟩ := info_parts info_int2
  refine step_append_lies w hgd s x t ho 0 3 i0 (.int .i64 0) 1 8 ht hi0 hz0 hz1 hz2 rfl (by decide) v ds.length _ hs hrow.1 ⟨b, 0, none⟩ 1 1 [.int .i64 d] hx rfl (news_one hd) (one_cell d) (by decide) (by unfold maxLen; omega) (by omega) (Nat.zero_le _) w.heap.size rfl ?_
  intro g cap w' h1 h2 h3 h4
  obtain ⟨k1, k2⟩ := hrow.push h1 h2 h3
  exact h g cap w' k1 k2 h4
/-- one int is appended to a row -/
theorem wpList_pushL {w : World} {ops : Array Oper} {rest : List Oper} {o : Oper} {a : Act} {Q : Exit → Act → World → Prop} (hgd : o.guard = none) (s x : Operand) (t : TypeId)
    (ho : o.op = .call { callee := .builtin .append, args := #[s, x], argTypes := #[t, t] }) (ht : Try.prog.underlying t = some (.slice 3))
    (own : Nat → Nat) (l : Nat) (v : Value) (ds : List Int) (hs : a.eval s = v) (hrow : Row w own l v ds)
    (b : Nat) (d : Int) (hx : a.eval x = .slice (some ⟨b, 0, none⟩) 1 1) (hd : w.cell? ⟨b, 0, none⟩ = some (.int .i64 d)) (hlen : ds.length ≤ 1000000)
    (h : ∀ g cap w', Row w' (relabel own w.heap.size l) l (.slice (some ⟨g, 0, none⟩) (ds.length + 1) cap) (ds ++ [d]) → Turn (· = l) w own w' (relabel own w.heap.size l) → g < w'.heap.size → wpList Try.prog ops Q rest (a.put o.dst (.slice (some ⟨g, 0, none⟩) (ds.length + 1) cap)) w') :
    wpList Try.prog ops Q (o :: rest) a w := by
  obtain ⟨i0, hi0, hz0, hz1, hz2⟩ := info_parts info_int2
  refine wpList_append_lies w hgd s x t ho 0 3 i0 (.int .i64 0) 1 8 ht hi0 hz0 hz1 hz2 rfl (by decide) v ds.length _ hs hrow.1 ⟨b, 0, none⟩ 1 1 [.int .i64 d] hx rfl (news_one hd) (one_cell d) (by decide) (by unfold maxLen; omega) (by omega) (Nat.zero_le _) w.heap.size rfl ?_
  intro g cap w' h1 h2 h3 h4
  obtain ⟨k1, k2⟩ := hrow.push h1 h2 h3
  exact h g cap w' k1 k2 h4
end Go.Proofs.Ytldhhoinjdkdgaa

set_option linter.unusedSimpArgs false
set_option linter.unusedVariables false
namespace Go.Proofs.Ytldhhoinjdkdgaa
open Go.RowKit

theorem len_any (A : Option Addr) (n c : Nat) (w : World) : Calls Try.prog 21 #[.slice A n c] w fun e w' => e = .returned (.int .i64 n) ∧ w = w' := by
  go_enter Try.func21, Try.ntmps21
  go_wp2
  go_ret
  exact ⟨rfl, rfl⟩
set_option maxHeartbeats 1000000 in
theorem less_any (o : Nat → Nat) (b : Nat) (v : Value) (l : List Int) (i j : Nat) (hi : i < l.length) (hj : j < l.length) (w : World) (h : Row w o b v l) :
    Calls Try.prog 67 #[v, .int .i64 i, .int .i64 j] w fun e w' => e = .returned (.bool (decide (l.getD i 0 < l.getD j 0))) ∧ ∃ nn, w' = w.drewN nn := by
  obtain ⟨g, cap, cs, rfl, h1, h2, h3, h4, h5⟩ := h.form (by omega)
  have ci : w.cell? ⟨g, i, none⟩ = some (.int .i64 (l.getD i 0)) := h4.1.cell i (take_get h5 hi)
  have cj : w.cell? ⟨g, j, none⟩ = some (.int .i64 (l.getD j 0)) := h4.1.cell j (take_get h5 hj)
  have i0 : (0 : Int) ≤ (i : Int) := by omega
  have i1 : (i : Int) < (l.length : Int) := by omega
  have j0 : (0 : Int) ≤ (j : Int) := by omega
  have j1 : (j : Int) < (l.length : Int) := by omega
  generalize l.getD i 0 = x at *
  generalize l.getD j 0 = y at *
  unfold maxLen at h2
  have H5 := Lib.hid h5
  clear h h3 h4 h5
  go_enter Try.func67, Try.ntmps67
  go_wp2
  go_quiet (fail)
  go_wp2
  go_ret
  exact ⟨rfl, _, rfl⟩
set_option maxHeartbeats 1000000 in
theorem swap_any (o : Nat → Nat) (b : Nat) (v : Value) (l : List Int) (i j : Nat) (hi : i < l.length) (hj : j < l.length) (w : World) (h : Row w o b v l) :
    Calls Try.prog 70 #[v, .int .i64 i, .int .i64 j] w fun e w' => e = .returned (.tuple #[]) ∧ Row w' o b v (swapL l i j) ∧ Turn (· = b) w o w' o := by
  obtain ⟨g, cap, cs, rfl, h1, h2, h3, h4, h5⟩ := h.form (by omega)
  have H4 := Lib.hid h4
  have ci : w.cell? ⟨g, i, none⟩ = some (.int .i64 (l.getD i 0)) := h4.1.cell i (take_get h5 hi)
  have cj : w.cell? ⟨g, j, none⟩ = some (.int .i64 (l.getD j 0)) := h4.1.cell j (take_get h5 hj)
  have fi := h4.1.frozen i
  have fj := h4.1.frozen j
  have i0 : (0 : Int) ≤ (i : Int) := by omega
  have i1 : (i : Int) < (l.length : Int) := by omega
  have j0 : (0 : Int) ≤ (j : Int) := by omega
  have j1 : (j : Int) < (l.length : Int) := by omega
  have end_ : ∀ W, W = ((w.setCell ⟨g, i, none⟩ (.int .i64 (l.getD j 0))).setCell ⟨g, j, none⟩ (.int .i64 (l.getD i 0))) → Row W o b (.slice (some ⟨g, 0, none⟩) l.length cap) (swapL l i j) ∧ Turn (· = b) w o W o := by
    rintro W rfl
    have hb := h4.2
    constructor
    · have e := ((h4.set_ i (.int .i64 (l.getD j 0))).set_ j (.int .i64 (l.getD i 0)))
      have t := take_set (take_set h5 i (l.getD j 0)) j (l.getD i 0)
      have hl := swapL_length l i j
      have := Row.of_block (xs := swapL l i j) (cap := cap) e (by omega) h2 (by simpa using h3) t
      rwa [hl] at this
    · exact ((Turn.refl _ _ _).setCell (.inr hb) _).setCell (.inr hb) _
  have HE := Lib.hid end_
  obtain ⟨z, hz⟩ : ∃ z, (w.setCell ⟨g, i, none⟩ (.int .i64 (l.getD j 0))).cell? ⟨g, j, none⟩ = some z :=
    ⟨_, (h4.set_ i (.int .i64 (l.getD j 0))).1.cell j (List.getElem?_eq_getElem (by rw [List.length_set]; omega))⟩
  generalize l.getD i 0 = x at *
  generalize l.getD j 0 = y at *
  unfold maxLen at h2
  have H5 := Lib.hid h5
  clear h h3 h4 h5 end_
  go_enter Try.func70, Try.ntmps70
  go_wp2
  go_region
  all_goals
    go_end0
    exact ⟨rfl, (HE.out _ rfl).1.drew, (HE.out _ rfl).2.drew⟩
theorem assert_int (x : Int) (w : World) : (Instr.typeAssert (.iface 3 (.int .i64 x)) 20 3 false).run Try.prog w = .ok (.int .i64 x) w := by kernel_rfl
set_option maxHeartbeats 1000000 in
theorem push_m (o : Nat → Nat) (g : Nat) (v : Value) (l : List Int) (x : Int) (hl : l.length ≤ 100000) (w : World) (h3 : Lb w o 3 g 38 [v]) (h4 : Row w o 4 v l) :
    Calls Try.prog 69 #[.pointer (some ⟨g, 0, none⟩), .iface 3 (.int .i64 x)] w fun e w' => e = .returned (.tuple #[]) ∧ ∃ o' v', Lb w' o' 3 g 38 [v'] ∧ Row w' o' 4 v' (l ++ [x]) ∧ Turn (fun k => k = 3 ∨ k = 4) w o w' o' := by
  have c0 := h3.1.cell 0 rfl
  have f0 := h3.1.frozen 0
  have gl := h3.1.lt
  have ta := assert_int x
  go_enter Try.func69, Try.ntmps69
  go_wp2
  go_region_law (refine step_push rfl _ _ 38 rfl Try.underlying38 o 4 v l rfl (h4.alloc _) w.heap.size x rfl (by simp) (by omega) ?_; intro g' cap' w1 hr ht hlt; have hh := Lb.turn (l := 3) (g := g) (t := 38) (cs := [v]) (by first | exact h3.drew.alloc _ | exact (h3.alloc _).drew) ht (by decide); have c1 := hh.1.cell 0 rfl; have f1 := hh.1.frozen 0)
  all_goals
    go_end0
    refine ⟨rfl, _, _, hh.set_ 0 _, hr.set (p := ⟨g, 0, none⟩) (by rw [hh.2]; decide) _, ?_⟩
    have h5 : Turn (fun k => k = 3 ∨ k = 4) _ o w1 _ := ht.mono (fun k hk => .inr hk)
    refine Turn.setCell (Turn.trans ?_ h5) (.inr (.inl (h3.2))) _
    first | exact ((Turn.refl _ _ _).drew.alloc _) | exact ((Turn.refl _ _ _).alloc _).drew | exact ((Turn.refl _ _ _).alloc _)
set_option maxHeartbeats 1000000 in
theorem pop_m (o : Nat → Nat) (g : Nat) (v : Value) (l : List Int) (n : Nat) (hn : l.length = n + 1) (w : World) (h3 : Lb w o 3 g 38 [v]) (h4 : Row w o 4 v l) :
    Calls Try.prog 68 #[.pointer (some ⟨g, 0, none⟩)] w fun e w' => e = .returned (.iface 3 (.int .i64 (l.getD n 0))) ∧ ∃ v', Lb w' o 3 g 38 [v'] ∧ Row w' o 4 v' (l.take n) ∧ Turn (fun k => k = 3 ∨ k = 4) w o w' o := by
  have c0 := h3.1.cell 0 rfl
  have f0 := h3.1.frozen 0
  have gl := h3.1.lt
  obtain ⟨g', cap, cs, rfl, h1, h2, h5, h6, h7⟩ := h4.form (by omega)
  have ci : w.cell? ⟨g', n, none⟩ = some (.int .i64 (l.getD n 0)) := h6.1.cell n (take_get h7 (by omega))
  have end_ : ∀ (c' : Nat), c' = cap → Row w o 4 (.slice (some ⟨g', 0, none⟩) n c') (l.take n) := by
    rintro c' rfl
    have e : (l.take n).length = n := by rw [List.length_take]; omega
    have := Row.of_block (xs := l.take n) (cap := c') h6 (by omega) h2 h5 (by
      rw [e, List.map_take, ← h7, List.take_take, Nat.min_eq_left (by omega)])
    rwa [e] at this
  have HE := Lib.hid end_
  have H3 := Lib.hid h3
  generalize l.getD n 0 = x at *
  rw [hn] at *
  unfold maxLen at h2
  have H7 := Lib.hid h7
  clear h3 h4 h5 h6 h7 end_
  go_enter Try.func68, Try.ntmps68
  go_wp2
  go_ret
  refine ⟨rfl, _, H3.out.set_ 0 _, (HE.out _ rfl).set (by rw [H3.out.2]; decide) _, (Turn.refl _ _ _).setCell (.inr (.inl H3.out.2)) _⟩
end Go.Proofs.Ytldhhoinjdkdgaa

set_option linter.unusedSimpArgs false
set_option linter.unusedVariables false
namespace Go.Proofs.Ytldhhoinjdkdgaa
open Go.RowKit

theorem load_least {a : Addr} {v : Value} {w : World} (h : w.cell? a = some v) : (loadVar 38 a).run Try.prog w = .ok v w := by
  have e : (isAgg 38).run Try.prog w = .ok false w := by kernel_rfl
  simp [loadVar, e, h]
theorem row37 (w : World) : (typeInfo 37).run Try.prog w = .ok (Try.prog.info? 37).get! w := by kernel_rfl
theorem und37 (w : World) : (underlying 37).run Try.prog w = .ok (.pointer 38) w := by kernel_rfl
theorem recv_val {a : Addr} {v : Value} {w : World} (h : w.cell? a = some v) (s : Option String) : (receiverAt 37 (.val (.pointer (some a))) false s).run Try.prog w = .ok v w := by
  unfold receiverAt
  simp only [Sem.run_bind, und37, Result.andThen_ok, Place.get, Sem.run_pure]
  cases s with
  | none => simp only [Sem.run_bind, Sem.run_pure, Result.andThen_ok, asAddr, load_least h]
  | some n =>
    have e : ∀ u, (Builtin.ssaWrapNilChk_ #[37] 37 #[.pointer (some a), strVal "", u]).run Try.prog w = .ok (.pointer (some a)) w ∨ ¬ ∃ s, u = .string s := by
      intro u
      cases u <;> first | (right; rintro ⟨s, hs⟩; cases hs; done) | (left; rfl)
    rcases e (strVal n) with e | e
    · simp only [Sem.run_bind, Sem.run_pure, Result.andThen_ok, asAddr, load_least h, e]
    · exact absurd ⟨_, rfl⟩ e
theorem meth_val {name : String} {f : FuncId} (hm : (((Try.prog.info? 37).get!).methods.find? (·.name == name)).map (fun m => (m.path.toList, m.func)) = some ([], some (f, false))) {a : Addr} {v : Value} {w : World} (h : w.cell? a = some v) : (method 196 37 (.pointer (some a)) name).run Try.prog w = .ok (f, v) w := by
  cases hf : ((Try.prog.info? 37).get!).methods.find? (·.name == name) with
  | none => rw [hf] at hm; cases hm
  | some m =>
    rw [hf] at hm
    simp only [Option.map_some, Option.some.injEq, Prod.mk.injEq] at hm
    obtain ⟨h2, h3⟩ := hm
    rw [show (196 : Nat) = 195 + 1 from rfl]
    unfold method
    simp only [Sem.run_bind, row37, Result.andThen_ok, hf, Sem.run_pure, h2, h3, follow, recv_val h]
theorem meth_len {a : Addr} {v : Value} {w : World} (h : w.cell? a = some v) : (method 196 37 (.pointer (some a)) "Len").run Try.prog w = .ok (21, v) w := meth_val (by kernel_rfl) h
theorem meth_less {a : Addr} {v : Value} {w : World} (h : w.cell? a = some v) : (method 196 37 (.pointer (some a)) "Less").run Try.prog w = .ok (67, v) w := meth_val (by kernel_rfl) h
theorem meth_swap {a : Addr} {v : Value} {w : World} (h : w.cell? a = some v) : (method 196 37 (.pointer (some a)) "Swap").run Try.prog w = .ok (70, v) w := meth_val (by kernel_rfl) h
theorem meth_push (a : Addr) (w : World) : (method 196 37 (.pointer (some a)) "Push").run Try.prog w = .ok (69, .pointer (some a)) w := by kernel_rfl
theorem meth_pop (a : Addr) (w : World) : (method 196 37 (.pointer (some a)) "Pop").run Try.prog w = .ok (68, .pointer (some a)) w := by kernel_rfl

abbrev SS : Nat → Prop := fun k => k = 3 ∨ k = 4
set_option maxHeartbeats 2000000 in
theorem up_any (o : Nat → Nat) (g : Nat) (v : Value) (l0 : List Int) (j0 : Nat) (hj0 : j0 < l0.length) (hl : l0.length ≤ 1000000) (hu : UpInv l0 j0) (w : World) (h3 : Lb w o 3 g 38 [v]) (h4 : Row w o 4 v l0) :
    Calls Try.prog 28 #[.iface 37 (.pointer (some ⟨g, 0, none⟩)), .int .i64 j0] w fun e w' => e = .returned (.tuple #[]) ∧ ∃ l, heapN l l.length ∧ l.Perm l0 ∧ Lb w' o 3 g 38 [v] ∧ Row w' o 4 v l ∧ Turn SS w o w' o := by
  have HU := Far.mk hu
  have H3 := Lib.hid h3
  have H4 := Lib.hid h4
  clear hu h3 h4
  go_enter Try.func28, Try.ntmps28
  go_wp2_with fail
  go_loopg [1] j0 (fun k jv wr => ∃ (j : Nat) (l : List Int), jv = .int .i64 j ∧ j ≤ k ∧ j < l.length ∧ Far (UpInv l j ∧ l.Perm l0) ∧ l.length = l0.length ∧ Row wr o 4 v l ∧ Lb wr o 3 g 38 [v] ∧ Turn SS w o wr o)
  case atStart => exact ⟨j0, l0, rfl, Nat.le_refl _, hj0, Far.mk ⟨HU.out, List.Perm.refl _⟩, rfl, H4.out, H3.out, Turn.refl _ _ _⟩
  case round =>
    obtain ⟨j, l, rfl, hjk, hjl, hinv, hll, h4, h3, ht⟩ := hrel
    have c0 := h3.1.cell 0 rfl
    by_cases hj : j = 0
    · subst hj
      go_wp2_with fail
      go_end0
      exact ⟨rfl, l, up_done hinv.out.1 (.inl rfl), hinv.out.2, h3, h4, ht⟩
    · obtain ⟨p, hp⟩ : ∃ p, p = (j - 1) / 2 := ⟨_, rfl⟩
      have hd : ((j : Int) - 1) / 2 = (p : Int) := by omega
      have hpj : ((p : Int) == (j : Int)) = false := by rw [beq_eq_false_iff_ne]; omega
      have j1 : 1 ≤ (j : Int) := by omega
      have HP := Lib.hid hp
      clear hp
      have ml := meth_less c0
      have hpl : p < l.length := by have := HP.out; omega
      have HL := Lib.hid (fun W (h : Row W o 4 v l) => less_any o 4 v l j p hjl hpl W h)
      by_cases hlt : l.getD j 0 < l.getD p 0
      · rw [decide_eq_true hlt] at HL
        have HI := Far.mk (up_step hinv.out.1 (by omega) hjl (by rw [← HP.out]; exact hlt))
        clear hlt
        go_wp2_with fail
        refine (HL.out _ h4).mono ?_
        rintro _ _ ⟨rfl, nn, rfl⟩
        have ms := meth_swap (w := wr.drewN nn) (h3.1.cell 0 rfl)
        go_wp2_with fail
        refine (swap_any o 4 v l p j hpl hjl _ (h4.drewN nn)).mono ?_
        rintro _ w2 ⟨rfl, h5, ht2⟩
        go_wp2_with fail
        go_roundg p
        case measure => have := HP.out; omega
        case rel =>
          have h6 : Turn SS (wr.drewN nn) o w2 o := ht2.mono fun k hk => .inr hk
          refine ⟨p, swapL l p j, rfl, Nat.le_refl _, by rw [swapL_length]; exact hpl, Far.mk ⟨by rw [HP.out]; exact HI.out, (swapL_perm hpl hjl).trans hinv.out.2⟩, by rw [swapL_length]; exact hll, h5, (h3.drewN nn).turn ht2 (by decide), (ht.drewN nn).trans h6⟩
      · rw [decide_eq_false hlt] at HL
        have HI := Far.mk (up_done hinv.out.1 (.inr (by rw [← HP.out]; omega)))
        clear hlt
        go_wp2_with fail
        refine (HL.out _ h4).mono ?_
        rintro _ _ ⟨rfl, nn, rfl⟩
        go_wp2_with fail
        go_end0
        exact ⟨rfl, l, HI.out, hinv.out.2, h3.drewN nn, h4.drewN nn, ht.drewN nn⟩
end Go.Proofs.Ytldhhoinjdkdgaa

set_option linter.unusedSimpArgs false
set_option linter.unusedVariables false
namespace Go.Proofs.Ytldhhoinjdkdgaa
open Go.RowKit

def DownPost (o : Nat → Nat) (g : Nat) (v : Value) (l0 : List Int) (n : Nat) (w : World) (e : Ending) (w' : World) : Prop :=
  ∃ b l, e = .returned (.bool b) ∧ heapN l n ∧ l.Perm l0 ∧ (∀ k, n ≤ k → l.getD k 0 = l0.getD k 0) ∧ Lb w' o 3 g 38 [v] ∧ Row w' o 4 v l ∧ Turn SS w o w' o
theorem swapL_past {l : List Int} {i j k : Nat} (hi : i < l.length) (hj : j < l.length) (h1 : k ≠ i) (h2 : k ≠ j) : (swapL l i j).getD k 0 = l.getD k 0 := by
  rw [swapL_getD hi hj, if_neg h2, if_neg h1]
set_option maxHeartbeats 2000000 in
theorem down_any (o : Nat → Nat) (g : Nat) (v : Value) (l0 : List Int) (n : Nat) (hn : n ≤ l0.length) (hl : l0.length ≤ 1000000) (hu : DownInv l0 0 n) (w : World) (h3 : Lb w o 3 g 38 [v]) (h4 : Row w o 4 v l0) :
    Calls Try.prog 29 #[.iface 37 (.pointer (some ⟨g, 0, none⟩)), .int .i64 0, .int .i64 n] w (DownPost o g v l0 n w) := by
  have HU := Far.mk hu
  have H3 := Lib.hid h3
  have H4 := Lib.hid h4
  clear hu h3 h4
  go_enter Try.func29, Try.ntmps29
  go_wp2_with fail
  go_loopg [7] n (fun k jv wr => ∃ (i : Nat) (l : List Int), jv = .int .i64 i ∧ n ≤ k + i ∧ i ≤ n ∧ Far (DownInv l i n ∧ l.Perm l0 ∧ ∀ k, n ≤ k → l.getD k 0 = l0.getD k 0) ∧ l.length = l0.length ∧ Row wr o 4 v l ∧ Lb wr o 3 g 38 [v] ∧ Turn SS w o wr o)
  case atStart => exact ⟨0, l0, rfl, Nat.le_refl _, Nat.zero_le _, Far.mk ⟨HU.out, List.Perm.refl _, fun _ _ => rfl⟩, rfl, H4.out, H3.out, Turn.refl _ _ _⟩
  case round =>
    obtain ⟨i, l, rfl, hik, hin, hinv, hll, h4, h3, ht⟩ := hrel
    have c0 := h3.1.cell 0 rfl
    have HK := Lib.hid hik
    clear hik
    by_cases hlast : n ≤ 2 * i + 1
    · have HD := Far.mk (down_done hinv.out.1 (by omega) (by omega))
      go_wp2_with fail
      go_ret
      exact ⟨_, l, rfl, HD.out, hinv.out.2.1, hinv.out.2.2, h3, h4, ht⟩
    · have hil : i < l.length := by omega
      have hnl : n ≤ l.length := by omega
      have ml := meth_less c0
      obtain ⟨a, ha⟩ : ∃ a : Nat, a = 2 * i + 1 := ⟨_, rfl⟩
      obtain ⟨b, hb⟩ : ∃ b : Nat, b = 2 * i + 2 := ⟨_, rfl⟩
      have ea : 2 * (i : Int) + 1 = (a : Int) := by omega
      have eb : (a : Int) + 1 = (b : Int) := by omega
      have a0 : 0 ≤ (a : Int) := by omega
      have an : (a : Int) < (n : Int) := by omega
      have HA := Lib.hid ha
      have HB := Lib.hid hb
      have HN := Lib.hid hlast
      clear ha hb hlast
      have hal : a < l.length := by have := HA.out; have := HN.out; omega
      by_cases hbn : b < n
      · have bn : (b : Int) < (n : Int) := by omega
        have hbl : b < l.length := by omega
        have HL := Lib.hid (fun W (h : Row W o 4 v l) => less_any o 4 v l b a hbl hal W h)
        by_cases hlt : l.getD b 0 < l.getD a 0
        · rw [decide_eq_true hlt] at HL
          have HM : Hid (∀ c, 0 < c → c < n → (c - 1) / 2 = i → l.getD b 0 ≤ l.getD c 0) := Lib.hid (fun c c0 c1 c2 => by
            have h : c = a ∨ c = b := by have := HA.out; have := HB.out; omega
            rcases h with rfl | rfl <;> omega)
          clear hlt
          go_wp2_with fail
          refine (HL.out _ h4).mono ?_
          rintro _ _ ⟨rfl, nn, rfl⟩
          have k3 := h3.drewN nn
          have k4 := h4.drewN nn
          have kt := ht.drewN nn
          generalize wr.drewN nn = W1 at *
          have HI := Lib.hid (fun W (h : Row W o 4 v l) => less_any o 4 v l b i hbl hil W h)
          have hin' : ((b - 1) / 2 = i ∧ 0 < b) ∧ b < n := by have := HB.out; have := HN.out; omega
          have hii : ((i : Int) == (b : Int)) = false := by rw [beq_eq_false_iff_ne]; have := HB.out; omega
          have HII := Lib.hid hin'
          clear hin'
          have ml2 := meth_less (w := W1) (k3.1.cell 0 rfl)
          by_cases hlt2 : l.getD b 0 < l.getD i 0
          · rw [decide_eq_true hlt2] at HI
            have HS := Far.mk (down_step hinv.out.1 hnl HII.out.1.1 HII.out.1.2 HII.out.2 hlt2 HM.out)
            clear hlt2
            go_wp2_with fail
            refine (HI.out _ k4).mono ?_
            rintro _ _ ⟨rfl, mm, rfl⟩
            have ms := meth_swap (w := W1.drewN mm) (k3.1.cell 0 rfl)
            go_wp2_with fail
            refine (swap_any o 4 v l i b hil hbl _ (k4.drewN mm)).mono ?_
            rintro _ w2 ⟨rfl, h5, ht2⟩
            go_wp2_with fail
            go_roundg (n - b)
            case measure => have := HII.out; have := HK.out; omega
            case rel =>
              have h6 : Turn SS (W1.drewN mm) o w2 o := ht2.mono fun k hk => .inr hk
              refine ⟨b, swapL l i b, rfl, by omega, by have := HII.out; omega, Far.mk ⟨HS.out, (swapL_perm hil hbl).trans hinv.out.2.1, fun k hk => ?_⟩, by rw [swapL_length]; exact hll, h5, (k3.drewN mm).turn ht2 (by decide), (kt.drewN mm).trans h6⟩
              rw [swapL_past hil hbl (by omega) (by have := HII.out; omega)]
              exact hinv.out.2.2 k hk
          · rw [decide_eq_false hlt2] at HI
            have hle : l.getD i 0 ≤ l.getD b 0 := by omega
            have HS := Far.mk (down_done hinv.out.1 (fun hh => Int.le_trans hle (HM.out _ (by omega) hh (by omega))) (fun hh => Int.le_trans hle (HM.out _ (by omega) hh (by omega))))
            clear hlt2 hle
            go_wp2_with fail
            refine (HI.out _ k4).mono ?_
            rintro _ _ ⟨rfl, mm, rfl⟩
            go_wp2_with fail
            go_ret
            exact ⟨_, l, rfl, HS.out, hinv.out.2.1, hinv.out.2.2, k3.drewN mm, k4.drewN mm, kt.drewN mm⟩
        · rw [decide_eq_false hlt] at HL
          have HM : Hid (∀ c, 0 < c → c < n → (c - 1) / 2 = i → l.getD a 0 ≤ l.getD c 0) := Lib.hid (fun c c0 c1 c2 => by
            have h : c = a ∨ c = b := by have := HA.out; have := HB.out; omega
            rcases h with rfl | rfl <;> omega)
          clear hlt
          go_wp2_with fail
          refine (HL.out _ h4).mono ?_
          rintro _ _ ⟨rfl, nn, rfl⟩
          have k3 := h3.drewN nn
          have k4 := h4.drewN nn
          have kt := ht.drewN nn
          generalize wr.drewN nn = W1 at *
          have HI := Lib.hid (fun W (h : Row W o 4 v l) => less_any o 4 v l a i hal hil W h)
          have hin' : ((a - 1) / 2 = i ∧ 0 < a) ∧ a < n := by have := HA.out; have := HN.out; omega
          have hii : ((i : Int) == (a : Int)) = false := by rw [beq_eq_false_iff_ne]; have := HA.out; omega
          have HII := Lib.hid hin'
          clear hin'
          have ml2 := meth_less (w := W1) (k3.1.cell 0 rfl)
          by_cases hlt2 : l.getD a 0 < l.getD i 0
          · rw [decide_eq_true hlt2] at HI
            have HS := Far.mk (down_step hinv.out.1 hnl HII.out.1.1 HII.out.1.2 HII.out.2 hlt2 HM.out)
            clear hlt2
            go_wp2_with fail
            refine (HI.out _ k4).mono ?_
            rintro _ _ ⟨rfl, mm, rfl⟩
            have ms := meth_swap (w := W1.drewN mm) (k3.1.cell 0 rfl)
            go_wp2_with fail
            refine (swap_any o 4 v l i a hil hal _ (k4.drewN mm)).mono ?_
            rintro _ w2 ⟨rfl, h5, ht2⟩
            go_wp2_with fail
            go_roundg (n - a)
            case measure => have := HII.out; have := HK.out; omega
            case rel =>
              have h6 : Turn SS (W1.drewN mm) o w2 o := ht2.mono fun k hk => .inr hk
              refine ⟨a, swapL l i a, rfl, by omega, by have := HII.out; omega, Far.mk ⟨HS.out, (swapL_perm hil hal).trans hinv.out.2.1, fun k hk => ?_⟩, by rw [swapL_length]; exact hll, h5, (k3.drewN mm).turn ht2 (by decide), (kt.drewN mm).trans h6⟩
              rw [swapL_past hil hal (by omega) (by have := HII.out; omega)]
              exact hinv.out.2.2 k hk
          · rw [decide_eq_false hlt2] at HI
            have hle : l.getD i 0 ≤ l.getD a 0 := by omega
            have HS := Far.mk (down_done hinv.out.1 (fun hh => Int.le_trans hle (HM.out _ (by omega) hh (by omega))) (fun hh => Int.le_trans hle (HM.out _ (by omega) hh (by omega))))
            clear hlt2 hle
            go_wp2_with fail
            refine (HI.out _ k4).mono ?_
            rintro _ _ ⟨rfl, mm, rfl⟩
            go_wp2_with fail
            go_ret
            exact ⟨_, l, rfl, HS.out, hinv.out.2.1, hinv.out.2.2, k3.drewN mm, k4.drewN mm, kt.drewN mm⟩
      · have bn : ¬ (b : Int) < (n : Int) := by omega
        have HM : Hid (∀ c, 0 < c → c < n → (c - 1) / 2 = i → l.getD a 0 ≤ l.getD c 0) := Lib.hid (fun c c0 c1 c2 => by
          have h : c = a := by have := HA.out; have := HB.out; omega
          subst h; omega)
        have k3 := h3
        have k4 := h4
        have kt := ht
        have HI := Lib.hid (fun W (h : Row W o 4 v l) => less_any o 4 v l a i hal hil W h)
        have hin' : ((a - 1) / 2 = i ∧ 0 < a) ∧ a < n := by have := HA.out; have := HN.out; omega
        have hii : ((i : Int) == (a : Int)) = false := by rw [beq_eq_false_iff_ne]; have := HA.out; omega
        have HII := Lib.hid hin'
        clear hin'
        have ml2 := meth_less (w := wr) (k3.1.cell 0 rfl)
        by_cases hlt2 : l.getD a 0 < l.getD i 0
        · rw [decide_eq_true hlt2] at HI
          have HS := Far.mk (down_step hinv.out.1 hnl HII.out.1.1 HII.out.1.2 HII.out.2 hlt2 HM.out)
          clear hlt2
          go_wp2_with fail
          refine (HI.out _ k4).mono ?_
          rintro _ _ ⟨rfl, mm, rfl⟩
          have ms := meth_swap (w := wr.drewN mm) (k3.1.cell 0 rfl)
          go_wp2_with fail
          refine (swap_any o 4 v l i a hil hal _ (k4.drewN mm)).mono ?_
          rintro _ w2 ⟨rfl, h5, ht2⟩
          go_wp2_with fail
          go_roundg (n - a)
          case measure => have := HII.out; have := HK.out; omega
          case rel =>
            have h6 : Turn SS (wr.drewN mm) o w2 o := ht2.mono fun k hk => .inr hk
            refine ⟨a, swapL l i a, rfl, by omega, by have := HII.out; omega, Far.mk ⟨HS.out, (swapL_perm hil hal).trans hinv.out.2.1, fun k hk => ?_⟩, by rw [swapL_length]; exact hll, h5, (k3.drewN mm).turn ht2 (by decide), (kt.drewN mm).trans h6⟩
            rw [swapL_past hil hal (by omega) (by have := HII.out; omega)]
            exact hinv.out.2.2 k hk
        · rw [decide_eq_false hlt2] at HI
          have hle : l.getD i 0 ≤ l.getD a 0 := by omega
          have HS := Far.mk (down_done hinv.out.1 (fun hh => Int.le_trans hle (HM.out _ (by omega) hh (by omega))) (fun hh => Int.le_trans hle (HM.out _ (by omega) hh (by omega))))
          clear hlt2 hle
          go_wp2_with fail
          refine (HI.out _ k4).mono ?_
          rintro _ _ ⟨rfl, mm, rfl⟩
          go_wp2_with fail
          go_ret
          exact ⟨_, l, rfl, HS.out, hinv.out.2.1, hinv.out.2.2, k3.drewN mm, k4.drewN mm, kt.drewN mm⟩
end Go.Proofs.Ytldhhoinjdkdgaa

set_option linter.unusedSimpArgs false
set_option linter.unusedVariables false
namespace Go.Proofs.Ytldhhoinjdkdgaa
open Go.RowKit

def PushPost (o : Nat → Nat) (g : Nat) (l : List Int) (x : Int) (w : World) (e : Ending) (w' : World) : Prop :=
  e = .returned (.tuple #[]) ∧ ∃ o' v' l', heapN l' l'.length ∧ l'.Perm (x :: l) ∧ Lb w' o' 3 g 38 [v'] ∧ Row w' o' 4 v' l' ∧ Turn SS w o w' o'
theorem row_is {w : World} {o : Nat → Nat} {l : Nat} {v : Value} {xs : List Int} (h : Row w o l v xs) : ∃ A c, v = .slice A xs.length c := by
  rcases h.1.2 with ⟨rfl, h0⟩ | ⟨g, cap, cur, rfl, _⟩
  · exact ⟨none, 0, by rw [h0]⟩
  · exact ⟨_, _, rfl⟩
set_option maxHeartbeats 1000000 in
theorem push_any (o : Nat → Nat) (g : Nat) (v : Value) (l : List Int) (x : Int) (hl : l.length ≤ 90000) (hh : heapN l l.length) (w : World) (h3 : Lb w o 3 g 38 [v]) (h4 : Row w o 4 v l) :
    Calls Try.prog 20 #[.iface 37 (.pointer (some ⟨g, 0, none⟩)), .iface 3 (.int .i64 x)] w (PushPost o g l x w) := by
  have HU := Far.mk (up_start (x := x) hh)
  have mp := meth_push ⟨g, 0, none⟩ w
  have HL := Lib.hid hl
  clear hh
  go_enter Try.func20, Try.ntmps20
  go_wp2_with fail
  refine (push_m o g v l x (by have := HL.out; omega) _ h3 h4).mono ?_
  rintro _ w1 ⟨rfl, o1, v1, g3, g4, t1⟩
  have ml := meth_len (w := w1) (g3.1.cell 0 rfl)
  obtain ⟨A, c, hv⟩ := row_is g4
  rw [List.length_append, List.length_singleton] at hv
  obtain rfl := hv
  have e1 : ((l.length + 1 : Nat) : Int) - 1 = (l.length : Int) := by omega
  go_wp2_with fail
  refine (len_any _ _ _ _).mono ?_
  rintro _ _ ⟨rfl, rfl⟩
  go_wp2_with fail
  refine (up_any o1 g _ (l ++ [x]) l.length (by simp) (by simp; have := HL.out; omega) HU.out _ g3 g4).mono ?_
  rintro _ w2 ⟨rfl, l2, k1, k2, k3, k4, k5⟩
  go_wp2_with fail
  go_end0
  exact ⟨rfl, o1, _, l2, k1, k2.trans (List.perm_append_comm (l₁ := l) (l₂ := [x])), k3, k4, t1.trans k5⟩
def PopPost (o : Nat → Nat) (g : Nat) (l : List Int) (w : World) (e : Ending) (w' : World) : Prop :=
  e = .returned (.iface 3 (.int .i64 (l.getD 0 0))) ∧ ∃ v' l', heapN l' l'.length ∧ l.Perm (l.getD 0 0 :: l') ∧ Lb w' o 3 g 38 [v'] ∧ Row w' o 4 v' l' ∧ Turn SS w o w' o
set_option maxHeartbeats 1000000 in
theorem pop_any (o : Nat → Nat) (g : Nat) (v : Value) (l : List Int) (h0 : 0 < l.length) (hl : l.length ≤ 90000) (hh : heapN l l.length) (w : World) (h3 : Lb w o 3 g 38 [v]) (h4 : Row w o 4 v l) :
    Calls Try.prog 22 #[.iface 37 (.pointer (some ⟨g, 0, none⟩))] w (PopPost o g l w) := by
  obtain ⟨n, hn⟩ : ∃ n, l.length = n + 1 := ⟨l.length - 1, by omega⟩
  have HU := Far.mk (down_start hn (by rw [← hn]; exact hh))
  obtain ⟨x, hx⟩ : ∃ x, x = l.getD 0 0 := ⟨_, rfl⟩
  have HX := Lib.hid hx
  clear hx
  obtain ⟨A, c, hv⟩ := row_is h4
  obtain rfl := hv
  have HN := Lib.hid hn
  have hnl : n < l.length := by omega
  have ml := meth_len (w := w) (h3.1.cell 0 rfl)
  have ms := meth_swap (w := w) (h3.1.cell 0 rfl)
  have e1 : ((l.length : Nat) : Int) - 1 = (n : Int) := by omega
  have hl1 : (swapL l 0 n).length = n + 1 := by rw [swapL_length]; exact hn
  have HL1 := Lib.hid hl1
  clear hh hn hl1
  have H0 := Lib.hid (fun W (h : Row W o 4 (.slice A l.length c) l) => swap_any o 4 _ l 0 n h0 hnl W h)
  go_enter Try.func22, Try.ntmps22
  go_wp2_with fail
  refine (len_any _ _ _ _).mono ?_
  rintro _ _ ⟨rfl, rfl⟩
  go_wp2_with fail
  refine (H0.out _ h4).mono ?_
  rintro _ w1 ⟨rfl, g4, t1⟩
  have g3 := h3.turn t1 (by decide)
  go_wp2_with fail
  refine (down_any o g _ (swapL l 0 n) n (by have := HL1.out; omega) (by have := HL1.out; have := HN.out; omega) HU.out _ g3 g4).mono ?_
  rintro _ w2 ⟨b, l2, rfl, k1, k2, k3, k4, k5, k6⟩
  have hl2 : l2.length = n + 1 := k2.length_eq.trans HL1.out
  have HL2 := Lib.hid hl2
  have K2 := Far.mk k2
  have K3 := Far.mk k3
  clear hl2 k2 k3
  have mp := meth_pop ⟨g, 0, none⟩ w2
  go_wp2_with fail
  refine (pop_m o g _ l2 n HL2.out _ k4 k5).mono ?_
  rintro _ w3 ⟨rfl, v3, j1, j2, j3⟩
  have e3 : l2.getD n 0 = x := by
    rw [HX.out, K3.out n (Nat.le_refl _), swapL_getD h0 hnl, if_pos rfl]
  rw [e3]
  have EE := Far.mk e3
  go_wp2_with fail
  go_ret
  refine ⟨by rw [← HX.out]; rfl, v3, l2.take n, heapN_take (by have := HL2.out; omega) k1, ?_, j1, j2, ((t1.mono fun k hk => .inr hk).trans k6).trans j3⟩
  have p1 := swapL_perm h0 hnl
  have p2 := take_last HL2.out
  rw [EE.out, HX.out] at p2
  refine (p1.symm.trans (K2.out.symm.trans (List.Perm.of_eq p2))).trans ?_
  exact List.perm_append_comm (l₁ := l2.take n) (l₂ := [l.getD 0 0])
end Go.Proofs.Ytldhhoinjdkdgaa

set_option linter.unusedSimpArgs false
set_option linter.unusedVariables false
namespace Go.Proofs.Ytldhhoinjdkdgaa

def nd (ns : List (List Int)) (k : Nat) : List Int := ns.getD k []
def lack (ns : List (List Int)) (out : List Int) (k : Nat) : Nat := ((nd ns k).filter (fun x => !out.contains x)).length
def rdy (ns : List (List Int)) (out : List Int) (k : Nat) : Bool := !out.contains (k : Int) && (nd ns k).all (fun x => out.contains x)
def pick (ns : List (List Int)) (out : List Int) : Option Nat := (List.range ns.length).find? (rdy ns out)
def gr (ns : List (List Int)) : Nat → Option (List Int)
  | 0 => some []
  | t + 1 => (gr ns t).bind fun out => (pick ns out).map fun i : Nat => out ++ [(i : Int)]
/-- all things, each time the least one that is ready; none: there comes a time when there is none -/
def ord (ns : List (List Int)) : Option (List Int) := gr ns ns.length
def Long (ns : List (List Int)) : Prop := 100 < ns.length ∨ ∃ l ∈ ns, 100 < l.length
def Form (ns : List (List Int)) : Prop := ∀ l ∈ ns, ∀ x ∈ l, 0 ≤ x ∧ x < ns.length

theorem nodup_len : ∀ (N : Nat) (l : List Int), l.Nodup → (∀ x ∈ l, 0 ≤ x ∧ x < N) → l.length ≤ N
  | 0, l, _, h => by
    cases l with
    | nil => simp
    | cons a l => have := h a (by simp); omega
  | N + 1, l, hn, h => by
    have h1 := nodup_len N (l.erase (N : Int)) (hn.erase _) (fun x hx => by
      have ⟨hne, hm⟩ := (hn.mem_erase_iff).1 hx
      have := h x hm
      omega)
    have h2 := List.length_erase (a := (N : Int)) (l := l)
    split at h2 <;> omega
theorem filter_congr' {α : Type} {p q : α → Bool} {l : List α} (h : ∀ x ∈ l, p x = q x) : l.filter p = l.filter q := List.filter_congr h
theorem filter_add {p q : Nat → Bool} {l : List Nat} {k : Nat} (hl : l.Nodup) (hk : k ∈ l) (hp : p k = false) (hq : q k = true) (h : ∀ j, j ≠ k → q j = p j) : (l.filter q).Perm (k :: l.filter p) := by
  induction l with
  | nil => cases hk
  | cons a l ih =>
    rw [List.nodup_cons] at hl
    by_cases e : a = k
    · subst e
      have : l.filter q = l.filter p := List.filter_congr fun j hj => h j (fun e => hl.1 (e ▸ hj))
      rw [List.filter_cons_of_pos (by simpa using hq), List.filter_cons_of_neg (by simp [hp]), this]
    · have hm : k ∈ l := by
        rcases List.mem_cons.1 hk with h1 | h1
        · exact absurd h1.symm e
        · exact h1
      have := ih hl.2 hm
      rw [List.filter_cons, List.filter_cons, h a e]
      split
      · exact (this.cons a).trans (List.Perm.swap _ _ _)
      · exact this
theorem lack_nil (ns : List (List Int)) (k : Nat) : lack ns [] k = (nd ns k).length := by
  unfold lack
  rw [List.filter_eq_self.2 (by simp)]
theorem lack_zero {ns : List (List Int)} {out : List Int} {k : Nat} : lack ns out k = 0 ↔ (nd ns k).all (fun x => out.contains x) = true := by
  unfold lack
  rw [List.length_eq_zero_iff, List.filter_eq_nil_iff, List.all_eq_true]
  constructor
  · intro h x hx; have := h x hx; simpa using this
  · intro h x hx; have := h x hx; simpa using this
theorem rdy_iff {ns : List (List Int)} {out : List Int} {k : Nat} : rdy ns out k = true ↔ (k : Int) ∉ out ∧ lack ns out k = 0 := by
  unfold rdy
  rw [Bool.and_eq_true, ← lack_zero]
  simp
theorem lack_snoc (ns : List (List Int)) (out : List Int) (x : Int) (hx : x ∉ out) (k : Nat) : lack ns (out ++ [x]) k + (nd ns k).count x = lack ns out k := by
  unfold lack
  induction nd ns k with
  | nil => rfl
  | cons a l ih =>
    by_cases e : a = x
    · subst e
      rw [List.filter_cons_of_neg (by simp), List.filter_cons_of_pos (by simpa using hx), List.count_cons_self, List.length_cons]
      omega
    · rw [List.count_cons_of_ne e]
      by_cases hm : a ∈ out
      · rw [List.filter_cons_of_neg (by simp [hm]), List.filter_cons_of_neg (by simp [hm])]; exact ih
      · rw [List.filter_cons_of_pos (by simp [hm, e]), List.filter_cons_of_pos (by simpa using hm), List.length_cons, List.length_cons]; omega
theorem lack_count {ns : List (List Int)} {out : List Int} {x : Int} (hx : x ∉ out) (k : Nat) : (nd ns k).count x ≤ lack ns out k := by
  have := lack_snoc ns out x hx k; omega
theorem pick_some {ns : List (List Int)} {out : List Int} {i : Nat} : pick ns out = some i ↔ rdy ns out i = true ∧ i < ns.length ∧ ∀ j, j < i → rdy ns out j = false := by
  unfold pick
  rw [List.find?_range_eq_some]
  simp
theorem pick_none {ns : List (List Int)} {out : List Int} : pick ns out = none ↔ ∀ i, i < ns.length → rdy ns out i = false := by
  unfold pick
  rw [List.find?_eq_none]
  simp
theorem gr_none {ns : List (List Int)} {t : Nat} (h : gr ns t = none) : ∀ T, t ≤ T → gr ns T = none := by
  intro T hT
  induction T with
  | zero => obtain rfl : t = 0 := by omega
            exact h
  | succ T ih =>
    by_cases e : t = T + 1
    · subst e; exact h
    · show (gr ns T).bind _ = none
      rw [ih (by omega)]; rfl
theorem gr_step {ns : List (List Int)} {t : Nat} {out : List Int} (h : gr ns t = some out) {i : Nat} (hp : pick ns out = some i) : gr ns (t + 1) = some (out ++ [(i : Int)]) := by
  show (gr ns t).bind _ = _
  rw [h]
  show (pick ns out).map _ = _
  rw [hp]; rfl
theorem gr_stop {ns : List (List Int)} {t : Nat} {out : List Int} (h : gr ns t = some out) (hp : pick ns out = none) : gr ns (t + 1) = none := by
  show (gr ns t).bind _ = _
  rw [h]
  show (pick ns out).map _ = _
  rw [hp]; rfl
theorem ord_stop {ns : List (List Int)} {t : Nat} {out : List Int} (h : gr ns t = some out) (hp : pick ns out = none) (ht : t < ns.length) : ord ns = none := gr_none (gr_stop h hp) _ ht
/-- what holds of the things that are there -/
structure Good (ns : List (List Int)) (out : List Int) : Prop where
  nodup : out.Nodup
  rng : ∀ x ∈ out, 0 ≤ x ∧ x < ns.length
  met : ∀ k : Nat, (k : Int) ∈ out → ∀ x ∈ nd ns k, x ∈ out
theorem Good.step {ns : List (List Int)} {out : List Int} (h : Good ns out) {i : Nat} (hp : pick ns out = some i) : Good ns (out ++ [(i : Int)]) := by
  obtain ⟨h1, h2, h3⟩ := pick_some.1 hp
  obtain ⟨h4, h5⟩ := rdy_iff.1 h1
  rw [lack_zero, List.all_eq_true] at h5
  refine ⟨?_, ?_, ?_⟩
  · rw [List.nodup_append]
    exact ⟨h.nodup, by simp, fun a ha b hb => by rw [List.mem_singleton] at hb; subst hb; exact fun e => h4 (e ▸ ha)⟩
  · intro x hx
    rcases List.mem_append.1 hx with hx | hx
    · exact h.rng x hx
    · rw [List.mem_singleton] at hx; omega
  · intro k hk x hx
    rcases List.mem_append.1 hk with hk | hk
    · exact List.mem_append_left _ (h.met k hk x hx)
    · rw [List.mem_singleton] at hk
      obtain rfl : k = i := by omega
      have := h5 x hx
      exact List.mem_append_left _ (by simpa using this)
theorem gr_good {ns : List (List Int)} : ∀ {t : Nat} {out : List Int}, gr ns t = some out → Good ns out ∧ out.length = t
  | 0, out, h => by
    injection h with h; subst h
    exact ⟨⟨List.nodup_nil, fun x hx => by simp at hx, fun k hk => by simp at hk⟩, rfl⟩
  | t + 1, out, h => by
    cases h1 : gr ns t with
    | none => rw [gr_none h1 (t + 1) (by omega)] at h; cases h
    | some o =>
      obtain ⟨g, hl⟩ := gr_good h1
      cases hp : pick ns o with
      | none => rw [gr_stop h1 hp] at h; cases h
      | some i =>
        rw [gr_step h1 hp] at h
        injection h with h; subst h
        exact ⟨g.step hp, by simp [hl]⟩
theorem Good.len {ns : List (List Int)} {out : List Int} (h : Good ns out) : out.length ≤ ns.length := nodup_len _ _ h.nodup h.rng

/-- the things that are not there and lack nothing -/
def rs (N : Nat) (out L : List Int) : List Int := ((List.range N).filter (fun k : Nat => !out.contains (k : Int) && (L.getD k 0 == 0))).map (fun k : Nat => (k : Int))
theorem mem_rs {N : Nat} {out L : List Int} {x : Int} : x ∈ rs N out L ↔ ∃ k : Nat, x = k ∧ k < N ∧ (k : Int) ∉ out ∧ L.getD k 0 = 0 := by
  unfold rs
  rw [List.mem_map]
  constructor
  · rintro ⟨k, hk, rfl⟩
    rw [List.mem_filter] at hk
    simp at hk
    exact ⟨k, rfl, hk.1, hk.2.1, by rw [List.getD_eq_getElem?_getD]; exact hk.2.2⟩
  · rintro ⟨k, rfl, h1, h2, h3⟩
    refine ⟨k, ?_, rfl⟩
    rw [List.mem_filter]
    simp
    rw [List.getD_eq_getElem?_getD] at h3
    exact ⟨h1, h2, h3⟩
theorem rs_len (N : Nat) (out L : List Int) : (rs N out L).length ≤ N := by
  unfold rs
  rw [List.length_map]
  have := List.length_filter_le (fun k : Nat => !out.contains (k : Int) && (L.getD k 0 == 0)) (List.range N)
  rwa [List.length_range] at this
theorem rs_set_more {N : Nat} {out L : List Int} {k : Nat} (hk : k < N) (hL : L.length = N) {y : Int} (h1 : L.getD k 0 ≠ 0) (hy : y ≠ 0) : rs N out (L.set k y) = rs N out L := by
  unfold rs
  congr 1
  refine List.filter_congr fun j hj => ?_
  rw [getD_set2 _ _ _ _ (by omega)]
  by_cases e : j = k
  · subst e; rw [if_pos rfl]
    have a : (y == 0) = false := by simpa using hy
    have b : (L.getD j 0 == 0) = false := by simpa using h1
    rw [a, b]
  · rw [if_neg e]
theorem rs_set_zero {N : Nat} {out L : List Int} {k : Nat} (hk : k < N) (hL : L.length = N) (h1 : L.getD k 0 ≠ 0) (ho : (k : Int) ∉ out) : (rs N out (L.set k 0)).Perm ((k : Int) :: rs N out L) := by
  unfold rs
  refine ((filter_add (k := k) List.nodup_range (List.mem_range.2 hk) ?_ ?_ ?_).map (fun k : Nat => (k : Int))).trans (List.Perm.refl _)
  · have b : (L.getD k 0 == 0) = false := by simpa using h1
    rw [b, Bool.and_false]
  · rw [getD_set2 _ _ _ _ (by omega), if_pos rfl]
    have : out.contains (k : Int) = false := by simpa using ho
    rw [this]; rfl
  · intro j hj
    rw [getD_set2 _ _ _ _ (by omega), if_neg hj]
theorem rs_pop {N : Nat} {out L : List Int} {k : Nat} (hk : k < N) (h1 : L.getD k 0 = 0) (ho : (k : Int) ∉ out) : (rs N out L).Perm ((k : Int) :: rs N (out ++ [(k : Int)]) L) := by
  unfold rs
  refine ((filter_add (k := k) List.nodup_range (List.mem_range.2 hk) ?_ ?_ ?_).map (fun k : Nat => (k : Int))).trans (List.Perm.refl _)
  · have : (out ++ [(k : Int)]).contains (k : Int) = true := by simp
    rw [this]; rfl
  · have : out.contains (k : Int) = false := by simpa using ho
    rw [this, h1]; rfl
  · intro j hj
    have : (out ++ [(k : Int)]).contains (j : Int) = out.contains (j : Int) := by
      rw [Bool.eq_iff_iff]; simp; omega
    rw [this]
/-- at the head of a round: the heap holds what is ready, the lacks are told -/
structure Head (ns : List (List Int)) (out L H : List Int) : Prop where
  gr : gr ns out.length = some out
  len : L.length = ns.length
  lack : ∀ k, k < ns.length → L.getD k 0 = (lack ns out k : Int)
  heap : heapN H H.length
  perm : H.Perm (rs ns.length out L)
theorem Head.empty {ns : List (List Int)} {out L H : List Int} (h : Head ns out L H) (he : H.length = 0) : pick ns out = none := by
  rw [pick_none]
  intro i hi
  rw [Bool.eq_false_iff]
  intro hr
  obtain ⟨h1, h2⟩ := rdy_iff.1 hr
  have : (i : Int) ∈ rs ns.length out L := mem_rs.2 ⟨i, rfl, hi, h1, by rw [h.lack i hi, h2]; rfl⟩
  have := h.perm.mem_iff.2 this
  rw [List.length_eq_zero_iff.1 he] at this
  cases this
theorem Head.top {ns : List (List Int)} {out L H : List Int} (h : Head ns out L H) (he : 0 < H.length) : ∃ i : Nat, H.getD 0 0 = (i : Int) ∧ pick ns out = some i := by
  have hm : H.getD 0 0 ∈ H := by rw [getD_get he]; exact List.getElem_mem _
  obtain ⟨i, h1, h2, h3, h4⟩ := mem_rs.1 (h.perm.mem_iff.1 hm)
  refine ⟨i, h1, pick_some.2 ⟨rdy_iff.2 ⟨h3, ?_⟩, h2, fun j hj => ?_⟩⟩
  · rw [h.lack i h2] at h4; omega
  · rw [Bool.eq_false_iff]
    intro hr
    obtain ⟨g1, g2⟩ := rdy_iff.1 hr
    have hjm : (j : Int) ∈ H := h.perm.mem_iff.2 (mem_rs.2 ⟨j, rfl, by omega, g1, by rw [h.lack j (by omega), g2]; rfl⟩)
    obtain ⟨p, hp, he'⟩ := List.mem_iff_getElem.1 hjm
    have := heap_min h.heap p hp
    rw [getD_get hp, he', h1] at this
    omega
/-- who wants x, after i rows -/
def wan (ns : List (List Int)) (i : Nat) (x : Int) : List Int := (List.range i).flatMap fun j => List.replicate ((nd ns j).count x) (j : Int)
theorem wan_succ (ns : List (List Int)) (i : Nat) (x : Int) : wan ns (i + 1) x = wan ns i x ++ List.replicate ((nd ns i).count x) (i : Int) := by
  unfold wan
  rw [List.range_succ, List.flatMap_append]
  simp
theorem wan_count (ns : List (List Int)) (x : Int) (k : Nat) : ∀ i, (wan ns i x).count (k : Int) = if k < i then (nd ns k).count x else 0
  | 0 => rfl
  | i + 1 => by
    rw [wan_succ, List.count_append, wan_count ns x k i, List.count_replicate]
    by_cases e : i = k
    · subst e
      rw [if_neg (by omega), if_pos (by simp), if_pos (by omega)]; omega
    · have e' : ((i : Int) == (k : Int)) = false := by rw [beq_eq_false_iff_ne]; omega
      rw [e', if_neg (show ¬ (false = true) by decide)]
      by_cases h : k < i
      · rw [if_pos h, if_pos (by omega)]; omega
      · rw [if_neg h, if_neg (by omega)]
theorem wan_mem {ns : List (List Int)} {x y : Int} : ∀ {i : Nat}, y ∈ wan ns i x → ∃ k : Nat, y = k ∧ k < i
  | 0, h => by cases h
  | i + 1, h => by
    rw [wan_succ] at h
    rcases List.mem_append.1 h with h | h
    · obtain ⟨k, h1, h2⟩ := wan_mem h
      exact ⟨k, h1, by omega⟩
    · exact ⟨i, (List.mem_replicate.1 h).2, by omega⟩
theorem wan_len {ns : List (List Int)} (x : Int) (h : ∀ l ∈ ns, l.length ≤ 100) : ∀ i, (wan ns i x).length ≤ 100 * i
  | 0 => Nat.le_refl _
  | i + 1 => by
    rw [wan_succ, List.length_append, List.length_replicate]
    have h1 := wan_len x h i
    have h2 : (nd ns i).count x ≤ 100 := by
      unfold nd
      rw [List.getD_eq_getElem?_getD]
      cases e : ns[i]? with
      | none => simp
      | some l => exact Nat.le_trans (List.count_le_length ..) (h l (List.mem_of_getElem? e))
    omega
/-- while a thing that has come is told to those that want it -/
structure Tell (ns : List (List Int)) (out : List Int) (x : Int) (p : Nat) (L H : List Int) : Prop where
  len : L.length = ns.length
  lack : ∀ k, k < ns.length → L.getD k 0 = (Go.Proofs.Ytldhhoinjdkdgaa.lack ns out k : Int) - ((((wan ns ns.length x).take p).count (k : Int) : Nat) : Int)
  heap : heapN H H.length
  perm : H.Perm (rs ns.length (out ++ [x]) L)
theorem Head.tell {ns : List (List Int)} {out L H H' : List Int} {i : Nat} (h : Head ns out L H) (hp : pick ns out = some i) (h1 : heapN H' H'.length) (h2 : H.Perm ((i : Int) :: H')) : Tell ns out (i : Int) 0 L H' := by
  obtain ⟨g1, g2, g3⟩ := pick_some.1 hp
  obtain ⟨g4, g5⟩ := rdy_iff.1 g1
  refine ⟨h.len, fun k hk => by rw [h.lack k hk, List.take_zero]; simp, h1, ?_⟩
  have a := h.perm.symm.trans h2
  have b := rs_pop (L := L) g2 (by rw [h.lack i g2, g5]; rfl) g4
  exact List.Perm.cons_inv (a.symm.trans b)
theorem take_succ_count {l : List Int} {p : Nat} (hp : p < l.length) (k : Int) : (l.take (p + 1)).count k = (l.take p).count k + if l.getD p 0 = k then 1 else 0 := by
  rw [List.take_succ_eq_append_getElem hp, List.count_append, getD_get hp, List.count_singleton]
  by_cases e : l[p] = k
  · rw [if_pos e, if_pos (by simp [e])]
  · rw [if_neg e, if_neg (by simp [e])]
theorem Tell.at {ns : List (List Int)} {out L H : List Int} {i p : Nat} (h : Tell ns out (i : Int) p L H) (hg : Good ns out) (hpk : pick ns out = some i) (hp : p < (wan ns ns.length (i : Int)).length) :
    ∃ k : Nat, (wan ns ns.length (i : Int)).getD p 0 = k ∧ k < ns.length ∧ 1 ≤ L.getD k 0 ∧ (k : Int) ∉ out ++ [(i : Int)] := by
  obtain ⟨g1, g2, g3⟩ := pick_some.1 hpk
  obtain ⟨g4, g5⟩ := rdy_iff.1 g1
  have hm : (wan ns ns.length (i : Int)).getD p 0 ∈ wan ns ns.length (i : Int) := by rw [getD_get hp]; exact List.getElem_mem _
  obtain ⟨k, h1, h2⟩ := wan_mem hm
  have hc := wan_count ns (i : Int) k ns.length
  rw [if_pos h2] at hc
  have hl := lack_count (ns := ns) g4 k
  have ht := take_succ_count hp (k : Int)
  rw [if_pos h1] at ht
  have hle : ((wan ns ns.length (i : Int)).take (p + 1)).count (k : Int) ≤ (wan ns ns.length (i : Int)).count (k : Int) := List.Sublist.count_le _ (List.take_sublist _ _)
  refine ⟨k, h1, h2, ?_, ?_⟩
  · rw [h.lack k h2]; omega
  · intro hk
    have h0 : Go.Proofs.Ytldhhoinjdkdgaa.lack ns out k = 0 := by
      rcases List.mem_append.1 hk with hk | hk
      · rw [lack_zero, List.all_eq_true]
        intro x hx
        simpa using hg.met k hk x hx
      · rw [List.mem_singleton] at hk
        obtain rfl : k = i := by omega
        exact g5
    omega
theorem lack_le {ns : List (List Int)} (h : ∀ l ∈ ns, l.length ≤ 100) (out : List Int) (k : Nat) : Go.Proofs.Ytldhhoinjdkdgaa.lack ns out k ≤ 100 := by
  unfold Go.Proofs.Ytldhhoinjdkdgaa.lack
  refine Nat.le_trans (List.length_filter_le _ _) ?_
  unfold nd
  rw [List.getD_eq_getElem?_getD]
  cases e : ns[k]? with
  | none => simp
  | some l => exact h l (List.mem_of_getElem? e)
theorem Tell.le {ns : List (List Int)} {out L H : List Int} {x : Int} {p k : Nat} (h : Tell ns out x p L H) (hl : ∀ l ∈ ns, l.length ≤ 100) (hk : k < ns.length) : L.getD k 0 ≤ 100 := by
  rw [h.lack k hk]
  have := lack_le hl out k
  omega
theorem Tell.more {ns : List (List Int)} {out L H : List Int} {i p k : Nat} (h : Tell ns out (i : Int) p L H) (hp : p < (wan ns ns.length (i : Int)).length)
    (hk : (wan ns ns.length (i : Int)).getD p 0 = k) (hkn : k < ns.length) (h1 : 1 ≤ L.getD k 0) (h0 : L.getD k 0 - 1 ≠ 0) : Tell ns out (i : Int) (p + 1) (L.set k (L.getD k 0 - 1)) H := by
  refine ⟨by rw [List.length_set]; exact h.len, fun j hj => ?_, h.heap, ?_⟩
  · rw [getD_set2 _ _ _ _ (by rw [h.len]; exact hkn), take_succ_count hp, hk]
    have := h.lack j hj
    by_cases e : j = k
    · subst e; rw [if_pos rfl, if_pos rfl]; omega
    · rw [if_neg e, if_neg (by omega)]; omega
  · rw [rs_set_more hkn h.len (by omega) h0]; exact h.perm
theorem Tell.zero {ns : List (List Int)} {out L H H' : List Int} {i p k : Nat} (h : Tell ns out (i : Int) p L H) (hp : p < (wan ns ns.length (i : Int)).length)
    (hk : (wan ns ns.length (i : Int)).getD p 0 = k) (hkn : k < ns.length) (h1 : 1 ≤ L.getD k 0) (h0 : L.getD k 0 - 1 = 0) (ho : (k : Int) ∉ out ++ [(i : Int)]) (g1 : heapN H' H'.length) (g2 : H'.Perm ((k : Int) :: H)) :
    Tell ns out (i : Int) (p + 1) (L.set k 0) H' := by
  refine ⟨by rw [List.length_set]; exact h.len, fun j hj => ?_, g1, ?_⟩
  · rw [getD_set2 _ _ _ _ (by rw [h.len]; exact hkn), take_succ_count hp, hk]
    have := h.lack j hj
    by_cases e : j = k
    · subst e; rw [if_pos rfl, if_pos rfl]; omega
    · rw [if_neg e, if_neg (by omega)]; omega
  · exact g2.trans ((h.perm.cons _).trans (rs_set_zero hkn h.len (by omega) ho).symm)
theorem Tell.head {ns : List (List Int)} {out L H : List Int} {i : Nat} (hg : gr ns out.length = some out) (hpk : pick ns out = some i) (h : Tell ns out (i : Int) (wan ns ns.length (i : Int)).length L H) : Head ns (out ++ [(i : Int)]) L H := by
  obtain ⟨g1, g2, g3⟩ := pick_some.1 hpk
  obtain ⟨g4, g5⟩ := rdy_iff.1 g1
  refine ⟨?_, h.len, fun k hk => ?_, h.heap, h.perm⟩
  · rw [List.length_append, List.length_singleton]; exact gr_step hg hpk
  · rw [h.lack k hk, List.take_length, wan_count, if_pos hk]
    have := lack_snoc ns out (i : Int) g4 k
    omega
/-- while the rows are read: who wants what, how much is lacking, what is ready -/
structure Fill (ns : List (List Int)) (i : Nat) (L H : List Int) : Prop where
  len : L.length = ns.length
  lack : ∀ k, k < i → L.getD k 0 = ((nd ns k).length : Int)
  heap : heapN H H.length
  perm : H.Perm (((List.range i).filter (fun k : Nat => (nd ns k).length == 0)).map (fun k : Nat => (k : Int)))
theorem Fill.start (ns : List (List Int)) : Fill ns 0 (List.replicate ns.length 0) [] :=
  ⟨List.length_replicate, fun k hk => absurd hk (Nat.not_lt_zero _), fun c _ hc => absurd hc (Nat.not_lt_zero _), List.Perm.refl _⟩
theorem Fill.some {ns : List (List Int)} {i : Nat} {L H : List Int} (h : Fill ns i L H) (hi : i < ns.length) (hne : (nd ns i).length ≠ 0) : Fill ns (i + 1) (L.set i ((nd ns i).length : Int)) H := by
  refine ⟨by rw [List.length_set]; exact h.len, fun k hk => ?_, h.heap, ?_⟩
  · rw [getD_set2 _ _ _ _ (by rw [h.len]; exact hi)]
    by_cases e : k = i
    · subst e; rw [if_pos rfl]
    · rw [if_neg e]; exact h.lack k (by omega)
  · rw [List.range_succ, List.filter_append, List.filter_cons_of_neg (by simpa using hne), List.filter_nil, List.append_nil]
    exact h.perm
theorem Fill.none {ns : List (List Int)} {i : Nat} {L H H' : List Int} (h : Fill ns i L H) (hi : i < ns.length) (hne : (nd ns i).length = 0) (g1 : heapN H' H'.length) (g2 : H'.Perm ((i : Int) :: H)) : Fill ns (i + 1) (L.set i 0) H' := by
  refine ⟨by rw [List.length_set]; exact h.len, fun k hk => ?_, g1, ?_⟩
  · rw [getD_set2 _ _ _ _ (by rw [h.len]; exact hi)]
    by_cases e : k = i
    · subst e; rw [if_pos rfl, hne]; rfl
    · rw [if_neg e]; exact h.lack k (by omega)
  · rw [List.range_succ, List.filter_append, List.filter_cons_of_pos (by simpa using hne), List.filter_nil, List.map_append]
    refine g2.trans ((h.perm.cons _).trans ?_)
    exact (List.perm_append_comm (l₁ := [(i : Int)])).trans (List.Perm.refl _)
theorem Fill.hlen {ns : List (List Int)} {i : Nat} {L H : List Int} (h : Fill ns i L H) : H.length ≤ i := by
  rw [h.perm.length_eq, List.length_map]
  have := List.length_filter_le (fun k : Nat => (nd ns k).length == 0) (List.range i)
  rwa [List.length_range] at this
theorem Head.hlen {ns : List (List Int)} {out L H : List Int} (h : Head ns out L H) : H.length ≤ ns.length := by
  rw [h.perm.length_eq]; exact rs_len _ _ _
theorem Tell.hlen {ns : List (List Int)} {out L H : List Int} {x : Int} {p : Nat} (h : Tell ns out x p L H) : H.length ≤ ns.length := by
  rw [h.perm.length_eq]; exact rs_len _ _ _
theorem Fill.head {ns : List (List Int)} {L H : List Int} (h : Fill ns ns.length L H) : Head ns [] L H := by
  have hl : ∀ k, k < ns.length → L.getD k 0 = (Go.Proofs.Ytldhhoinjdkdgaa.lack ns [] k : Int) := fun k hk => by rw [lack_nil]; exact h.lack k hk
  refine ⟨rfl, h.len, hl, h.heap, h.perm.trans ?_⟩
  unfold rs
  refine (List.Perm.of_eq (congrArg _ (List.filter_congr fun k hk => ?_)))
  rw [h.lack k (List.mem_range.1 hk), Bool.eq_iff_iff]
  simp
end Go.Proofs.Ytldhhoinjdkdgaa

set_option linter.unusedSimpArgs false
set_option linter.unusedVariables false
namespace Go.Proofs.Ytldhhoinjdkdgaa
open Go.RowKit
theorem wp_named {F : World → Prop} {w : World} (R : World → Prop) (hR : R w) (h : ∀ W, R W → F W) : F w := h w hR
theorem calls_named {P : Program} {f : FuncId} {args : Array Value} {K : Ending → World → Prop} {w : World} (R : World → Prop) (hR : R w) (h : ∀ W, R W → Calls P f args W K) : Calls P f args w K := h w hR
end Go.Proofs.Ytldhhoinjdkdgaa

set_option linter.unusedSimpArgs false
set_option linter.unusedVariables false
namespace Go.Proofs.Ytldhhoinjdkdgaa
open Go.RowKit

/-- v reads as the ints xs -/
def Lst (w : World) (v : Value) (xs : List Int) : Prop :=
  ∃ A C, v = .slice A xs.length C ∧ xs.length ≤ maxLen ∧ ∀ c, c < xs.length → ∃ b o, A = some ⟨b, o, none⟩ ∧ w.cell? ⟨b, o + c, none⟩ = some (.int .i64 (xs.getD c 0))
/-- v reads as the rows ns -/
def Mat (w : World) (v : Value) (ns : List (List Int)) : Prop :=
  ∃ A C, v = .slice A ns.length C ∧ ns.length ≤ maxLen ∧ ∀ r, r < ns.length → ∃ b o u, A = some ⟨b, o, none⟩ ∧ w.cell? ⟨b, o + r, none⟩ = some u ∧ Lst w u (nd ns r)
theorem cell_lt {w : World} {b o : Nat} {u : Value} (h : w.cell? ⟨b, o, none⟩ = some u) : b < w.heap.size := by
  rcases Nat.lt_or_ge b w.heap.size with hlt | hge
  · exact hlt
  · simp [World.cell?, Array.getElem?_eq_none hge] at h
section
variable {w w' : World} {v : Value} {xs : List Int} {ns : List (List Int)}
theorem Lst.below (h : Lst w v xs) (hb : Below w.heap.size w w') : Lst w' v xs := by
  obtain ⟨A, C, h1, h2, h3⟩ := h
  refine ⟨A, C, h1, h2, fun c hc => ?_⟩
  obtain ⟨b, o, h4, h5⟩ := h3 c hc
  exact ⟨b, o, h4, (hb.cell (p := ⟨b, o + c, none⟩) (cell_lt h5)).trans h5⟩
theorem Mat.below (h : Mat w v ns) (hb : Below w.heap.size w w') : Mat w' v ns := by
  obtain ⟨A, C, h1, h2, h3⟩ := h
  refine ⟨A, C, h1, h2, fun r hr => ?_⟩
  obtain ⟨b, o, u, h4, h5, h6⟩ := h3 r hr
  exact ⟨b, o, u, h4, (hb.cell (p := ⟨b, o + r, none⟩) (cell_lt h5)).trans h5, h6.below hb⟩
theorem Lst.is (h : Lst w v xs) : ∃ A C, v = .slice A xs.length C ∧ xs.length ≤ maxLen := by
  obtain ⟨A, C, h1, h2, _⟩ := h
  exact ⟨A, C, h1, h2⟩
theorem Lst.at {A : Option Addr} {n C : Nat} (h : Lst w (.slice A n C) xs) {c : Nat} (hc : c < xs.length) : ∃ b o, A = some ⟨b, o, none⟩ ∧ w.cell? ⟨b, o + c, none⟩ = some (.int .i64 (xs.getD c 0)) := by
  obtain ⟨A', C', h1, _, h3⟩ := h
  injection h1 with e1 e2 e3
  subst e1
  exact h3 c hc
theorem Mat.at {A : Option Addr} {n C : Nat} (h : Mat w (.slice A n C) ns) {r : Nat} (hr : r < ns.length) : ∃ b o u, A = some ⟨b, o, none⟩ ∧ w.cell? ⟨b, o + r, none⟩ = some u ∧ Lst w u (nd ns r) := by
  obtain ⟨A', C', h1, _, h3⟩ := h
  injection h1 with e1 e2 e3
  subst e1
  exact h3 r hr
theorem Lst.drewN (h : Lst w v xs) (n : Nat) : Lst (w.drewN n) v xs := h
theorem Mat.drewN (h : Mat w v ns) (n : Nat) : Mat (w.drewN n) v ns := h
theorem Row.lst {o : Nat → Nat} {l : Nat} (h : Row w o l v xs) : Lst w v xs := by
  rcases h.1.2 with ⟨rfl, h0⟩ | ⟨g, cap, cur, rfl, _, hg, h1, h2, h3, h4⟩
  · exact ⟨none, 0, by rw [h0], by rw [h0]; exact Nat.zero_le _, fun c hc => absurd hc (by omega)⟩
  · refine ⟨_, _, rfl, by omega, fun c hc => ?_⟩
    obtain ⟨g2, cap2, cs, e, k1, k2, k3, k4, k5⟩ := h.form (by omega)
    injection e with e1 e2 e3
    injection e1 with e1
    injection e1 with e1
    subst e1
    exact ⟨_, 0, rfl, by rw [Nat.zero_add]; exact k4.1.cell c (take_get k5 hc)⟩
end
def longB (ns : List (List Int)) : Bool := decide (100 < ns.length) || ns.any fun l => decide (100 < l.length)
def formB (ns : List (List Int)) : Bool := ns.all fun l => l.all fun x => decide (0 ≤ x) && decide (x < (ns.length : Int))
/-- the errors of all calls -/
def chk (ns : List (List Int)) : Int := if longB ns = true then 6 else if formB ns = true then 0 else 2
theorem nd_get {ns : List (List Int)} {r : Nat} (h : r < ns.length) : nd ns r = ns[r] := by
  unfold nd; rw [List.getD_eq_getElem?_getD, List.getElem?_eq_getElem h]; rfl
theorem nd_mem {ns : List (List Int)} {r : Nat} (h : r < ns.length) : nd ns r ∈ ns := by rw [nd_get h]; exact List.getElem_mem _
theorem any_long {ns : List (List Int)} : (ns.any fun l => decide (100 < l.length)) = true ↔ ∃ r, r < ns.length ∧ 100 < (nd ns r).length := by
  rw [List.any_eq_true]
  constructor
  · rintro ⟨l, h1, h2⟩
    obtain ⟨r, h3, rfl⟩ := List.mem_iff_getElem.1 h1
    exact ⟨r, h3, by rw [nd_get h3]; simpa using h2⟩
  · rintro ⟨r, h1, h2⟩
    exact ⟨nd ns r, nd_mem h1, by simpa using h2⟩
def IdxPost (ns : List (List Int)) (w : World) (e : Ending) (w' : World) : Prop :=
  w = w' ∧ ((∃ k : Nat, e = .returned (.int .i64 k) ∧ (ns.any fun l => decide (100 < l.length)) = true) ∨ (e = .returned (.int .i64 (-1)) ∧ (ns.any fun l => decide (100 < l.length)) = false))
theorem closure_any (A : Option Addr) (n c : Nat) (w : World) : Calls Try.prog 26 #[.slice A n c] w fun e w' => e = .returned (.bool (decide (100 < n))) ∧ w = w' := by
  go_enter Try.func26, Try.ntmps26
  go_wp2
  go_ret
  exact ⟨ret_bool (by rw [Bool.eq_iff_iff]; simp; omega), rfl⟩
set_option maxHeartbeats 1000000 in
theorem index_any (ns : List (List Int)) (v : Value) (w : World) (h : Mat w v ns) :
    Calls Try.prog 32 #[v, .func (.func 26) #[] #[]] w (IdxPost ns w) := by
  obtain ⟨A, C, rfl, h2, h3⟩ := h
  unfold maxLen at h2
  have H3 := Lib.hid h3
  clear h3
  go_enter Try.func32, Try.ntmps32
  go_wp2_with fail
  go_loopg [8] ns.length (fun k i wr => ∃ t : Nat, k + t = ns.length ∧ i = .int .i64 t ∧ (∀ r, r < t → (nd ns r).length ≤ 100) ∧ w = wr)
  case atStart => exact ⟨0, by omega, rfl, fun r hr => absurd hr (Nat.not_lt_zero _), rfl⟩
  case round =>
    obtain ⟨t, hk, rfl, hall, rfl⟩ := hrel
    have HK := Lib.hid hk
    have HA := Lib.hid hall
    have htn : t ≤ ns.length := by omega
    clear hk hall
    by_cases hlt : t < ns.length
    · obtain ⟨b, o, u, rfl, hc, hl⟩ := H3.out t hlt
      obtain ⟨A', C', rfl, hl2, hl3⟩ := hl
      have HL3 := Lib.hid hl3
      clear hl3
      have HC := Lib.hid (fun W => closure_any A' (nd ns t).length C' W)
      by_cases hlong : 100 < (nd ns t).length
      · rw [decide_eq_true hlong] at HC
        have HX := Lib.hid (any_long.2 ⟨t, hlt, hlong⟩)
        clear hlong
        go_wp2_with fail
        refine (HC.out _).mono ?_
        rintro _ _ ⟨rfl, rfl⟩
        go_wp2_with fail
        go_ret
        exact ⟨rfl, .inl ⟨t, rfl, HX.out⟩⟩
      · rw [decide_eq_false hlong] at HC
        have HX := Lib.hid hlong
        clear hlong
        go_wp2_with fail
        refine (HC.out _).mono ?_
        rintro _ _ ⟨rfl, rfl⟩
        go_wp2_with fail
        go_roundg (gk - 1)
        case measure => have := HK.out; omega
        case rel =>
          refine ⟨t + 1, by have := HK.out; omega, by go_num, fun r hr => ?_, rfl⟩
          by_cases e : r = t
          · subst e; have := HX.out; omega
          · exact HA.out r (by omega)
    · have HX : Hid ((ns.any fun l => decide (100 < l.length)) = false) := Lib.hid (by
        rw [Bool.eq_false_iff]
        intro h
        obtain ⟨r, h1, h2⟩ := any_long.1 h
        have := HA.out r (by omega)
        omega)
      go_wp2_with fail
      go_ret
      exact ⟨rfl, .inr ⟨rfl, HX.out⟩⟩
theorem contains_any (ns : List (List Int)) (v : Value) (w : World) (h : Mat w v ns) :
    Calls Try.prog 27 #[v, .func (.func 26) #[] #[]] w fun e w' => e = .returned (.bool (ns.any fun l => decide (100 < l.length))) ∧ w = w' := by
  have HI := Lib.hid (fun W (h : Mat W v ns) => index_any ns v W h)
  obtain ⟨z, hz⟩ : ∃ z, z = ns.any fun l => decide (100 < l.length) := ⟨_, rfl⟩
  rw [← hz]
  have HZ := Lib.hid hz
  clear hz
  go_enter Try.func27, Try.ntmps27
  go_wp2_with fail
  refine (HI.out _ h).mono ?_
  rintro _ _ ⟨rfl, ⟨k, rfl, h1⟩ | ⟨rfl, h1⟩⟩
  · have h2 : z = true := HZ.out.trans h1
    subst h2
    have k0 : 0 ≤ (k : Int) := by omega
    clear h1
    go_wp2_with fail
    go_ret
    exact ⟨ret_bool (by simp), rfl⟩
  · have h2 : z = false := HZ.out.trans h1
    subst h2
    clear h1
    go_wp2_with fail
    go_ret
    exact ⟨ret_bool (by simp), rfl⟩
/-- all in the first t rows, and the first s in row t, are things -/
def GoodTo (ns : List (List Int)) (t s : Nat) : Prop := ∀ r c, r < ns.length → c < (nd ns r).length → (r < t ∨ r = t ∧ c < s) → 0 ≤ (nd ns r).getD c 0 ∧ (nd ns r).getD c 0 < (ns.length : Int)
theorem formB_iff {ns : List (List Int)} : formB ns = true ↔ ∀ r c, r < ns.length → c < (nd ns r).length → 0 ≤ (nd ns r).getD c 0 ∧ (nd ns r).getD c 0 < (ns.length : Int) := by
  unfold formB
  rw [List.all_eq_true]
  constructor
  · intro h r c hr hc
    have h1 := h (nd ns r) (nd_mem hr)
    rw [List.all_eq_true] at h1
    have h2 := h1 ((nd ns r).getD c 0) (by rw [getD_get hc]; exact List.getElem_mem _)
    rw [Bool.and_eq_true] at h2
    exact ⟨of_decide_eq_true h2.1, of_decide_eq_true h2.2⟩
  · intro h l hl
    obtain ⟨r, hr, rfl⟩ := List.mem_iff_getElem.1 hl
    rw [List.all_eq_true]
    intro x hx
    obtain ⟨c, hc, rfl⟩ := List.mem_iff_getElem.1 hx
    have e := nd_get hr
    have := h r c hr (by rw [e]; exact hc)
    rw [getD_get (by rw [e]; exact hc)] at this
    simp only [e] at this
    rw [Bool.and_eq_true]
    exact ⟨decide_eq_true this.1, decide_eq_true this.2⟩
theorem GoodTo.start (ns : List (List Int)) : GoodTo ns 0 0 := fun r c _ _ h => by omega
theorem GoodTo.more {ns : List (List Int)} {t s : Nat} (h : GoodTo ns t s) (ht : t < ns.length) (hs : s < (nd ns t).length) :
    (0 ≤ (nd ns t).getD s 0 → (nd ns t).getD s 0 < (ns.length : Int) → GoodTo ns t (s + 1)) ∧ (¬ (0 ≤ (nd ns t).getD s 0 ∧ (nd ns t).getD s 0 < (ns.length : Int)) → formB ns = false) := by
  refine ⟨fun h0 h1 r c hr hc hh => ?_, fun hn => ?_⟩
  · by_cases e : r = t ∧ c = s
    · obtain ⟨rfl, rfl⟩ := e; exact ⟨h0, h1⟩
    · exact h r c hr hc (by omega)
  · rw [Bool.eq_false_iff]
    intro hf
    exact hn (formB_iff.1 hf t s ht hs)
theorem GoodTo.next {ns : List (List Int)} {t s : Nat} (h : GoodTo ns t s) (ht : t < ns.length) (hs : (nd ns t).length ≤ s) : GoodTo ns (t + 1) 0 := fun r c hr hc hh => h r c hr hc (by
  by_cases e : r = t
  · subst e; exact .inr ⟨rfl, by omega⟩
  · exact .inl (by omega))
theorem GoodTo.done {ns : List (List Int)} {t s : Nat} (h : GoodTo ns t s) (ht : ns.length ≤ t) : formB ns = true := formB_iff.2 fun r c hr hc => h r c hr hc (.inl (by omega))
set_option maxHeartbeats 1000000 in
theorem check_any (ns : List (List Int)) (v : Value) (w : World) (h : Mat w v ns) :
    Calls Try.prog 19 #[v] w fun e w' => e = .returned (.int .i64 (chk ns)) ∧ ∃ nn, w' = w.drewN nn := by
  have HM := Lib.hid h
  obtain ⟨A, C, rfl, h2, h3⟩ := h
  unfold maxLen at h2
  have H3 := Lib.hid h3
  clear h3
  by_cases hL : 100 < ns.length
  · have hc : chk ns = 6 := by unfold chk longB; rw [decide_eq_true hL]; rfl
    rw [hc]
    clear hc
    go_enter Try.func19, Try.ntmps19
    go_wp2_with fail
    go_ret
    exact ⟨rfl, 0, rfl⟩
  · have HI := Lib.hid (fun W (h : Mat W (.slice A ns.length C) ns) => contains_any ns (.slice A ns.length C) W h)
    have hl0 : ¬ 100 < (ns.length : Int) := by omega
    by_cases hany : (ns.any fun l => decide (100 < l.length)) = true
    · have hc : chk ns = 6 := by unfold chk longB; rw [hany, Bool.or_true]; rfl
      rw [hc]
      rw [hany] at HI
      clear hc hany
      go_enter Try.func19, Try.ntmps19
      go_wp2_with fail
      refine (HI.out _ HM.out).mono ?_
      rintro _ _ ⟨rfl, rfl⟩
      go_wp2_with fail
      go_ret
      exact ⟨rfl, 0, rfl⟩
    · rw [Bool.not_eq_true] at hany
      have hlong : longB ns = false := by unfold longB; rw [hany, decide_eq_false hL]; rfl
      rw [hany] at HI
      have HO := Lib.hid hlong
      clear hlong hany
      go_enter Try.func19, Try.ntmps19
      go_wp2_with fail
      refine (HI.out _ HM.out).mono ?_
      rintro _ _ ⟨rfl, rfl⟩
      go_wp2_with fail
      go_loopg [18] ns.length (fun k i wr => ∃ t : Nat, k + t = ns.length ∧ i = .int .i64 t ∧ GoodTo ns t 0 ∧ w = wr)
      case atStart => exact ⟨0, by omega, rfl, GoodTo.start ns, rfl⟩
      case round =>
        obtain ⟨t, hk, rfl, hall, rfl⟩ := hrel
        have HK := Lib.hid hk
        have HA := Lib.hid hall
        have htn : t ≤ ns.length := by omega
        clear hk hall
        by_cases hlt : t < ns.length
        · obtain ⟨b, o, u, rfl, hc, hl⟩ := H3.out t hlt
          obtain ⟨A', C', rfl, hl2, hl3⟩ := hl
          unfold maxLen at hl2
          have HL3 := Lib.hid hl3
          clear hl3
          go_wp2_with fail
          obtain ⟨go, hgo⟩ : ∃ go : Nat, go = gk := ⟨_, rfl⟩
          rw [← hgo] at HK
          have HGO := Lib.hid hgo
          clear hgo
          go_loopg [24] (nd ns t).length (fun k i wr => ∃ s : Nat, k + s = (nd ns t).length ∧ i = .int .i64 s ∧ GoodTo ns t s ∧ w = wr)
          case atStart => exact ⟨0, by omega, rfl, HA.out, rfl⟩
          case round =>
            obtain ⟨s, hk, rfl, hall, rfl⟩ := hrel
            have HK2 := Lib.hid hk
            have HA2 := Lib.hid hall
            have hsn : s ≤ (nd ns t).length := by omega
            clear hk hall
            by_cases hls : s < (nd ns t).length
            · obtain ⟨b', o', rfl, hx⟩ := HL3.out s hls
              have HX := Lib.hid (HA2.out.more hlt hls)
              obtain ⟨x, hxx⟩ : ∃ x, x = (nd ns t).getD s 0 := ⟨_, rfl⟩
              rw [← hxx] at hx HX
              clear hxx
              by_cases hx0 : 0 ≤ x
              · by_cases hx1 : x < (ns.length : Int)
                · have HG := Lib.hid (HX.out.1 hx0 hx1)
                  clear HX
                  go_wp2_with fail
                  go_roundg (gk - 1)
                  case measure => have := HK2.out; omega
                  case rel => exact ⟨s + 1, by have := HK2.out; omega, by go_num, HG.out, rfl⟩
                · have HG := Lib.hid (HX.out.2 (by omega))
                  have e : chk ns = 2 := by unfold chk; rw [HO.out, HG.out]; rfl
                  have E := Lib.hid e.symm
                  clear HX e
                  go_wp2_with fail
                  go_ret
                  exact ⟨ret_int E.out, 0, rfl⟩
              · have HG := Lib.hid (HX.out.2 (by omega))
                have e : chk ns = 2 := by unfold chk; rw [HO.out, HG.out]; rfl
                have E := Lib.hid e.symm
                clear HX e
                go_wp2_with fail
                go_ret
                exact ⟨ret_int E.out, 0, rfl⟩
            · have HG := Lib.hid (HA2.out.next hlt (by omega))
              go_wp2_with fail
              go_roundg (go - 1)
              case measure => have := HK.out; have := HGO.out; omega
              case rel => exact ⟨t + 1, by have := HK.out; omega, by go_num, HG.out, rfl⟩
        · have HG := Lib.hid (HA.out.done (by omega))
          have e : chk ns = 0 := by unfold chk; rw [HO.out, HG.out]; rfl
          have E := Lib.hid e.symm
          clear e
          go_wp2_with fail
          go_ret
          exact ⟨ret_int E.out, 0, rfl⟩
end Go.Proofs.Ytldhhoinjdkdgaa

set_option linter.unusedSimpArgs false
set_option linter.unusedVariables false
namespace Go.Proofs.Ytldhhoinjdkdgaa
open Go.RowKit

theorem Turn.bel {w w' : World} {o : Nat → Nat} (h : Turn (fun l => l ≠ 0) w (fun _ => 0) w' o) : Below w.heap.size w w' := h.below (fun _ _ => by simp) (Nat.le_refl _)
structure Mem (N : Nat) (w0 : World) (gW gL gh : Nat) (o : Nat → Nat) (wr : World) (ws : List Value) (wn : Nat → List Int) (L H ou : List Int) (vh vo : Value) : Prop where
  lw : Lb wr o 1 gW 24 ws
  ll : Lb wr o 2 gL 3 (L.map (Value.int .i64))
  lh : Lb wr o 3 gh 38 [vh]
  rh : Row wr o 4 vh H
  ro : Row wr o 5 vo ou
  rows : ∀ n, n < N → Row wr o (6 + n) (ws.getD n undef) (wn n)
  len : ws.length = N
  turn : Turn (fun l => l ≠ 0) w0 (fun _ => 0) wr o
section
variable {N : Nat} {w0 : World} {gW gL gh : Nat} {o o' : Nat → Nat} {wr w' : World} {ws : List Value} {wn : Nat → List Int} {L H ou : List Int} {vh vo : Value}
theorem Mem.below (h : Mem N w0 gW gL gh o wr ws wn L H ou vh vo) : Below w0.heap.size w0 wr := h.turn.below (fun _ _ => by simp) (Nat.le_refl _)
theorem Mem.drew (h : Mem N w0 gW gL gh o wr ws wn L H ou vh vo) : Mem N w0 gW gL gh o wr.drew ws wn L H ou vh vo :=
  ⟨h.lw.drew, h.ll.drew, h.lh.drew, h.rh.drew, h.ro.drew, fun n hn => (h.rows n hn).drew, h.len, h.turn.drew⟩
theorem Mem.drewN (h : Mem N w0 gW gL gh o wr ws wn L H ou vh vo) (n : Nat) : Mem N w0 gW gL gh o (wr.drewN n) ws wn L H ou vh vo :=
  ⟨h.lw.drewN n, h.ll.drewN n, h.lh.drewN n, h.rh.drewN n, h.ro.drewN n, fun k hk => (h.rows k hk).drewN n, h.len, h.turn.drewN n⟩
theorem Mem.alloc (h : Mem N w0 gW gL gh o wr ws wn L H ou vh vo) (ob : Obj) : Mem N w0 gW gL gh o (wr.alloc ob) ws wn L H ou vh vo :=
  ⟨h.lw.alloc ob, h.ll.alloc ob, h.lh.alloc ob, h.rh.alloc ob, h.ro.alloc ob, fun k hk => (h.rows k hk).alloc ob, h.len, h.turn.alloc ob⟩
theorem Mem.heap (h : Mem N w0 gW gL gh o wr ws wn L H ou vh vo) {vh' : Value} {H' : List Int} (t : Turn SS wr o w' o') (k3 : Lb w' o' 3 gh 38 [vh']) (k4 : Row w' o' 4 vh' H') : Mem N w0 gW gL gh o' w' ws wn L H' ou vh' vo :=
  ⟨h.lw.turn t (by decide), h.ll.turn t (by decide), k3, k4, h.ro.turn t (by decide), fun k hk => (h.rows k hk).turn t (by show ¬ (_ ∨ _); omega), h.len, h.turn.trans (t.mono fun l hl => by rcases hl with rfl | rfl <;> decide)⟩
theorem Mem.out (h : Mem N w0 gW gL gh o wr ws wn L H ou vh vo) {vo' : Value} {ou' : List Int} (t : Turn (· = 5) wr o w' o') (k5 : Row w' o' 5 vo' ou') : Mem N w0 gW gL gh o' w' ws wn L H ou' vh vo' :=
  ⟨h.lw.turn t (by decide), h.ll.turn t (by decide), h.lh.turn t (by decide), h.rh.turn t (by decide), k5, fun k hk => (h.rows k hk).turn t (by show ¬ (_ = _); omega), h.len, h.turn.trans (t.mono fun l hl => by subst hl; decide)⟩
theorem Mem.new (h : Mem N w0 gW gL gh o wr ws wn L H ou vh vo) {g : Nat} (hg : o g ≠ 0) : w0.heap.size ≤ g := by
  rcases Nat.lt_or_ge g w0.heap.size with h1 | h1
  · exact absurd (h.turn.num g h1) hg
  · exact h1
theorem Mem.lack (h : Mem N w0 gW gL gh o wr ws wn L H ou vh vo) (k : Nat) (y : Int) : Mem N w0 gW gL gh o (wr.setCell ⟨gL, k, none⟩ (.int .i64 y)) ws wn (L.set k y) H ou vh vo :=
  have e : o gL = 2 := h.ll.2
  ⟨h.lw.far (by show o gL ≠ 1; rw [e]; decide) _, by rw [List.map_set]; exact h.ll.set_ k _, h.lh.far (by show o gL ≠ 3; rw [e]; decide) _, h.rh.set (by show o gL ≠ 4; rw [e]; decide) _, h.ro.set (by show o gL ≠ 5; rw [e]; decide) _,
    fun n hn => (h.rows n hn).set (by show o gL ≠ _; rw [e]; omega) _, h.len, h.turn.setCell (.inl (h.new (by rw [e]; decide))) _⟩
theorem Mem.want (h : Mem N w0 gW gL gh o wr ws wn L H ou vh vo) {k : Nat} (hk : k < N) {u : Value} {xs : List Int} (t : Turn (· = 6 + k) wr o w' o') (r : Row w' o' (6 + k) u xs) :
    Mem N w0 gW gL gh o' (w'.setCell ⟨gW, k, none⟩ u) (ws.set k u) (fun n => if n = k then xs else wn n) L H ou vh vo := by
  have lw := h.lw.turn t (by show ¬ (_ = _); omega)
  have e : o' gW = 1 := lw.2
  have tt : Turn (fun l => l ≠ 0) w0 (fun _ => 0) w' o' := h.turn.trans (t.mono fun l hl => by subst hl; show _ ≠ 0; omega)
  refine ⟨lw.set_ k _, (h.ll.turn t (by show ¬ (_ = _); omega)).far (by show o' gW ≠ 2; rw [e]; decide) _, (h.lh.turn t (by show ¬ (_ = _); omega)).far (by show o' gW ≠ 3; rw [e]; decide) _, (h.rh.turn t (by show ¬ (_ = _); omega)).set (by show o' gW ≠ 4; rw [e]; decide) _,
    (h.ro.turn t (by show ¬ (_ = _); omega)).set (by show o' gW ≠ 5; rw [e]; decide) _, fun n hn => ?_, by rw [List.length_set]; exact h.len, tt.setCell (.inl ?_) _⟩
  · have hs : (ws.set k u).getD n undef = if n = k then u else ws.getD n undef := by
      rw [List.getD_eq_getElem?_getD, List.getD_eq_getElem?_getD]
      by_cases e : n = k
      · subst e
        rw [if_pos rfl, List.getElem?_set_self (by rw [h.len]; exact hn)]; rfl
      · rw [if_neg e, List.getElem?_set_ne (fun e' => e e'.symm)]
    rw [hs]
    by_cases e1 : n = k
    · subst e1
      rw [if_pos rfl, if_pos rfl]
      exact r.set (by show o' gW ≠ _; rw [e]; omega) _
    · rw [if_neg e1, if_neg e1]
      exact ((h.rows n hn).turn t (by show ¬ (_ = _); omega)).set (by show o' gW ≠ _; rw [e]; omega) _
  · exact h.new (by rw [h.lw.2]; decide)
theorem Mem.wn_congr {wn' : Nat → List Int} (h : Mem N w0 gW gL gh o wr ws wn L H ou vh vo) (e : ∀ n, n < N → wn n = wn' n) : Mem N w0 gW gL gh o wr ws wn' L H ou vh vo :=
  ⟨h.lw, h.ll, h.lh, h.rh, h.ro, fun n hn => by rw [← e n hn]; exact h.rows n hn, h.len, h.turn⟩
end
theorem getD_cell {L : List Int} {k : Nat} (h : k < L.length) : (L.map (Value.int .i64))[k]? = some (.int .i64 (L.getD k 0)) := by
  rw [List.getElem?_map, List.getElem?_eq_getElem h, getD_get h]; rfl
theorem getD_val {ws : List Value} {k : Nat} (h : k < ws.length) : ws[k]? = some (ws.getD k undef) := by
  rw [List.getElem?_eq_getElem h, List.getD_eq_getElem?_getD, List.getElem?_eq_getElem h]; rfl
/-- who wants x, after i rows and the first s of row i -/
def wan2 (ns : List (List Int)) (i s : Nat) (x : Int) : List Int := wan ns i x ++ List.replicate (((nd ns i).take s).count x) (i : Int)
theorem wan2_zero (ns : List (List Int)) (i : Nat) (x : Int) : wan2 ns i 0 x = wan ns i x := by unfold wan2; simp
theorem wan2_all (ns : List (List Int)) (i : Nat) (x : Int) : wan2 ns i (nd ns i).length x = wan ns (i + 1) x := by unfold wan2; rw [wan_succ, List.take_length]
theorem wan2_step {ns : List (List Int)} {i s : Nat} (hs : s < (nd ns i).length) (x : Int) : wan2 ns i (s + 1) x = if x = (nd ns i).getD s 0 then wan2 ns i s x ++ [(i : Int)] else wan2 ns i s x := by
  unfold wan2
  rw [take_succ_count hs]
  by_cases e : x = (nd ns i).getD s 0
  · rw [if_pos e, if_pos e.symm, List.replicate_succ', List.append_assoc]
  · rw [if_neg e, if_neg (fun h => e h.symm)]; rfl
theorem longB_not {ns : List (List Int)} (h : longB ns = false) : ns.length ≤ 100 ∧ ∀ l ∈ ns, l.length ≤ 100 := by
  unfold longB at h
  rw [Bool.or_eq_false_iff] at h
  refine ⟨by have := of_decide_eq_false h.1; omega, fun l hl => ?_⟩
  have := List.any_eq_false.1 h.2 l hl
  simpa using this
theorem wan2_len {ns : List (List Int)} (h : longB ns = false) {i s : Nat} (hi : i ≤ ns.length) (x : Int) : (wan2 ns i s x).length ≤ 10100 := by
  obtain ⟨h1, h2⟩ := longB_not h
  unfold wan2
  rw [List.length_append, List.length_replicate]
  have a := wan_len (ns := ns) x h2 i
  have b : ((nd ns i).take s).count x ≤ 100 := by
    refine Nat.le_trans List.count_le_length ?_
    rw [List.length_take]
    unfold nd
    rw [List.getD_eq_getElem?_getD]
    cases e : ns[i]? with
    | none => simp
    | some l => have := h2 l (List.mem_of_getElem? e); simp; omega
  omega
end Go.Proofs.Ytldhhoinjdkdgaa

set_option linter.unusedSimpArgs false
set_option linter.unusedVariables false
namespace Go.Proofs.Ytldhhoinjdkdgaa
open Go.RowKit

/-- a new row of n zero values, its block bears the number lab -/
theorem wpList_makeL {w : World} {ops : Array Oper} {rest : List Oper} {o : Oper} {a : Act} {Q : Exit → Act → World → Prop} (hg : o.guard = none) (l c : Operand) (t e : TypeId) (hop : o.op = Op.makeSlice t l c)
    (z : Value) (hz : z.cells = #[z]) (bytes : Nat) (ht : Try.prog.underlying t = some (.slice e)) (hi : (Try.prog.info? e).map (fun i => (i.zero, i.size, i.bytes)) = some (some z, 1, bytes)) (own : Nat → Nat) (lab n : Nat)
    (hl : a.eval l = .int .i64 n) (hc : a.eval c = .int .i64 n) (b2 : bytes * n ≤ 281474976710656) (b3 : n ≤ maxLen)
    (h : ∀ w', Lb w' (relabel own w.heap.size lab) lab w.heap.size e (List.replicate n z) → Turn (fun _ => False) w own w' (relabel own w.heap.size lab) → wpList Try.prog ops Q rest (a.put o.dst (.slice (some ⟨w.heap.size, 0, none⟩) n n)) w') :
    wpList Try.prog ops Q (o :: rest) a w := by
  obtain ⟨i0, hi0, hz0, hz1, hz2⟩ := info_parts hi
  refine wpList_make_full w hg l c t hop w.heap.size e i0 z 1 ht hi0 hz0 hz1 .i64 .i64 n n n hl hc rfl rfl (by rw [hz2]; exact b2) b3 (Nat.le_refl _) fun w' h1 h2 => ?_
  refine h w' ⟨?_, relabel_new (Nat.le_refl _)⟩ ⟨h2.os, h2.tape, h2.output, h2.size, fun k hk => relabel_old hk, fun k hk _ => h2.block k hk (by simp)⟩
  rcases h1.2 with ⟨hn, _⟩ | ⟨g, cap, cur, hv, _, hg', h3, h4, h5, h6⟩
  · cases hn
  · injection hv with e1 e2 e3
    injection e1 with e1
    injection e1 with e1
    subst e1 e3
    rw [hz, toList_madeCells_one, Nat.mul_one] at h6
    rw [Nat.mul_one] at h5
    rw [List.take_of_length_le (by rw [Array.length_toList, h5]; exact Nat.le_refl _)] at h6
    unfold Bk
    rw [hg', ← h6]
/-- what Order answers -/
def docOrd (ns : List (List Int)) : List Int × Int := if chk ns = 0 then (match ord ns with | some l => (l, 0) | none => ([], 11)) else ([], chk ns)
def OrdPost (ns : List (List Int)) (w : World) (e : Ending) (w' : World) : Prop := ∃ o v, e = .returned (.tuple #[v, .int .i64 (docOrd ns).2]) ∧ Row w' o 5 v (docOrd ns).1 ∧ Turn (fun l => l ≠ 0) w (fun _ => 0) w' o
set_option maxHeartbeats 1000000 in
theorem order_bad (ns : List (List Int)) (v : Value) (w : World) (h : Mat w v ns) (hc : chk ns ≠ 0) : Calls Try.prog 10 #[v] w (OrdPost ns w) := by
  have e : docOrd ns = ([], chk ns) := by unfold docOrd; rw [if_neg hc]
  have HE := Lib.hid e
  have HC := Lib.hid (check_any ns v w h)
  obtain ⟨z, hz⟩ : ∃ z, z = chk ns := ⟨_, rfl⟩
  rw [← hz] at hc HC HE
  have hc2 : (z != 0) = true := by simpa using hc
  clear e hz hc
  go_enter Try.func10, Try.ntmps10
  go_wp2_with fail
  refine HC.out.mono ?_
  rintro _ _ ⟨rfl, nn, rfl⟩
  go_wp2_with fail
  go_ret2
  exact ⟨fun _ => 0, .slice none 0 0, by rw [HE.out]; rfl, by rw [HE.out]; exact Row.nil _ _ _, (Turn.refl _ _ _).drewN _⟩
set_option maxHeartbeats 1000000 in
theorem order_good (ns : List (List Int)) (v : Value) (w : World) (h : Mat w v ns) (hl : longB ns = false) (hf : formB ns = true) : Calls Try.prog 10 #[v] w (OrdPost ns w) := by
  have HM := Lib.hid h
  obtain ⟨n1, n2⟩ := longB_not hl
  have hc0 : chk ns = 0 := by unfold chk; rw [hl, hf]; rfl
  have HC := Lib.hid (check_any ns v w h)
  rw [hc0] at HC
  have HL := Lib.hid hl
  have HF := Lib.hid (formB_iff.1 hf)
  have HN2 := Lib.hid n2
  have C0 := Lib.hid hc0
  obtain ⟨A, C, rfl, h2, h3⟩ := h
  unfold maxLen at h2
  have H3 := Lib.hid h3
  clear h3 hc0 hl hf n2
  go_enter Try.func10, Try.ntmps10
  go_wp2_with fail
  refine HC.out.mono ?_
  rintro _ _ ⟨rfl, nn, rfl⟩
  go_wp2_with (first | (at_make; refine wpList_makeL rfl _ _ 22 24 rfl (.slice none 0 0) rfl 24 Try.underlying22 (by kernel_rfl) (fun _ => 0) 1 ns.length rfl rfl (by omega) (by unfold maxLen; omega) ?_; intro w1 lw t1) | (at_make; refine wpList_makeL rfl _ _ 24 3 rfl (.int .i64 0) rfl 8 Try.underlying24 (by kernel_rfl) (relabel (fun _ => 0) w.heap.size 1) 2 ns.length rfl rfl (by omega) (by unfold maxLen; omega) ?_; intro w2 ll t2))
  have hM : Mem ns.length w w.heap.size w1.heap.size (w2.heap.size + 1) (relabel (relabel (relabel (relabel (fun _ => 0) w.heap.size 1) w1.heap.size 2) w2.heap.size 4) (w2.heap.size + 1) 3)
      ((w2.alloc (.cells #[] 3)).alloc (.cells #[.slice (some ⟨w2.heap.size, 0, none⟩) 0 0] 38)) (List.replicate ns.length (.slice none 0 0)) (fun n => wan ns 0 n) (List.replicate ns.length 0) [] [] (.slice (some ⟨w2.heap.size, 0, none⟩) 0 0) (.slice none 0 0) := by
    have e1 : (w2.alloc (.cells #[] 3)).heap.size = w2.heap.size + 1 := World.size_alloc _ _
    have t3 : Turn (fun _ => False) w2 (relabel (relabel (fun _ => 0) w.heap.size 1) w1.heap.size 2) (w2.alloc (.cells #[] 3)) (relabel (relabel (relabel (fun _ => 0) w.heap.size 1) w1.heap.size 2) w2.heap.size 4) := ((Turn.refl _ _ _).alloc _).relabel (Nat.le_refl _) 4
    have t4 := ((Turn.refl (fun _ => False) (w2.alloc (.cells #[] 3)) (relabel (relabel (relabel (fun _ => 0) w.heap.size 1) w1.heap.size 2) w2.heap.size 4)).alloc (.cells #[.slice (some ⟨w2.heap.size, 0, none⟩) 0 0] 38)).relabel (Nat.le_refl _) 3
    rw [e1] at t4
    have l4 := Lb.new (w := w2) (relabel (relabel (fun _ => 0) w.heap.size 1) w1.heap.size 2) 4 3 [] (Nat.le_refl _)
    have l3 := Lb.new (w := w2.alloc (.cells #[] 3)) (relabel (relabel (relabel (fun _ => 0) w.heap.size 1) w1.heap.size 2) w2.heap.size 4) 3 38 [.slice (some ⟨w2.heap.size, 0, none⟩) 0 0] (Nat.le_refl _)
    rw [e1] at l3
    refine ⟨((lw.turn t2 (fun h => h)).turn t3 (fun h => h)).turn t4 (fun h => h), ?_, l3, ?_, Row.nil _ _ _, fun n hn => ?_, List.length_replicate, ?_⟩
    · rw [List.map_replicate]
      exact (ll.turn t3 (fun h => h)).turn t4 (fun h => h)
    · exact Row.of_block (xs := []) (cap := 0) (l4.turn t4 (fun h => h)) (Nat.le_refl _) (Nat.zero_le _) rfl rfl
    · rw [List.getD_eq_getElem?_getD, List.getElem?_replicate, if_pos hn]
      exact Row.nil _ _ _
    · have t0 := (Turn.refl (fun l => l ≠ 0) w (fun _ => 0)).drewN nn
      exact t0.trans ((((t1.trans t2).trans t3).trans t4).mono fun _ h => h.elim)
  obtain ⟨gW, hgW⟩ : ∃ g, g = w.heap.size := ⟨_, rfl⟩
  obtain ⟨gL, hgL⟩ : ∃ g, g = w1.heap.size := ⟨_, rfl⟩
  obtain ⟨gh, hgh⟩ : ∃ g, g = w2.heap.size + 1 := ⟨_, rfl⟩
  generalize (relabel (relabel (relabel (relabel (fun _ => 0) w.heap.size 1) w1.heap.size 2) w2.heap.size 4) (w2.heap.size + 1) 3) = o0 at hM
  generalize Value.slice (some ⟨w2.heap.size, 0, none⟩) 0 0 = vh0 at *
  rw [← hgW, ← hgL, ← hgh] at hM
  rw [← hgW, ← hgL, ← hgh]
  generalize ((w2.alloc (.cells #[] 3)).alloc (.cells #[vh0] 38)) = W0 at *
  clear t1 t2 lw ll hgW hgL hgh
  have HN := Lib.hid n1
  have HS := Far.mk (Fill.start ns)
  have HM0 := Lib.hid hM
  clear hM H3
  go_loopg [31] ns.length (fun k i wr => ∃ (t : Nat) (o : Nat → Nat) (ws : List Value) (L H : List Int) (vh : Value), k + t = ns.length ∧ i = .int .i64 t ∧ Far (Fill ns t L H) ∧ Mem ns.length w gW gL gh o wr ws (fun n => wan ns t n) L H [] vh (.slice none 0 0))
  case atStart => exact ⟨0, o0, _, _, _, vh0, by omega, rfl, HS, HM0.out⟩
  case round =>
    obtain ⟨t, o, ws, L, H, vh, hk, rfl, hfill, hmem⟩ := hrel
    have HK := Lib.hid hk
    have htn : t ≤ ns.length := by omega
    clear hk
    by_cases hlt : t < ns.length
    · obtain ⟨b1, o1, u1, rfl, hcw, hl1⟩ := HM.out.at hlt
      have hc1 := (hmem.below.cell (p := ⟨b1, o1 + t, none⟩) (cell_lt hcw)).trans hcw
      clear hcw
      obtain ⟨A1, C1, rfl, hb1⟩ := hl1.is
      unfold maxLen at hb1
      have HL1 := Lib.hid hl1
      clear hl1
      go_wp2_with fail
      obtain ⟨go, hgo⟩ : ∃ go : Nat, go = gk := ⟨_, rfl⟩
      rw [← hgo] at HK
      have HGO := Lib.hid hgo
      clear hgo
      go_loopg [38] (nd ns t).length (fun k i wr => ∃ (s : Nat) (o : Nat → Nat) (ws : List Value), k + s = (nd ns t).length ∧ i = .int .i64 s ∧ Mem ns.length w gW gL gh o wr ws (fun n => wan2 ns t s n) L H [] vh (.slice none 0 0))
      case atStart => exact ⟨0, o, ws, by omega, rfl, hmem.wn_congr fun n _ => (wan2_zero ns t n).symm⟩
      case round =>
        obtain ⟨s, o, ws, hk, rfl, hmem⟩ := hrel
        have HK2 := Lib.hid hk
        have hsn : s ≤ (nd ns t).length := by omega
        clear hk
        by_cases hls : s < (nd ns t).length
        · obtain ⟨b2, o2, rfl, hx⟩ := (HL1.out.below hmem.below).at hls
          obtain ⟨x0, x1⟩ := HF.out t s hlt hls
          obtain ⟨m, hm⟩ := Int.eq_ofNat_of_zero_le x0
          rw [hm] at x1 hx
          have EX := Lib.hid hm
          have hmn : m < ns.length := by omega
          clear hm x0 x1
          have hmr := hmem.rows m hmn
          have cw := hmem.lw.1.cell m (getD_val (by rw [hmem.len]; exact hmn))
          have hlen : (wan2 ns t s m).length ≤ 1000000 := Nat.le_trans (wan2_len HL.out htn _) (by decide)
          have HLEN := Lib.hid hlen
          clear hlen
          generalize hu : ws.getD m undef = u at *
          have HU := Lib.hid hu
          have nm : ¬ ((1 : Nat) = 6 + m) := by omega
          have HW := Lib.hid (fun W o' (h : Lb W o' 1 gW 24 ws) => And.intro (h.1.cell m (getD_val (k := m) (by rw [hmem.len]; exact hmn))) (h.1.frozen m))
          clear hu
          go_wp2_with (at_builtin; refine wpList_pushL rfl _ _ 24 rfl Try.underlying24 o (6 + m) u (wan2 ns t s m) rfl (hmr.alloc _) wr.heap.size t rfl (by simp) HLEN.out ?_; intro g' cap' w3 hr ht hlt2; have hh := HW.out _ _ ((hmem.lw.alloc _).turn ht nm); obtain ⟨c1, f1⟩ := hh)
          go_roundg (gk - 1)
          case measure => have := HK2.out; omega
          case rel =>
            refine ⟨s + 1, _, ws.set m _, by have := HK2.out; omega, by go_num, ((hmem.alloc _).want hmn ht hr).wn_congr fun n _ => ?_⟩
            rw [wan2_step hls, EX.out]
            by_cases e : n = m
            · subst e; rw [if_pos rfl, if_pos rfl]
            · rw [if_neg e, if_neg (by omega)]
        · obtain rfl : s = (nd ns t).length := by omega
          have hmem2 := hmem.wn_congr fun n _ => wan2_all ns t n
          clear hmem
          have cL := hmem2.ll.1.cell t (getD_cell (by rw [hfill.out.len]; exact hlt))
          have fL := hmem2.ll.1.frozen t
          generalize L.getD t 0 = y at cL
          have hmem3 := hmem2.lack t ((nd ns t).length : Int)
          by_cases hz : (nd ns t).length = 0
          · have hz0 : (((nd ns t).length : Int) == 0) = true := by rw [hz]; rfl
            have HZ := Lib.hid hz
            clear hz
            go_wp2_with fail
            refine (push_any o gh vh H t (by have := hfill.out.hlen; omega) hfill.out.heap _ hmem3.lh hmem3.rh).mono ?_
            rintro _ w4 ⟨rfl, o4, v4, H4, k1, k2, k3, k4, k5⟩
            have hmem4 := hmem3.heap k5 k3 k4
            have hf4 := Far.mk (hfill.out.none hlt HZ.out k1 k2)
            rw [HZ.out] at hmem4
            clear hmem3 hmem2 k1 k2 k3 k4 k5
            go_wp2_with fail
            go_roundg (go - 1)
            case measure => have := HK.out; have := HGO.out; omega
            case rel => exact ⟨t + 1, o4, ws, _, H4, v4, by have := HK.out; omega, by go_num, hf4, hmem4⟩
          · have hz0 : (((nd ns t).length : Int) == 0) = false := by rw [beq_eq_false_iff_ne]; omega
            have HZ := Lib.hid hz
            clear hz
            go_wp2_with fail
            go_roundg (go - 1)
            case measure => have := HK.out; have := HGO.out; omega
            case rel => exact ⟨t + 1, o, ws, _, H, vh, by have := HK.out; omega, by go_num, Far.mk (hfill.out.some hlt HZ.out), hmem3⟩
    · obtain rfl : t = ns.length := by omega
      have hhead := Far.mk hfill.out.head
      clear hfill HK
      go_wp2_with fail
      have HN2' := HN2.out
      go_loopg [12] ns.length (fun k s12 wr => ∃ (vo : Value) (o : Nat → Nat) (L H : List Int) (vh : Value) (ou : List Int), s12 = vo ∧ k + ou.length = ns.length ∧ Far (Head ns ou L H) ∧ Mem ns.length w gW gL gh o wr ws (fun n => wan ns ns.length n) L H ou vh vo)
      case atStart => exact ⟨_, o, L, H, vh, [], rfl, rfl, hhead, hmem⟩
      case round =>
        obtain ⟨vo, o, L, H, vh, ou, rfl, hk, hhead, hmem⟩ := hrel
        have HK := Lib.hid hk
        have hon : ou.length ≤ ns.length := by omega
        clear hk
        obtain ⟨Ah, ch, rfl⟩ := row_is hmem.rh
        obtain ⟨Ao, co, rfl⟩ := row_is hmem.ro
        have c0 := hmem.lh.1.cell 0 rfl
        have hHl := hhead.out.hlen
        by_cases hH : H.length = 0
        · have hp := Far.mk (hhead.out.empty hH)
          have hle : ¬ 0 < (H.length : Int) := by omega
          by_cases hlt : ou.length < ns.length
          · have hdo : docOrd ns = ([], 11) := by unfold docOrd; rw [if_pos C0.out, ord_stop hhead.out.gr hp.out hlt]
            have HD := Lib.hid hdo
            clear hdo
            go_wp2_with ((go_at_call 21; with_reducible refine (len_any _ _ _ _).mono ?_); rintro _ _ ⟨rfl, rfl⟩)
            go_ret2
            exact ⟨o, .slice none 0 0, by rw [HD.out]; rfl, by rw [HD.out]; exact Row.nil _ _ _, hmem.turn⟩
          · have hle2 : ou.length = ns.length := by omega
            have hdo : docOrd ns = (ou, 0) := by
              unfold docOrd ord
              have := hhead.out.gr
              rw [hle2] at this
              rw [if_pos C0.out, this]
            have HD := Lib.hid hdo
            have hnlt : ¬ (ou.length : Int) < (ns.length : Int) := by omega
            clear hdo hle2
            go_wp2_with ((go_at_call 21; with_reducible refine (len_any _ _ _ _).mono ?_); rintro _ _ ⟨rfl, rfl⟩)
            go_ret2
            exact ⟨o, _, by rw [HD.out]; rfl, by rw [HD.out]; exact hmem.ro, hmem.turn⟩
        · have hH0 : 0 < H.length := by omega
          have hH1 : 0 < (H.length : Int) := by omega
          obtain ⟨i, hi0, hi1⟩ := hhead.out.top hH0
          have HT := Lib.hid hi0
          have HP := Far.mk hi1
          have hin : i < ns.length := (pick_some.1 hi1).2.1
          clear hi0 hi1 hH
          go_wp2_with ((go_at_call 21; with_reducible refine (len_any _ _ _ _).mono ?_); rintro _ _ ⟨rfl, rfl⟩)
          refine (pop_any o gh _ H hH0 (by omega) hhead.out.heap _ hmem.lh hmem.rh).mono ?_
          rintro _ w5 ⟨rfl, v5, H5, k1, k2, k3, k4, k5⟩
          rw [HT.out]
          rw [HT.out] at k2
          have htell := Far.mk (hhead.out.tell HP.out k1 k2)
          have hmem5 := hmem.heap k5 k3 k4
          clear hmem k1 k2 k3 k4 k5 c0
          have ta := assert_int (i : Int)
          have hr5 := hmem5.ro
          go_wp2_with (at_builtin; refine wpList_pushL rfl _ _ 24 rfl Try.underlying24 o 5 _ ou rfl (hr5.alloc _) w5.heap.size i rfl (by simp) (by omega) ?_; intro g6 cap6 w6 hr6 ht6 hlt6; have hmem6 := (hmem5.alloc _).out ht6 hr6; have cw := hmem6.lw.1.cell i (getD_val (by rw [hmem6.len]; exact hin)); obtain ⟨Au, cu, hu⟩ := row_is (hmem6.rows i hin); rw [hu] at cw)
          have hwl : (wan ns ns.length (i : Int)).length ≤ 10000 := Nat.le_trans (wan_len _ HN2' _) (by omega)
          have HU := Lib.hid hu
          have HG := Far.mk (gr_good hhead.out.gr).1
          obtain ⟨go, hgo⟩ : ∃ go : Nat, go = gk := ⟨_, rfl⟩
          rw [← hgo] at HK
          have HGO := Lib.hid hgo
          clear hgo hu cw hr5 hmem5
          go_loopg [87] (wan ns ns.length (i : Int)).length (fun k p wr => ∃ (q : Nat) (o : Nat → Nat) (L H : List Int) (vh : Value), k + q = (wan ns ns.length (i : Int)).length ∧ p = .int .i64 q ∧ Far (Tell ns ou i q L H) ∧ Mem ns.length w gW gL gh o wr ws (fun n => wan ns ns.length n) L H (ou ++ [(i : Int)]) vh (.slice (some ⟨g6, 0, none⟩) (ou.length + 1) cap6))
          case atStart => exact ⟨0, _, L, H5, v5, rfl, rfl, htell, hmem6⟩
          case round =>
            clear hmem6
            obtain ⟨q, o, L, H, vh, hk, rfl, htell, hmem⟩ := hrel
            have HK2 := Lib.hid hk
            have hql : q ≤ (wan ns ns.length (i : Int)).length := by omega
            clear hk
            by_cases hq : q < (wan ns ns.length (i : Int)).length
            · obtain ⟨k, hk, hkn, hy1, hko⟩ := htell.out.at HG.out HP.out hq
              have hri := hmem.rows i hin
              rw [HU.out] at hri
              obtain ⟨b7, o7, rfl, hc7⟩ := hri.lst.at hq
              rw [hk] at hc7
              have HKK := Lib.hid hk
              have hy2 := htell.out.le HN2' hkn
              have cL := hmem.ll.1.cell k (getD_cell (by rw [htell.out.len]; exact hkn))
              have fL := hmem.ll.1.frozen k
              obtain ⟨y, hy⟩ : ∃ y, y = L.getD k 0 := ⟨_, rfl⟩
              rw [← hy] at cL hy1 hy2
              have HY := Lib.hid hy
              clear hk hri hy
              have hmem3 := hmem.lack k (y - 1)
              have hHl := htell.out.hlen
              by_cases hz : y - 1 = 0
              · have hz0 : (y - 1 == 0) = true := by rw [hz]; rfl
                have HZ := Lib.hid hz
                have hH9 : H.length ≤ 90000 := by omega
                clear hz
                go_wp2_with fail
                refine (push_any o gh vh H k hH9 htell.out.heap _ hmem3.lh hmem3.rh).mono ?_
                rintro _ w8 ⟨rfl, o8, v8, H8, k1, k2, k3, k4, k5⟩
                have hmem8 := hmem3.heap k5 k3 k4
                have ht8 := Far.mk (htell.out.zero hq HKK.out hkn (by rw [← HY.out]; exact hy1) (by rw [← HY.out]; exact HZ.out) hko k1 k2)
                rw [HZ.out] at hmem8
                clear hmem3 k1 k2 k3 k4 k5 hmem
                go_wp2_with fail
                go_roundg (gk - 1)
                case measure => have := HK2.out; omega
                case rel => exact ⟨q + 1, o8, _, H8, v8, by have := HK2.out; omega, by go_num, ht8, hmem8⟩
              · have hz0 : (y - 1 == 0) = false := by rw [beq_eq_false_iff_ne]; exact hz
                have ht8 := Far.mk (htell.out.more hq HKK.out hkn (by rw [← HY.out]; exact hy1) (by rw [← HY.out]; exact hz))
                rw [← HY.out] at ht8
                clear hz
                go_wp2_with fail
                go_roundg (gk - 1)
                case measure => have := HK2.out; omega
                case rel => exact ⟨q + 1, o, _, H, vh, by have := HK2.out; omega, by go_num, ht8, hmem3⟩
            · obtain rfl : q = (wan ns ns.length (i : Int)).length := by omega
              have hh8 := Far.mk (Tell.head hhead.out.gr HP.out htell.out)
              go_wp2_with fail
              go_roundg (go - 1)
              case measure => have := HK.out; have := HGO.out; have := (gr_good hh8.out.gr).1.len; rw [List.length_append, List.length_singleton] at this; omega
              case rel =>
                have hl8 := (gr_good hh8.out.gr).1.len
                rw [List.length_append, List.length_singleton] at hl8
                exact ⟨_, o, L, H, vh, ou ++ [(i : Int)], rfl, by have := HK.out; rw [List.length_append, List.length_singleton]; omega, hh8, hmem⟩
end Go.Proofs.Ytldhhoinjdkdgaa

set_option linter.unusedSimpArgs false
set_option linter.unusedVariables false
namespace Go.Proofs.Ytldhhoinjdkdgaa
open Go.RowKit

theorem order_any (ns : List (List Int)) (v : Value) (w : World) (h : Mat w v ns) : Calls Try.prog 10 #[v] w (OrdPost ns w) := by
  by_cases hl : longB ns = true
  · exact order_bad ns v w h (by unfold chk; rw [if_pos hl]; decide)
  · rw [Bool.not_eq_true] at hl
    by_cases hf : formB ns = true
    · exact order_good ns v w h hl hf
    · exact order_bad ns v w h (by unfold chk; rw [if_neg (by rw [hl]; decide), if_neg hf]; decide)
set_option maxHeartbeats 1000000 in
theorem refcheck_any (ns : List (List Int)) (v : Value) (w : World) (h : Mat w v ns) :
    Calls Try.prog 17 #[v] w fun e w' => e = .returned (.int .i64 (chk ns)) ∧ ∃ nn, w' = w.drewN nn := by
  have HM := Lib.hid h
  obtain ⟨A, C, rfl, h2, h3⟩ := h
  unfold maxLen at h2
  clear h3
  by_cases hL : 100 < ns.length
  · have hc : chk ns = 6 := by unfold chk longB; rw [decide_eq_true hL]; rfl
    rw [hc]
    clear hc
    go_enter Try.func17, Try.ntmps17
    go_wp2_with fail
    go_ret
    exact ⟨rfl, 0, rfl⟩
  · have hl0 : ¬ 100 < (ns.length : Int) := by omega
    go_enter Try.func17, Try.ntmps17
    go_wp2_with fail
    go_loopg [3] ns.length (fun k i wr => ∃ t : Nat, k + t = ns.length ∧ i = .int .i64 t ∧ Hid (∀ r, r < t → (nd ns r).length ≤ 100) ∧ w = wr)
    case atStart => exact ⟨0, by omega, rfl, Lib.hid (fun r hr => absurd hr (Nat.not_lt_zero _)), rfl⟩
    case round =>
      obtain ⟨t, hk, rfl, HA, rfl⟩ := hrel
      have HK := Lib.hid hk
      have htn : t ≤ ns.length := by omega
      clear hk
      by_cases hlt : t < ns.length
      · obtain ⟨b, o, u, rfl, hc, hl⟩ := HM.out.at hlt
        obtain ⟨A', C', rfl, hl2⟩ := hl.is
        unfold maxLen at hl2
        clear hl
        by_cases hlong : 100 < (nd ns t).length
        · have e : chk ns = 6 := by unfold chk longB; rw [any_long.2 ⟨t, hlt, hlong⟩, Bool.or_true]; rfl
          have E := Lib.hid e.symm
          clear e
          go_wp2_with fail
          go_ret
          exact ⟨ret_int E.out, 0, rfl⟩
        · have HX := Lib.hid hlong
          have hlong' : ¬ 100 < ((nd ns t).length : Int) := by omega
          clear hlong
          go_wp2_with fail
          go_roundg (gk - 1)
          case measure => have := HK.out; omega
          case rel =>
            refine ⟨t + 1, by have := HK.out; omega, by go_num, Lib.hid fun r hr => ?_, rfl⟩
            by_cases e : r = t
            · subst e; have := HX.out; omega
            · exact HA.out r (by omega)
      · have hlong : longB ns = false := by
          unfold longB
          rw [decide_eq_false hL, Bool.false_or, Bool.eq_false_iff]
          intro hh
          obtain ⟨r, h1, h2⟩ := any_long.1 hh
          have := HA.out r (by omega)
          omega
        have HO := Lib.hid hlong
        clear hlong HA
        go_wp2_with fail
        go_loopg [4] ns.length (fun k i wr => ∃ t : Nat, k + t = ns.length ∧ i = .int .i64 t ∧ Hid (GoodTo ns t 0) ∧ w = wr)
        case atStart => exact ⟨0, by omega, rfl, Lib.hid (GoodTo.start ns), rfl⟩
        case round =>
          clear hlt htn HK
          obtain ⟨t, hk, rfl, HA, rfl⟩ := hrel
          have HK := Lib.hid hk
          have htn : t ≤ ns.length := by omega
          clear hk
          by_cases hlt : t < ns.length
          · obtain ⟨b, o, u, rfl, hc, hl⟩ := HM.out.at hlt
            obtain ⟨A', C', rfl, hl2⟩ := hl.is
            unfold maxLen at hl2
            have HL3 := Lib.hid hl
            clear hl
            go_wp2_with fail
            obtain ⟨go, hgo⟩ : ∃ go : Nat, go = gk := ⟨_, rfl⟩
            rw [← hgo] at HK
            have HGO := Lib.hid hgo
            clear hgo
            go_loopg [5] (nd ns t).length (fun k i wr => ∃ s : Nat, k + s = (nd ns t).length ∧ i = .int .i64 s ∧ Hid (GoodTo ns t s) ∧ w = wr)
            case atStart => exact ⟨0, by omega, rfl, HA, rfl⟩
            case round =>
              obtain ⟨s, hk, rfl, HA2, rfl⟩ := hrel
              have HK2 := Lib.hid hk
              have hsn : s ≤ (nd ns t).length := by omega
              clear hk
              by_cases hls : s < (nd ns t).length
              · obtain ⟨b', o', rfl, hx⟩ := HL3.out.at hls
                have HX := Lib.hid (HA2.out.more hlt hls)
                obtain ⟨x, hxx⟩ : ∃ x, x = (nd ns t).getD s 0 := ⟨_, rfl⟩
                rw [← hxx] at hx HX
                clear hxx
                by_cases hx0 : 0 ≤ x
                · by_cases hx1 : x < (ns.length : Int)
                  · have HG := Lib.hid (HX.out.1 hx0 hx1)
                    clear HX
                    go_wp2_with fail
                    go_roundg (gk - 1)
                    case measure => have := HK2.out; omega
                    case rel => exact ⟨s + 1, by have := HK2.out; omega, by go_num, HG, rfl⟩
                  · have HG := Lib.hid (HX.out.2 (by omega))
                    have e : chk ns = 2 := by unfold chk; rw [HO.out, HG.out]; rfl
                    have E := Lib.hid e.symm
                    clear HX e
                    go_wp2_with fail
                    go_ret
                    exact ⟨ret_int E.out, 0, rfl⟩
                · have HG := Lib.hid (HX.out.2 (by omega))
                  have e : chk ns = 2 := by unfold chk; rw [HO.out, HG.out]; rfl
                  have E := Lib.hid e.symm
                  clear HX e
                  go_wp2_with fail
                  go_ret
                  exact ⟨ret_int E.out, 0, rfl⟩
              · have HG := Lib.hid (HA2.out.next hlt (by omega))
                go_wp2_with fail
                go_roundg (go - 1)
                case measure => have := HK.out; have := HGO.out; omega
                case rel => exact ⟨t + 1, by have := HK.out; omega, by go_num, HG, rfl⟩
          · have HG := Lib.hid (HA.out.done (by omega))
            have e : chk ns = 0 := by unfold chk; rw [HO.out, HG.out]; rfl
            have E := Lib.hid e.symm
            clear e
            go_wp2_with fail
            go_ret
            exact ⟨ret_int E.out, 0, rfl⟩
theorem list_eq {xs ys : List Int} (hl : xs.length = ys.length) (h : ∀ c, c < xs.length → xs.getD c 0 = ys.getD c 0) : xs = ys := by
  refine List.ext_getElem hl fun i h1 h2 => ?_
  have := h i h1
  rwa [getD_get h1, getD_get h2] at this
theorem bool_ne {x y : Int} (h : x ≠ y) : (x != y) = true := by simpa using h
theorem bool_nne {x y : Int} (h : x = y) : (x != y) = false := by simpa using h
set_option maxHeartbeats 1000000 in
theorem same_any (a b : Value) (xs ys : List Int) (w : World) (ha : Lst w a xs) (hb : Lst w b ys) :
    Calls Try.prog 11 #[a, b] w fun e w' => e = .returned (.bool (decide (xs = ys))) ∧ ∃ nn, w' = w.drewN nn := by
  have HA := Lib.hid ha
  have HB := Lib.hid hb
  obtain ⟨A, C, rfl, a2⟩ := ha.is
  obtain ⟨B, D, rfl, b2⟩ := hb.is
  unfold maxLen at a2 b2
  clear ha hb
  by_cases hl : xs.length = ys.length
  · have hle : ((xs.length : Int) != (ys.length : Int)) = false := bool_nne (by omega)
    have HL := Lib.hid hl
    have hle2 : xs.length ≤ ys.length := by omega
    clear hl
    go_enter Try.func11, Try.ntmps11
    go_wp2_with fail
    go_loopg [5] xs.length (fun k i wr => ∃ t nn : Nat, k + t = xs.length ∧ i = .int .i64 t ∧ Hid (∀ c, c < t → xs.getD c 0 = ys.getD c 0) ∧ wr = w.drewN nn)
    case atStart => exact ⟨0, 0, by omega, rfl, Lib.hid (fun c hc => absurd hc (Nat.not_lt_zero _)), rfl⟩
    case round =>
      obtain ⟨t, nn, hk, rfl, HE, rfl⟩ := hrel
      have HK := Lib.hid hk
      have htn : t ≤ xs.length := by omega
      clear hk
      by_cases hlt : t < xs.length
      · obtain ⟨g, o, rfl, hx⟩ := (HA.out.drewN nn).at hlt
        obtain ⟨g2, o2, rfl, hy⟩ := (HB.out.drewN nn).at (show t < ys.length by omega)
        have t0 : (0 : Int) ≤ (t : Int) := by omega
        have t1 : (t : Int) < (xs.length : Int) := by omega
        have t2 : (t : Int) < (ys.length : Int) := by omega
        obtain ⟨x, hx'⟩ : ∃ x, x = xs.getD t 0 := ⟨_, rfl⟩
        obtain ⟨y, hy'⟩ : ∃ y, y = ys.getD t 0 := ⟨_, rfl⟩
        rw [← hx'] at hx
        rw [← hy'] at hy
        have HX := Lib.hid hx'
        have HY := Lib.hid hy'
        clear hx' hy'
        obtain ⟨W, hW⟩ : ∃ W, W = w.drewN nn := ⟨_, rfl⟩
        rw [← hW] at hx hy ⊢
        have HW := Lib.hid hW
        clear hW
        by_cases hxy : x = y
        · have hn := bool_nne hxy
          have HXY := Lib.hid hxy
          clear hxy
          go_wp2_with fail
          go_quiet (fail)
          go_wp2_with fail
          go_roundg (gk - 1)
          case measure => have := HK.out; omega
          case rel =>
            refine ⟨t + 1, _, by have := HK.out; omega, by go_num, Lib.hid fun c hc => ?_, by rw [HW.out, World.drewN_drewN]⟩
            by_cases e : c = t
            · subst e; rw [← HX.out, ← HY.out]; exact HXY.out
            · exact HE.out c (by omega)
        · have hn := bool_ne hxy
          have e : decide (xs = ys) = false := by
            rw [decide_eq_false_iff_not]
            rintro rfl
            exact hxy (HX.out.trans HY.out.symm)
          have E := Lib.hid e
          clear hxy e
          go_wp2_with fail
          go_quiet (fail)
          go_wp2_with fail
          go_ret
          exact ⟨ret_bool E.out.symm, _, by rw [HW.out, World.drewN_drewN]⟩
      · have e : decide (xs = ys) = true := by
          rw [decide_eq_true_iff]
          exact list_eq HL.out fun c hc => HE.out c (by omega)
        have E := Lib.hid e
        clear e
        go_wp2_with fail
        go_ret
        exact ⟨ret_bool E.out.symm, _, rfl⟩
  · have hle : ((xs.length : Int) != (ys.length : Int)) = true := bool_ne (by omega)
    have e : decide (xs = ys) = false := by
      rw [decide_eq_false_iff_not]
      rintro rfl
      exact hl rfl
    have E := Lib.hid e
    clear hl e
    go_enter Try.func11, Try.ntmps11
    go_wp2_with fail
    go_ret
    exact ⟨ret_bool E.out.symm, 0, rfl⟩
end Go.Proofs.Ytldhhoinjdkdgaa

set_option linter.unusedSimpArgs false
set_option linter.unusedVariables false
namespace Go.Proofs.Ytldhhoinjdkdgaa
open Go.RowKit

def tb (N : Nat) (ou : List Int) : List Value := (List.range N).map fun k : Nat => .bool (ou.contains (k : Int))
theorem tb_get {N : Nat} {ou : List Int} {k : Nat} (h : k < N) : (tb N ou)[k]? = some (.bool (ou.contains (k : Int))) := by
  unfold tb
  rw [List.getElem?_map, List.getElem?_range h]; rfl
theorem tb_nil (N : Nat) : tb N [] = List.replicate N (.bool false) := by
  unfold tb
  refine List.ext_getElem (by simp) fun i h1 h2 => ?_
  simp
theorem tb_set {N : Nat} {ou : List Int} {k : Nat} (h : k < N) : (tb N ou).set k (.bool true) = tb N (ou ++ [(k : Int)]) := by
  unfold tb
  refine List.ext_getElem (by simp) fun i h1 h2 => ?_
  rw [List.getElem_set]
  simp only [List.length_set, List.length_map, List.length_range] at h1
  by_cases e : k = i
  · subst e; simp
  · rw [if_neg e]
    simp
    intro hik
    exact absurd hik (by omega)
set_option maxHeartbeats 1000000 in
theorem ready_any (xs ou : List Int) (N g : Nat) (v : Value) (w : World) (h : Lst w v xs) (hN : N ≤ 100) (ht : Bk w g 4 (tb N ou)) (hr : ∀ c, c < xs.length → 0 ≤ xs.getD c 0 ∧ xs.getD c 0 < (N : Int)) :
    Calls Try.prog 25 #[v, .slice (some ⟨g, 0, none⟩) N N] w fun e w' => e = .returned (.bool (xs.all fun x => ou.contains x)) ∧ w = w' := by
  have HL := Lib.hid h
  obtain ⟨A, C, rfl, a2⟩ := h.is
  unfold maxLen at a2
  have HT := Lib.hid ht
  have HR := Lib.hid hr
  clear h ht hr
  go_enter Try.func25, Try.ntmps25
  go_wp2_with fail
  go_loopg [5] xs.length (fun k i wr => ∃ t : Nat, k + t = xs.length ∧ i = .int .i64 t ∧ Hid (∀ c, c < t → ou.contains (xs.getD c 0) = true) ∧ w = wr)
  case atStart => exact ⟨0, by omega, rfl, Lib.hid (fun c hc => absurd hc (Nat.not_lt_zero _)), rfl⟩
  case round =>
    obtain ⟨t, hk, rfl, HA, rfl⟩ := hrel
    have HK := Lib.hid hk
    have htn : t ≤ xs.length := by omega
    clear hk
    by_cases hlt : t < xs.length
    · obtain ⟨b, o, rfl, hx⟩ := HL.out.at hlt
      obtain ⟨x0, x1⟩ := HR.out t hlt
      obtain ⟨m, hm⟩ := Int.eq_ofNat_of_zero_le x0
      rw [hm] at x1 hx
      have EX := Lib.hid hm
      have hmn : m < N := by omega
      have ct := HT.out.cell m (tb_get hmn)
      obtain ⟨z, hz⟩ : ∃ z, z = ou.contains (m : Int) := ⟨_, rfl⟩
      rw [← hz] at ct
      have HZ := Lib.hid hz
      clear hm x0 x1 hz
      cases z with
      | true =>
        go_wp2_with fail
        go_roundg (gk - 1)
        case measure => have := HK.out; omega
        case rel =>
          refine ⟨t + 1, by have := HK.out; omega, by go_num, Lib.hid fun c hc => ?_, rfl⟩
          by_cases e : c = t
          · subst e; rw [EX.out]; exact HZ.out.symm
          · exact HA.out c (by omega)
      | false =>
        have e : (xs.all fun x => ou.contains x) = false := by
          rw [Bool.eq_false_iff]
          intro hh
          rw [List.all_eq_true] at hh
          have := hh (xs.getD t 0) (by rw [getD_get hlt]; exact List.getElem_mem _)
          rw [EX.out, ← HZ.out] at this
          cases this
        have E := Lib.hid e
        clear e
        go_wp2_with fail
        go_ret
        exact ⟨ret_bool E.out.symm, rfl⟩
    · have e : (xs.all fun x => ou.contains x) = true := by
        rw [List.all_eq_true]
        intro x hx
        obtain ⟨c, hc, rfl⟩ := List.mem_iff_getElem.1 hx
        rw [← getD_get hc]
        exact HA.out c (by omega)
      have E := Lib.hid e
      clear e
      go_wp2_with fail
      go_ret
      exact ⟨ret_bool E.out.symm, rfl⟩
/-- the least ready one from c on, or -1 -/
def PF (ns : List (List Int)) (ou : List Int) (c : Nat) (nx : Int) : Prop :=
  (nx = -1 ∧ ∀ j, c ≤ j → j < ns.length → rdy ns ou j = false) ∨ ∃ k : Nat, nx = k ∧ c ≤ k ∧ k < ns.length ∧ rdy ns ou k = true ∧ ∀ j, c ≤ j → j < k → rdy ns ou j = false
theorem PF.start (ns : List (List Int)) (ou : List Int) : PF ns ou ns.length (-1) := .inl ⟨rfl, fun j h1 h2 => absurd h2 (by omega)⟩
theorem PF.yes {ns : List (List Int)} {ou : List Int} {c : Nat} (h : rdy ns ou c = true) (hc : c < ns.length) : PF ns ou c c := .inr ⟨c, rfl, Nat.le_refl _, hc, h, fun j h1 h2 => absurd h2 (by omega)⟩
theorem PF.no {ns : List (List Int)} {ou : List Int} {c : Nat} {nx : Int} (h : PF ns ou (c + 1) nx) (h1 : rdy ns ou c = false) : PF ns ou c nx := by
  rcases h with ⟨e, h⟩ | ⟨k, e, a, b, d, h⟩
  · refine .inl ⟨e, fun j h2 h3 => ?_⟩
    by_cases e : j = c
    · subst e; exact h1
    · exact h j (by omega) h3
  · refine .inr ⟨k, e, by omega, b, d, fun j h2 h3 => ?_⟩
    by_cases e : j = c
    · subst e; exact h1
    · exact h j (by omega) h3
theorem PF.done {ns : List (List Int)} {ou : List Int} {nx : Int} (h : PF ns ou 0 nx) : (nx = -1 ∧ pick ns ou = none) ∨ ∃ k : Nat, nx = k ∧ pick ns ou = some k := by
  rcases h with ⟨e, h⟩ | ⟨k, e, a, b, d, h⟩
  · exact .inl ⟨e, pick_none.2 fun i hi => h i (Nat.zero_le _) hi⟩
  · exact .inr ⟨k, e, pick_some.2 ⟨d, b, fun j hj => h j (Nat.zero_le _) hj⟩⟩
def RefPost (ns : List (List Int)) (w : World) (e : Ending) (w' : World) : Prop := ∃ o v, e = .returned (.tuple #[v, .bool (ord ns).isSome]) ∧ Row w' o 5 v ((ord ns).getD []) ∧ Turn (fun l => l ≠ 0) w (fun _ => 0) w' o
set_option maxHeartbeats 2000000 in
theorem reforder_any (ns : List (List Int)) (v : Value) (w : World) (h : Mat w v ns) (hl : longB ns = false) (hf : formB ns = true) : Calls Try.prog 18 #[v] w (RefPost ns w) := by
  have HM := Lib.hid h
  obtain ⟨n1, n2⟩ := longB_not hl
  have HF := Lib.hid (formB_iff.1 hf)
  obtain ⟨A, C, rfl, h2, h3⟩ := h
  unfold maxLen at h2
  clear h3 hl hf n2
  go_enter Try.func18, Try.ntmps18
  go_wp2_with (at_make; refine wpList_makeL rfl _ _ 30 4 rfl (.bool false) rfl 1 Try.underlying30 (by kernel_rfl) (fun _ => 0) 2 ns.length rfl rfl (by omega) (by unfold maxLen; omega) ?_; intro w1 lt0 t1)
  have t2 : Turn (fun l => l ≠ 0) w (fun _ => 0) w1 _ := t1.mono fun _ h => h.elim
  rw [← tb_nil] at lt0
  generalize (relabel (fun _ => 0) w.heap.size 2) = o0 at *
  obtain ⟨gT, hgT⟩ : ∃ g, g = w.heap.size := ⟨_, rfl⟩
  rw [← hgT] at lt0
  rw [← hgT]
  clear hgT t1
  go_loopg [5] ns.length (fun k s5 wr => ∃ (vo : Value) (o : Nat → Nat) (ou : List Int), s5 = vo ∧ k + ou.length = ns.length ∧ Far (gr ns ou.length = some ou) ∧ Lb wr o 2 gT 4 (tb ns.length ou) ∧ Row wr o 5 vo ou ∧ Turn (fun l => l ≠ 0) w (fun _ => 0) wr o)
  case atStart => exact ⟨_, o0, [], rfl, rfl, Far.mk rfl, lt0, Row.nil _ _ _, t2⟩
  case round =>
    clear lt0 t2
    obtain ⟨vo, o, ou, rfl, hk, hgr, lt, ro, tr⟩ := hrel
    have HK := Lib.hid hk
    have hon : ou.length ≤ ns.length := by omega
    obtain ⟨Ao, co, rfl⟩ := row_is ro
    clear hk
    by_cases hlt : ou.length < ns.length
    · have hwb : Below w.heap.size w wr := tr.below (fun _ _ => by simp) (Nat.le_refl _)
      go_wp2_with fail
      obtain ⟨wo, hwo⟩ : ∃ wo : World, wo = wr := ⟨_, rfl⟩
      obtain ⟨go, hgo⟩ : ∃ go : Nat, go = gk := ⟨_, rfl⟩
      rw [← hgo] at HK
      rw [← hwo] at lt ro tr hwb
      have HGO := Lib.hid hgo
      have hb0 := hwb.size
      have HWB := Lib.hid hwb
      clear hgo hwb
      go_loopg [6, 7] ns.length (fun k s6 s7 wr => ∃ (c : Nat) (nx z : Int), k = c ∧ c ≤ ns.length ∧ z = (c : Int) - 1 ∧ s6 = .int .i64 nx ∧ s7 = .int .i64 z ∧ Hid (PF ns ou c nx) ∧ wo = wr)
      case atStart => exact ⟨ns.length, -1, _, rfl, Nat.le_refl _, rfl, rfl, rfl, Lib.hid (PF.start ns ou), hwo⟩
      case round =>
        clear hwo
        obtain ⟨c, nx, z, hk, hcn, hz, rfl, rfl, HP, rfl⟩ := hrel
        have HK2 := Lib.hid hk
        clear hk
        cases c with
        | succ c =>
          obtain rfl : z = (c : Int) := by omega
          have hcl : c < ns.length := by omega
          have ct := lt.1.cell c (tb_get hcl)
          obtain ⟨b, o', u, rfl, hc, hls⟩ := (HM.out.below HWB.out).at hcl
          obtain ⟨y, hy⟩ : ∃ y, y = ou.contains (c : Int) := ⟨_, rfl⟩
          rw [← hy] at ct
          have HY := Lib.hid hy
          have HR := Lib.hid (ready_any (nd ns c) ou ns.length gT u wo hls n1 lt.1 (fun i hi => HF.out c i hcl hi))
          clear hz hy
          cases y with
          | true =>
            have hr : rdy ns ou c = false := by unfold rdy; rw [← HY.out]; rfl
            have HQ := Lib.hid (HP.out.no hr)
            clear hr
            go_wp2_with fail
            go_roundg c
            case measure => have := HK2.out; omega
            case rel => exact ⟨c, nx, _, rfl, by omega, rfl, rfl, rfl, HQ, rfl⟩
          | false =>
            obtain ⟨q, hq⟩ : ∃ q, q = (nd ns c).all fun x => ou.contains x := ⟨_, rfl⟩
            have hr : rdy ns ou c = q := by unfold rdy; rw [← HY.out, hq]; rfl
            rw [← hq] at HR
            have HRR := Lib.hid hr
            clear hq hr
            cases q with
            | true =>
              have HQ := Lib.hid (PF.yes HRR.out hcl)
              go_wp2_with fail
              refine HR.out.mono ?_
              rintro _ _ ⟨rfl, rfl⟩
              go_wp2_with fail
              go_roundg c
              case measure => have := HK2.out; omega
              case rel => exact ⟨c, c, _, rfl, by omega, rfl, rfl, rfl, HQ, rfl⟩
            | false =>
              have HQ := Lib.hid (HP.out.no HRR.out)
              go_wp2_with fail
              refine HR.out.mono ?_
              rintro _ _ ⟨rfl, rfl⟩
              go_wp2_with fail
              go_roundg c
              case measure => have := HK2.out; omega
              case rel => exact ⟨c, nx, _, rfl, by omega, rfl, rfl, rfl, HQ, rfl⟩
        | zero =>
          obtain rfl : z = -1 := by omega
          clear hz
          rcases HP.out.done with ⟨rfl, hp⟩ | ⟨k, rfl, hp⟩
          · have e := ord_stop hgr.out hp hlt
            have E := Lib.hid e
            clear hp e
            go_wp2_with fail
            go_ret2
            exact ⟨o, .slice none 0 0, by rw [E.out]; rfl, by rw [E.out]; exact Row.nil _ _ _, tr⟩
          · have hg2 := Far.mk (gr_step hgr.out hp)
            have hkn : k < ns.length := (pick_some.1 hp).2.1
            have ct := lt.1.cell k (tb_get hkn)
            have ft := lt.1.frozen k
            have k0 : 0 ≤ (k : Int) := by omega
            have l2 : Lb (wo.setCell ⟨gT, k, none⟩ (.bool true)) o 2 gT 4 (tb ns.length (ou ++ [(k : Int)])) := by rw [← tb_set hkn]; exact lt.set_ k _
            have o2 : o gT = 2 := lt.2
            have r2 := ro.set (p := ⟨gT, k, none⟩) (by show o gT ≠ 5; rw [o2]; decide) (.bool true)
            have tr2 : Turn (fun l => l ≠ 0) w (fun _ => 0) (wo.setCell ⟨gT, k, none⟩ (.bool true)) o := tr.setCell (.inl (by
              rcases Nat.lt_or_ge gT w.heap.size with h1 | h1
              · exact absurd (tr.num gT h1) (by rw [o2]; decide)
              · exact h1)) _
            have cb : ((wo.setCell ⟨gT, k, none⟩ (.bool true)).alloc (.cells #[.int .i64 k] 3)).cell? ⟨wo.heap.size, 0, none⟩ = some (.int .i64 k) :=
              (Bk.new_ (w := wo.setCell ⟨gT, k, none⟩ (.bool true)) (cs := [.int .i64 k]) (World.size_setCell _ _ _).symm).cell 0 rfl
            have CB := Lib.hid cb
            clear hp lt cb
            go_wp2_with (at_builtin; refine wpList_pushL rfl _ _ 24 rfl Try.underlying24 o 5 _ ou rfl (r2.alloc _) wo.heap.size k rfl CB.out (by omega) ?_; intro g6 cap6 w6 hr6 ht6 hlt6; have l6 := (l2.alloc _).turn ht6 (by decide); have tr6 := (tr2.alloc _).trans (ht6.mono fun l hl => by subst hl; decide))
            go_roundg (go - 1)
            case measure => have := HK.out; have := HGO.out; omega
            case rel => exact ⟨_, _, ou ++ [(k : Int)], rfl, by have := HK.out; rw [List.length_append, List.length_singleton]; omega, by rw [List.length_append, List.length_singleton]; exact hg2, l6, hr6, tr6⟩
    · have hle2 : ou.length = ns.length := by omega
      have e : ord ns = some ou := by unfold ord; have := hgr.out; rw [hle2] at this; exact this
      have E := Lib.hid e
      have hwb : Below w.heap.size w wr := tr.below (fun _ _ => by simp) (Nat.le_refl _)
      have hnlt : ¬ (ou.length : Int) < (ns.length : Int) := by omega
      clear e hle2
      go_wp2_with fail
      go_ret2
      exact ⟨o, _, by rw [E.out]; rfl, by rw [E.out]; exact ro, tr⟩
end Go.Proofs.Ytldhhoinjdkdgaa

set_option linter.unusedSimpArgs false
set_option linter.unusedVariables false
namespace Go.Proofs.Ytldhhoinjdkdgaa
open Go.RowKit

set_option maxHeartbeats 1000000 in
theorem docorder_any (ns : List (List Int)) (v : Value) (w : World) (h : Mat w v ns) : Calls Try.prog 9 #[v] w (OrdPost ns w) := by
  have HC := Lib.hid (refcheck_any ns v w h)
  by_cases hc : chk ns = 0
  · rw [hc] at HC
    have hl : longB ns = false := by
      unfold chk at hc
      rw [Bool.eq_false_iff]
      intro e; rw [if_pos e] at hc; cases hc
    have hf : formB ns = true := by
      unfold chk at hc
      rw [if_neg (by rw [hl]; decide)] at hc
      by_cases e : formB ns = true
      · exact e
      · rw [if_neg e] at hc; cases hc
    have HO := Lib.hid (fun n => reforder_any ns v (w.drewN n) (h.drewN n) hl hf)
    have C0 := Lib.hid hc
    clear hc hl hf
    go_enter Try.func9, Try.ntmps9
    go_wp2_with fail
    refine HC.out.mono ?_
    rintro _ _ ⟨rfl, nn, rfl⟩
    go_wp2_with fail
    refine (HO.out nn).mono ?_
    rintro _ w2 ⟨o, v2, rfl, k1, k2⟩
    obtain ⟨q, hq⟩ : ∃ q, q = ord ns := ⟨_, rfl⟩
    rw [← hq] at k1 ⊢
    have HQ := Lib.hid hq
    have hb : Turn (fun l => l ≠ 0) w (fun _ => 0) w2 o := ((Turn.refl _ _ _).drewN nn).trans k2
    clear hq k2
    cases q with
    | none =>
      have e : docOrd ns = ([], 11) := by unfold docOrd; rw [if_pos C0.out, ← HQ.out]
      have E := Lib.hid e
      clear e
      go_wp2_with fail
      go_ret2
      exact ⟨o, .slice none 0 0, by rw [E.out]; rfl, by rw [E.out]; exact Row.nil _ _ _, hb⟩
    | some l =>
      have e : docOrd ns = (l, 0) := by unfold docOrd; rw [if_pos C0.out, ← HQ.out]
      have E := Lib.hid e
      clear e
      go_wp2_with fail
      go_ret2
      exact ⟨o, v2, by rw [E.out]; rfl, by rw [E.out]; exact k1, hb⟩
  · have e : docOrd ns = ([], chk ns) := by unfold docOrd; rw [if_neg hc]
    have HE := Lib.hid e
    obtain ⟨z, hz⟩ : ∃ z, z = chk ns := ⟨_, rfl⟩
    rw [← hz] at hc HC HE
    have hc2 : (z != 0) = true := by simpa using hc
    clear e hz hc
    go_enter Try.func9, Try.ntmps9
    go_wp2_with fail
    refine HC.out.mono ?_
    rintro _ _ ⟨rfl, nn, rfl⟩
    go_wp2_with fail
    go_ret2
    exact ⟨fun _ => 0, .slice none 0 0, by rw [HE.out]; rfl, by rw [HE.out]; exact Row.nil _ _ _, (Turn.refl _ _ _).drewN _⟩
theorem lst_block {w : World} {g : Nat} {t : TypeId} {xs : List Int} (h : Bk w g t (xs.map (Value.int .i64))) (hl : xs.length ≤ maxLen) (c : Nat) : Lst w (.slice (some ⟨g, 0, none⟩) xs.length c) xs :=
  ⟨_, _, rfl, hl, fun k hk => ⟨g, 0, rfl, by rw [Nat.zero_add]; exact h.cell k (getD_cell hk)⟩⟩
theorem known_ord : docOrd [[1], [], [0]] = ([1, 0, 2], 0) := by decide
set_option maxHeartbeats 1000000 in
theorem known_any (w : World) : Calls Try.prog 8 #[] w fun e w' => e = .returned (.bool true) ∧ Below w.heap.size w w' := by
  go_enter Try.func8, Try.ntmps8
  go_wp2_with fail
  refine (order_any [[1], [], [0]] _ _ ?hm).mono ?_
  case hm =>
    have b0 : Bk (((w.alloc (.cells #[.int .i64 1] 3)).alloc (.cells #[.int .i64 0] 3)).alloc (.cells #[.slice (some ⟨w.heap.size, 0, none⟩) 1 1, .slice none 0 0, .slice (some ⟨w.heap.size + 1, 0, none⟩) 1 1] 24)) w.heap.size 3 ([(1 : Int)].map (Value.int .i64)) := ((Bk.new_ (cs := [.int .i64 1]) rfl).alloc _).alloc _
    have b1 : Bk (((w.alloc (.cells #[.int .i64 1] 3)).alloc (.cells #[.int .i64 0] 3)).alloc (.cells #[.slice (some ⟨w.heap.size, 0, none⟩) 1 1, .slice none 0 0, .slice (some ⟨w.heap.size + 1, 0, none⟩) 1 1] 24)) (w.heap.size + 1) 3 ([(0 : Int)].map (Value.int .i64)) := (Bk.new_ (cs := [.int .i64 0]) (by simp)).alloc _
    have b2 : Bk (((w.alloc (.cells #[.int .i64 1] 3)).alloc (.cells #[.int .i64 0] 3)).alloc (.cells #[.slice (some ⟨w.heap.size, 0, none⟩) 1 1, .slice none 0 0, .slice (some ⟨w.heap.size + 1, 0, none⟩) 1 1] 24)) (w.heap.size + 1 + 1) 24 [.slice (some ⟨w.heap.size, 0, none⟩) 1 1, .slice none 0 0, .slice (some ⟨w.heap.size + 1, 0, none⟩) 1 1] := Bk.new_ (by simp)
    refine ⟨_, _, rfl, by decide, fun r hr => ?_⟩
    match r, hr with
    | 0, _ => exact ⟨_, 0, _, rfl, b2.cell 0 rfl, lst_block b0 (by decide) 1⟩
    | 1, _ => exact ⟨_, 0, _, rfl, b2.cell 1 rfl, ⟨none, 0, rfl, by decide, fun c hc => absurd hc (Nat.not_lt_zero _)⟩⟩
    | 2, _ => exact ⟨_, 0, _, rfl, b2.cell 2 rfl, lst_block b1 (by decide) 1⟩
    | r + 3, hr => exact absurd hr (by simp)
  rintro _ w2 ⟨o, v, rfl, k1, k2⟩
  have k2 := k2.bel
  rw [known_ord]
  rw [known_ord] at k1
  have hb : Below w.heap.size w w2 := by (repeat' (first | (with_reducible exact Below.refl _ _) | (with_reducible assumption) | (with_reducible refine Below.drew ?_) | (with_reducible refine below_drewN ?_ _) | ((with_reducible refine Below.alloc ?_ ?_ _); rotate_left; focus (go_size; done)) | ((with_reducible refine Below.setCell ?_ ?_ _); rotate_left; focus (go_size; done)) | ((with_reducible refine Below.trans ?_ (Below.mono (by with_reducible assumption) ?_)); rotate_left; focus (go_size; done))))
  have hbs := hb.size
  clear k2
  go_wp2_with fail
  refine (same_any _ _ [1, 0, 2] [1, 0, 2] _ (k1.alloc _).lst (lst_block (Bk.new_ (cs := [(1 : Int), 0, 2].map (Value.int .i64)) rfl) (by decide) 3)).mono ?_
  rintro _ w3 ⟨rfl, nn, rfl⟩
  rw [decide_eq_true (rfl : [(1 : Int), 0, 2] = [1, 0, 2])]
  go_wp2_with fail
  go_ret
  exact ⟨rfl, by (repeat' (first | (with_reducible exact Below.refl _ _) | (with_reducible assumption) | (with_reducible refine Below.drew ?_) | (with_reducible refine below_drewN ?_ _) | ((with_reducible refine Below.alloc ?_ ?_ _); rotate_left; focus (go_size; done)) | ((with_reducible refine Below.setCell ?_ ?_ _); rotate_left; focus (go_size; done)) | ((with_reducible refine Below.trans ?_ (Below.mono (by with_reducible assumption) ?_)); rotate_left; focus (go_size; done))))⟩
end Go.Proofs.Ytldhhoinjdkdgaa

set_option linter.unusedSimpArgs false
set_option linter.unusedVariables false
namespace Go.Proofs.Ytldhhoinjdkdgaa
open Go.RowKit
open Go.ChangeShapes Go.WideShapes Go.ChangeAt
open Go.ChangeMaps (open_string shut_string)
set_option linter.unusedVariables false
theorem own : ownKnob Try.prog.godebug = none := by kernel_rfl
theorem laidOut : laidOutB Try.prog = true := by kernel_rfl
theorem open_mat {H : Type} {enc : TypeId × Value → H} {W : World} {base B : Nat} {v : Value} {d : DataW H} {p : List MemPlace} (hv : Value.okWide Try.prog W .any B 22 v)
    (h : DataW.Trod enc Try.prog W base (fun _ => true) true 22 v d p) : ∃ ns, Mat W v ns := by
  obtain ⟨a0, len, cap, rfl⟩ := okWide_slice Try.underlying22 hv
  obtain ⟨fuel, hf⟩ := h
  rcases Deep.open_int_rows Try.underlying22 Try.underlying24 Try.underlying3 (by kernel_rfl) (by kernel_rfl) hf with ⟨hcs0, _⟩ | ⟨a, len', cap', A, L, C, Z, hcs0, _, hl, hm, _, hrows⟩
  · simp [Value.cells] at hcs0
    obtain ⟨rfl, rfl, rfl⟩ := hcs0
    exact ⟨[], none, 0, rfl, Nat.zero_le _, fun r hr => absurd hr (Nat.not_lt_zero _)⟩
  · simp [Value.cells] at hcs0
    obtain ⟨rfl, rfl, rfl⟩ := hcs0
    have hn : ((List.range len).map fun r => (Z r).take (L r)).length = len := by simp
    refine ⟨(List.range len).map fun r => (Z r).take (L r), some a, cap, by rw [hn], by rw [hn]; omega, fun r hr => ?_⟩
    rw [hn] at hr
    obtain ⟨b, o, spot⟩ := a
    obtain ⟨c1, c2, c3, c4, c5, c6, c7⟩ := hrows r (by omega)
    have hspot : spot = none := by simpa [Addr.add] using World.cell?_spot (hrows 0 (by omega)).1
    subst hspot
    have e : nd ((List.range len).map fun r => (Z r).take (L r)) r = (Z r).take (L r) := by
      unfold nd; rw [List.getD_eq_getElem?_getD, List.getElem?_map, List.getElem?_range hr]; rfl
    have el : ((Z r).take (L r)).length = L r := by rw [List.length_take]; omega
    refine ⟨b, o, _, rfl, by rw [← add_plain]; exact c1, ?_⟩
    rw [e]
    refine ⟨A r, C r, by rw [el], by rw [el]; omega, fun c hc => ?_⟩
    rw [el] at hc
    cases hA : A r with
    | none => have := c6 hA; omega
    | some a' =>
      obtain ⟨b', o', spot'⟩ := a'
      have hcell := (c7 _ hA).2 c (by omega)
      have hspot : spot' = none := by simpa [Addr.add] using World.cell?_spot ((c7 _ hA).2 0 (by omega))
      subst hspot
      refine ⟨b', o', rfl, ?_⟩
      rw [← add_plain, hcell, List.getD_eq_getElem?_getD, List.getD_eq_getElem?_getD, List.getElem?_take_of_lt hc]

end Go.Proofs.Ytldhhoinjdkdgaa

set_option linter.unusedSimpArgs false
set_option linter.unusedVariables false
namespace Go.Proofs.Ytldhhoinjdkdgaa
open Go.RowKit

/-- append where there is room: what the block holds behind it -/
theorem run_room {w : World} (t ty e : TypeId) (i0 : TypeInfo) (ht : Try.prog.underlying t = some (.slice e)) (hi : Try.prog.info? e = some i0) (h1 : i0.size = 1)
    {g k cap : Nat} {cs : List Value} (hb : Bk w g e cs) (hc : cs.length = cap) (ao : Option Addr) (m c : Nat) (news : List Value) (hn : news.length = m) (hnone : ao = none → m = 0)
    (hnews : ∀ ad, ao = some ad → ∀ j u, news[j]? = some u → w.cell? (ad.add j) = some u) (h1c : ∀ u ∈ news, u.oneCell' = true) (hroom : k + m ≤ cap) :
    ∃ w', (Builtin.append_ #[t, t] ty #[.slice (some ⟨g, 0, none⟩) k cap, .slice ao m c]).run Try.prog w = .ok (.slice (some ⟨g, 0, none⟩) (k + m) cap) w' ∧ Bk w' g e (cs.take k ++ news ++ cs.drop (k + m)) ∧ w.grownBy w' (some g) ∧ w'.heap.size = w.heap.size := by
  cases ao with
  | none =>
    obtain rfl := hnone rfl
    obtain rfl : news = [] := List.length_eq_zero_iff.1 hn
    refine ⟨w, ?_, ?_, World.grownBy.refl _ _, rfl⟩
    · simp [Builtin.append_, run_underlying ht, sizeOf, typeInfo, hi, Builtin.lenOf, Builtin.firstCells, storeCells]
      omega
    · rw [List.append_nil, Nat.add_zero, List.take_append_drop]; exact hb
  | some ad =>
    have hr := run_append_room (P := Try.prog) w t ty e i0 ht hi g k cap cs.toArray hb ad m c news (by rw [h1, Nat.mul_one]; exact hn) (hnews ad rfl) h1c hroom (by rw [h1, Nat.mul_one]; simp; omega)
    refine ⟨_, hr, ?_, ⟨rfl, rfl, rfl, by simp, fun j _ hj => setRow_other w g j _ (fun e => hj (by simp [e]))⟩, by simp⟩
    have := setRow_heap w g cs.toArray ((cs.toArray.toList.take (k * i0.size) ++ news ++ cs.toArray.toList.drop (k * i0.size + news.length)).toArray) e (0, 0) hb
    unfold Bk
    rw [this, h1, Nat.mul_one, hn]
theorem step_room {w : World} {ops : Array Oper} {o : Oper} {a : Act} {K : Act → World → Prop} {Q : Exit → Act → World → Prop} {E : Prop} (hgd : o.guard = none) (s x : Operand) (t e : TypeId)
    (ho : o.op = .call { callee := .builtin .append, args := #[s, x], argTypes := #[t, t] }) (i0 : TypeInfo) (ht : Try.prog.underlying t = some (.slice e)) (hi : Try.prog.info? e = some i0) (h1 : i0.size = 1)
    {g k cap : Nat} {cs : List Value} (hs : a.eval s = .slice (some ⟨g, 0, none⟩) k cap) (hb : Bk w g e cs) (hc : cs.length = cap) (ao : Option Addr) (m c : Nat) (hx : a.eval x = .slice ao m c) (news : List Value) (hn : news.length = m) (hnone : ao = none → m = 0)
    (hnews : ∀ ad, ao = some ad → ∀ j u, news[j]? = some u → w.cell? (ad.add j) = some u) (h1c : ∀ u ∈ news, u.oneCell' = true) (hroom : k + m ≤ cap)
    (h : ∀ w', Bk w' g e (cs.take k ++ news ++ cs.drop (k + m)) → w.grownBy w' (some g) → w'.heap.size = w.heap.size → K (a.put o.dst (.slice (some ⟨g, 0, none⟩) (k + m) cap)) w') :
    if Region.wanted o (yielded ops a.tmps) = true then Oper.wp Try.prog o a w K Q else E := by
  have hw : Region.wanted o (yielded ops a.tmps) = true := by simp [Region.wanted, hgd]
  rw [if_pos hw]
  obtain ⟨w', hrun, r1, r2, r3⟩ := run_room (w := w) t o.type e i0 ht hi h1 hb hc ao m c news hn hnone hnews h1c hroom
  unfold Oper.wp
  simp [execOp, ho, resolve, invoke, builtin, hs, hx, hrun, Result.andThen]
  exact h w' r1 r2 r3
theorem info_int3 : (Try.prog.info? 3).map (fun i => (i.zero, i.size, i.bytes)) = some (some (.int .i64 0), 1, 8) := by kernel_rfl
theorem info_row3 : (Try.prog.info? 24).map (fun i => (i.zero, i.size, i.bytes)) = some (some (.slice none 0 0), 1, 24) := by kernel_rfl
/-- what copies leaves: a row of rows, each with two places more, which are nought -/
structure Cop (w : World) (gI : Nat) (G : Nat → Nat) (ns : List (List Int)) (t : Nat) : Prop where
  top : Bk w gI 24 ((List.range t).map (fun r => .slice (some ⟨G r, 0, none⟩) (nd ns r).length ((nd ns r).length + 2)) ++ List.replicate (ns.length + 2 - t) (.slice none 0 0))
  row : ∀ r, r < t → Bk w (G r) 3 ((nd ns r).map (Value.int .i64) ++ [.int .i64 0, .int .i64 0])
  far : ∀ r, r < t → G r ≠ gI
def CopPost (ns : List (List Int)) (w : World) (e : Ending) (w' : World) : Prop := ∃ gI G, e = .returned (.slice (some ⟨gI, 0, none⟩) ns.length (ns.length + 2)) ∧ Cop w' gI G ns ns.length ∧ Below w.heap.size w w'
theorem Lst.news {w : World} {A : Option Addr} {n C : Nat} {xs : List Int} (h : Lst w (.slice A n C) xs) : ∀ ad, A = some ad → ∀ j u, (xs.map (Value.int .i64))[j]? = some u → w.cell? (ad.add j) = some u := by
  intro ad had j u hu
  rw [List.getElem?_map] at hu
  cases hj : xs[j]? with
  | none => rw [hj] at hu; cases hu
  | some x =>
    rw [hj] at hu
    injection hu with hu
    subst hu
    have hlt : j < xs.length := (List.getElem?_eq_some_iff.1 hj).1
    obtain ⟨b, o, e, hc⟩ := h.at hlt
    rw [had] at e
    injection e with e
    subst e
    have hadd : (⟨b, o, none⟩ : Addr).add j = ⟨b, o + j, none⟩ := by unfold Addr.add; split <;> simp_all
    rw [hadd, hc, List.getD_eq_getElem?_getD, hj]; rfl
theorem Lst.nil_of {w : World} {A : Option Addr} {n C : Nat} {xs : List Int} (h : Lst w (.slice A n C) xs) (e : A = none) : xs.length = 0 := by
  rcases Nat.eq_zero_or_pos xs.length with h0 | h0
  · exact h0
  · obtain ⟨b, o, e2, _⟩ := h.at h0
    rw [e] at e2; cases e2
theorem ints_one (xs : List Int) : ∀ u ∈ xs.map (Value.int .i64), u.oneCell' = true := fun u hu => by
  obtain ⟨x, _, rfl⟩ := List.mem_map.1 hu; rfl
theorem Bk.zeros (W : World) (t : TypeId) (n : Nat) (z : Value) {g : Nat} (hg : g = W.heap.size) : Bk (W.alloc (.cells (Array.replicate n z) t)) g t (List.replicate n z) := by
  subst hg
  have := Bk.new W t (List.replicate n z)
  rw [List.toArray_replicate] at this
  exact this
theorem Bk.grown {w w' : World} {g : Nat} {t : TypeId} {cs : List Value} {r : Option Nat} (h : Bk w g t cs) (hg : w.grownBy w' r) (hne : some g ≠ r) : Bk w' g t cs := (hg.block g h.lt hne).trans h
theorem below_grown {B : Nat} {w0 w w' : World} {g : Nat} (h : Below B w0 w) (hg : w.grownBy w' (some g)) (hs : w0.heap.size ≤ w.heap.size) (hB : B ≤ g) (hB2 : B ≤ w0.heap.size) : Below B w0 w' :=
  ⟨hg.os.trans h.os, hg.tape.trans h.tape, hg.output.trans h.output, Nat.le_trans h.size hg.size, fun k hk => (hg.block k (by omega) (by simp; omega)).trans (h.block k hk)⟩
theorem news_val {W : World} {b : Nat} {t : TypeId} {v : Value} (h : Bk W b t [v]) : ∀ ad, some (⟨b, 0, none⟩ : Addr) = some ad → ∀ j u, [v][j]? = some u → W.cell? (ad.add j) = some u := by
  intro ad had j u hu
  injection had with had
  subst had
  match j, hu with
  | 0, hu => injection hu with hu; subst hu; exact h.cell 0 rfl
  | j + 1, hu => simp at hu
theorem one_slice (a : Option Addr) (n c : Nat) : ∀ u ∈ [Value.slice a n c], u.oneCell' = true := fun u hu => by rw [List.mem_singleton.1 hu]; rfl
theorem Cop.step {w wr W' w3 W'' w5 : World} {gI : Nat} {G : Nat → Nat} {ns : List (List Int)} {t : Nat} (hc : Cop wr gI G ns t) (hlt : t < ns.length) (h1 : Below wr.heap.size wr W') (g3 : W'.grownBy w3 (some wr.heap.size))
    (b3 : Bk w3 wr.heap.size 3 ((List.replicate ((nd ns t).length + 2) (Value.int .i64 0)).take 0 ++ (nd ns t).map (Value.int .i64) ++ (List.replicate ((nd ns t).length + 2) (Value.int .i64 0)).drop (0 + (nd ns t).length)))
    (h2 : Below w3.heap.size w3 W'') (g5 : W''.grownBy w5 (some gI))
    (b5 : Bk w5 gI 24 (((List.range t).map (fun r => Value.slice (some ⟨G r, 0, none⟩) (nd ns r).length ((nd ns r).length + 2)) ++ List.replicate (ns.length + 2 - t) (Value.slice none 0 0)).take t ++ [.slice (some ⟨wr.heap.size, 0, none⟩) (nd ns t).length ((nd ns t).length + 2)] ++ ((List.range t).map (fun r => Value.slice (some ⟨G r, 0, none⟩) (nd ns r).length ((nd ns r).length + 2)) ++ List.replicate (ns.length + 2 - t) (Value.slice none 0 0)).drop (t + 1)))
    (hB : Below w.heap.size w wr) (hgw : w.heap.size ≤ gI) (hsz : w.heap.size + 1 ≤ wr.heap.size) :
    Cop w5 gI (fun r => if r = t then wr.heap.size else G r) ns (t + 1) ∧ Below w.heap.size w w5 ∧ w.heap.size + 1 ≤ w5.heap.size := by
  have hgl := hc.top.lt
  have s1 := h1.size
  have s3 := g3.size
  have s5 := h2.size
  have s6 := g5.size
  have key : ∀ k, k < wr.heap.size → k ≠ gI → w5.heap[k]? = wr.heap[k]? := fun k hk hne =>
    ((g5.block k (by omega) (by simpa using hne)).trans (h2.block k (by omega))).trans ((g3.block k (by omega) (by simp; omega)).trans (h1.block k hk))
  refine ⟨⟨?_, fun r hr => ?_, fun r hr => ?_⟩, ⟨?_, ?_, ?_, by have := hB.size; omega, fun k hk => (key k (by omega) (by omega)).trans (hB.block k hk)⟩, by omega⟩
  · have e1 : ((List.range t).map (fun r => Value.slice (some ⟨G r, 0, none⟩) (nd ns r).length ((nd ns r).length + 2))).length = t := by simp
    rw [List.take_append_of_le_length (by rw [e1]; exact Nat.le_refl _), List.take_of_length_le (by rw [e1]; exact Nat.le_refl _), List.drop_append, e1, List.drop_of_length_le (by rw [e1]; omega), List.nil_append, List.drop_replicate] at b5
    have e2 : t + 1 - t = 1 := by omega
    rw [e2] at b5
    have e3 : ns.length + 2 - t - 1 = ns.length + 2 - (t + 1) := by omega
    rw [e3] at b5
    rw [List.range_succ, List.map_append, List.map_singleton, if_pos rfl]
    have e4 : (List.range t).map (fun r => Value.slice (some ⟨if r = t then wr.heap.size else G r, 0, none⟩) (nd ns r).length ((nd ns r).length + 2)) = (List.range t).map (fun r => Value.slice (some ⟨G r, 0, none⟩) (nd ns r).length ((nd ns r).length + 2)) := by
      refine List.map_congr_left fun r hr => ?_
      rw [if_neg (by have := List.mem_range.1 hr; omega)]
    rw [e4]
    exact b5
  · by_cases e : r = t
    · subst e
      rw [if_pos rfl]
      rw [List.take_zero, List.nil_append, Nat.zero_add, List.drop_replicate, show (nd ns r).length + 2 - (nd ns r).length = 2 by omega] at b3
      exact (b3.below h2 b3.lt).grown g5 (by simp; omega)
    · rw [if_neg e]
      have hr' := hc.row r (by omega)
      have hf := hc.far r (by omega)
      exact (key (G r) hr'.lt hf).trans hr'
  · by_cases e : r = t
    · subst e; rw [if_pos rfl]; omega
    · rw [if_neg e]; exact hc.far r (by omega)
  · exact ((g5.os.trans h2.os).trans (g3.os.trans h1.os)).trans hB.os
  · exact ((g5.tape.trans h2.tape).trans (g3.tape.trans h1.tape)).trans hB.tape
  · exact ((g5.output.trans h2.output).trans (g3.output.trans h1.output)).trans hB.output
set_option maxHeartbeats 2000000 in
theorem copies_any (ns : List (List Int)) (v : Value) (w : World) (h : Mat w v ns) (hN : ns.length ≤ 1048576) (hR : ∀ r, r < ns.length → (nd ns r).length ≤ 1048576) :
    Calls Try.prog 16 #[v] w (CopPost ns w) := by
  have HM := Lib.hid h
  obtain ⟨A, C, rfl, m2, _⟩ := h
  have HR := Lib.hid hR
  clear hR m2
  obtain ⟨ir, hir, hzr, hsr, hbr⟩ := info_parts info_row3
  have hmk : ∀ W : World, (Instr.makeSlice 22 (.int .i64 0) (.int .i64 ((ns.length : Int) + 2))).run Try.prog W = .ok (.slice (some ⟨W.heap.size, 0, none⟩) 0 (ns.length + 2)) (W.alloc (.cells (Array.replicate (ns.length + 2) (.slice none 0 0)) 24)) := fun W => by
    have := run_make (P := Try.prog) W 22 24 ir (.slice none 0 0) Try.underlying22 hir hzr .i64 .i64 0 ((ns.length : Int) + 2) (by omega) (by omega) (by rw [hbr]; omega) (by omega)
    rw [this]
    have e : ((ns.length : Int) + 2).toNat = ns.length + 2 := by omega
    have e2 : madeCells (Value.slice none 0 0).cells ((ns.length + 2) * 1) = Array.replicate (ns.length + 2) (.slice none 0 0) := by
      rw [Nat.mul_one, ← List.toArray_replicate, ← toList_madeCells_one]
      rfl
    rw [e, hsr, e2]
    rfl
  go_enter Try.func16, Try.ntmps16
  go_wp2_with fail
  have hb0 := Bk.zeros w 24 (ns.length + 2) (.slice none 0 0) rfl
  have hbel : Below w.heap.size w (w.alloc (.cells (Array.replicate (ns.length + 2) (.slice none 0 0)) 24)) := by (repeat' (first | (with_reducible exact Below.refl _ _) | (with_reducible assumption) | (with_reducible refine Below.drew ?_) | (with_reducible refine below_drewN ?_ _) | ((with_reducible refine Below.alloc ?_ ?_ _); rotate_left; focus (go_size; done)) | ((with_reducible refine Below.setCell ?_ ?_ _); rotate_left; focus (go_size; done)) | ((with_reducible refine Below.trans ?_ (Below.mono (by with_reducible assumption) ?_)); rotate_left; focus (go_size; done))))
  obtain ⟨gI, hgI⟩ : ∃ g, g = w.heap.size := ⟨_, rfl⟩
  rw [← hgI] at hb0
  rw [← hgI]
  have hgw : w.heap.size ≤ gI := by omega
  have hst : w.heap.size + 1 ≤ (w.alloc (.cells (Array.replicate (ns.length + 2) (.slice none 0 0)) 24)).heap.size := by simp
  generalize (w.alloc (.cells (Array.replicate (ns.length + 2) (.slice none 0 0)) 24)) = W0 at *
  have HW := Lib.hid (And.intro hb0 (And.intro hbel hst))
  clear hb0 hbel hgI hst hmk
  go_loopg [3, 4] ns.length (fun k s3 s4 wr => ∃ (t : Nat) (G : Nat → Nat), k + t = ns.length ∧ s3 = .slice (some ⟨gI, 0, none⟩) t (ns.length + 2) ∧ s4 = .int .i64 t ∧ Hid (Cop wr gI G ns t) ∧ Hid (∀ r, r < t → w.heap.size < G r) ∧ Hid (Below w.heap.size w wr) ∧ w.heap.size + 1 ≤ wr.heap.size)
  case atStart => exact ⟨0, fun _ => 0, rfl, rfl, rfl, Lib.hid ⟨by simpa using HW.out.1, fun r hr => absurd hr (Nat.not_lt_zero _), fun r hr => absurd hr (Nat.not_lt_zero _)⟩, Lib.hid (fun r hr => absurd hr (Nat.not_lt_zero _)), Lib.hid HW.out.2.1, HW.out.2.2⟩
  case round =>
    obtain ⟨t, G, hk, rfl, rfl, HC, HG, HB, hsz⟩ := hrel
    have HK := Lib.hid hk
    have htn : t ≤ ns.length := by omega
    clear hk
    by_cases hlt : t < ns.length
    · obtain ⟨b1, q1, u1, rfl, hc1, hl1⟩ := (HM.out.below HB.out).at hlt
      obtain ⟨A1, C1, rfl, hb1⟩ := hl1.is
      have hRt : (nd ns t).length ≤ 1048576 := HR.out t hlt
      have hb1l : b1 < wr.heap.size := cell_lt hc1
      have HL1 := Lib.hid hl1
      have t0 : (0 : Int) ≤ (t : Int) := by omega
      have t1 : (t : Int) < (ns.length : Int) := by omega
      obtain ⟨ii, hii, hzi, hsi, hbi⟩ := info_parts info_int3
      have hmk : ∀ W : World, (Instr.makeSlice 24 (.int .i64 0) (.int .i64 (((nd ns t).length : Int) + 2))).run Try.prog W = .ok (.slice (some ⟨W.heap.size, 0, none⟩) 0 ((nd ns t).length + 2)) (W.alloc (.cells (Array.replicate ((nd ns t).length + 2) (.int .i64 0)) 3)) := fun W => by
        have := run_make (P := Try.prog) W 24 3 ii (.int .i64 0) Try.underlying24 hii hzi .i64 .i64 0 (((nd ns t).length : Int) + 2) (by omega) (by omega) (by rw [hbi]; omega) (by omega)
        rw [this]
        have e : (((nd ns t).length : Int) + 2).toNat = (nd ns t).length + 2 := by omega
        have e2 : madeCells (Value.int .i64 0).cells (((nd ns t).length + 2) * 1) = Array.replicate ((nd ns t).length + 2) (.int .i64 0) := by
          rw [Nat.mul_one, ← List.toArray_replicate, ← toList_madeCells_one]
          rfl
        rw [e, hsi, e2]
        rfl
      have hmk' : ∀ W : World, (Instr.makeSlice 24 (.int .i64 0) (.int .i64 (IntKind.i64.wrap (((nd ns t).length : Int) + 2)))).run Try.prog W = .ok (.slice (some ⟨W.heap.size, 0, none⟩) 0 ((nd ns t).length + 2)) (W.alloc (.cells (Array.replicate ((nd ns t).length + 2) (.int .i64 0)) 3)) := fun W => by
        have hw2 : IntKind.i64.wrap (((nd ns t).length : Int) + 2) = ((nd ns t).length : Int) + 2 := IntWalk.i64_in _ (by omega)
        rw [hw2]; exact hmk W
      clear hl1 hb1 hzr hbr hzi hbi hmk
      have hgl := HC.out.top.lt
      have hne : some gI ≠ some wr.heap.size := by simp; omega
      have HT := Lib.hid HC.out.top
      go_wp2_with fail
      go_region_law (first | (refine step_room rfl _ _ 24 3 rfl ii Try.underlying24 hii hsi (g := wr.heap.size) (k := 0) (cap := (nd ns t).length + 2) (cs := List.replicate ((nd ns t).length + 2) (.int .i64 0)) rfl ?_ (by simp) A1 (nd ns t).length C1 rfl ((nd ns t).map (.int .i64)) (by simp) HL1.out.nil_of ?_ (ints_one _) (by omega) ?_; (focus (first | exact Bk.zeros wr _ _ _ rfl | exact (Bk.zeros wr _ _ _ rfl).drew | exact Bk.zeros wr.drew _ _ _ rfl)); (focus (refine Lst.news (HL1.out.below ?_); (repeat' (first | (with_reducible exact Below.refl _ _) | (with_reducible assumption) | (with_reducible refine Below.drew ?_) | (with_reducible refine below_drewN ?_ _) | ((with_reducible refine Below.alloc ?_ ?_ _); rotate_left; focus (go_size; done)) | ((with_reducible refine Below.setCell ?_ ?_ _); rotate_left; focus (go_size; done)) | ((with_reducible refine Below.trans ?_ (Below.mono (by with_reducible assumption) ?_)); rotate_left; focus (go_size; done)))))); intro w3 b3 g3 s3; have T3 := Bk.grown (cs := (List.range t).map (fun r => .slice (some ⟨G r, 0, none⟩) (nd ns r).length ((nd ns r).length + 2)) ++ List.replicate (ns.length + 2 - t) (.slice none 0 0)) (t := 24) (by first | exact HT.out.alloc _ | exact (HT.out.alloc _).drew | exact HT.out.drew.alloc _) g3 hne) | (refine step_room rfl _ _ 22 24 rfl ir Try.underlying22 hir hsr (g := gI) (k := t) (cap := ns.length + 2) rfl (T3.alloc _) (by simp; omega) (some ⟨wr.heap.size + 1, 0, none⟩) 1 1 rfl [.slice (some ⟨wr.heap.size, 0, none⟩) (nd ns t).length ((nd ns t).length + 2)] rfl (fun h => by cases h) (news_val (Bk.new_ (by simp [s3]))) (one_slice _ _ _) (by omega) ?_; intro w5 b5 g5 s5))
      all_goals
        go_wp2_with fail
        go_roundg (gk - 1)
        case measure => have := HK.out; omega
        case rel =>
          have key := Cop.step HC.out hlt (by (repeat' (first | (with_reducible exact Below.refl _ _) | (with_reducible assumption) | (with_reducible refine Below.drew ?_) | (with_reducible refine below_drewN ?_ _) | ((with_reducible refine Below.alloc ?_ ?_ _); rotate_left; focus (go_size; done)) | ((with_reducible refine Below.setCell ?_ ?_ _); rotate_left; focus (go_size; done)) | ((with_reducible refine Below.trans ?_ (Below.mono (by with_reducible assumption) ?_)); rotate_left; focus (go_size; done))))) g3 b3 (by (repeat' (first | (with_reducible exact Below.refl _ _) | (with_reducible assumption) | (with_reducible refine Below.drew ?_) | (with_reducible refine below_drewN ?_ _) | ((with_reducible refine Below.alloc ?_ ?_ _); rotate_left; focus (go_size; done)) | ((with_reducible refine Below.setCell ?_ ?_ _); rotate_left; focus (go_size; done)) | ((with_reducible refine Below.trans ?_ (Below.mono (by with_reducible assumption) ?_)); rotate_left; focus (go_size; done))))) g5 b5 HB.out hgw hsz
          have hg2 : ∀ r, r < t + 1 → w.heap.size < (if r = t then wr.heap.size else G r) := fun r hr => by
            by_cases e : r = t
            · rw [if_pos e]; omega
            · rw [if_neg e]; exact HG.out r (by omega)
          first
            | exact ⟨t + 1, fun r => if r = t then wr.heap.size else G r, by have := HK.out; omega, rfl, by go_num, Lib.hid key.1, Lib.hid hg2, Lib.hid key.2.1, key.2.2⟩
            | exact ⟨t + 1, fun r => if r = t then wr.heap.size else G r, by have := HK.out; omega, rfl, by go_num, Lib.hid ⟨key.1.top.drew, fun r hr => (key.1.row r hr).drew, key.1.far⟩, Lib.hid hg2, Lib.hid (Below.drew key.2.1), key.2.2⟩
    · obtain rfl : t = ns.length := by omega
      go_wp2_with fail
      go_ret
      exact ⟨gI, G, rfl, HC.out, HB.out⟩
end Go.Proofs.Ytldhhoinjdkdgaa

set_option linter.unusedSimpArgs false
set_option linter.unusedVariables false
namespace Go.Proofs.Ytldhhoinjdkdgaa

def lvN (i : Nat) (out : List Int) (n : Int) : List Int := out.set i (max (out.getD i 0) (out.getD n.toNat 0 + 1))
def lvRow (i : Nat) (row : List Int) (out : List Int) : List Int := row.foldl (lvN i) out
def lvAll (ns : List (List Int)) (l : List Int) (out : List Int) : List Int := l.foldl (fun out x => lvRow x.toNat (nd ns x.toNat) out) out
def levels (ns : List (List Int)) (l : List Int) : List Int := lvAll ns l (List.replicate ns.length 0)
/-- as many as things, none below 0, none above c -/
structure Bd (N : Nat) (out : List Int) (c : Int) : Prop where
  len : out.length = N
  lo : ∀ k, 0 ≤ out.getD k 0
  hi : ∀ k, out.getD k 0 ≤ c
theorem getD_set3 (l : List Int) (i k : Nat) (x : Int) : (l.set i x).getD k 0 = if k = i ∧ i < l.length then x else l.getD k 0 := by
  by_cases h : i < l.length
  · rw [getD_set2 _ _ _ _ h]
    by_cases e : k = i
    · rw [if_pos e, if_pos ⟨e, h⟩]
    · rw [if_neg e, if_neg (fun hh => e hh.1)]
  · rw [List.set_eq_of_length_le (by omega), if_neg (fun hh => h hh.2)]
theorem Bd.start (N : Nat) : Bd N (List.replicate N 0) 0 := by
  have e : ∀ k, (List.replicate N (0 : Int)).getD k 0 = 0 := fun k => by
    rw [List.getD_eq_getElem?_getD, List.getElem?_replicate]
    split <;> rfl
  exact ⟨List.length_replicate, fun k => by rw [e]; exact Int.le_refl _, fun k => by rw [e]; exact Int.le_refl _⟩
theorem Bd.step {N : Nat} {out : List Int} {c : Int} (h : Bd N out c) (i : Nat) (n : Int) : Bd N (lvN i out n) (c + 1) := by
  unfold lvN
  have h1 := h.lo i
  have h2 := h.hi i
  have h3 := h.lo n.toNat
  have h4 := h.hi n.toNat
  refine ⟨by rw [List.length_set]; exact h.len, fun k => ?_, fun k => ?_⟩
  · rw [getD_set3]
    have := h.lo k
    split <;> omega
  · rw [getD_set3]
    have := h.hi k
    split <;> omega
theorem Bd.mono {N : Nat} {out : List Int} {c d : Int} (h : Bd N out c) (hcd : c ≤ d) : Bd N out d := ⟨h.len, h.lo, fun k => Int.le_trans (h.hi k) hcd⟩
theorem lvRow_snoc (i : Nat) (row : List Int) (s : Nat) (hs : s < row.length) (out : List Int) : lvRow i (row.take (s + 1)) out = lvN i (lvRow i (row.take s) out) (row.getD s 0) := by
  unfold lvRow
  rw [List.take_succ_eq_append_getElem hs, List.foldl_append, getD_get hs]; rfl
theorem lvAll_snoc (ns : List (List Int)) (l : List Int) (t : Nat) (ht : t < l.length) (out : List Int) : lvAll ns (l.take (t + 1)) out = lvRow (l.getD t 0).toNat (nd ns (l.getD t 0).toNat) (lvAll ns (l.take t) out) := by
  unfold lvAll
  rw [List.take_succ_eq_append_getElem ht, List.foldl_append, getD_get ht]; rfl
theorem lvAll_end (ns : List (List Int)) (l : List Int) (x : Int) (out : List Int) : lvAll ns (l ++ [x]) out = lvRow x.toNat (nd ns x.toNat) (lvAll ns l out) := by
  unfold lvAll
  rw [List.foldl_append]; rfl
theorem lvRow_len (i : Nat) (row : List Int) : ∀ out : List Int, (lvRow i row out).length = out.length := by
  unfold lvRow
  induction row with
  | nil => exact fun _ => rfl
  | cons a r ih => exact fun out => by rw [List.foldl_cons, ih]; unfold lvN; rw [List.length_set]
theorem lvAll_len (ns : List (List Int)) (l : List Int) : ∀ out : List Int, (lvAll ns l out).length = out.length := by
  unfold lvAll
  induction l with
  | nil => exact fun _ => rfl
  | cons a r ih => exact fun out => by rw [List.foldl_cons, ih, lvRow_len]
theorem levels_len (ns : List (List Int)) (l : List Int) : (levels ns l).length = ns.length := by unfold levels; rw [lvAll_len, List.length_replicate]
theorem lvRow_other (i : Nat) (row : List Int) {k : Nat} (hk : k ≠ i) : ∀ out : List Int, (lvRow i row out).getD k 0 = out.getD k 0 := by
  unfold lvRow
  induction row with
  | nil => exact fun _ => rfl
  | cons a r ih =>
    intro out
    rw [List.foldl_cons, ih]
    unfold lvN
    rw [getD_set3, if_neg (fun h => hk h.1)]
theorem lvRow_ge (i : Nat) (row : List Int) : ∀ out : List Int, i < out.length → (∀ n ∈ row, n.toNat ≠ i) → out.getD i 0 ≤ (lvRow i row out).getD i 0 ∧ ∀ n ∈ row, out.getD n.toNat 0 + 1 ≤ (lvRow i row out).getD i 0 := by
  unfold lvRow
  induction row with
  | nil => exact fun out _ _ => ⟨Int.le_refl _, fun n hn => by cases hn⟩
  | cons a r ih =>
    intro out hi hn
    rw [List.foldl_cons]
    obtain ⟨h1, h2⟩ := ih (lvN i out a) (by unfold lvN; rw [List.length_set]; exact hi) (fun n h => hn n (List.mem_cons_of_mem _ h))
    have e : ∀ k, (lvN i out a).getD k 0 = if k = i then max (out.getD i 0) (out.getD a.toNat 0 + 1) else out.getD k 0 := fun k => by
      unfold lvN; rw [getD_set2 _ _ _ _ hi]
    rw [e, if_pos rfl] at h1
    refine ⟨by omega, fun n h => ?_⟩
    rcases List.mem_cons.1 h with rfl | h
    · omega
    · have := h2 n h
      rw [e, if_neg (hn n (List.mem_cons_of_mem _ h))] at this
      exact this
theorem gr_snoc {ns : List (List Int)} {t : Nat} {l : List Int} (h : gr ns (t + 1) = some l) : ∃ l0 i, gr ns t = some l0 ∧ pick ns l0 = some i ∧ l = l0 ++ [(i : Int)] := by
  cases h1 : gr ns t with
  | none => rw [gr_none h1 (t + 1) (by omega)] at h; cases h
  | some o =>
    cases hp : pick ns o with
    | none => rw [gr_stop h1 hp] at h; cases h
    | some i =>
      rw [gr_step h1 hp] at h
      injection h with h
      exact ⟨o, i, rfl, hp, h.symm⟩
theorem gr_take {ns : List (List Int)} : ∀ {t : Nat} {l : List Int}, gr ns t = some l → ∀ p, p ≤ t → gr ns p = some (l.take p)
  | 0, l, h, p, hp => by
    obtain rfl : p = 0 := by omega
    injection h with h; subst h; rfl
  | t + 1, l, h, p, hp => by
    have hl := (gr_good h).2
    by_cases e : p = t + 1
    · subst e; rw [h, List.take_of_length_le (by omega)]
    · obtain ⟨l0, i, h1, h2, rfl⟩ := gr_snoc h
      have hl0 := (gr_good h1).2
      rw [gr_take h1 p (by omega), List.take_append_of_le_length (by omega)]
/-- at each place stands the least one that is ready there -/
theorem gr_at {ns : List (List Int)} {t : Nat} {l : List Int} (h : gr ns t = some l) {p : Nat} (hp : p < t) : ∃ i : Nat, l.getD p 0 = i ∧ pick ns (l.take p) = some i := by
  have hl := (gr_good h).2
  have h1 := gr_take h (p + 1) hp
  obtain ⟨l0, i, h2, h3, h4⟩ := gr_snoc h1
  have h5 := gr_take h p (by omega)
  rw [h2] at h5
  injection h5 with h5
  subst h5
  refine ⟨i, ?_, h3⟩
  have e : l.take (p + 1) = l.take p ++ [l.getD p 0] := by rw [List.take_succ_eq_append_getElem (by omega), getD_get (by omega)]
  rw [e] at h4
  have := List.append_cancel_left h4
  injection this
theorem lv_inv {ns : List (List Int)} : ∀ {t : Nat} {l : List Int}, gr ns t = some l → ∀ i : Nat, (i : Int) ∈ l → ∀ n ∈ nd ns i, (lvAll ns l (List.replicate ns.length 0)).getD n.toNat 0 < (lvAll ns l (List.replicate ns.length 0)).getD i 0
  | 0, l, h, i, hi => by injection h with h; subst h; cases hi
  | t + 1, l, h, i, hi => by
    obtain ⟨l0, x, h1, h2, rfl⟩ := gr_snoc h
    obtain ⟨g1, g2, g3⟩ := pick_some.1 h2
    obtain ⟨g4, g5⟩ := rdy_iff.1 g1
    obtain ⟨gg, _⟩ := gr_good h1
    rw [lack_zero, List.all_eq_true] at g5
    intro n hn
    rw [lvAll_end]
    rw [Int.toNat_natCast]
    have hlen : (lvAll ns l0 (List.replicate ns.length 0)).length = ns.length := by rw [lvAll_len, List.length_replicate]
    have key : ∀ n, n ∈ l0 → n.toNat ≠ x := fun n hn e => by
      have := gg.rng n hn
      exact g4 (by rw [← e]; rw [Int.toNat_of_nonneg this.1]; exact hn)
    rcases List.mem_append.1 hi with hi | hi
    · have hnl := gg.met i hi n hn
      rw [lvRow_other _ _ (key n hnl), lvRow_other _ _ (fun e => key _ hi (by rw [Int.toNat_natCast]; exact e))]
      exact lv_inv h1 i hi n hn
    · rw [List.mem_singleton] at hi
      obtain rfl : i = x := by omega
      have hnl : n ∈ l0 := by simpa using g5 n hn
      rw [lvRow_other _ _ (key n hnl)]
      have := (lvRow_ge i (nd ns i) (lvAll ns l0 (List.replicate ns.length 0)) (by rw [hlen]; exact g2) (fun m hm => key m (by simpa using g5 m hm))).2 n hn
      omega
theorem nodup_all : ∀ (N : Nat) (l : List Int), l.Nodup → (∀ x ∈ l, 0 ≤ x ∧ x < N) → N ≤ l.length → ∀ k : Nat, k < N → (k : Int) ∈ l := by
  intro N l hn h hl k hk
  by_cases hm : (k : Int) ∈ l
  · exact hm
  · have h1 := nodup_len N ((k : Int) :: l) (List.nodup_cons.2 ⟨hm, hn⟩) (fun x hx => by
      rcases List.mem_cons.1 hx with rfl | hx
      · omega
      · exact h x hx)
    rw [List.length_cons] at h1
    omega
/-- where each thing stands -/
def at_ (l : List Int) (k : Nat) : Nat := l.idxOf (k : Int)
theorem ord_at {ns : List (List Int)} {l : List Int} (h : ord ns = some l) {k : Nat} (hk : k < ns.length) : at_ l k < ns.length ∧ l.getD (at_ l k) 0 = k := by
  obtain ⟨g, hl⟩ := gr_good h
  have hm := nodup_all ns.length l g.nodup g.rng (by omega) k hk
  have h1 : l.idxOf (k : Int) < l.length := List.idxOf_lt_length_iff.2 hm
  refine ⟨by unfold at_; omega, ?_⟩
  unfold at_
  rw [getD_get h1]
  exact List.getElem_idxOf h1
theorem ord_at_of {ns : List (List Int)} {l : List Int} (h : ord ns = some l) {p : Nat} (hp : p < ns.length) {k : Nat} (hk : l.getD p 0 = k) : at_ l k = p := by
  obtain ⟨g, hl⟩ := gr_good h
  have hpl : p < l.length := by omega
  have e : l[p] = (k : Int) := by rw [← getD_get hpl]; exact hk
  unfold at_
  rw [← e]
  exact g.nodup.idxOf_getElem p hpl
theorem mem_take_at {ns : List (List Int)} {l : List Int} (h : ord ns = some l) {k : Nat} (hk : k < ns.length) (p : Nat) : (k : Int) ∈ l.take p ↔ at_ l k < p := by
  obtain ⟨h1, h2⟩ := ord_at h hk
  obtain ⟨g, hl⟩ := gr_good h
  constructor
  · intro hm
    obtain ⟨q, hq, e⟩ := List.mem_iff_getElem.1 hm
    rw [List.length_take] at hq
    rw [List.getElem_take] at e
    have := ord_at_of h (p := q) (by omega) (k := k) (by rw [getD_get (by omega)]; exact e)
    omega
  · intro hlt
    rw [List.mem_iff_getElem]
    refine ⟨at_ l k, by rw [List.length_take]; omega, ?_⟩
    rw [List.getElem_take, ← getD_get (by omega)]
    exact h2
/-- what is needed stands ahead -/
theorem ord_ahead {ns : List (List Int)} {l : List Int} (h : ord ns = some l) {i : Nat} (hi : i < ns.length) {n : Nat} (hn : (n : Int) ∈ nd ns i) (hnn : n < ns.length) : at_ l n < at_ l i := by
  obtain ⟨h1, h2⟩ := ord_at h hi
  obtain ⟨x, h3, h4⟩ := gr_at h h1
  rw [h2] at h3
  obtain rfl : i = x := by omega
  obtain ⟨g4, g5⟩ := rdy_iff.1 (pick_some.1 h4).1
  rw [lack_zero, List.all_eq_true] at g5
  exact (mem_take_at h hnn _).1 (by simpa using g5 n hn)
/-- behind all that it needs no greater thing stands ahead of it -/
theorem ord_least {ns : List (List Int)} {l : List Int} (h : ord ns = some l) (hf : ∀ i c, i < ns.length → c < (nd ns i).length → 0 ≤ (nd ns i).getD c 0 ∧ (nd ns i).getD c 0 < (ns.length : Int)) {i p : Nat} (hi : i < ns.length) (hp : p < at_ l i) (hn : ∀ n : Nat, (n : Int) ∈ nd ns i → at_ l n < p) : l.getD p 0 ≤ i := by
  obtain ⟨h1, h2⟩ := ord_at h hi
  obtain ⟨x, h3, h4⟩ := gr_at h (p := p) (by omega)
  obtain ⟨k1, k2, k3⟩ := pick_some.1 h4
  rw [h3]
  have hr : rdy ns (l.take p) i = true := by
    rw [rdy_iff, lack_zero, List.all_eq_true]
    refine ⟨fun hm => ?_, fun n hm => ?_⟩
    · have := (mem_take_at h hi p).1 hm
      omega
    · obtain ⟨c, hc, rfl⟩ := List.mem_iff_getElem.1 hm
      have hb := hf i c hi hc
      rw [getD_get hc] at hb
      obtain ⟨m, hm'⟩ := Int.eq_ofNat_of_zero_le hb.1
      rw [hm'] at hm hb ⊢
      simpa using (mem_take_at h (k := m) (by omega) p).2 (hn m hm)
  rcases Nat.lt_or_ge i x with hlt | hge
  · rw [k3 i hlt] at hr; cases hr
  · omega
theorem ord_level {ns : List (List Int)} {l : List Int} (h : ord ns = some l) {i : Nat} (hi : i < ns.length) {n : Nat} (hn : (n : Int) ∈ nd ns i) : (levels ns l).getD n 0 < (levels ns l).getD i 0 := by
  obtain ⟨g, hl⟩ := gr_good h
  have hm := nodup_all ns.length l g.nodup g.rng (by omega) i hi
  have := lv_inv h i hm n hn
  rwa [Int.toNat_natCast] at this
end Go.Proofs.Ytldhhoinjdkdgaa

set_option linter.unusedSimpArgs false
set_option linter.unusedVariables false
namespace Go.Proofs.Ytldhhoinjdkdgaa
open Go.RowKit

def docLev (ns : List (List Int)) : List Int × Int := if (docOrd ns).2 = 0 then (levels ns (docOrd ns).1, 0) else ([], (docOrd ns).2)
def LevPost (ns : List (List Int)) (w : World) (e : Ending) (w' : World) : Prop := ∃ o v, e = .returned (.tuple #[v, .int .i64 (docLev ns).2]) ∧ Row w' o 5 v (docLev ns).1 ∧ Turn (fun l => l ≠ 0) w (fun _ => 0) w' o
theorem doc_ok {ns : List (List Int)} (h : (docOrd ns).2 = 0) : chk ns = 0 ∧ longB ns = false ∧ formB ns = true ∧ ord ns = some (docOrd ns).1 := by
  by_cases hc : chk ns = 0
  · refine ⟨hc, ?_, ?_, ?_⟩
    · unfold chk at hc
      rw [Bool.eq_false_iff]
      intro e; rw [if_pos e] at hc; cases hc
    · unfold chk at hc
      by_cases hl : longB ns = true
      · rw [if_pos hl] at hc; cases hc
      · rw [if_neg hl] at hc
        by_cases e : formB ns = true
        · exact e
        · rw [if_neg e] at hc; cases hc
    · unfold docOrd at h ⊢
      rw [if_pos hc] at h ⊢
      cases e : ord ns with
      | none => rw [e] at h; cases h
      | some l => rfl
  · unfold docOrd at h
    rw [if_neg hc] at h
    exact absurd h hc
theorem doc_bad {ns : List (List Int)} (h : (docOrd ns).2 ≠ 0) : (docOrd ns).1 = [] := by
  unfold docOrd at h ⊢
  by_cases hc : chk ns = 0
  · rw [if_pos hc] at h ⊢
    cases e : ord ns with
    | none => rfl
    | some l => rw [e] at h; exact absurd rfl h
  · rw [if_neg hc]
theorem row_of_lb {w : World} {o : Nat → Nat} {g : Nat} {xs : List Int} (h : Lb w o 5 g 3 (xs.map (Value.int .i64))) (hl : xs.length ≤ maxLen) : Row w o 5 (.slice (some ⟨g, 0, none⟩) xs.length xs.length) xs :=
  Row.of_block h (Nat.le_refl _) hl (by simp) (by rw [List.take_of_length_le (by simp)])
set_option maxHeartbeats 2000000 in
theorem levels_any (ns : List (List Int)) (v : Value) (w : World) (h : Mat w v ns) : Calls Try.prog 12 #[v] w (LevPost ns w) := by
  have HM := Lib.hid h
  have HC := Lib.hid (order_any ns v w h)
  obtain ⟨l, z, hq⟩ : ∃ l z, docOrd ns = (l, z) := ⟨_, _, rfl⟩
  unfold OrdPost at HC
  rw [hq] at HC
  by_cases hz : z = 0
  · subst hz
    obtain ⟨_, h1, h2, h3⟩ := doc_ok (ns := ns) (by rw [hq])
    rw [hq] at h3
    have HO := Far.mk h3
    obtain ⟨n1, n2⟩ := longB_not h1
    have hl : l.length = ns.length := (gr_good h3).2
    have HR := Far.mk ((gr_good h3).1.rng)
    have HF := Lib.hid (formB_iff.1 h2)
    have HN2 := Lib.hid n2
    have HD : Hid (docLev ns = (levels ns l, 0)) := Lib.hid (by unfold docLev; rw [hq]; rfl)
    obtain ⟨A, C, rfl, m2, _⟩ := h
    unfold maxLen at m2
    have hll : l.length ≤ 100 := by omega
    have HL := Lib.hid hl
    clear h1 h2 h3 hq hl n2
    go_enter Try.func12, Try.ntmps12
    go_wp2_with fail
    refine HC.out.mono ?_
    rintro _ w1 ⟨o1, v1, rfl, r1, hb1⟩
    have hb1 := hb1.bel
    obtain ⟨A1, C1, rfl⟩ := row_is r1
    have L1 := Lib.hid r1.lst
    have hb1s := hb1.size
    have HB1 := Lib.hid hb1
    clear r1 hb1
    go_wp2_with (at_make; refine wpList_makeL rfl _ _ 24 3 rfl (.int .i64 0) rfl 8 Try.underlying24 (by kernel_rfl) (fun _ => 0) 5 ns.length rfl rfl (by omega) (by unfold maxLen; omega) ?_; intro w2 ll t2)
    have t3 : Turn (fun l => l ≠ 0) w1 (fun _ => 0) w2 _ := t2.mono fun _ h => h.elim
    generalize (relabel (fun _ => 0) w1.heap.size 5) = o0 at *
    obtain ⟨gL, hgL⟩ : ∃ g, g = w1.heap.size := ⟨_, rfl⟩
    rw [← hgL] at ll
    rw [← hgL]
    have e0 : List.replicate ns.length (Value.int .i64 0) = (lvAll ns (l.take 0) (List.replicate ns.length 0)).map (Value.int .i64) := by
      rw [List.take_zero]; unfold lvAll; rw [List.foldl_nil, List.map_replicate]
    rw [e0] at ll
    have B0 : Far (Bd ns.length (lvAll ns (l.take 0) (List.replicate ns.length 0)) 0) := Far.mk (Bd.start _)
    clear hgL t2 e0
    go_loopg [24] l.length (fun k i wr => ∃ t : Nat, k + t = l.length ∧ i = .int .i64 t ∧ Far (Bd ns.length (lvAll ns (l.take t) (List.replicate ns.length 0)) (100 * t)) ∧ Lb wr o0 5 gL 3 ((lvAll ns (l.take t) (List.replicate ns.length 0)).map (Value.int .i64)) ∧ Turn (fun l => l ≠ 0) w1 (fun _ => 0) wr o0)
    case atStart => exact ⟨0, by omega, rfl, B0, ll, t3⟩
    case round =>
      clear ll t3 B0
      obtain ⟨t, hk, rfl, hbd, ll, tr⟩ := hrel
      have HK := Lib.hid hk
      have htn : t ≤ l.length := by omega
      have hwb : Below w1.heap.size w1 wr := tr.below (fun _ _ => by simp) (Nat.le_refl _)
      clear hk
      by_cases hlt : t < l.length
      · obtain ⟨b1, q1, rfl, hc1⟩ := (L1.out.below hwb).at hlt
        obtain ⟨x0, x1⟩ := HR.out (l.getD t 0) (by rw [getD_get hlt]; exact List.getElem_mem _)
        obtain ⟨x, hx⟩ := Int.eq_ofNat_of_zero_le x0
        rw [hx] at x1 hc1
        have HX := Lib.hid hx
        have hxn : x < ns.length := by omega
        have i0 : (0 : Int) ≤ (x : Int) := by omega
        obtain ⟨b2, q2, u2, rfl, hcw, hl2⟩ := ((HM.out.below HB1.out).below hwb).at hxn
        obtain ⟨A2, C2, rfl, hb2⟩ := hl2.is
        have hl2' : Far (Lst w1 (.slice A2 (nd ns x).length C2) (nd ns x)) := Far.mk (by
          obtain ⟨b3, q3, u3, e3, hc3, hl3⟩ := (HM.out.below HB1.out).at hxn
          injection e3 with e3
          injection e3 with e4 e5
          subst e4 e5
          have := (hwb.cell (p := ⟨b2, q2 + x, none⟩) (cell_lt hc3)).trans hc3
          rw [hcw] at this
          injection this with this
          rw [this]
          exact hl3)
        unfold maxLen at hb2
        clear hx hl2 x0
        go_wp2_with fail
        obtain ⟨go, hgo⟩ : ∃ go : Nat, go = gk := ⟨_, rfl⟩
        rw [← hgo] at HK
        have HGO := Lib.hid hgo
        have hs0 : (nd ns x).length ≤ 100 := HN2.out _ (nd_mem hxn)
        clear hgo
        go_loopg [33] (nd ns x).length (fun k i wr => ∃ s : Nat, k + s = (nd ns x).length ∧ i = .int .i64 s ∧ Far (Bd ns.length (lvRow x ((nd ns x).take s) (lvAll ns (l.take t) (List.replicate ns.length 0))) (100 * t + s)) ∧ Lb wr o0 5 gL 3 ((lvRow x ((nd ns x).take s) (lvAll ns (l.take t) (List.replicate ns.length 0))).map (Value.int .i64)) ∧ Turn (fun l => l ≠ 0) w1 (fun _ => 0) wr o0)
        case atStart => exact ⟨0, by omega, rfl, Far.mk (hbd.out.mono (by omega)), ll, tr⟩
        case round =>
          clear ll tr hwb
          obtain ⟨s, hk, rfl, hbd2, ll, tr⟩ := hrel
          have HK2 := Lib.hid hk
          have hsn : s ≤ (nd ns x).length := by omega
          have hwb : Below w1.heap.size w1 wr := tr.below (fun _ _ => by simp) (Nat.le_refl _)
          clear hk
          by_cases hls : s < (nd ns x).length
          · obtain ⟨b4, q4, rfl, hc4⟩ := (hl2'.out.below hwb).at hls
            obtain ⟨y0, y1⟩ := HF.out x s hxn hls
            obtain ⟨m, hm⟩ := Int.eq_ofNat_of_zero_le y0
            rw [hm] at y1 hc4
            have HY := Lib.hid hm
            have hmn : m < ns.length := by omega
            have m0 : (0 : Int) ≤ (m : Int) := by omega
            obtain ⟨ou, hou⟩ : ∃ ou, ou = lvRow x ((nd ns x).take s) (lvAll ns (l.take t) (List.replicate ns.length 0)) := ⟨_, rfl⟩
            rw [← hou] at hbd2 ll
            have cx := ll.1.cell x (getD_cell (by rw [hbd2.out.len]; exact hxn))
            have cm := ll.1.cell m (getD_cell (by rw [hbd2.out.len]; exact hmn))
            have fx := ll.1.frozen x
            have p1 := hbd2.out.lo m
            have p2 := hbd2.out.hi m
            have p3 := hbd2.out.lo x
            have p4 := hbd2.out.hi x
            have en : lvRow x ((nd ns x).take (s + 1)) (lvAll ns (l.take t) (List.replicate ns.length 0)) = ou.set x (max (ou.getD x 0) (ou.getD m 0 + 1)) := by
              rw [lvRow_snoc x (nd ns x) s hls, ← hou, hm]; rfl
            have EN := Lib.hid en
            have ll2 := ll.set_ x (.int .i64 (max (ou.getD x 0) (ou.getD m 0 + 1)))
            have tr2 : Turn (fun l => l ≠ 0) w1 (fun _ => 0) (wr.setCell ⟨gL, x, none⟩ (.int .i64 (max (ou.getD x 0) (ou.getD m 0 + 1)))) o0 := tr.setCell (.inl (by
              rcases Nat.lt_or_ge gL w1.heap.size with h1 | h1
              · exact absurd (tr.num gL h1) (by rw [ll.2]; decide)
              · exact h1)) _
            have bd2 := Far.mk (hbd2.out.step x (m : Int))
            have LL := Lib.hid ll2
            have HOU := Lib.hid hou
            clear en hm y0 hou ll2
            generalize ou.getD m 0 = cm0 at *
            generalize ou.getD x 0 = cx0 at *
            obtain ⟨mx, hmx⟩ : ∃ mx, mx = max cx0 (cm0 + 1) := ⟨_, rfl⟩
            rw [← hmx] at tr2 LL EN
            by_cases hc : cm0 + 1 ≤ cx0
            · obtain rfl : mx = cx0 := by omega
              clear hmx
              go_wp2_with fail
              go_region
              go_wp2_with fail
              go_roundg (gk - 1)
              case measure => have := HK2.out; omega
              case rel =>
                have l5 := LL.out
                rw [← List.map_set, ← EN.out] at l5
                refine ⟨s + 1, by have := HK2.out; omega, by go_num, Far.mk ?_, l5.drew, tr2.drew⟩
                rw [lvRow_snoc x (nd ns x) s hls, ← HOU.out, HY.out]
                exact bd2.out.mono (by omega)
            · obtain rfl : mx = cm0 + 1 := by omega
              clear hmx
              go_wp2_with fail
              go_region
              go_wp2_with fail
              go_roundg (gk - 1)
              case measure => have := HK2.out; omega
              case rel =>
                have l5 := LL.out
                rw [← List.map_set, ← EN.out] at l5
                refine ⟨s + 1, by have := HK2.out; omega, by go_num, Far.mk ?_, l5.drew, tr2.drew⟩
                rw [lvRow_snoc x (nd ns x) s hls, ← HOU.out, HY.out]
                exact bd2.out.mono (by omega)
          · obtain rfl : s = (nd ns x).length := by omega
            go_wp2_with fail
            go_roundg (go - 1)
            case measure => have := HK.out; have := HGO.out; omega
            case rel =>
              rw [List.take_length] at hbd2 ll
              have e : lvAll ns (l.take (t + 1)) (List.replicate ns.length 0) = lvRow x (nd ns x) (lvAll ns (l.take t) (List.replicate ns.length 0)) := by rw [lvAll_snoc ns l t hlt, HX.out]; rfl
              exact ⟨t + 1, by have := HK.out; omega, by go_num, Far.mk (by rw [e]; exact hbd2.out.mono (by omega)), by rw [e]; exact ll, tr⟩
      · obtain rfl : t = l.length := by omega
        go_wp2_with fail
        go_ret2
        rw [List.take_length] at ll
        have ee : lvAll ns l (List.replicate ns.length 0) = levels ns l := rfl
        rw [ee] at ll
        have lq := levels_len ns l
        have rr := row_of_lb ll (by rw [lq]; unfold maxLen; omega)
        rw [lq] at rr
        exact ⟨o0, _, by rw [HD.out]; rfl, by rw [HD.out]; exact rr, (Turn.of_below _ _ HB1.out).trans tr⟩
  · have HD : Hid (docLev ns = ([], z)) := Lib.hid (by unfold docLev; rw [hq]; exact if_neg hz)
    have hc2 : (z != 0) = true := by simpa using hz
    clear hq hz h
    go_enter Try.func12, Try.ntmps12
    go_wp2_with fail
    refine HC.out.mono ?_
    rintro _ w1 ⟨o1, v1, rfl, r1, hb1⟩
    have hb1 := hb1.bel
    go_wp2_with fail
    go_ret2
    exact ⟨fun _ => 0, .slice none 0 0, by rw [HD.out]; rfl, by rw [HD.out]; exact Row.nil _ _ _, Turn.of_below _ _ hb1⟩
set_option maxHeartbeats 2000000 in
theorem doclevels_any (ns : List (List Int)) (v : Value) (w : World) (h : Mat w v ns) : Calls Try.prog 15 #[v] w (LevPost ns w) := by
  have HM := Lib.hid h
  have HC := Lib.hid (docorder_any ns v w h)
  obtain ⟨l, z, hq⟩ : ∃ l z, docOrd ns = (l, z) := ⟨_, _, rfl⟩
  unfold OrdPost at HC
  rw [hq] at HC
  by_cases hz : z = 0
  · subst hz
    obtain ⟨_, h1, h2, h3⟩ := doc_ok (ns := ns) (by rw [hq])
    rw [hq] at h3
    have HO := Far.mk h3
    obtain ⟨n1, n2⟩ := longB_not h1
    have hl : l.length = ns.length := (gr_good h3).2
    have HR := Far.mk ((gr_good h3).1.rng)
    have HF := Lib.hid (formB_iff.1 h2)
    have HN2 := Lib.hid n2
    have HD : Hid (docLev ns = (levels ns l, 0)) := Lib.hid (by unfold docLev; rw [hq]; rfl)
    obtain ⟨A, C, rfl, m2, _⟩ := h
    unfold maxLen at m2
    have hll : l.length ≤ 100 := by omega
    have HL := Lib.hid hl
    clear h1 h2 h3 hq hl n2
    go_enter Try.func15, Try.ntmps15
    go_wp2_with fail
    refine HC.out.mono ?_
    rintro _ w1 ⟨o1, v1, rfl, r1, hb1⟩
    have hb1 := hb1.bel
    obtain ⟨A1, C1, rfl⟩ := row_is r1
    have L1 := Lib.hid r1.lst
    have hb1s := hb1.size
    have HB1 := Lib.hid hb1
    clear r1 hb1
    go_wp2_with (at_make; refine wpList_makeL rfl _ _ 24 3 rfl (.int .i64 0) rfl 8 Try.underlying24 (by kernel_rfl) (fun _ => 0) 5 ns.length rfl rfl (by omega) (by unfold maxLen; omega) ?_; intro w2 ll t2)
    have t3 : Turn (fun l => l ≠ 0) w1 (fun _ => 0) w2 _ := t2.mono fun _ h => h.elim
    generalize (relabel (fun _ => 0) w1.heap.size 5) = o0 at *
    obtain ⟨gL, hgL⟩ : ∃ g, g = w1.heap.size := ⟨_, rfl⟩
    rw [← hgL] at ll
    rw [← hgL]
    have e0 : List.replicate ns.length (Value.int .i64 0) = (lvAll ns (l.take 0) (List.replicate ns.length 0)).map (Value.int .i64) := by
      rw [List.take_zero]; unfold lvAll; rw [List.foldl_nil, List.map_replicate]
    rw [e0] at ll
    have B0 : Far (Bd ns.length (lvAll ns (l.take 0) (List.replicate ns.length 0)) 0) := Far.mk (Bd.start _)
    clear hgL t2 e0
    go_loopg [7] l.length (fun k i wr => ∃ t : Nat, k + t = l.length ∧ i = .int .i64 t ∧ Far (Bd ns.length (lvAll ns (l.take t) (List.replicate ns.length 0)) (100 * t)) ∧ Lb wr o0 5 gL 3 ((lvAll ns (l.take t) (List.replicate ns.length 0)).map (Value.int .i64)) ∧ Turn (fun l => l ≠ 0) w1 (fun _ => 0) wr o0)
    case atStart => exact ⟨0, by omega, rfl, B0, ll, t3⟩
    case round =>
      clear ll t3 B0
      obtain ⟨t, hk, rfl, hbd, ll, tr⟩ := hrel
      have HK := Lib.hid hk
      have htn : t ≤ l.length := by omega
      have hwb : Below w1.heap.size w1 wr := tr.below (fun _ _ => by simp) (Nat.le_refl _)
      clear hk
      by_cases hlt : t < l.length
      · obtain ⟨b1, q1, rfl, c1w⟩ := L1.out.at hlt
        obtain ⟨x0, x1⟩ := HR.out (l.getD t 0) (by rw [getD_get hlt]; exact List.getElem_mem _)
        obtain ⟨x, hx⟩ := Int.eq_ofNat_of_zero_le x0
        rw [hx] at x1 c1w
        have HX := Lib.hid hx
        have hxn : x < ns.length := by omega
        have i0 : (0 : Int) ≤ (x : Int) := by omega
        obtain ⟨b2, q2, u2, rfl, c2w, hl2⟩ := (HM.out.below HB1.out).at hxn
        obtain ⟨A2, C2, rfl, hb2⟩ := hl2.is
        have hl2' := Far.mk hl2
        have C1W := Lib.hid c1w
        have C2W := Lib.hid c2w
        clear c1w c2w
        unfold maxLen at hb2
        clear hx hl2 x0
        go_wp2_with fail
        obtain ⟨go, hgo⟩ : ∃ go : Nat, go = gk := ⟨_, rfl⟩
        rw [← hgo] at HK
        have HGO := Lib.hid hgo
        have hs0 : (nd ns x).length ≤ 100 := HN2.out _ (nd_mem hxn)
        clear hgo
        go_loopg [8] (nd ns x).length (fun k i wr => ∃ s : Nat, k + s = (nd ns x).length ∧ i = .int .i64 s ∧ Far (Bd ns.length (lvRow x ((nd ns x).take s) (lvAll ns (l.take t) (List.replicate ns.length 0))) (100 * t + s)) ∧ Lb wr o0 5 gL 3 ((lvRow x ((nd ns x).take s) (lvAll ns (l.take t) (List.replicate ns.length 0))).map (Value.int .i64)) ∧ Turn (fun l => l ≠ 0) w1 (fun _ => 0) wr o0)
        case atStart => exact ⟨0, by omega, rfl, Far.mk (hbd.out.mono (by omega)), ll, tr⟩
        case round =>
          clear ll tr hwb
          obtain ⟨s, hk, rfl, hbd2, ll, tr⟩ := hrel
          have HK2 := Lib.hid hk
          have hsn : s ≤ (nd ns x).length := by omega
          have hwb : Below w1.heap.size w1 wr := tr.below (fun _ _ => by simp) (Nat.le_refl _)
          have hc1 := (hwb.cell (p := ⟨b1, q1 + t, none⟩) (cell_lt C1W.out)).trans C1W.out
          have hc2 := (hwb.cell (p := ⟨b2, q2 + x, none⟩) (cell_lt C2W.out)).trans C2W.out
          clear hk
          by_cases hls : s < (nd ns x).length
          · obtain ⟨b4, q4, rfl, hc4⟩ := (hl2'.out.below hwb).at hls
            obtain ⟨y0, y1⟩ := HF.out x s hxn hls
            obtain ⟨m, hm⟩ := Int.eq_ofNat_of_zero_le y0
            rw [hm] at y1 hc4
            have HY := Lib.hid hm
            have hmn : m < ns.length := by omega
            have m0 : (0 : Int) ≤ (m : Int) := by omega
            obtain ⟨ou, hou⟩ : ∃ ou, ou = lvRow x ((nd ns x).take s) (lvAll ns (l.take t) (List.replicate ns.length 0)) := ⟨_, rfl⟩
            rw [← hou] at hbd2 ll
            have cx := ll.1.cell x (getD_cell (by rw [hbd2.out.len]; exact hxn))
            have cm := ll.1.cell m (getD_cell (by rw [hbd2.out.len]; exact hmn))
            have fx := ll.1.frozen x
            have p1 := hbd2.out.lo m
            have p2 := hbd2.out.hi m
            have p3 := hbd2.out.lo x
            have p4 := hbd2.out.hi x
            have en : lvRow x ((nd ns x).take (s + 1)) (lvAll ns (l.take t) (List.replicate ns.length 0)) = ou.set x (max (ou.getD x 0) (ou.getD m 0 + 1)) := by
              rw [lvRow_snoc x (nd ns x) s hls, ← hou, hm]; rfl
            have EN := Lib.hid en
            have ll2 := ll.set_ x (.int .i64 (max (ou.getD x 0) (ou.getD m 0 + 1)))
            have tr2 : Turn (fun l => l ≠ 0) w1 (fun _ => 0) (wr.setCell ⟨gL, x, none⟩ (.int .i64 (max (ou.getD x 0) (ou.getD m 0 + 1)))) o0 := tr.setCell (.inl (by
              rcases Nat.lt_or_ge gL w1.heap.size with h1 | h1
              · exact absurd (tr.num gL h1) (by rw [ll.2]; decide)
              · exact h1)) _
            have bd2 := Far.mk (hbd2.out.step x (m : Int))
            have LL := Lib.hid ll2
            have HOU := Lib.hid hou
            clear en hm y0 hou ll2
            generalize ou.getD m 0 = cm0 at *
            generalize ou.getD x 0 = cx0 at *
            obtain ⟨mx, hmx⟩ : ∃ mx, mx = max cx0 (cm0 + 1) := ⟨_, rfl⟩
            rw [← hmx] at tr2 LL EN
            by_cases hc : cm0 + 1 ≤ cx0
            · obtain rfl : mx = cx0 := by omega
              clear hmx
              go_wp2_with fail
              go_region
              go_wp2_with fail
              go_roundg (gk - 1)
              case measure => have := HK2.out; omega
              case rel =>
                have l5 := LL.out
                rw [← List.map_set, ← EN.out] at l5
                refine ⟨s + 1, by have := HK2.out; omega, by go_num, Far.mk ?_, l5.drew, tr2.drew⟩
                rw [lvRow_snoc x (nd ns x) s hls, ← HOU.out, HY.out]
                exact bd2.out.mono (by omega)
            · obtain rfl : mx = cm0 + 1 := by omega
              clear hmx
              go_wp2_with fail
              go_region
              go_wp2_with fail
              go_roundg (gk - 1)
              case measure => have := HK2.out; omega
              case rel =>
                have l5 := LL.out
                rw [← List.map_set, ← EN.out] at l5
                refine ⟨s + 1, by have := HK2.out; omega, by go_num, Far.mk ?_, l5.drew, tr2.drew⟩
                rw [lvRow_snoc x (nd ns x) s hls, ← HOU.out, HY.out]
                exact bd2.out.mono (by omega)
          · obtain rfl : s = (nd ns x).length := by omega
            go_wp2_with fail
            go_roundg (go - 1)
            case measure => have := HK.out; have := HGO.out; omega
            case rel =>
              rw [List.take_length] at hbd2 ll
              have e : lvAll ns (l.take (t + 1)) (List.replicate ns.length 0) = lvRow x (nd ns x) (lvAll ns (l.take t) (List.replicate ns.length 0)) := by rw [lvAll_snoc ns l t hlt, HX.out]; rfl
              exact ⟨t + 1, by have := HK.out; omega, by go_num, Far.mk (by rw [e]; exact hbd2.out.mono (by omega)), by rw [e]; exact ll, tr⟩
      · obtain rfl : t = l.length := by omega
        go_wp2_with fail
        go_ret2
        rw [List.take_length] at ll
        have ee : lvAll ns l (List.replicate ns.length 0) = levels ns l := rfl
        rw [ee] at ll
        have lq := levels_len ns l
        have rr := row_of_lb ll (by rw [lq]; unfold maxLen; omega)
        rw [lq] at rr
        exact ⟨o0, _, by rw [HD.out]; rfl, by rw [HD.out]; exact rr, (Turn.of_below _ _ HB1.out).trans tr⟩
  · have HD : Hid (docLev ns = ([], z)) := Lib.hid (by unfold docLev; rw [hq]; exact if_neg hz)
    have hc2 : (z != 0) = true := by simpa using hz
    clear hq hz h
    go_enter Try.func15, Try.ntmps15
    go_wp2_with fail
    refine HC.out.mono ?_
    rintro _ w1 ⟨o1, v1, rfl, r1, hb1⟩
    have hb1 := hb1.bel
    go_wp2_with fail
    go_ret2
    exact ⟨fun _ => 0, .slice none 0 0, by rw [HD.out]; rfl, by rw [HD.out]; exact Row.nil _ _ _, Turn.of_below _ _ hb1⟩
end Go.Proofs.Ytldhhoinjdkdgaa

set_option linter.unusedSimpArgs false
set_option linter.unusedVariables false
namespace Go.Proofs.Ytldhhoinjdkdgaa

inductive Rch (ns : List (List Int)) (a : Nat) : Nat → Prop
  | refl : Rch ns a a
  | step {k m : Nat} : Rch ns a k → (m : Int) ∈ nd ns k → Rch ns a m
theorem Rch.trans {ns : List (List Int)} {a b c : Nat} (h : Rch ns a b) (k : Rch ns b c) : Rch ns a c := by
  induction k with
  | refl => exact h
  | step _ hm ih => exact ih.step hm
def RchSpec (ns : List (List Int)) (a : Int) (ch : Int) (l : List Int) (c : Int) : Prop :=
  if a < 0 ∨ (ns.length : Int) ≤ a then l = [] ∧ c = 1 else if ch ≠ 0 then l = [] ∧ c = ch else c = 0 ∧ l.Pairwise (· < ·) ∧ ∀ x : Int, x ∈ l ↔ ∃ k : Nat, x = k ∧ Rch ns a.toNat k
theorem asc_ext : ∀ {l l' : List Int}, l.Pairwise (· < ·) → l'.Pairwise (· < ·) → (∀ x, x ∈ l ↔ x ∈ l') → l = l'
  | [], [], _, _, _ => rfl
  | [], b :: l', _, _, h => by have := (h b).2 (by simp); cases this
  | a :: l, [], _, _, h => by have := (h a).1 (by simp); cases this
  | a :: l, b :: l', h1, h2, h => by
    rw [List.pairwise_cons] at h1 h2
    have e : a = b := by
      rcases List.mem_cons.1 ((h a).1 (by simp)) with e | e
      · exact e
      · rcases List.mem_cons.1 ((h b).2 (by simp)) with e2 | e2
        · exact e2.symm
        · have := h2.1 a e; have := h1.1 b e2; omega
    subst e
    congr 1
    refine asc_ext h1.2 h2.2 fun x => ⟨fun hx => ?_, fun hx => ?_⟩
    · rcases List.mem_cons.1 ((h x).1 (List.mem_cons_of_mem _ hx)) with e | e
      · subst e; exact absurd (h1.1 x hx) (Int.lt_irrefl _)
      · exact e
    · rcases List.mem_cons.1 ((h x).2 (List.mem_cons_of_mem _ hx)) with e | e
      · subst e; exact absurd (h2.1 x hx) (Int.lt_irrefl _)
      · exact e
theorem RchSpec.eq {ns : List (List Int)} {a ch : Int} {l l' : List Int} {c c' : Int} (h : RchSpec ns a ch l c) (h' : RchSpec ns a ch l' c') : l = l' ∧ c = c' := by
  unfold RchSpec at h h'
  by_cases h1 : a < 0 ∨ (ns.length : Int) ≤ a
  · rw [if_pos h1] at h h'
    exact ⟨h.1.trans h'.1.symm, h.2.trans h'.2.symm⟩
  · rw [if_neg h1] at h h'
    by_cases h2 : ch ≠ 0
    · rw [if_pos h2] at h h'
      exact ⟨h.1.trans h'.1.symm, h.2.trans h'.2.symm⟩
    · rw [if_neg h2] at h h'
      exact ⟨asc_ext h.2.1 h'.2.1 fun x => (h.2.2 x).trans (h'.2.2 x).symm, h.1.trans h'.1.symm⟩
/-- what has been found so far -/
structure Found (ns : List (List Int)) (a : Nat) (ou : List Int) : Prop where
  nodup : ou.Nodup
  rng : ∀ x ∈ ou, 0 ≤ x ∧ x < ns.length
  mem : (a : Int) ∈ ou
  rch : ∀ k : Nat, (k : Int) ∈ ou → Rch ns a k
theorem Found.start {ns : List (List Int)} {a : Nat} (ha : a < ns.length) : Found ns a [(a : Int)] :=
  ⟨by simp, fun x hx => by rw [List.mem_singleton] at hx; omega, by simp, fun k hk => by
    rw [List.mem_singleton] at hk
    obtain rfl : k = a := by omega
    exact .refl⟩
theorem Found.add {ns : List (List Int)} {a : Nat} {ou : List Int} (h : Found ns a ou) {k n : Nat} (hk : (k : Int) ∈ ou) (hn : (n : Int) ∈ nd ns k) (hnn : n < ns.length) (hno : (n : Int) ∉ ou) : Found ns a (ou ++ [(n : Int)]) := by
  refine ⟨?_, ?_, List.mem_append_left _ h.mem, ?_⟩
  · rw [List.nodup_append]
    exact ⟨h.nodup, by simp, fun x hx b hb => by rw [List.mem_singleton] at hb; subst hb; exact fun e => hno (e ▸ hx)⟩
  · intro x hx
    rcases List.mem_append.1 hx with hx | hx
    · exact h.rng x hx
    · rw [List.mem_singleton] at hx; omega
  · intro j hj
    rcases List.mem_append.1 hj with hj | hj
    · exact h.rch j hj
    · rw [List.mem_singleton] at hj
      obtain rfl : j = n := by omega
      exact (h.rch k hk).step hn
theorem Found.len {ns : List (List Int)} {a : Nat} {ou : List Int} (h : Found ns a ou) : ou.length ≤ ns.length := nodup_len _ _ h.nodup h.rng
/-- closed: it is all -/
theorem Found.all {ns : List (List Int)} {a : Nat} {ou : List Int} (h : Found ns a ou) (hc : ∀ k : Nat, (k : Int) ∈ ou → ∀ n ∈ nd ns k, n ∈ ou) (x : Int) : x ∈ ou ↔ ∃ k : Nat, x = k ∧ Rch ns a k := by
  constructor
  · intro hx
    obtain ⟨k, rfl⟩ := Int.eq_ofNat_of_zero_le (h.rng x hx).1
    exact ⟨k, rfl, h.rch k hx⟩
  · rintro ⟨k, rfl, hr⟩
    induction hr with
    | refl => exact h.mem
    | step _ hm ih => exact hc _ ih _ hm
/-- the search: the first i have been asked, of the next one the first s -/
structure Bfs (ns : List (List Int)) (a : Nat) (ou : List Int) (i s : Nat) : Prop where
  found : Found ns a ou
  closed : ∀ j, j < i → j < ou.length → ∀ n ∈ nd ns (ou.getD j 0).toNat, n ∈ ou
  part : i < ou.length → ∀ c, c < s → c < (nd ns (ou.getD i 0).toNat).length → (nd ns (ou.getD i 0).toNat).getD c 0 ∈ ou
theorem Bfs.start {ns : List (List Int)} {a : Nat} (ha : a < ns.length) : Bfs ns a [(a : Int)] 0 0 := ⟨Found.start ha, fun j hj => absurd hj (Nat.not_lt_zero _), fun _ c hc => absurd hc (Nat.not_lt_zero _)⟩
theorem getD_append_left {l : List Int} {k : Nat} (hk : k < l.length) (m : List Int) : (l ++ m).getD k 0 = l.getD k 0 := by
  rw [List.getD_eq_getElem?_getD, List.getD_eq_getElem?_getD, List.getElem?_append_left hk]
theorem Bfs.old {ns : List (List Int)} {a : Nat} {ou : List Int} {i s : Nat} (h : Bfs ns a ou i s) (hm : (nd ns (ou.getD i 0).toNat).getD s 0 ∈ ou) : Bfs ns a ou i (s + 1) :=
  ⟨h.found, h.closed, fun hi c hc hl => by
    by_cases e : c = s
    · subst e; exact hm
    · exact h.part hi c (by omega) hl⟩
theorem Bfs.new {ns : List (List Int)} {a : Nat} {ou : List Int} {i s n : Nat} (h : Bfs ns a ou i s) (hi : i < ou.length) (hs : s < (nd ns (ou.getD i 0).toNat).length) (hn : (nd ns (ou.getD i 0).toNat).getD s 0 = n) (hnn : n < ns.length) (hno : (n : Int) ∉ ou) : Bfs ns a (ou ++ [(n : Int)]) i (s + 1) := by
  have hx := h.found.rng (ou.getD i 0) (by rw [getD_get hi]; exact List.getElem_mem _)
  have hmem : (((ou.getD i 0).toNat : Nat) : Int) ∈ ou := by
    rw [Int.toNat_of_nonneg hx.1, getD_get hi]; exact List.getElem_mem _
  refine ⟨h.found.add hmem (by rw [← hn, getD_get hs]; exact List.getElem_mem _) hnn hno, fun j hj hl m hm => ?_, fun _ c hc hl => ?_⟩
  · rw [getD_append_left (by omega)] at hm
    exact List.mem_append_left _ (h.closed j hj (by omega) m hm)
  · rw [getD_append_left hi] at hl ⊢
    by_cases e : c = s
    · subst e; rw [hn]; simp
    · exact List.mem_append_left _ (h.part hi c (by omega) hl)
theorem Bfs.next {ns : List (List Int)} {a : Nat} {ou : List Int} {i s : Nat} (h : Bfs ns a ou i s) (hi : i < ou.length) (hs : (nd ns (ou.getD i 0).toNat).length ≤ s) : Bfs ns a ou (i + 1) 0 := by
  refine ⟨h.found, fun j hj hl n hn => ?_, fun _ c hc => absurd hc (Nat.not_lt_zero _)⟩
  by_cases e : j = i
  · subst e
    obtain ⟨c, hc, rfl⟩ := List.mem_iff_getElem.1 hn
    rw [← getD_get hc]
    exact h.part hi c (by omega) hc
  · exact h.closed j (by omega) hl n hn
theorem Bfs.all {ns : List (List Int)} {a : Nat} {ou : List Int} {i s : Nat} (h : Bfs ns a ou i s) (hi : ou.length ≤ i) (x : Int) : x ∈ ou ↔ ∃ k : Nat, x = k ∧ Rch ns a k := by
  refine h.found.all (fun k hk n hn => ?_) x
  obtain ⟨j, hj, e⟩ := List.mem_iff_getElem.1 hk
  refine h.closed j (by omega) hj n ?_
  rw [getD_get hj, e, Int.toNat_natCast]
  exact hn
theorem sort_asc {l : List Int} (h : l.Nodup) : (l.mergeSort fun x y => decide (x ≤ y)).Pairwise (· < ·) := by
  have h1 : (l.mergeSort fun x y => decide (x ≤ y)).Pairwise (fun x y => decide (x ≤ y) = true) := List.pairwise_mergeSort (fun a b c => by simp; omega) (fun a b => by simp; omega) l
  have h2 : (l.mergeSort fun x y => decide (x ≤ y)).Nodup := (List.mergeSort_perm l _).nodup_iff.2 h
  refine (List.Pairwise.and h1 h2).imp fun {a b} hab => ?_
  have := of_decide_eq_true hab.1
  have := hab.2
  omega
theorem sort_mem {l : List Int} (x : Int) : x ∈ (l.mergeSort fun x y => decide (x ≤ y)) ↔ x ∈ l := (List.mergeSort_perm l _).mem_iff
/-- what stands in the first i flags -/
def fl (ou : List Int) (i : Nat) : List Int := ((List.range i).filter (fun k : Nat => ou.contains (k : Int))).map (fun k : Nat => (k : Int))
theorem fl_succ (ou : List Int) (i : Nat) : fl ou (i + 1) = if ou.contains (i : Int) = true then fl ou i ++ [(i : Int)] else fl ou i := by
  unfold fl
  rw [List.range_succ, List.filter_append, List.map_append]
  by_cases e : ou.contains (i : Int) = true
  · rw [if_pos e]
    simp only [List.filter_cons, List.filter_nil, e, if_true, List.map_cons, List.map_nil]
  · rw [if_neg e]
    simp only [List.filter_cons, List.filter_nil, if_neg e, List.map_nil, List.append_nil]
theorem fl_len (ou : List Int) (i : Nat) : (fl ou i).length ≤ i := by
  unfold fl
  rw [List.length_map]
  have := List.length_filter_le (fun k : Nat => ou.contains (k : Int)) (List.range i)
  rwa [List.length_range] at this
theorem fl_asc (ou : List Int) (i : Nat) : (fl ou i).Pairwise (· < ·) := by
  unfold fl
  refine (List.Pairwise.filter _ List.pairwise_lt_range).map _ fun a b h => by omega
theorem fl_mem {ns : List (List Int)} {ou : List Int} (h : ∀ x ∈ ou, 0 ≤ x ∧ x < ns.length) (x : Int) : x ∈ fl ou ns.length ↔ x ∈ ou := by
  unfold fl
  rw [List.mem_map]
  constructor
  · rintro ⟨k, hk, rfl⟩
    rw [List.mem_filter] at hk
    simpa using hk.2
  · intro hx
    obtain ⟨h1, h2⟩ := h x hx
    obtain ⟨k, rfl⟩ := Int.eq_ofNat_of_zero_le h1
    exact ⟨k, by rw [List.mem_filter]; exact ⟨List.mem_range.2 (by omega), by simpa using hx⟩, rfl⟩
theorem len_all : ∀ (N : Nat) (l : List Int), (∀ k : Nat, k < N → (k : Int) ∈ l) → N ≤ l.length
  | 0, _, _ => Nat.zero_le _
  | N + 1, l, h => by
    have h1 := len_all N (l.erase (N : Int)) (fun k hk => (List.mem_erase_of_ne (by omega)).2 (h k (by omega)))
    have h2 := List.length_erase_of_mem (h N (Nat.lt_succ_self _))
    have h3 := List.length_pos_of_mem (h N (Nat.lt_succ_self _))
    omega
/-- there is no order just where a thing needs itself, by others or at once -/
theorem ring_iff {ns : List (List Int)} (hf : ∀ i c, i < ns.length → c < (nd ns i).length → 0 ≤ (nd ns i).getD c 0 ∧ (nd ns i).getD c 0 < (ns.length : Int)) :
    ord ns = none ↔ ∃ i n : Nat, i < ns.length ∧ (n : Int) ∈ nd ns i ∧ Rch ns n i := by
  classical
  have hb : ∀ i n : Nat, i < ns.length → (n : Int) ∈ nd ns i → n < ns.length := fun i n hi hn => by
    obtain ⟨c, hc, e⟩ := List.mem_iff_getElem.1 hn
    have := (hf i c hi hc).2
    rw [getD_get hc, e] at this
    omega
  constructor
  · intro h
    obtain ⟨t, out, h1, h2, h3⟩ : ∃ t out, t < ns.length ∧ gr ns t = some out ∧ pick ns out = none := by
      have key : ∀ T, gr ns T = none → ∃ t out, t < T ∧ gr ns t = some out ∧ pick ns out = none := by
        intro T
        induction T with
        | zero => intro h; cases h
        | succ T ih =>
          intro h
          cases h1 : gr ns T with
          | none =>
            obtain ⟨t, out, a, b, c⟩ := ih h1
            exact ⟨t, out, by omega, b, c⟩
          | some out =>
            cases hp : pick ns out with
            | none => exact ⟨T, out, by omega, h1, hp⟩
            | some i => rw [gr_step h1 hp] at h; cases h
      exact key _ h
    obtain ⟨g, hl⟩ := gr_good h2
    have hsucc : ∀ k : Nat, k < ns.length → (k : Int) ∉ out → ∃ n : Nat, (n : Int) ∈ nd ns k ∧ n < ns.length ∧ (n : Int) ∉ out := fun k hk hko => by
      have hr := pick_none.1 h3 k hk
      have : ¬ (nd ns k).all (fun x => out.contains x) = true := fun hall => by
        have : rdy ns out k = true := rdy_iff.2 ⟨hko, lack_zero.2 hall⟩
        rw [hr] at this; cases this
      rw [List.all_eq_true] at this
      obtain ⟨x, hx⟩ := Classical.not_forall.1 this
      obtain ⟨hx1, hx2⟩ := Classical.not_imp.1 hx
      obtain ⟨c, hc, rfl⟩ := List.mem_iff_getElem.1 hx1
      have hbb := hf k c hk hc
      rw [getD_get hc] at hbb
      obtain ⟨n, hn⟩ := Int.eq_ofNat_of_zero_le hbb.1
      rw [hn] at hx1 hx2 hbb
      exact ⟨n, hx1, by omega, by simpa using hx2⟩
    obtain ⟨k0, hk0, hk0o⟩ : ∃ k : Nat, k < ns.length ∧ (k : Int) ∉ out := by
      refine Classical.byContradiction fun hno => ?_
      have hall : ∀ k : Nat, k < ns.length → (k : Int) ∈ out := fun k hk => Classical.byContradiction fun hk2 => hno ⟨k, hk, hk2⟩
      have := len_all ns.length out hall
      omega
    have key : ∀ m k : Nat, ((List.range ns.length).filter (fun j => decide (Rch ns k j))).length ≤ m → k < ns.length → (k : Int) ∉ out → ∃ i n : Nat, i < ns.length ∧ (n : Int) ∈ nd ns i ∧ Rch ns n i := by
      intro m
      induction m with
      | zero =>
        intro k hm hk _
        have : k ∈ (List.range ns.length).filter (fun j => decide (Rch ns k j)) := by
          rw [List.mem_filter]; exact ⟨List.mem_range.2 hk, decide_eq_true .refl⟩
        rw [List.length_eq_zero_iff.1 (Nat.le_zero.1 hm)] at this
        cases this
      | succ m ih =>
        intro k hm hk hko
        obtain ⟨n, hn1, hn2, hn3⟩ := hsucc k hk hko
        by_cases hr : Rch ns n k
        · exact ⟨k, n, hk, hn1, hr⟩
        · refine ih n ?_ hn2 hn3
          have hlt : ((List.range ns.length).filter (fun j => decide (Rch ns n j))).length < ((List.range ns.length).filter (fun j => decide (Rch ns k j))).length := by
            rw [← List.countP_eq_length_filter, ← List.countP_eq_length_filter]
            have h6 : (List.range ns.length).countP (fun j => decide (Rch ns n j)) + 1 ≤ (List.range ns.length).countP (fun j => decide (Rch ns k j)) := by
              have h7 : (List.range ns.length).countP (fun j => decide (Rch ns n j) || decide (j = k)) ≤ (List.range ns.length).countP (fun j => decide (Rch ns k j)) := by
                refine List.countP_mono_left fun j _ hj => ?_
                rw [Bool.or_eq_true] at hj
                rcases hj with hj | hj
                · exact decide_eq_true ((Rch.step .refl hn1).trans (of_decide_eq_true hj))
                · have := of_decide_eq_true hj
                  subst this
                  exact decide_eq_true .refl
              refine Nat.le_trans ?_ h7
              have h8 := filter_add (p := fun j => decide (Rch ns n j)) (q := fun j => decide (Rch ns n j) || decide (j = k)) (l := List.range ns.length) (k := k) List.nodup_range (List.mem_range.2 hk) (decide_eq_false hr) (by simp) (fun j hj => by simp [hj])
              rw [List.countP_eq_length_filter, List.countP_eq_length_filter, h8.length_eq, List.length_cons]
              exact Nat.le_refl _
            exact h6
          omega
    exact key _ k0 (Nat.le_refl _) hk0 hk0o
  · rintro ⟨i, n, hi, hn, hr⟩
    cases h : ord ns with
    | none => rfl
    | some l =>
      exfalso
      have h1 := ord_ahead h hi hn (hb i n hi hn)
      have key : ∀ j, Rch ns n j → j < ns.length ∧ at_ l j ≤ at_ l n := by
        intro j hj
        induction hj with
        | refl => exact ⟨hb i n hi hn, Nat.le_refl _⟩
        | step _ hm ih =>
          have hb2 := hb _ _ ih.1 hm
          have := ord_ahead h ih.1 hm hb2
          exact ⟨hb2, by omega⟩
      have := (key i hr).2
      omega
end Go.Proofs.Ytldhhoinjdkdgaa
