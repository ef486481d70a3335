/- Memory in which several rows grow side by side: each block bears the number of the row that it belongs to. -/
import Derived.Test.YtlpoopmjgobnnaaBase
import Derived.Deep.AppendLies
import Derived.Deep.RegionLaw
import Derived.Laws.OwnMore
set_option linter.unusedSimpArgs false
set_option linter.unusedVariables false
namespace Go.Proofs.Ytlpoopmjgobnnaa
open Go.RowKit

/-- what lay in w lies in w' as it did, but for blocks whose number S allows; numbers stay -/
structure Turn (S : Nat → Prop) (w : World) (o : Nat → Nat) (w' : World) (o' : Nat → Nat) : Prop where
  os : w'.os = w.os
  tape : w'.tape = w.tape
  output : w'.output = w.output
  size : w.heap.size ≤ w'.heap.size
  num : ∀ k, k < w.heap.size → o' k = o k
  block : ∀ k, k < w.heap.size → ¬ S (o k) → w'.heap[k]? = w.heap[k]?
section
variable {S S' : Nat → Prop} {w w' w'' : World} {o o' o'' : Nat → Nat}
theorem Turn.refl (S : Nat → Prop) (w : World) (o : Nat → Nat) : Turn S w o w o := ⟨rfl, rfl, rfl, Nat.le_refl _, fun _ _ => rfl, fun _ _ _ => rfl⟩
theorem Turn.trans (h : Turn S w o w' o') (k : Turn S w' o' w'' o'') : Turn S w o w'' o'' :=
  ⟨k.os.trans h.os, k.tape.trans h.tape, k.output.trans h.output, Nat.le_trans h.size k.size, fun i hi => (k.num i (Nat.lt_of_lt_of_le hi h.size)).trans (h.num i hi),
    fun i hi hs => (k.block i (Nat.lt_of_lt_of_le hi h.size) (by rw [h.num i hi]; exact hs)).trans (h.block i hi hs)⟩
theorem Turn.mono (h : Turn S w o w' o') (hs : ∀ l, S l → S' l) : Turn S' w o w' o' := ⟨h.os, h.tape, h.output, h.size, h.num, fun i hi hn => h.block i hi fun hh => hn (hs _ hh)⟩
theorem Turn.drew (h : Turn S w o w' o') : Turn S w o w'.drew o' := ⟨h.os, h.tape, h.output, h.size, h.num, h.block⟩
theorem Turn.drewN (h : Turn S w o w' o') (n : Nat) : Turn S w o (w'.drewN n) o' := ⟨h.os, h.tape, h.output, h.size, h.num, h.block⟩
theorem Turn.alloc (h : Turn S w o w' o') (ob : Obj) : Turn S w o (w'.alloc ob) o' :=
  ⟨h.os, h.tape, h.output, by rw [World.size_alloc]; exact Nat.le_succ_of_le h.size, h.num, fun i hi hn => (Below.heap_alloc w' ob i (Nat.lt_of_lt_of_le hi h.size)).trans (h.block i hi hn)⟩
theorem Turn.setCell (h : Turn S w o w' o') {p : Addr} (hp : w.heap.size ≤ p.block ∨ S (o p.block)) (u : Value) : Turn S w o (w'.setCell p u) o' :=
  ⟨h.os, h.tape, h.output, by rw [World.size_setCell]; exact h.size, h.num, fun i hi hn => (Below.heap_setCell w' p u i (by
    rintro rfl
    rcases hp with hp | hp
    · omega
    · exact hn hp)).trans (h.block i hi hn)⟩
theorem Turn.below {B : Nat} (h : Turn S w o w' o') (hB : ∀ k, k < B → ¬ S (o k)) (hs : B ≤ w.heap.size) : Below B w w' :=
  ⟨h.os, h.tape, h.output, h.size, fun k hk => h.block k (Nat.lt_of_lt_of_le hk hs) (hB k hk)⟩
theorem Turn.of_below (S : Nat → Prop) (o : Nat → Nat) (h : Below w.heap.size w w') : Turn S w o w' o := ⟨h.os, h.tape, h.output, h.size, fun _ _ => rfl, fun k hk _ => h.block k hk⟩
theorem Turn.num0 {B : Nat} (h : Turn S w o w' o') (hs : B ≤ w.heap.size) (hB : ∀ k, k < B → o k = 0) : ∀ k, k < B → o' k = 0 := fun k hk => (h.num k (Nat.lt_of_lt_of_le hk hs)).trans (hB k hk)

/-- block g is known whole, and bears the number l -/
def Lb (w : World) (o : Nat → Nat) (l g : Nat) (t : TypeId) (cs : List Value) : Prop := Bk w g t cs ∧ o g = l
/-- v is a row of ints of the call's own, and its block bears the number l -/
def Row (w : World) (o : Nat → Nat) (l : Nat) (v : Value) (xs : List Int) : Prop := w.ownsRow 0 3 1 v xs.length (xs.map (Value.int .i64)) ∧ ∀ g, v.ownBlock = some g → o g = l
variable {l g : Nat} {t : TypeId} {cs : List Value} {v : Value} {xs : List Int}
theorem Lb.turn (h : Lb w o l g t cs) (k : Turn S w o w' o') (hs : ¬ S l) : Lb w' o' l g t cs :=
  ⟨(k.block g h.1.lt (by rw [h.2]; exact hs)).trans h.1, (k.num g h.1.lt).trans h.2⟩
theorem Lb.alloc (h : Lb w o l g t cs) (ob : Obj) : Lb (w.alloc ob) o l g t cs := ⟨h.1.alloc ob, h.2⟩
theorem Lb.drew (h : Lb w o l g t cs) : Lb w.drew o l g t cs := h
theorem Lb.drewN (h : Lb w o l g t cs) (n : Nat) : Lb (w.drewN n) o l g t cs := h
theorem Lb.set_ (h : Lb w o l g t cs) (i : Nat) (u : Value) : Lb (w.setCell ⟨g, i, none⟩ u) o l g t (cs.set i u) := ⟨h.1.set_ i u, h.2⟩
theorem Lb.far (h : Lb w o l g t cs) {p : Addr} (hp : o p.block ≠ l) (u : Value) : Lb (w.setCell p u) o l g t cs := ⟨h.1.far (fun e => hp (by rw [← e]; exact h.2)) u, h.2⟩
theorem Row.turn (h : Row w o l v xs) (k : Turn S w o w' o') (hs : ¬ S l) : Row w' o' l v xs := by
  refine ⟨⟨h.1.1, ?_⟩, fun g hg => ?_⟩
  · rcases h.1.2 with hn | ⟨g, cap, cur, rfl, hb, hgg, rest⟩
    · exact .inl hn
    · refine .inr ⟨g, cap, cur, rfl, hb, ?_, rest⟩
      have hlt := (Array.getElem?_eq_some_iff.1 hgg).1
      rw [k.block g hlt (by rw [h.2 g rfl]; exact hs)]
      exact hgg
  · obtain ⟨_, hlt⟩ := h.1.lt g hg
    exact (k.num g hlt).trans (h.2 g hg)
theorem Row.alloc (h : Row w o l v xs) (ob : Obj) : Row (w.alloc ob) o l v xs := ⟨h.1.alloc ob, h.2⟩
theorem Row.drew (h : Row w o l v xs) : Row w.drew o l v xs := h
theorem Row.drewN (h : Row w o l v xs) (n : Nat) : Row (w.drewN n) o l v xs := h
theorem Row.nil (w : World) (o : Nat → Nat) (l : Nat) : Row w o l (.slice none 0 0) [] := ⟨World.ownsRow_nil _ _ _ _, fun g hg => by cases hg⟩
theorem Row.set (h : Row w o l v xs) {p : Addr} (hp : o p.block ≠ l) (u : Value) : Row (w.setCell p u) o l v xs := by
  refine ⟨⟨h.1.1, ?_⟩, h.2⟩
  rcases h.1.2 with hn | ⟨g, cap, cur, rfl, hb, hgg, rest⟩
  · exact .inl hn
  · exact .inr ⟨g, cap, cur, rfl, hb, (Below.heap_setCell w p u g (fun e => hp (by rw [← e]; exact h.2 g rfl))).trans hgg, rest⟩
/-- what a row of the call's own looks like where it is not empty -/
theorem Row.form (h : Row w o l v xs) (hne : 0 < xs.length) : ∃ g cap cs, v = .slice (some ⟨g, 0, none⟩) xs.length cap ∧ xs.length ≤ cap ∧ cap ≤ maxLen ∧ cs.length = cap ∧ Lb w o l g 3 cs ∧ cs.take xs.length = xs.map (Value.int .i64) := by
  rcases h.1.2 with ⟨_, hn⟩ | ⟨g, cap, cur, rfl, _, hg, h1, h2, h3, h4⟩
  · omega
  · refine ⟨g, cap, cur.toList, rfl, h1, h2, by simpa using h3, ⟨by unfold Bk; simpa using hg, h.2 g rfl⟩, by simpa using h4⟩
theorem take_get {cs : List Value} {xs : List Int} (h : cs.take xs.length = xs.map (Value.int .i64)) {k : Nat} (hk : k < xs.length) : cs[k]? = some (.int .i64 (xs.getD k 0)) := by
  have e : (cs.take xs.length)[k]? = cs[k]? := List.getElem?_take_of_lt hk
  rw [← e, h, List.getElem?_map, List.getElem?_eq_getElem hk, List.getD_eq_getElem?_getD, List.getElem?_eq_getElem hk]
  rfl
theorem Row.of_block {w : World} {o : Nat → Nat} {l g cap : Nat} {cs : List Value} {xs : List Int} (h : Lb w o l g 3 cs) (h1 : xs.length ≤ cap) (h2 : cap ≤ maxLen) (h3 : cs.length = cap) (h4 : cs.take xs.length = xs.map (Value.int .i64)) :
    Row w o l (.slice (some ⟨g, 0, none⟩) xs.length cap) xs := by
  refine ⟨⟨by simp, .inr ⟨g, cap, cs.toArray, rfl, Nat.zero_le _, h.1, h1, h2, by simpa using h3, by simpa using h4⟩⟩, fun k hk => ?_⟩
  injection hk with hk
  subst hk
  exact h.2
theorem take_set {cs : List Value} {xs : List Int} (h : cs.take xs.length = xs.map (Value.int .i64)) (k : Nat) (x : Int) : (cs.set k (.int .i64 x)).take (xs.set k x).length = (xs.set k x).map (Value.int .i64) := by
  rw [List.length_set, List.take_set, h, List.map_set]
end
/-- what is new bears the number l -/
def relabel (o : Nat → Nat) (n l : Nat) : Nat → Nat := fun k => if k < n then o k else l
theorem relabel_old {o : Nat → Nat} {n l k : Nat} (h : k < n) : relabel o n l k = o k := if_pos h
theorem relabel_new {o : Nat → Nat} {n l k : Nat} (h : n ≤ k) : relabel o n l k = l := if_neg (Nat.not_lt.2 h)
theorem Turn.relabel {S : Nat → Prop} {w w' : World} {o : Nat → Nat} (h : Turn S w o w' o) {n : Nat} (hn : w.heap.size ≤ n) (l : Nat) : Turn S w o w' (relabel o n l) :=
  ⟨h.os, h.tape, h.output, h.size, fun k hk => relabel_old (Nat.lt_of_lt_of_le hk hn), h.block⟩
theorem Lb.new {w : World} (o : Nat → Nat) (l : Nat) (t : TypeId) (cs : List Value) {n : Nat} (hn : n ≤ w.heap.size) : Lb (w.alloc (.cells cs.toArray t)) (relabel o n l) l w.heap.size t cs := ⟨Bk.new w t cs, relabel_new hn⟩
/-- a row that has grown -/
theorem Row.push {w w' : World} {o : Nat → Nat} {l : Nat} {v : Value} {xs : List Int} (h : Row w o l v xs) {x : Int} {g cap : Nat}
    (h1 : w'.ownsRow 0 3 1 (.slice (some ⟨g, 0, none⟩) (xs.length + 1) cap) (xs.length + 1) (xs.map (Value.int .i64) ++ [.int .i64 x])) (hg : w.grownBy w' v.ownBlock) (hf : v.ownBlock = some g ∨ g = w.heap.size) :
    Row w' (relabel o w.heap.size l) l (.slice (some ⟨g, 0, none⟩) (xs.length + 1) cap) (xs ++ [x]) ∧ Turn (· = l) w o w' (relabel o w.heap.size l) := by
  refine ⟨⟨?_, fun k hk => ?_⟩, ⟨hg.os, hg.tape, hg.output, hg.size, fun k hk => relabel_old hk, fun k hk hn => hg.block k hk fun e => hn (h.2 k e.symm)⟩⟩
  · rw [List.length_append, List.map_append]; exact h1
  · injection hk with hk
    subst hk
    rcases hf with hf | hf
    · rw [relabel_old (h.1.lt g hf).2]; exact h.2 g hf
    · subst hf; exact relabel_new (Nat.le_refl _)
theorem info_int2 : (Try.prog.info? 3).map (fun i => (i.zero, i.size, i.bytes)) = some (some (.int .i64 0), 1, 8) := by kernel_rfl
theorem news_one {w : World} {b : Nat} {d : Int} (hd : w.cell? ⟨b, 0, none⟩ = some (.int .i64 d)) : ∀ (j : Nat) (u : Value), [Value.int .i64 d][j]? = some u → w.cell? ((⟨b, 0, none⟩ : Addr).add j) = some u := fun j u hj => by
  match j with
  | 0 => simp at hj; subst hj; exact hd
  | j + 1 => simp at hj
theorem one_cell (d : Int) : ∀ u ∈ [Value.int .i64 d], u.oneCell' = true := fun u hu => by rw [List.mem_singleton.1 hu]; rfl
/-- one int is appended to a row, as a step of a region that draws -/
theorem step_push {ops : Array Oper} {o : Oper} {a : Act} {w : World} {K : Act → World → Prop} {Q : Exit → Act → World → Prop} {E : Prop} (hgd : o.guard = none) (s x : Operand) (t : TypeId)
    (ho : o.op = .call { callee := .builtin .append, args := #[s, x], argTypes := #[t, t] }) (ht : Try.prog.underlying t = some (.slice 3))
    (own : Nat → Nat) (l : Nat) (v : Value) (ds : List Int) (hs : a.eval s = v) (hrow : Row w own l v ds)
    (b : Nat) (d : Int) (hx : a.eval x = .slice (some ⟨b, 0, none⟩) 1 1) (hd : w.cell? ⟨b, 0, none⟩ = some (.int .i64 d)) (hlen : ds.length ≤ 1000000)
    (h : ∀ g cap w', Row w' (relabel own w.heap.size l) l (.slice (some ⟨g, 0, none⟩) (ds.length + 1) cap) (ds ++ [d]) → Turn (· = l) w own w' (relabel own w.heap.size l) → g < w'.heap.size → K (a.put o.dst (.slice (some ⟨g, 0, none⟩) (ds.length + 1) cap)) w') :
    if Region.wanted o (yielded ops a.tmps) = true then Oper.wp Try.prog o a w K Q else E := by
  obtain ⟨i0, hi0, hz0, hz1, hz2⟩ := info_parts info_int2
  refine step_append_lies w hgd s x t ho 0 3 i0 (.int .i64 0) 1 8 ht hi0 hz0 hz1 hz2 rfl (by decide) v ds.length _ hs hrow.1 ⟨b, 0, none⟩ 1 1 [.int .i64 d] hx rfl (news_one hd) (one_cell d) (by decide) (by unfold maxLen; omega) (by omega) (Nat.zero_le _) w.heap.size rfl ?_
  intro g cap w' h1 h2 h3 h4
  obtain ⟨k1, k2⟩ := hrow.push h1 h2 h3
  exact h g cap w' k1 k2 h4
/-- one int is appended to a row -/
theorem wpList_pushL {w : World} {ops : Array Oper} {rest : List Oper} {o : Oper} {a : Act} {Q : Exit → Act → World → Prop} (hgd : o.guard = none) (s x : Operand) (t : TypeId)
    (ho : o.op = .call { callee := .builtin .append, args := #[s, x], argTypes := #[t, t] }) (ht : Try.prog.underlying t = some (.slice 3))
    (own : Nat → Nat) (l : Nat) (v : Value) (ds : List Int) (hs : a.eval s = v) (hrow : Row w own l v ds)
    (b : Nat) (d : Int) (hx : a.eval x = .slice (some ⟨b, 0, none⟩) 1 1) (hd : w.cell? ⟨b, 0, none⟩ = some (.int .i64 d)) (hlen : ds.length ≤ 1000000)
    (h : ∀ g cap w', Row w' (relabel own w.heap.size l) l (.slice (some ⟨g, 0, none⟩) (ds.length + 1) cap) (ds ++ [d]) → Turn (· = l) w own w' (relabel own w.heap.size l) → g < w'.heap.size → wpList Try.prog ops Q rest (a.put o.dst (.slice (some ⟨g, 0, none⟩) (ds.length + 1) cap)) w') :
    wpList Try.prog ops Q (o :: rest) a w := by
  obtain ⟨i0, hi0, hz0, hz1, hz2⟩ := info_parts info_int2
  refine wpList_append_lies w hgd s x t ho 0 3 i0 (.int .i64 0) 1 8 ht hi0 hz0 hz1 hz2 rfl (by decide) v ds.length _ hs hrow.1 ⟨b, 0, none⟩ 1 1 [.int .i64 d] hx rfl (news_one hd) (one_cell d) (by decide) (by unfold maxLen; omega) (by omega) (Nat.zero_le _) w.heap.size rfl ?_
  intro g cap w' h1 h2 h3 h4
  obtain ⟨k1, k2⟩ := hrow.push h1 h2 h3
  exact h g cap w' k1 k2 h4
end Go.Proofs.Ytlpoopmjgobnnaa
