/- Rows of things of several cells: what came in, and what the call itself makes. -/
import Derived.Test.YtlpoopmjgobnnaaYb
set_option linter.unusedSimpArgs false
set_option linter.unusedVariables false
namespace Go.Proofs.Ytlpoopmjgobnnaa
open Go.RowKit

/-- v reads as n things of k cells each -/
def Slk (w : World) (v : Value) (k n : Nat) (cs : List Value) : Prop :=
  ∃ A C, v = .slice A n C ∧ n ≤ maxLen ∧ cs.length = n * k ∧ ∀ j, j < n * k → ∃ b o, A = some ⟨b, o, none⟩ ∧ w.cell? ⟨b, o + j, none⟩ = cs[j]?
/-- v is a row of n things of k cells each of the call's own, and its block bears the number l -/
def Ro (w : World) (o : Nat → Nat) (l : Nat) (t : TypeId) (k : Nat) (v : Value) (n : Nat) (cs : List Value) : Prop := w.ownsRow 0 t k v n cs ∧ ∀ g, v.ownBlock = some g → o g = l
theorem cell_lt2 {w : World} {b o : Nat} {u : Value} (h : w.cell? ⟨b, o, none⟩ = some u) : b < w.heap.size := by
  rcases Nat.lt_or_ge b w.heap.size with hlt | hge
  · exact hlt
  · simp [World.cell?, Array.getElem?_eq_none hge] at h
section
variable {w w' : World} {o o' : Nat → Nat} {S : Nat → Prop} {l k n : Nat} {t : TypeId} {v : Value} {cs : List Value}
theorem Slk.below (h : Slk w v k n cs) (hb : Below w.heap.size w w') : Slk w' v k n cs := by
  obtain ⟨A, C, h1, h2, h3, h4⟩ := h
  refine ⟨A, C, h1, h2, h3, fun j hj => ?_⟩
  obtain ⟨b, o, h5, h6⟩ := h4 j hj
  refine ⟨b, o, h5, (hb.cell (p := ⟨b, o + j, none⟩) ?_).trans h6⟩
  rw [List.getElem?_eq_getElem (by omega)] at h6
  exact cell_lt2 h6
theorem Slk.is (h : Slk w v k n cs) : ∃ A C, v = .slice A n C ∧ n ≤ maxLen := by
  obtain ⟨A, C, h1, h2, _⟩ := h
  exact ⟨A, C, h1, h2⟩
theorem Slk.at {A : Option Addr} {n' C : Nat} (h : Slk w (.slice A n' C) k n cs) {j : Nat} (hj : j < n * k) : ∃ b o, A = some ⟨b, o, none⟩ ∧ w.cell? ⟨b, o + j, none⟩ = cs[j]? := by
  obtain ⟨A', C', h1, _, _, h3⟩ := h
  injection h1 with e1 e2 e3
  subst e1
  exact h3 j hj
theorem Slk.drewN (h : Slk w v k n cs) (m : Nat) : Slk (w.drewN m) v k n cs := h
theorem Slk.nil (w : World) (k : Nat) : Slk w (.slice none 0 0) k 0 [] := ⟨none, 0, rfl, Nat.zero_le _, by simp, fun j hj => absurd hj (by simp)⟩
theorem Ro.nil (w : World) (o : Nat → Nat) (l : Nat) (t : TypeId) (k : Nat) : Ro w o l t k (.slice none 0 0) 0 [] := ⟨World.ownsRow_nil _ _ _ _, fun g hg => by cases hg⟩
theorem Ro.length (h : Ro w o l t k v n cs) : cs.length = n * k := h.1.1
theorem Ro.turn (h : Ro w o l t k v n cs) (q : Turn S w o w' o') (hs : ¬ S l) : Ro w' o' l t k v n cs := by
  refine ⟨⟨h.1.1, ?_⟩, fun g hg => ?_⟩
  · rcases h.1.2 with hn | ⟨g, cap, cur, rfl, hb, hgg, rest⟩
    · exact .inl hn
    · refine .inr ⟨g, cap, cur, rfl, hb, ?_, rest⟩
      have hlt := (Array.getElem?_eq_some_iff.1 hgg).1
      rw [q.block g hlt (by rw [h.2 g rfl]; exact hs)]
      exact hgg
  · obtain ⟨_, hlt⟩ := h.1.lt g hg
    exact (q.num g hlt).trans (h.2 g hg)
theorem Ro.alloc (h : Ro w o l t k v n cs) (ob : Obj) : Ro (w.alloc ob) o l t k v n cs := ⟨h.1.alloc ob, h.2⟩
theorem Ro.drew (h : Ro w o l t k v n cs) : Ro w.drew o l t k v n cs := h
theorem Ro.drewN (h : Ro w o l t k v n cs) (m : Nat) : Ro (w.drewN m) o l t k v n cs := h
theorem Ro.set (h : Ro w o l t k v n cs) {p : Addr} (hp : o p.block ≠ l) (u : Value) : Ro (w.setCell p u) o l t k v n cs := by
  refine ⟨⟨h.1.1, ?_⟩, h.2⟩
  rcases h.1.2 with hn | ⟨g, cap, cur, rfl, hb, hgg, rest⟩
  · exact .inl hn
  · exact .inr ⟨g, cap, cur, rfl, hb, (Below.heap_setCell w p u g (fun e => hp (by rw [← e]; exact h.2 g rfl))).trans hgg, rest⟩
/-- what a row of the call's own looks like where it is not empty -/
theorem Ro.form (h : Ro w o l t k v n cs) (hne : 0 < n) : ∃ g cap cur, v = .slice (some ⟨g, 0, none⟩) n cap ∧ n ≤ cap ∧ cap ≤ maxLen ∧ cur.length = cap * k ∧ Lb w o l g t cur ∧ cur.take (n * k) = cs := by
  rcases h.1.2 with ⟨_, hn⟩ | ⟨g, cap, cur, rfl, _, hg, h1, h2, h3, h4⟩
  · omega
  · refine ⟨g, cap, cur.toList, rfl, h1, h2, by simpa using h3, ⟨by unfold Bk; simpa using hg, h.2 g rfl⟩, h4⟩
theorem Ro.sl (h : Ro w o l t k v n cs) : Slk w v k n cs := by
  by_cases hn : 0 < n
  · obtain ⟨g, cap, cur, rfl, h1, h2, h3, h4, h5⟩ := h.form hn
    refine ⟨_, _, rfl, by omega, h.1.1, fun j hj => ⟨g, 0, rfl, ?_⟩⟩
    have hc : cs[j]? = some (cs[j]'(by rw [h.1.1]; exact hj)) := List.getElem?_eq_getElem _
    rw [Nat.zero_add, hc]
    refine h4.1.cell j ?_
    rw [← hc, ← h5, List.getElem?_take_of_lt hj]
  · obtain rfl : n = 0 := by omega
    rcases h.1.2 with ⟨rfl, _⟩ | ⟨g, cap, cur, rfl, _, hg, h1, h2, h3, h4⟩
    · exact ⟨none, 0, rfl, Nat.zero_le _, h.1.1, fun j hj => absurd hj (by simp)⟩
    · exact ⟨_, _, rfl, Nat.zero_le _, h.1.1, fun j hj => absurd hj (by simp)⟩
theorem Ro.of_block {g cap : Nat} {cur : List Value} (h : Lb w o l g t cur) (h1 : n ≤ cap) (h2 : cap ≤ maxLen) (h3 : cur.length = cap * k) (h4 : cur.take (n * k) = cs) :
    Ro w o l t k (.slice (some ⟨g, 0, none⟩) n cap) n cs := by
  refine ⟨⟨?_, .inr ⟨g, cap, cur.toArray, rfl, Nat.zero_le _, h.1, h1, h2, by simpa using h3, by simpa using h4⟩⟩, fun k hk => ?_⟩
  · rw [← h4, List.length_take, h3]
    exact Nat.min_eq_left (Nat.mul_le_mul_right _ h1)
  · injection hk with hk
    subst hk
    exact h.2
/-- a row that has grown -/
theorem Ro.push {w w' : World} (h : Ro w o l t k v n cs) {m : Nat} {news : List Value} {g cap : Nat}
    (h1 : w'.ownsRow 0 t k (.slice (some ⟨g, 0, none⟩) (n + m) cap) (n + m) (cs ++ news)) (hg : w.grownBy w' v.ownBlock) (hf : v.ownBlock = some g ∨ g = w.heap.size) :
    Ro w' (relabel o w.heap.size l) l t k (.slice (some ⟨g, 0, none⟩) (n + m) cap) (n + m) (cs ++ news) ∧ Turn (· = l) w o w' (relabel o w.heap.size l) := by
  refine ⟨⟨h1, fun k hk => ?_⟩, ⟨hg.os, hg.tape, hg.output, hg.size, fun k hk => relabel_old hk, fun k hk hn => hg.block k hk fun e => hn (h.2 k e.symm)⟩⟩
  injection hk with hk
  subst hk
  rcases hf with hf | hf
  · rw [relabel_old (h.1.lt g hf).2]; exact h.2 g hf
  · subst hf; exact relabel_new (Nat.le_refl _)
theorem Ro.relab (h : Ro w o l t k v n cs) {l' : Nat} (hb : Below w.heap.size w w') (ho : ∀ g, g < w.heap.size → o g = l → o' g = l') : Ro w' o' l' t k v n cs := by
  refine ⟨⟨h.1.1, ?_⟩, fun g hg => ho g (h.1.lt g hg).2 (h.2 g hg)⟩
  rcases h.1.2 with hn | ⟨g, cap, cur, rfl, hbg, hgg, rest⟩
  · exact .inl hn
  · exact .inr ⟨g, cap, cur, rfl, hbg, (hb.block g (h.1.lt g rfl).2).trans hgg, rest⟩
end
/-- things are appended to a row, as a step of a region that draws -/
theorem step_pushR {w : World} {ops : Array Oper} {o : Oper} {a : Act} {K : Act → World → Prop} {Q : Exit → Act → World → Prop} {E : Prop} (hgd : o.guard = none) (s x : Operand) (t e : TypeId) (k : Nat) (bytes : Nat) (z : Value)
    (ho : o.op = .call { callee := .builtin .append, args := #[s, x], argTypes := #[t, t] }) (ht : Try.prog.underlying t = some (.slice e))
    (hi : (Try.prog.info? e).map (fun i => (i.zero, i.size, i.bytes)) = some (some z, k, bytes)) (hzk : z.cells.size = k) (hk : 0 < k)
    (own : Nat → Nat) (l : Nat) (v : Value) (n : Nat) (ds : List Value) (hs : a.eval s = v) (hrow : Ro w own l e k v n ds)
    (ad : Addr) (m c : Nat) (news : List Value) (hx : a.eval x = .slice (some ad) m c) (hl : news.length = m * k) (hnews : ∀ j u, news[j]? = some u → w.cell? (ad.add j) = some u) (h1 : ∀ u ∈ news, u.oneCell' = true) (hm : 0 < m) (hlen : (n + m) * bytes ≤ 140737488355328) (h63 : n + m ≤ maxLen)
    (h : ∀ g cap w', Ro w' (relabel own w.heap.size l) l e k (.slice (some ⟨g, 0, none⟩) (n + m) cap) (n + m) (ds ++ news) → Turn (· = l) w own w' (relabel own w.heap.size l) → g < w'.heap.size → K (a.put o.dst (.slice (some ⟨g, 0, none⟩) (n + m) cap)) w') :
    if Region.wanted o (yielded ops a.tmps) = true then Oper.wp Try.prog o a w K Q else E := by
  obtain ⟨i0, hi0, hz0, hz1, hz2⟩ := info_parts hi
  refine step_append_lies w hgd s x t ho 0 e i0 z k bytes ht hi0 hz0 hz1 hz2 hzk hk v n ds hs hrow.1 ad m c news hx hl hnews h1 hm h63 hlen (Nat.zero_le _) w.heap.size rfl ?_
  intro g cap w' h1 h2 h3 h4
  obtain ⟨k1, k2⟩ := hrow.push h1 h2 h3
  exact h g cap w' k1 k2 h4
/-- things are appended to a row -/
theorem wpList_pushR {w : World} {ops : Array Oper} {rest : List Oper} {o : Oper} {a : Act} {Q : Exit → Act → World → Prop} (hgd : o.guard = none) (s x : Operand) (t e : TypeId) (k : Nat) (bytes : Nat) (z : Value)
    (ho : o.op = .call { callee := .builtin .append, args := #[s, x], argTypes := #[t, t] }) (ht : Try.prog.underlying t = some (.slice e))
    (hi : (Try.prog.info? e).map (fun i => (i.zero, i.size, i.bytes)) = some (some z, k, bytes)) (hzk : z.cells.size = k) (hk : 0 < k)
    (own : Nat → Nat) (l : Nat) (v : Value) (n : Nat) (ds : List Value) (hs : a.eval s = v) (hrow : Ro w own l e k v n ds)
    (ad : Addr) (m c : Nat) (news : List Value) (hx : a.eval x = .slice (some ad) m c) (hl : news.length = m * k) (hnews : ∀ j u, news[j]? = some u → w.cell? (ad.add j) = some u) (h1 : ∀ u ∈ news, u.oneCell' = true) (hm : 0 < m) (hlen : (n + m) * bytes ≤ 140737488355328) (h63 : n + m ≤ maxLen)
    (h : ∀ g cap w', Ro w' (relabel own w.heap.size l) l e k (.slice (some ⟨g, 0, none⟩) (n + m) cap) (n + m) (ds ++ news) → Turn (· = l) w own w' (relabel own w.heap.size l) → g < w'.heap.size → wpList Try.prog ops Q rest (a.put o.dst (.slice (some ⟨g, 0, none⟩) (n + m) cap)) w') :
    wpList Try.prog ops Q (o :: rest) a w := by
  obtain ⟨i0, hi0, hz0, hz1, hz2⟩ := info_parts hi
  refine wpList_append_lies w hgd s x t ho 0 e i0 z k bytes ht hi0 hz0 hz1 hz2 hzk hk v n ds hs hrow.1 ad m c news hx hl hnews h1 hm h63 hlen (Nat.zero_le _) w.heap.size rfl ?_
  intro g cap w' h1 h2 h3 h4
  obtain ⟨k1, k2⟩ := hrow.push h1 h2 h3
  exact h g cap w' k1 k2 h4
end Go.Proofs.Ytlpoopmjgobnnaa
