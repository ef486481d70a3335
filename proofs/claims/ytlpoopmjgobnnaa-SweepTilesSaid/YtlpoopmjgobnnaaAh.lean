/- Rows of the call's own: however many things are appended, copies, stores. -/
import Derived.Test.YtlpoopmjgobnnaaAg
import Derived.Deep.Upon
import Derived.Deep.AppendSrc
import Derived.OwnWalk
set_option linter.unusedSimpArgs false
set_option linter.unusedVariables false
namespace Go.Proofs.Ytlpoopmjgobnnaa
open Go.RowKit

theorem Ro.cap {w : World} {o : Nat → Nat} {l k n C : Nat} {t : TypeId} {A : Option Addr} {cs : List Value} (h : Ro w o l t k (.slice A n C) n cs) : n ≤ C ∧ C ≤ maxLen := by
  rcases h.1.2 with ⟨hv, h0⟩ | ⟨g, cap, cur, hv, _, hg, h1, h2, h3, h4⟩
  · injection hv with e1 e2 e3
    subst e3
    exact ⟨by omega, Nat.zero_le _⟩
  · injection hv with e1 e2 e3
    subst e3
    exact ⟨h1, h2⟩
theorem Ro.addr {w : World} {o : Nat → Nat} {l k n C : Nat} {t : TypeId} {A : Option Addr} {cs : List Value} (h : Ro w o l t k (.slice A n C) n cs) (hC : 0 < C) : ∃ g, A = some ⟨g, 0, none⟩ := by
  rcases h.1.2 with ⟨hv, h0⟩ | ⟨g, cap, cur, hv, _⟩
  · injection hv with e1 e2 e3
    omega
  · injection hv with e1 e2 e3
    exact ⟨g, e1⟩
theorem Ro.renum {w' : World} {o' : Nat → Nat} {l k n : Nat} {t : TypeId} {v : Value} {cs : List Value} (h : Ro w' o' l t k v n cs) {B : Nat} (hnew : ∀ g, o' g = l → B ≤ g) (o : Nat → Nat) (L : Nat) : Ro w' (relabel o B L) L t k v n cs := ⟨h.1, fun g hg => relabel_new (hnew g (h.2 g hg))⟩
theorem wpList_pushM {w : World} {ops : Array Oper} {rest : List Oper} {o : Oper} {a : Act} {Q : Exit → Act → World → Prop} (hgd : o.guard = none) (s x : Operand) (t e : TypeId) (k : Nat) (bytes : Nat) (z : Value)
    (ho : o.op = .call { callee := .builtin .append, args := #[s, x], argTypes := #[t, t] }) (ht : Try.prog.underlying t = some (.slice e))
    (hi : (Try.prog.info? e).map (fun i => (i.zero, i.size, i.bytes)) = some (some z, k, bytes)) (hzk : z.cells.size = k) (hk : 0 < k)
    (own : Nat → Nat) (l : Nat) (v : Value) (n : Nat) (ds : List Value) (hs : a.eval s = v) (hrow : Ro w own l e k v n ds)
    (A : Option Addr) (m c : Nat) (news : List Value) (hx : a.eval x = .slice A m c) (hl : news.length = m * k) (hnews : 0 < m → ∃ ad, A = some ad ∧ ∀ j u, news[j]? = some u → w.cell? (ad.add j) = some u) (h1 : ∀ u ∈ news, u.oneCell' = true) (hlen : (n + m) * bytes ≤ 140737488355328) (h63 : n + m ≤ maxLen)
    (h : ∀ A' C' w', Ro w' (relabel own w.heap.size l) l e k (.slice A' (n + m) C') (n + m) (ds ++ news) → Turn (· = l) w own w' (relabel own w.heap.size l) → wpList Try.prog ops Q rest (a.put o.dst (.slice A' (n + m) C')) w') :
    wpList Try.prog ops Q (o :: rest) a w := by
  rcases Nat.eq_zero_or_pos m with rfl | hm
  · have hn : news = [] := List.eq_nil_of_length_eq_zero (by rw [hl, Nat.zero_mul])
    subst hn
    obtain ⟨i0, hi0, hz0, hz1, hz2⟩ := info_parts hi
    have hsrc : Src Try.prog i0.size t (.slice A 0 c) 0 [] w := by
      cases A with
      | none => exact Src.ofNil w ht c
      | some ad => exact Src.ofSlice w ht ad 0 c [] (by simp) (fun j u hu => by simp at hu) (fun u hu => by cases hu)
    obtain ⟨A', C', rfl, hc⟩ := hrow.sl.is
    have hcap := Ro.cap hrow
    have hr := run_append_nothing (P := Try.prog) w t t o.type e i0 ht hi0 A' n C' hcap.1 (.slice A 0 c) hsrc
    refine wpList_plain hgd fun K hK => ?_
    unfold Oper.wp execOp
    simp only [ho, resolve, invoke, builtin, Sem.run_bind, Sem.run_pure, Result.andThen_ok, List.map_toArray, List.map_cons, List.map_nil, hs, hx, hr]
    refine hK _ _ (h A' C' w ?_ ?_)
    · rw [List.append_nil]
      exact ⟨hrow.1, fun g hg => by rw [relabel_old (hrow.1.lt g hg).2]; exact hrow.2 g hg⟩
    · exact (Turn.refl _ _ _).relabel (Nat.le_refl _) _
  · obtain ⟨ad, rfl, hn⟩ := hnews hm
    exact wpList_pushR hgd s x t e k bytes z ho ht hi hzk hk own l v n ds hs hrow ad m c news hx hl hn h1 hm hlen h63 (fun g cap w' h1 h2 _ => h _ _ w' h1 h2)
/-- old blocks bear 0, the others 1 -/
def ob (B : Nat) : Nat → Nat := fun k => if k < B then 0 else 1
theorem ob_low {B k : Nat} (h : k < B) : ob B k = 0 := if_pos h
theorem ob_up {B k : Nat} (h : B ≤ k) : ob B k = 1 := if_neg (by omega)
theorem ob_re {B n : Nat} (h : B ≤ n) : relabel (ob B) n 1 = ob B := by
  funext k
  by_cases hk : k < n
  · exact relabel_old hk
  · rw [relabel_new (by omega), ob_up (by omega)]
/-- what is done to new blocks alone leaves the old ones -/
theorem ob_below {w0 w w' : World} (h : Turn (· = 1) w (ob w0.heap.size) w' (ob w0.heap.size)) (hb : Below w0.heap.size w0 w) : Below w0.heap.size w0 w' :=
  hb.trans (h.below (fun k hk => by rw [ob_low hk]; decide) hb.size)
theorem ob_ro {B : Nat} {w : World} {t : TypeId} {k n : Nat} {v : Value} {cs : List Value} (h : Ro w (ob B) 1 t k v n cs) (o : Nat → Nat) (l : Nat) : Ro w (relabel o B l) l t k v n cs :=
  h.renum (fun g hg => by
    rcases Nat.lt_or_ge g B with h' | h'
    · rw [ob_low h'] at hg; cases hg
    · exact h') o l
/-- a new empty row -/
theorem ob_nil (w : World) (t : TypeId) (k : Nat) (B : Nat) (hB : B ≤ w.heap.size) : Ro (w.alloc (.cells #[] t)) (ob B) 1 t k (.slice (some ⟨w.heap.size, 0, none⟩) 0 0) 0 [] :=
  Ro.of_block (cur := []) (cap := 0) ⟨Bk.new w t [], ob_up hB⟩ (Nat.le_refl _) (by unfold maxLen; omega) (by simp) (by simp)
/-- a row is copied: append onto a new empty one -/
theorem wpList_copyM {w0 : World} {ops : Array Oper} {rest : List Oper} {o : Oper} {a : Act} {Q : Exit → Act → World → Prop} (hgd : o.guard = none) (s x : Operand) (t e : TypeId) (k : Nat) (bytes : Nat) (z : Value)
    (ho : o.op = .call { callee := .builtin .append, args := #[s, x], argTypes := #[t, t] }) (ht : Try.prog.underlying t = some (.slice e))
    (hi : (Try.prog.info? e).map (fun i => (i.zero, i.size, i.bytes)) = some (some z, k, bytes)) (hzk : z.cells.size = k) (hk : 0 < k)
    (hs : a.eval s = .slice (some ⟨w0.heap.size, 0, none⟩) 0 0)
    (A : Option Addr) (m c : Nat) (news : List Value) (hx : a.eval x = .slice A m c) (hl : news.length = m * k) (hnews : 0 < m → ∃ ad, A = some ad ∧ ∀ j u, news[j]? = some u → w0.cell? (ad.add j) = some u) (h1 : ∀ u ∈ news, u.oneCell' = true) (hlen : m * bytes ≤ 140737488355328) (h63 : m ≤ maxLen)
    (h : ∀ A' C' w', Ro w' (ob w0.heap.size) 1 e k (.slice A' m C') m news → Below w0.heap.size w0 w' → wpList Try.prog ops Q rest (a.put o.dst (.slice A' m C')) w') :
    wpList Try.prog ops Q (o :: rest) a (w0.alloc (.cells #[] e)) := by
  refine wpList_pushM hgd s x t e k bytes z ho ht hi hzk hk (ob w0.heap.size) 1 _ 0 [] hs (ob_nil w0 e k w0.heap.size (Nat.le_refl _)) A m c news hx hl (fun hm => ?_) h1 (by rw [Nat.zero_add]; exact hlen) (by rw [Nat.zero_add]; exact h63) (fun A' C' w' h2 h3 => ?_)
  · obtain ⟨ad, e1, h2⟩ := hnews hm
    exact ⟨ad, e1, fun j u hj => (World.cell?_alloc_some _ _ _ (Option.isSome_iff_exists.2 ⟨u, h2 j u hj⟩)).trans (h2 j u hj)⟩
  · rw [ob_re (by rw [World.size_alloc]; exact Nat.le_succ _)] at h2 h3
    rw [List.nil_append, Nat.zero_add] at h2
    rw [Nat.zero_add]
    exact h A' C' w' h2 (ob_below (w0 := w0) h3 (Below.alloc (Below.refl _ _) (Nat.le_refl _) _))
theorem wpList_makeM {w : World} {ops : Array Oper} {rest : List Oper} {o : Oper} {a : Act} {Q : Exit → Act → World → Prop} (hg : o.guard = none) (l c : Operand) (t e : TypeId) (hop : o.op = Op.makeSlice t l c)
    (z : Value) (hz : z.cells = #[z]) (bytes : Nat) (ht : Try.prog.underlying t = some (.slice e)) (hi : (Try.prog.info? e).map (fun i => (i.zero, i.size, i.bytes)) = some (some z, 1, bytes)) (own : Nat → Nat) (lab n : Nat)
    (hl : a.eval l = .int .i64 n) (hc : a.eval c = .int .i64 n) (b2 : bytes * n ≤ 281474976710656) (b3 : n ≤ maxLen)
    (h : ∀ w', Lb w' (relabel own w.heap.size lab) lab w.heap.size e (List.replicate n z) → Turn (fun _ => False) w own w' (relabel own w.heap.size lab) → wpList Try.prog ops Q rest (a.put o.dst (.slice (some ⟨w.heap.size, 0, none⟩) n n)) w') :
    wpList Try.prog ops Q (o :: rest) a w := by
  obtain ⟨i0, hi0, hz0, hz1, hz2⟩ := info_parts hi
  refine wpList_make_full w hg l c t hop w.heap.size e i0 z 1 ht hi0 hz0 hz1 .i64 .i64 n n n hl hc rfl rfl (by rw [hz2]; exact b2) b3 (Nat.le_refl _) fun w' h1 h2 => ?_
  refine h w' ⟨?_, relabel_new (Nat.le_refl _)⟩ ⟨h2.os, h2.tape, h2.output, h2.size, fun k hk => relabel_old hk, fun k hk _ => h2.block k hk (by simp)⟩
  rcases h1.2 with ⟨hn, _⟩ | ⟨g, cap, cur, hv, _, hg', h3, h4, h5, h6⟩
  · cases hn
  · injection hv with e1 e2 e3
    injection e1 with e1
    injection e1 with e1
    subst e1 e3
    rw [hz, toList_madeCells_one, Nat.mul_one] at h6
    rw [Nat.mul_one] at h5
    rw [List.take_of_length_le (by rw [Array.length_toList, h5]; exact Nat.le_refl _)] at h6
    unfold Bk
    rw [hg', ← h6]
/-- a thing of the row is written over -/
theorem Ro.store {w : World} {o : Nat → Nat} {l k n C g : Nat} {t : TypeId} {cs : List Value} (h : Ro w o l t k (.slice (some ⟨g, 0, none⟩) n C) n cs) {j : Nat} (hj : j < n * k) (u : Value) : Ro (w.setCell ⟨g, j, none⟩ u) o l t k (.slice (some ⟨g, 0, none⟩) n C) n (cs.set j u) := by
  have hn : 0 < n := by
    rcases Nat.eq_zero_or_pos n with e | e
    · subst e; omega
    · exact e
  obtain ⟨g', cap, cur, e, h1, h2, h3, h4, h5⟩ := h.form hn
  injection e with e1 e2 e3
  injection e1 with e1
  injection e1 with e1
  subst e1 e3
  refine Ro.of_block (h4.set_ j u) h1 h2 (by rw [List.length_set]; exact h3) ?_
  rw [List.take_set, h5]
theorem Turn.store {w : World} {o : Nat → Nat} {l g j : Nat} (h : o g = l) (u : Value) : Turn (· = l) w o (w.setCell ⟨g, j, none⟩ u) o := (Turn.refl _ _ _).setCell (.inr h) u
theorem add_nought (b j : Nat) : (⟨b, 0, none⟩ : Addr).add j = ⟨b, j, none⟩ := by unfold Addr.add; split <;> simp_all
theorem ob_mono {w : World} {B B' : Nat} {t : TypeId} {k n : Nat} {v : Value} {cs : List Value} (h : Ro w (ob B) 1 t k v n cs) (hB : B' ≤ B) : Ro w (ob B') 1 t k v n cs :=
  ⟨h.1, fun g hg => by
    have := h.2 g hg
    rcases Nat.lt_or_ge g B with h' | h'
    · rw [ob_low h'] at this; cases this
    · exact ob_up (by omega)⟩
theorem ob_kept {w w' : World} {B : Nat} {t : TypeId} {k n : Nat} {v : Value} {cs : List Value} (h : Ro w (ob B) 1 t k v n cs) (hb : Below w.heap.size w w') : Ro w' (ob B) 1 t k v n cs :=
  h.relab hb (fun _ _ e => e)
end Go.Proofs.Ytlpoopmjgobnnaa
