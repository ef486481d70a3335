/- A slice of ints that reads as a list; a slice that holds the digits of a number. -/
import Derived.Test.YthkgjodidkpaeaaBase
import Derived.Deep.OwnRows
import Derived.Test.YthkgjodidkpaeaaDg
set_option linter.unusedSimpArgs false
set_option linter.unusedVariables false
namespace Go.Proofs.Ythkgjodidkpaeaa
open Go.RowKit

/-- from address A on lie, in a block of ints, the numbers xs (nothing is said where there are none) -/
def Sl (w : World) (A : Option Addr) (xs : List Int) : Prop :=
  xs ≠ [] → ∃ g o cs, A = some ⟨g, o, none⟩ ∧ Bk w g 3 cs ∧ ∀ j, j < xs.length → cs[o + j]? = some (.int .i64 (xs.getD j 0))
def IsSl (w : World) (v : Value) (xs : List Int) : Prop := ∃ A c, v = .slice A xs.length c ∧ xs.length ≤ c ∧ Sl w A xs
/-- v holds the digits of n, the least first -/
def Dg (w : World) (v : Value) (n : Nat) : Prop := ∃ xs, IsSl w v xs ∧ IsDg xs n
def RetDg (n : Nat) (w : World) (e : Ending) (w' : World) : Prop := ∃ v, e = .returned v ∧ Dg w' v n ∧ Below w.heap.size w w'

section
variable {w w' : World} {A : Option Addr} {xs : List Int} {v : Value} {n B : Nat}
theorem Sl.below (h : Sl w A xs) (hb : Below w.heap.size w w') : Sl w' A xs := fun hne => by
  obtain ⟨g, o, cs, e, hg, hc⟩ := h hne
  exact ⟨g, o, cs, e, hg.below hb hg.lt, hc⟩
theorem Sl.far (h : Sl w A xs) {b : Nat} {T : TypeId} {ds : List Value} (hb : Bk w b T ds) (hT : 3 ≠ T) (i : Nat) (u : Value) : Sl (w.setCell ⟨b, i, none⟩ u) A xs := fun hne => by
  obtain ⟨g, o, cs, e, hg, hc⟩ := h hne
  refine ⟨g, o, cs, e, hg.far ?_ u, hc⟩
  rintro rfl
  unfold Bk at hg hb
  rw [hg] at hb
  injection hb with hb
  injection hb with _ ht
  exact hT ht
theorem IsSl.below (h : IsSl w v xs) (hb : Below w.heap.size w w') : IsSl w' v xs := by
  obtain ⟨A, c, e, hc, hs⟩ := h
  exact ⟨A, c, e, hc, hs.below hb⟩
theorem Dg.below (h : Dg w v n) (hb : Below w.heap.size w w') : Dg w' v n := by
  obtain ⟨xs, hs, hd⟩ := h
  exact ⟨xs, hs.below hb, hd⟩
theorem Dg.far (h : Dg w v n) {b : Nat} {T : TypeId} {ds : List Value} (hb : Bk w b T ds) (hT : 3 ≠ T) (i : Nat) (u : Value) : Dg (w.setCell ⟨b, i, none⟩ u) v n := by
  obtain ⟨xs, ⟨A, c, e, hc, hs⟩, hd⟩ := h
  exact ⟨xs, ⟨A, c, e, hc, hs.far hb hT i u⟩, hd⟩
theorem Dg.drew (h : Dg w v n) : Dg w.drew v n := h
theorem Dg.drewN (h : Dg w v n) (k : Nat) : Dg (w.drewN k) v n := h
theorem Sl.take (h : Sl w A xs) (k : Nat) : Sl w A (xs.take k) := fun hne => by
  have hx : xs ≠ [] := fun e => hne (by rw [e]; simp)
  obtain ⟨g, o, cs, e, hg, hc⟩ := h hx
  refine ⟨g, o, cs, e, hg, fun j hj => ?_⟩
  rw [List.length_take] at hj
  rw [hc j (by omega), List.getD_eq_getElem?_getD, List.getD_eq_getElem?_getD, List.getElem?_take_of_lt (by omega)]
/-- the cell at a place -/
theorem Sl.at_ (h : Sl w A xs) {k : Nat} (hk : k < xs.length) : ∃ g o, A = some ⟨g, o, none⟩ ∧ g < w.heap.size ∧ w.cell? ⟨g, o + k, none⟩ = some (.int .i64 (xs.getD k 0)) := by
  obtain ⟨g, o, cs, e, hg, hc⟩ := h (by intro e; subst e; simp at hk)
  exact ⟨g, o, e, hg.lt, hg.cell _ (hc k hk)⟩
/-- a row of the call's own, read as a list of ints -/
theorem IsSl.of_own {base : Nat} (h : w.ownsRow base 3 1 v xs.length (xs.map (Value.int .i64))) : IsSl w v xs := by
  rcases h.2 with ⟨rfl, hn⟩ | ⟨g, cap, cur, rfl, hg, hh, r1, r2, r3, r4⟩
  · have : xs = [] := List.length_eq_zero_iff.1 hn
    subst this
    exact ⟨none, 0, rfl, Nat.le_refl _, fun hne => absurd rfl hne⟩
  · refine ⟨some ⟨g, 0, none⟩, cap, rfl, r1, fun hne => ⟨g, 0, cur.toList, rfl, by unfold Bk; simpa using hh, fun j hj => ?_⟩⟩
    have hu : (xs.map (Value.int .i64))[j]? = some (.int .i64 (xs.getD j 0)) := by
      rw [List.getElem?_map, List.getElem?_eq_getElem hj, getD_lt _ _ hj]; rfl
    rw [← r4, List.getElem?_take_of_lt (by omega)] at hu
    rw [Nat.zero_add]; exact hu
end

/-- where it has an address, it lies from block B on -/
def New (B : Nat) (v : Value) : Prop := ∀ g o p n c, v = .slice (some ⟨g, o, p⟩) n c → B ≤ g
theorem New.mono {B C : Nat} {v : Value} (h : New C v) (hb : B ≤ C) : New B v := fun g o p n c e => Nat.le_trans hb (h g o p n c e)
theorem New.nil (B n c : Nat) : New B (.slice none n c) := by intro g o p n c e; cases e
theorem New.same {B : Nat} {A : Option Addr} {n c : Nat} (h : New B (.slice A n c)) (k d : Nat) : New B (.slice A k d) := by
  intro g o p n' c' e; injection e with e1 e2 e3; subst e1; exact h g o p n c rfl
theorem New.at_ {B g : Nat} (h : B ≤ g) (o : Nat) (p : Option Nat) (n c : Nat) : New B (.slice (some ⟨g, o, p⟩) n c) := by
  intro g' o' p' n' c' e; injection e with e1 e2 e3; injection e1 with e1; injection e1 with e1; subst e1; exact h
theorem New.own {w : World} {B : Nat} {E : TypeId} {v : Value} {n : Nat} {xs : List Value} (h : w.ownsRow B E 1 v n xs) : New B v := by
  rcases h.2 with ⟨rfl, _⟩ | ⟨g, cap, cur, rfl, hg, _⟩
  · exact New.nil _ _ _
  · exact New.at_ hg _ _ _ _
theorem Dg.away {w : World} {v : Value} {n B b : Nat} (h : Dg w v n) (hn : New B v) (hb : b < B) (i : Nat) (u : Value) : Dg (w.setCell ⟨b, i, none⟩ u) v n := by
  obtain ⟨xs, ⟨A, c, e, hc, hs⟩, hd⟩ := h
  refine ⟨xs, ⟨A, c, e, hc, fun hne => ?_⟩, hd⟩
  obtain ⟨g, o, cs, e2, hg, hc2⟩ := hs hne
  have := hn g o none xs.length c (by rw [e, e2])
  exact ⟨g, o, cs, e2, hg.far (by show g ≠ b; omega) u, hc2⟩
/-- a block of ints, read as a list -/
theorem IsSl.of_bk {w : World} {g : Nat} {ds : List Int} {n c : Nat} (h : Bk w g 3 (ds.map (Value.int .i64))) (hn : ds.length = n) (hc : n ≤ c) : IsSl w (.slice (some ⟨g, 0, none⟩) n c) ds := by
  subst hn
  refine ⟨_, c, rfl, hc, fun hne => ⟨g, 0, _, rfl, h, fun j hj => ?_⟩⟩
  rw [Nat.zero_add, List.getElem?_map, List.getElem?_eq_getElem hj, getD_lt _ _ hj]; rfl
/-- a new row of noughts -/
def zrow (n : Nat) : List Value := (List.replicate n (0 : Int)).map (Value.int .i64)
theorem zrow_made (n : Nat) : madeCells #[.int .i64 0] n = (zrow n).toArray := by
  apply Array.ext
  · simp [madeCells, zrow]
  · intro i h1 h2
    simp [madeCells, zrow, Nat.mod_one]
theorem info_int : (Try.prog.info? 3).map (fun i => (i.zero, i.size, i.bytes)) = some (some (.int .i64 0), 1, 8) := by kernel_rfl
/-- one int is appended to a row of the call's own -/
theorem wpList_push {w : World} {ops : Array Oper} {rest : List Oper} {o : Oper} {a : Act} {Q : Exit → Act → World → Prop} (hgd : o.guard = none) (s x : Operand)
    (ho : o.op = .call { callee := .builtin .append, args := #[s, x], argTypes := #[49, 49] })
    (base : Nat) (v : Value) (ds : List Int) (hs : a.eval s = v) (hown : w.ownsRow base 3 1 v ds.length (ds.map (Value.int .i64)))
    (b : Nat) (d : Int) (hx : a.eval x = .slice (some ⟨b, 0, none⟩) 1 1) (hd : w.cell? ⟨b, 0, none⟩ = some (.int .i64 d)) (hlen : ds.length ≤ 1000000) (hbase : base ≤ w.heap.size)
    (h : ∀ v' w', w'.ownsRow base 3 1 v' (ds ++ [d]).length ((ds ++ [d]).map (Value.int .i64)) → w.grownBy w' v.ownBlock → wpList Try.prog ops Q rest (a.put o.dst v') w') : wpList Try.prog ops Q (o :: rest) a w := by
  obtain ⟨i0, hi0, hz0, hz1, hz2⟩ := info_parts info_int
  refine wpList_append_own w hgd s x 49 ho base 3 i0 (.int .i64 0) 1 8 Try.underlying49 hi0 hz0 hz1 hz2 rfl (by decide) v ds.length _ hs hown ⟨b, 0, none⟩ 1 1 [.int .i64 d] hx rfl ?_ ?_ (by unfold maxLen; omega) (by omega) hbase ?_
  · intro j u hj
    match j with
    | 0 => simp at hj; subst hj; exact hd
    | j + 1 => simp at hj
  · intro u hu
    rw [List.mem_singleton.1 hu]; rfl
  · intro v' w' h1 h2 _
    refine h v' w' ?_ h2
    rw [List.length_append, List.map_append]
    exact h1
theorem run_append_nil (w : World) (base : Nat) (i : TypeInfo) (hi : Try.prog.info? 3 = some i) (ty : TypeId)
    (v : Value) (n : Nat) (xs : List Value) (hown : w.ownsRow base 3 1 v n xs) (c : Nat) : (Builtin.append_ #[49, 49] ty #[v, .slice none 0 c]).run Try.prog w = .ok v w := by
  rcases hown.2 with ⟨rfl, rfl⟩ | ⟨g, cap, cur, rfl, _, _, hnc, _⟩
  · simp [Builtin.append_, run_underlying Try.underlying49, sizeOf, typeInfo, hi, Builtin.lenOf, Builtin.firstCells]
  · simp [Builtin.append_, run_underlying Try.underlying49, sizeOf, typeInfo, hi, Builtin.lenOf, Builtin.firstCells, hnc, storeCells]
set_option maxRecDepth 100000 in
/-- a list of ints is appended to a row of the call's own -/
theorem wpList_join {w : World} {ops : Array Oper} {rest : List Oper} {o : Oper} {a : Act} {Q : Exit → Act → World → Prop} (hgd : o.guard = none) (s x : Operand)
    (ho : o.op = .call { callee := .builtin .append, args := #[s, x], argTypes := #[49, 49] })
    (base : Nat) (v : Value) (ds : List Int) (hs : a.eval s = v) (hown : w.ownsRow base 3 1 v ds.length (ds.map (Value.int .i64)))
    (A : Option Addr) (c : Nat) (ys : List Int) (hx : a.eval x = .slice A ys.length c) (hd : Sl w A ys) (hlen : ds.length + ys.length ≤ 1000000) (hbase : base ≤ w.heap.size)
    (h : ∀ v' w', w'.ownsRow base 3 1 v' (ds ++ ys).length ((ds ++ ys).map (Value.int .i64)) → w.grownBy w' v.ownBlock → wpList Try.prog ops Q rest (a.put o.dst v') w') : wpList Try.prog ops Q (o :: rest) a w := by
  obtain ⟨i0, hi0, hz0, hz1, hz2⟩ := info_parts info_int
  rcases A with _ | ad
  · have hy : ys = [] := by
      by_cases hne : ys = []
      · exact hne
      · obtain ⟨g, o, cs, e, _⟩ := hd hne
        cases e
    subst hy
    refine wpList_plain hgd fun K hK => ?_
    have hrun := run_append_nil w base i0 hi0 o.type v ds.length _ hown c
    unfold Oper.wp execOp
    simp only [ho, resolve, invoke, builtin, Sem.run_bind, Sem.run_pure, Result.andThen_ok, List.map_toArray, List.map_cons, List.map_nil, hs, hx, List.length_nil, hrun]
    exact hK _ _ (h v w (by rw [List.append_nil]; exact hown) (World.grownBy.refl w _))
  · refine wpList_append_own w hgd s x 49 ho base 3 i0 (.int .i64 0) 1 8 Try.underlying49 hi0 hz0 hz1 hz2 rfl (by decide) v ds.length _ hs hown ad ys.length c (ys.map (Value.int .i64)) hx (by simp) ?_ ?_ (by unfold maxLen; omega) (by omega) hbase ?_
    · intro j u hj
      rw [List.getElem?_map] at hj
      by_cases hjl : j < ys.length
      · obtain ⟨g, o', e, _, hc⟩ := hd.at_ hjl
        injection e with e
        subst e
        rw [List.getElem?_eq_getElem hjl, ← getD_lt _ _ hjl] at hj
        simp only [Option.map_some, Option.some.injEq] at hj
        subst hj
        rw [← hc]
        congr 1
        unfold Addr.add
        split
        · subst_vars; rfl
        · rfl
      · rw [List.getElem?_eq_none (by omega)] at hj
        cases hj
    · intro u hu
      obtain ⟨x, _, rfl⟩ := List.mem_map.1 hu
      rfl
    · intro v' w' h1 h2 _
      refine h v' w' ?_ h2
      rw [List.length_append, List.map_append]
      exact h1
theorem make_ints (n : Nat) (hn : n ≤ 1000000) (W : World) : (Instr.makeSlice 49 (.int .i64 (n : Int)) (.int .i64 (n : Int))).run Try.prog W = .ok (.slice (some ⟨W.heap.size, 0, none⟩) n n) (W.alloc (.cells (zrow n).toArray 3)) := by
  rw [← zrow_made]
  exact run_make_row' 49 3 (.int .i64 0) 8 Try.underlying49 info_int rfl .i64 .i64 n (by omega) (by omega) W
theorem below_push {a w w' : World} {B : Nat} {E : TypeId} {v : Value} {n : Nat} {xs : List Value} (h : Below B a w) (hown : w.ownsRow B E 1 v n xs) (hg : w.grownBy w' v.ownBlock) (hB : B ≤ w.heap.size) : Below B a w' :=
  h.grown hg hB fun k hk => (hown.lt k hk).1
end Go.Proofs.Ythkgjodidkpaeaa
