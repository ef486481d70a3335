/- Sweep, the program's: the cover of a set. -/
import Derived.Test.YtlpoopmjgobnnaaAu
set_option linter.unusedSimpArgs false
set_option linter.unusedVariables false
namespace Go.Proofs.Ytlpoopmjgobnnaa
open Go.RowKit
attribute [local go_sem] Oper.semAt_some

theorem frame36 (arr : Array Value) (h : arr.size = 36) : ∃ u : Nat → Value, arr = #[u 0, u 1, u 2, u 3, u 4, u 5, u 6, u 7, u 8, u 9, u 10, u 11, u 12, u 13, u 14, u 15, u 16, u 17, u 18, u 19, u 20, u 21, u 22, u 23, u 24, u 25, u 26, u 27, u 28, u 29, u 30, u 31, u 32, u 33, u 34, u 35] := by
  refine ⟨fun k => arr.getD k undef, ?_⟩
  have e : arr = ((List.range 36).map fun k => arr.getD k undef).toArray := by
    apply Array.ext
    · simp [h]
    · intro i h1 h2
      simp [h1]
  exact e.trans rfl
def covT (B gf N : Nat) (v : Value) (n0 : Int) (vo : Value) (i : Nat) (u : Nat → Value) : Array Value := #[.agg #[v, .int .i64 n0], .slice (some ⟨gf, 0, none⟩) N N, .pointer (some ⟨B, 0, none⟩), .pointer (some ⟨B + 1, 0, none⟩), .slice none 0 0, vo, u 6, u 7, u 8, u 9, .int .i64 N, .int .i64 i, u 12, u 13, u 14, u 15, u 16, u 17, u 18, u 19, u 20, u 21, u 22, u 23, u 24, u 25, u 26, u 27, u 28, u 29, u 30, u 31, u 32, u 33, u 34, u 35]
theorem covT_of {B gf N i : Nat} {v vo : Value} {n0 : Int} (T : Array Value) (h : T.size = 36) (h0 : T.getD 0 undef = .agg #[v, .int .i64 n0]) (h1 : T.getD 1 undef = .slice (some ⟨gf, 0, none⟩) N N) (h2 : T.getD 2 undef = .pointer (some ⟨B, 0, none⟩)) (h3 : T.getD 3 undef = .pointer (some ⟨B + 1, 0, none⟩)) (h4 : T.getD 4 undef = .slice none 0 0) (h5 : T.getD 5 undef = vo) (h6 : T.getD 10 undef = .int .i64 N) (h7 : T.getD 11 undef = .int .i64 i) (ds : List Deferred) : ∃ u, ({ tmps := T, defers := ds } : Act) = { tmps := covT B gf N v n0 vo i u, defers := ds } := by
  obtain ⟨u, rfl⟩ := frame36 T h
  have h0' : u 0 = _ := h0
  have h1' : u 1 = _ := h1
  have h2' : u 2 = _ := h2
  have h3' : u 3 = _ := h3
  have h4' : u 4 = _ := h4
  have h5' : u 5 = _ := h5
  have h6' : u 10 = _ := h6
  have h7' : u 11 = _ := h7
  refine ⟨u, ?_⟩
  rw [h0', h1', h2', h3', h4', h5', h6', h7']
  rfl
/-- what the walk of the cover leans on beside the set and the boxes -/
structure CovK (o : Nat → Nat) (w : World) (B gf N : Nat) (v : Value) (n0 : Int) (Ds : List Nat) : Prop where
  grid : Lb w o 3 B 46 [v, .int .i64 n0]
  set_ : Lb w o 3 (B + 1) 40 [.slice (some ⟨gf, 0, none⟩) N N]
  dup : Ds.Nodup
  mark : ∀ D ∈ Ds, w.heap[D]? = some (.deferred (some [])) ∧ o D = 4
theorem CovK.turn {o o' : Nat → Nat} {w w' : World} {B gf N : Nat} {v : Value} {n0 : Int} {Ds : List Nat} {S : Nat → Prop} (h : CovK o w B gf N v n0 Ds) (t : Turn S w o w' o') (hs : ¬ S 3) (hs4 : ¬ S 4) : CovK o' w' B gf N v n0 Ds :=
  ⟨h.grid.turn t hs, h.set_.turn t hs, h.dup, fun D hD => by
    obtain ⟨h1, h2⟩ := h.mark D hD
    have hlt : D < w.heap.size := (Array.getElem?_eq_some_iff.1 h1).1
    exact ⟨(t.block D hlt (by rw [h2]; exact hs4)).trans h1, (t.num D hlt).trans h2⟩⟩
theorem CovK.lt {o : Nat → Nat} {w : World} {B gf N : Nat} {v : Value} {n0 : Int} {Ds : List Nat} (h : CovK o w B gf N v n0 Ds) : ∀ D ∈ Ds, D < w.heap.size := fun D hD => (Array.getElem?_eq_some_iff.1 (h.mark D hD).1).1
theorem CovK.add {o o' : Nat → Nat} {w w' : World} {B gf N D : Nat} {v : Value} {n0 : Int} {Ds : List Nat} {S : Nat → Prop} (h : CovK o w B gf N v n0 Ds) (t : Turn S w o w' o') (hs : ¬ S 3) (hs4 : ¬ S 4) (h1 : w.heap.size ≤ D) (h2 : w'.heap[D]? = some (.deferred (some []))) (h3 : o' D = 4) : CovK o' w' B gf N v n0 (D :: Ds) := by
  have h4 := h.turn t hs hs4
  refine ⟨h4.grid, h4.set_, List.nodup_cons.2 ⟨fun hm => ?_, h4.dup⟩, fun D' hD' => ?_⟩
  · have := h.lt D hm
    omega
  · rcases List.mem_cons.1 hD' with rfl | hD'
    · exact ⟨h2, h3⟩
    · exact h4.mark D' hD'
theorem CovM.turn_ {w0 w w' : World} {ns : List Nat} {o o' : Nat → Nat} {vf vo : Value} {G : List Bool} {bs : List (List Nat × List Nat)} {us : List Value} {S : Nat → Prop} (h : CovM w0 ns o w vf vo G bs us) (t : Turn S w o w' o') (h0 : ¬ S 0) (h1 : ¬ S 1) (h2 : ¬ S 2) (h3 : ¬ S 3) : CovM w0 ns o' w' vf vo G bs us := by
  refine ⟨h.set_.turn t h1, h.out.turn t h2, fun k hk => ?_, fun k hk => (t.num k (Nat.lt_of_lt_of_le hk h.bel.size)).trans (h.low k hk), h.bel.trans (t.below (fun k hk => by rw [h.low k hk]; exact h0) h.bel.size)⟩
  obtain ⟨u, e, hr⟩ := h.box k hk
  exact ⟨u, e, hr.turn t h3⟩
theorem CovM.clearT {w0 w w' : World} {ns : List Nat} {o o' : Nat → Nat} {vf vo : Value} {G : List Bool} {bs : List (List Nat × List Nat)} {us : List Value} (h : CovM w0 ns o w vf vo G bs us) {H : List Bool} (ht : Turn (· = 1) w o w' o') (hs : Ro w' o' 1 4 1 vf H.length (bools H)) : CovM w0 ns o' w' vf vo H bs us := by
  refine ⟨hs, h.out.turn ht (by decide), fun k hk => ?_, fun k hk => (ht.num k (Nat.lt_of_lt_of_le hk h.bel.size)).trans (h.low k hk), h.bel.trans (ht.below (fun k hk => by rw [h.low k hk]; decide) h.bel.size)⟩
  obtain ⟨u, e, hr⟩ := h.box k hk
  exact ⟨u, e, hr.turn ht (by decide)⟩
/-- a function leaves, its marks are taken: what bears another number stays -/
theorem leaves_marksT {F : Fence} {n : Nat} {P : Program} {fn : Func} {tmps : Array Value} {R : Ending → World → Prop} {u : FrameMode} {o : Nat → Nat} {l : Nat} (hu : u ≠ .run) : ∀ (Ds : List Nat) (w : World), Ds.Nodup → (∀ D ∈ Ds, w.heap[D]? = some (.deferred (some [])) ∧ o D = l) → (∀ W', Turn (· = l) w o W' o → LeavesIn F n P fn tmps R [] u W') → LeavesInM F n P fn tmps R (marks Ds) u w
  | [], w, _, _, h => h w (Turn.refl _ _ _)
  | D :: Ds, w, hn, hd, h => by
    rw [List.nodup_cons] at hn
    have h1 := hd D (List.mem_cons_self ..)
    have hlt : D < w.heap.size := (Array.getElem?_eq_some_iff.1 h1.1).1
    have hb : ∀ ob, Turn (· = l) w o (w.putObj D ob) o := fun ob => by
      have hb := below_putObj w D ob (Nat.le_refl _) (Nat.le_of_lt hlt)
      exact ⟨hb.os, hb.tape, hb.output, hb.size, fun _ _ => rfl, fun k _ hs => World.putObj_heap_other (fun e => hs (by rw [← h1.2, e]))⟩
    refine ⟨hu, .inl ⟨D, _, rfl, run_takeDeferred h1.1, leaves_marksT hu Ds _ hn.2 (fun D' h' => ?_) fun W' hW => h W' ((hb _).trans hW)⟩⟩
    have h2 := hd D' (List.mem_cons_of_mem _ h')
    exact ⟨(World.putObj_heap_other (fun e => hn.1 (by rw [← e]; exact h'))).trans h2.1, h2.2⟩
def CovI (w0 : World) (ns : List Nat) (F : List Bool) (R : List (List Nat × List Nat)) (B gf : Nat) (v : Value) (n0 : Int) (a : Act) (w : World) : Prop :=
  ∃ (u : Nat → Value) (i : Nat) (G : List Bool) (bs : List (List Nat × List Nat)) (us : List Value) (o : Nat → Nat) (Ds : List Nat) (vo : Value), a = { tmps := covT B gf F.length v n0 vo i u, defers := marks Ds } ∧ i ≤ F.length ∧
    CovM w0 ns o w (.slice (some ⟨gf, 0, none⟩) F.length F.length) vo G bs us ∧ G.length = F.length ∧ bs ++ covL ns (F.length - i) i G = R ∧ CovK o w B gf F.length v n0 Ds
def CvPost (ns : List Nat) (F : List Bool) (w0 : World) (e : Ending) (w' : World) : Prop := ∃ r, e = .returned r ∧ Below w0.heap.size w0 w' ∧ Bxs w' r (covL ns F.length 0 F)
def at11 (a : Act) : Nat := match a.tmps.getD 11 undef with
  | .int _ i => i.toNat
  | _ => 0
theorem wpListIn_pushR {Fe : Fence} {nn : Nat} {w : World} {ops : Array Oper} {rest : List Oper} {o : Oper} {a : Act} {Q : Exit → Act → World → Prop} (hgd : o.guard = none) (s x : Operand) (t e : TypeId) (k : Nat) (bytes : Nat) (z : Value)
    (ho : o.op = .call { callee := .builtin .append, args := #[s, x], argTypes := #[t, t] }) (ht : Try.prog.underlying t = some (.slice e))
    (hi : (Try.prog.info? e).map (fun i => (i.zero, i.size, i.bytes)) = some (some z, k, bytes)) (hzk : z.cells.size = k) (hk : 0 < k)
    (own : Nat → Nat) (l : Nat) (v : Value) (n : Nat) (ds : List Value) (hs : a.eval s = v) (hrow : Ro w own l e k v n ds)
    (ad : Addr) (m c : Nat) (news : List Value) (hx : a.eval x = .slice (some ad) m c) (hl : news.length = m * k) (hnews : ∀ j u, news[j]? = some u → w.cell? (ad.add j) = some u) (h1 : ∀ u ∈ news, u.oneCell' = true) (hm : 0 < m) (hlen : (n + m) * bytes ≤ 140737488355328) (h63 : n + m ≤ maxLen)
    (h : ∀ g cap w', Ro w' (relabel own w.heap.size l) l e k (.slice (some ⟨g, 0, none⟩) (n + m) cap) (n + m) (ds ++ news) → Turn (· = l) w own w' (relabel own w.heap.size l) → g < w'.heap.size → wpListIn Fe nn Try.prog ops Q rest (a.put o.dst (.slice (some ⟨g, 0, none⟩) (n + m) cap)) w') :
    wpListIn Fe nn Try.prog ops Q (o :: rest) a w := by
  obtain ⟨i0, hi0, hz0, hz1, hz2⟩ := info_parts hi
  refine wpListIn_plain hgd fun K hK' => ?_
  obtain ⟨g, cap, w', hrun, r1, r2, r3, r4⟩ := run_append_lies (P := Try.prog) (w := w) t o.type 0 e i0 z k bytes ht hi0 hz0 hz1 hz2 hzk hk v n ds hrow.1 ad m c news hl hnews h1 hm h63 hlen (Nat.zero_le _) w.heap.size rfl
  obtain ⟨k1, k2⟩ := hrow.push r1 r2 r3
  unfold Oper.wpIn
  refine ⟨?_, ?_⟩
  · simp [Oper.about, ho, resolve, Target.leads, Sem.run_pure]
  · rw [Oper.semAt_plain Fe _ _ (by rw [ho]; intro c hc'; cases hc')]
    simp [execOp, ho, resolve, invoke, builtin, hs, hx, hrun, Result.andThen]
    exact hK' _ _ (h g cap w' k1 k2 r4)
theorem cxsS_ro {w : World} {o : Nat → Nat} {s l n : Nat} {v : Value} {lo hi : List Nat} (h : Ro w o l 37 1 v n (cxs lo hi n)) (hl : lo.length = n) (hs : o s ≠ l) : CxsS s w v lo hi :=
  ⟨ro_cxs h hl, fun A m C b q e1 hm e2 => by
    subst e1 e2
    intro e
    subst e
    exact hs (h.2 _ rfl)⟩
theorem cov_next {w0 w : World} {ns : List Nat} {F G : List Bool} {R bs : List (List Nat × List Nat)} {B gf i : Nat} {v vo : Value} {n0 : Int} {us : List Value} {o : Nat → Nat} {Ds : List Nat} {T T0 : Array Value} {d0 : List Deferred} (h : T.size = 36) (h0 : T.getD 0 undef = .agg #[v, .int .i64 n0]) (h1 : T.getD 1 undef = .slice (some ⟨gf, 0, none⟩) F.length F.length) (h2 : T.getD 2 undef = .pointer (some ⟨B, 0, none⟩)) (h3 : T.getD 3 undef = .pointer (some ⟨B + 1, 0, none⟩)) (h4 : T.getD 4 undef = .slice none 0 0) (h5 : T.getD 5 undef = vo) (h6 : T.getD 10 undef = .int .i64 F.length) (h7 : T.getD 11 undef = .int .i64 ((i : Int) + 1)) (h8 : T0.getD 11 undef = .int .i64 (i : Int)) (hi : i < F.length) (hs : F.length ≤ 4000)
    (hM : CovM w0 ns o w (.slice (some ⟨gf, 0, none⟩) F.length F.length) vo G bs us) (hG : G.length = F.length) (hR : bs ++ covL ns (F.length - (i + 1)) (i + 1) G = R) (hK : CovK o w B gf F.length v n0 Ds) :
    CovI w0 ns F R B gf v n0 { tmps := T, defers := marks Ds } w ∧ F.length - at11 { tmps := T, defers := marks Ds } < F.length - at11 { tmps := T0, defers := d0 } := by
  have h9 : T.getD 11 undef = .int .i64 ((i + 1 : Nat) : Int) := by rw [h7, Int.natCast_add]; rfl
  obtain ⟨u, hu⟩ := covT_of T h h0 h1 h2 h3 h4 h5 h6 h9 (marks Ds)
  refine ⟨⟨u, i + 1, G, bs, us, o, Ds, vo, hu, hi, hM, hG, hR, hK⟩, ?_⟩
  have e1 : at11 { tmps := T, defers := marks Ds } = i + 1 := by
    unfold at11
    rw [show ({ tmps := T, defers := marks Ds } : Act).tmps = T from rfl, h9]
    exact Int.toNat_natCast _
  have e2 : at11 { tmps := T0, defers := d0 } = i := by
    unfold at11
    rw [show ({ tmps := T0, defers := d0 } : Act).tmps = T0 from rfl, h8]
    exact Int.toNat_natCast _
  rw [e1, e2]
  omega
set_option maxRecDepth 100000 in
set_option maxHeartbeats 2000000 in
theorem cover_any (ns : List Nat) (F : List Bool) (v : Value) (n0 : Int) (gf : Nat) (o : Nat → Nat) (w0 w : World) (h4 : prodL ns ≤ 4000) (hF : F.length = prodL ns) (hnl : ns.length ≤ 1000) (h : Lst w0 v (zs ns)) (hc : CovM w0 ns o w (.slice (some ⟨gf, 0, none⟩) F.length F.length) (.slice none 0 0) F [] []) :
    Calls Try.prog 20 #[.agg #[v, .int .i64 n0], .slice (some ⟨gf, 0, none⟩) F.length F.length] w (CvPost ns F w0) := by
  have HN := Lib.hid h
  have HC := Lib.hid hc
  have H4 := Lib.hid (And.intro h4 hF)
  clear h hc hF
  unfold CvPost
  refine (callsIn_wide (n := 3)).1 ?_
  refine callsIn_of_wp_marks Try.func20 rfl trivial ?_ rfl
  simp only [Try.ntmps20, List.size_toArray, List.length_cons, List.length_nil, Nat.reduceAdd, Nat.reduceSub, Array.replicate_succ, Array.replicate_zero, List.push_toArray, List.append_toArray, List.nil_append, List.cons_append]
  obtain ⟨B, hB⟩ : ∃ B, B = w.heap.size := ⟨_, rfl⟩
  obtain ⟨R, hR⟩ : ∃ R, R = covL ns F.length 0 F := ⟨_, rfl⟩
  rw [← hR]
  have HR := Lib.hid hR
  clear hR
  gi_wp2
  rw [← hB]
  have hst : CovI w0 ns F R B gf v n0 { tmps := #[.agg #[v, .int .i64 n0], .slice (some ⟨gf, 0, none⟩) F.length F.length, .pointer (some ⟨B, 0, none⟩), .pointer (some ⟨B + 1, 0, none⟩), .slice none 0 0, .slice none 0 0, undef, undef, undef, .slice (some ⟨gf, 0, none⟩) F.length F.length, .int .i64 F.length, .int .i64 0, undef, undef, undef, undef, undef, undef, undef, undef, undef, undef, undef, undef, undef, undef, undef, undef, undef, undef, undef, undef, undef, undef, undef, undef], defers := [] } ((w.alloc (.cells #[v, .int .i64 n0] 46)).alloc (.cells #[.slice (some ⟨gf, 0, none⟩) F.length F.length] 40)) := by
    obtain ⟨u, hu⟩ := covT_of (B := B) (gf := gf) (N := F.length) (i := 0) (v := v) (vo := .slice none 0 0) (n0 := n0) #[.agg #[v, .int .i64 n0], .slice (some ⟨gf, 0, none⟩) F.length F.length, .pointer (some ⟨B, 0, none⟩), .pointer (some ⟨B + 1, 0, none⟩), .slice none 0 0, .slice none 0 0, undef, undef, undef, .slice (some ⟨gf, 0, none⟩) F.length F.length, .int .i64 F.length, .int .i64 0, undef, undef, undef, undef, undef, undef, undef, undef, undef, undef, undef, undef, undef, undef, undef, undef, undef, undef, undef, undef, undef, undef, undef, undef] rfl rfl rfl rfl rfl rfl rfl rfl rfl []
    refine ⟨u, 0, F, [], [], relabel o w.heap.size 3, [], .slice none 0 0, hu, Nat.zero_le _, HC.out.kept (((Below.refl _ _).alloc (Nat.le_refl _) _).alloc (by simp only [World.size_alloc]; omega) _), rfl, by rw [Nat.sub_zero, List.nil_append, HR.out], ⟨⟨?_, ?_⟩, ⟨?_, ?_⟩, List.nodup_nil, fun D hD => absurd hD List.not_mem_nil⟩⟩
    · rw [hB]; exact (Bk.new_ rfl).alloc _
    · exact relabel_new (by omega)
    · exact Bk.new_ (by rw [World.size_alloc, hB])
    · exact relabel_new (by omega)
  refine wpIn_loop (CovI w0 ns F R B gf v n0) (fun a _ => F.length - at11 a) hst ?_
  clear hst
  rintro a wr ⟨u, i, G, bs, us, o2, Ds, vo, rfl, hi, hcm, hgl, hcv, hck⟩
  have HM := Lib.hid hcm
  have HK := Lib.hid hck
  have HCV := Lib.hid hcv
  have HGL := Lib.hid hgl
  have HBE := Lib.hid hB
  have cB := hck.set_.1.cell 0 rfl
  clear hcm hck hcv hgl hB HC
  by_cases hlt : i < F.length
  · obtain ⟨b1, p1, e1, c1⟩ := (HM.out.set_.sl.at (j := i) (by rw [Nat.mul_one, HGL.out]; exact hlt))
    injection e1 with e1
    injection e1 with e11 e12
    subst e11 e12
    rw [bools_get (by rw [HGL.out]; exact hlt), Nat.zero_add] at c1
    have hsub : F.length - i = (F.length - (i + 1)) + 1 := by omega
    have hcv := HCV.out
    rw [hsub, covL] at hcv
    have hF4 : F.length ≤ 4000 := by rw [H4.out.2]; exact H4.out.1
    clear hsub HCV
    cases hG : G.getD i false with
    | false =>
      rw [hG] at c1 hcv
      rw [if_neg (by decide)] at hcv
      have HCV := Lib.hid hcv
      clear hcv hG
      unfold covT
      gi_wp2
      exact cov_next rfl rfl rfl rfl rfl rfl rfl rfl rfl rfl hlt hF4 HM.out HGL.out HCV.out HK.out
    | true =>
      rw [hG] at c1 hcv
      rw [if_pos rfl] at hcv
      have HCV := Lib.hid hcv
      have hgr := HK.out.grid.1
      have d0 := hgr.cell 0 rfl
      have d1 := hgr.cell 1 rfl
      clear hcv hG hgr
      unfold covT
      gi_wp2
      have hpp : 0 < prodL ns := by have := H4.out.2; omega
      have HGW := Lib.hid (grow_any ns G i v (.slice (some ⟨gf, 0, none⟩) F.length F.length) n0 wr hpp H4.out.1 hnl (HGL.out.trans H4.out.2) (by omega) (HN.out.below HM.out.bel) (ro_bls (by have := HM.out.set_; rw [HGL.out] at this; exact this) HGL.out))
      unfold GrowPost at HGW
      refine ⟨trivial, ((callsIn_wide (n := 2)).2 HGW.out).mono ?_⟩
      rintro _ w5 ⟨r5, rfl, hb5, hr5⟩
      have hbx := boxL_bx (F := G) hpp i
      have hlt5 : i < prodL ns := by rw [← H4.out.2]; exact hlt
      have hself := box_self (F := G) hlt5
      have hM5 := HM.out.kept hb5
      have t5 : Turn (fun _ => False) wr o2 w5 (relabel o2 wr.heap.size 3) := ⟨hb5.os, hb5.tape, hb5.output, hb5.size, fun k hk => relabel_old hk, fun k hk _ => hb5.block k hk⟩
      have hK5 := HK.out.turn t5 (fun h => h) (fun h => h)
      have hB5 := ob_ro hr5 o2 3
      obtain ⟨A7, C7, rfl, hm7⟩ := hr5.sl.is
      obtain ⟨o5, ho5⟩ : ∃ x, x = relabel o2 wr.heap.size 3 := ⟨_, rfl⟩
      rw [← ho5] at hM5 t5 hK5 hB5
      have HT5 := Lib.hid t5
      have HM5 := Lib.hid hM5
      have HK5 := Lib.hid hK5
      have HB5 := Lib.hid hB5
      have HBX := Lib.hid hbx
      have HSF := Lib.hid hself
      have hgr := hK5.grid.1
      have d0 := hgr.cell 0 rfl
      have d1 := hgr.cell 1 rfl
      clear ho5 hM5 t5 hK5 hB5 hb5 hr5 hbx hself hgr hlt5 HGW
      gi_wp2
      refine ⟨trivial, ((callsIn_wide (n := 2)).2 (each_any v A7 ns.length C7 n0 _)).mono ?_⟩
      rintro _ _ ⟨rfl, rfl⟩
      gi_wp2
      obtain ⟨w6, hw6⟩ : ∃ W, W = (w5.alloc (.cells #[v, .int .i64 n0] 46)).alloc (.cells #[.slice A7 ns.length C7] 33) := ⟨_, rfl⟩
      obtain ⟨E, hE⟩ : ∃ E, E = w5.heap.size := ⟨_, rfl⟩
      have hs6 : w6.heap.size = E + 2 := by rw [hw6, hE]; simp only [World.size_alloc]
      have hb6 : Below w5.heap.size w5 w6 := by
        rw [hw6]
        exact ((Below.refl _ _).alloc (Nat.le_refl _) _).alloc (by simp only [World.size_alloc]; omega) _
      have k3 : Bk w6 E 46 [v, .int .i64 n0] := by
        rw [hw6, hE]
        exact (Bk.new_ rfl).alloc _
      have k4 : Bk w6 (E + 1) 33 [.slice A7 ns.length C7] := by
        rw [hw6]
        exact Bk.new_ (by rw [World.size_alloc, hE])
      rw [← hw6, ← hE]
      have hgs : Lb w5 o5 1 gf 4 (bools G) := by
        have h1 := HM5.out.set_
        rw [HGL.out] at h1
        exact ⟨own_bk h1.1, h1.2 gf rfl⟩
      have hgE : gf < E := by rw [hE]; exact hgs.1.lt
      have hg6 := hgs.1.below hb6 hgs.1.lt
      have hwg : w0.heap.size ≤ gf := by
        rcases Nat.lt_or_ge gf w0.heap.size with h' | h'
        · have := HM5.out.low gf h'
          rw [hgs.2] at this
          cases this
        · exact h'
      have hbel6 : Below w0.heap.size w0 w6 := HM5.out.bel.trans (hb6.mono HM5.out.bel.size)
      have hls := LstS.below (LstS.of HN.out hwg) hbel6
      have hcs6 := (cxsS_ro (s := gf) HB5.out (by unfold boxL; exact dg_len ns i) (by rw [hgs.2]; decide)).below hb6
      have t6 : Turn (fun _ => False) w5 o5 w6 (relabel o5 w5.heap.size 3) := ⟨hb6.os, hb6.tape, hb6.output, hb6.size, fun k hk => relabel_old hk, fun k hk _ => hb6.block k hk⟩
      have hM6 := HM5.out.kept hb6
      have hK6 := HK5.out.turn t6 (fun h => h) (fun h => h)
      have hB6 := HB5.out.turn t6 (fun h => h)
      obtain ⟨o6, ho6⟩ : ∃ x, x = relabel o5 w5.heap.size 3 := ⟨_, rfl⟩
      rw [← ho6] at hM6 t6 hK6 hB6
      have ho1 : o6 gf = 1 := (t6.num gf hgs.1.lt).trans hgs.2
      have HM6 := Lib.hid hM6
      have HK6 := Lib.hid hK6
      have HB6 := Lib.hid hB6
      have HS6 := Lib.hid hs6
      have HGE := Lib.hid (And.intro hgE (And.intro hg6 ho1))
      have hpp : 0 < prodL ns := by have := H4.out.2; omega
      obtain ⟨L, hL⟩ : ∃ L, L = witL ns (boxL G ns i).1 (boxL G ns i).2 [0] := ⟨_, rfl⟩
      have heach := each1_any 2 gf E (E + 1) ns (boxL G ns i).1 (boxL G ns i).2 v (.slice A7 ns.length C7) n0 w6 (by omega) (by omega) (by omega) (by omega) HBX.out hpp H4.out.1 hnl k3 k4 hls hcs6
      rw [← hL] at heach
      have HL := Lib.hid hL
      have hinit : Turn (· = 1) w6 o6 w6 o6 ∧ Bk w6 gf 4 (bools (clr G [])) := ⟨Turn.refl _ _ _, hg6⟩
      have cset := HK6.out.set_
      clear hw6 hb6 hgs hgE hg6 hwg hbel6 hls hcs6 t6 hM6 hK6 hB6 ho1 hL k3 k4 hE ho6
      refine wpIn_rangeB rfl (by omega) (gf := 37) (lb := #[.pointer (some ⟨E + 1, 0, none⟩), .pointer (some ⟨E, 0, none⟩)]) rfl trivial (enters_of Try.func37 (by kernel_rfl) rfl)
        heach
        KpS.trans (fun W l o o' _ h2 h3 => KpS.put W l o o' h2 h3) (Below.refl _ _) (fun _ => rfl)
        (fun pre W => Turn (· = 1) w6 o6 W o6 ∧ Bk W gf 4 (bools (clr G pre)))
        (fun c pre W => False)
        (fun s A D h hb => ⟨⟨hb.os.trans h.1.os, hb.tape.trans h.1.tape, hb.output.trans h.1.output, Nat.le_trans h.1.size hb.size, fun _ _ => rfl, fun k hk hs => (hb.block k hk).trans (h.1.block k hk hs)⟩, (hb.block gf (by rw [HS6.out]; have := HGE.out.1; omega)).trans h.2⟩)
        (fun c s A D h hb => h)
        hinit
        (fun p => { tmps := #[.agg #[v, .int .i64 n0], .slice (some ⟨gf, 0, none⟩) F.length F.length, .pointer (some ⟨B, 0, none⟩), .pointer (some ⟨B + 1, 0, none⟩), .slice none 0 0, vo, .int .i64 i, .slice A7 ns.length C7, .int .i64 p, u 9, .int .i64 F.length, .int .i64 i, .bool true, .int .i64 i, .slice (some ⟨gf, 0, none⟩) F.length F.length, .int .i64 i, .pointer (some ⟨gf, i, none⟩), .bool true, .bool false, .agg #[v, .int .i64 n0], .slice (some ⟨gf, 0, none⟩) F.length F.length, .int .i64 i, .slice A7 ns.length C7, .agg #[v, .int .i64 n0], .slice A7 ns.length C7, .func (.func 37) #[] #[.pointer (some ⟨E + 1, 0, none⟩), .pointer (some ⟨E, 0, none⟩)], .int .i64 p, u 27, u 28, u 29, u 30, u 31, u 32, u 33, u 34, u 35], defers := [] }) ?assign ?body ?done ?stop
      case assign =>
        intro l x W K hK
        gi_wp2
        exact hK
      case body =>
        rintro l pre x W ⟨hT, hG⟩ hpre
        have hx : x ∈ L := hpre.subset (List.mem_append_right _ (List.mem_singleton_self x))
        have hxF : x < F.length := by rw [H4.out.2]; exact HBX.out.lt (by rw [← HL.out]; exact hx)
        have c2 := (cset.turn hT (by decide)).1.cell 0 rfl
        have c3 := hG.cell x (bools_get (by rw [clr_len, HGL.out]; exact hxF))
        have f3 := hG.frozen x
        have hG2 := hG.set_ x (.bool false)
        rw [bools_set, ← clr_snoc] at hG2
        have hT2 := hT.setCell (p := ⟨gf, x, none⟩) (.inr HGE.out.2.2) (.bool false)
        have HG2 := Lib.hid (And.intro hT2 hG2)
        clear hT hG hpre hG2 hT2 hinit heach cset
        gi_wp2
        exact ⟨KeepsOthers.setCell _ _ _, KpS.set _, HG2.out⟩
      case done =>
        rintro D xs W hD rfl ⟨hT, hG⟩ hDW
        have hgl7 : (clr G xs).length = F.length := by rw [clr_len, HGL.out]
        obtain ⟨o7, ho7⟩ : ∃ f : Nat → Nat, f = fun k => if k < w6.heap.size then o6 k else if k = D then 4 else 3 := ⟨_, rfl⟩
        have t7 : Turn (· = 1) w6 o6 W o7 := ⟨hT.os, hT.tape, hT.output, hT.size, fun k hk => by rw [ho7]; exact if_pos hk, hT.block⟩
        have hgf7 : o7 gf = 1 := (t7.num gf (by have := HS6.out; have := HGE.out.1; omega)).trans HGE.out.2.2
        have hro : Ro W o7 1 4 1 (.slice (some ⟨gf, 0, none⟩) F.length F.length) (clr G xs).length (bools (clr G xs)) := by
          rw [hgl7]
          exact Ro.of_block ⟨hG, hgf7⟩ (Nat.le_refl _) (by unfold maxLen; omega) (by rw [bools_len, hgl7, Nat.mul_one]) (by rw [List.take_of_length_le (by rw [bools_len, hgl7]; omega)])
        have hM7 := HM6.out.clearT t7 hro
        have hK7 := HK6.out.add t7 (by decide) (by decide) hD hDW (by rw [ho7]; exact (if_neg (by omega)).trans (if_pos rfl))
        have hB7 := HB6.out.turn t7 (by decide)
        obtain ⟨A6, C6, hvo, -⟩ := HM.out.out.sl.is
        have HVO := Lib.hid hvo
        have hbsl : bs.length + 1 ≤ 5000 := by
          have h1 := HCV.out
          have h2 := congrArg List.length h1
          rw [List.length_append, List.length_cons, HR.out] at h2
          have h3 := cov_len (ns := ns) F.length 0 F
          omega
        have HM7 := Lib.hid hM7
        have HK7 := Lib.hid hK7
        have HB7 := Lib.hid hB7
        have HGL7 := Lib.hid hgl7
        have HT7 := Lib.hid t7
        clear hM7 hK7 hB7 hro hgf7 t7 ho7 hgl7 hT hG hDW hD hvo hinit heach cset
        gi_wp2_with (gi_at_builtin; refine wpListIn_pushR rfl _ _ 25 33 1 24 (.slice none 0 0) rfl Try.underlying25 info_cxs rfl (by decide) o7 2 vo bs.length us rfl (HM7.out.out.alloc _) ⟨W.heap.size, 0, none⟩ 1 1 [.slice A7 ns.length C7] rfl rfl (news_cx _ _ _) (fun u hu => by rw [List.mem_singleton.1 hu]; rfl) (by decide) (by omega) (by unfold maxLen; omega) ?_; intro g9 cap9 w9 hr9 ht9 hlt9)
        have t9 := ((Turn.refl (· = 2) _ o7).alloc (.cells #[.slice A7 ns.length C7] 33)).trans ht9
        have hM9 := HM7.out.add (b := boxL G ns i) HB7.out t9 hr9
        have hK9 := HK7.out.turn t9 (by decide) (by decide)
        have hR9 : (bs ++ [boxL G ns i]) ++ covL ns (F.length - (i + 1)) (i + 1) (clr G xs) = R := by
          rw [List.append_assoc, HL.out]
          exact HCV.out
        exact cov_next (Ds := D :: Ds) rfl rfl rfl rfl rfl rfl rfl rfl rfl rfl hlt hF4 hM9 HGL7.out hR9 hK9
      case stop =>
        rintro D c pre W hD hpx hF hK
        exact hF.elim
  · have hie : i = F.length := by omega
    subst hie
    have hr := HCV.out
    rw [Nat.sub_self, covL, List.append_nil] at hr
    have HBB := Lib.hid (fun W' (t : Turn (· = 4) wr o2 W' o2) => And.intro (HM.out.turn_ t (by decide) (by decide) (by decide) (by decide)).bel ((HM.out.turn_ t (by decide) (by decide) (by decide) (by decide)).bxs (fun k hk => cov_dim F.length 0 F _ (by rw [← HR.out, ← hr]; exact getD_memP hk))))
    subst hr
    unfold covT
    gi_wp2
    refine leaves_marksT (o := o2) (l := 4) (by simp) Ds _ HK.out.dup HK.out.mark fun W' hW => ?_
    exact ⟨vo, by simp [results, Try.results20, go_sem, *]; try rfl, vo, rfl, (HBB.out W' hW).1, (HBB.out W' hW).2⟩
end Go.Proofs.Ytlpoopmjgobnnaa
