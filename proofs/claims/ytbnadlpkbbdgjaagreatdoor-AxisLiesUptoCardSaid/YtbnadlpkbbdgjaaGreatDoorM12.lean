/- The contracts of the functions that the laws reach, part 12: what each returns and what becomes of memory. -/
import Derived.Test.YtbnadlpkbbdgjaaGreatDoorM11
set_option linter.unusedSimpArgs false
set_option linter.unusedVariables false


namespace Go.Proofs.YtbnadlpkbbdgjaaGreatDoor
open Go.RowKit

/-- what is kept of the first t: each that is not the same as the one ahead of it -/
def kept (qs : List Pv) : Nat → List Pv
 | 0 => []
 | t + 1 => if 0 < t ∧ cmpS (pg qs t).s (pg qs (t - 1)).s = 0 then kept qs t else kept qs t ++ [pg qs t]
theorem kept_len (qs : List Pv) : ∀ t,(kept qs t).length ≤ t
 | 0 => Nat.le_refl _
 | t + 1 => by
  have:=kept_len qs t
  rw [kept]
  split
  ·omega
  ·rw [List.length_append];show _ + 1 ≤ _;omega
theorem kept_mem (qs : List Pv) : ∀ t,t ≤ qs.length → ∀ p ∈ kept qs t,p ∈ qs
 | 0,_,p,hp => absurd hp List.not_mem_nil
 | t + 1,ht,p,hp => by
  rw [kept] at hp
  split at hp
  ·exact kept_mem qs t (by omega) p hp
  ·rcases List.mem_append.1 hp with hp | hp
   ·exact kept_mem qs t (by omega) p hp
   ·rw [List.mem_singleton.1 hp];exact pg_mem (by omega)
theorem take_pg {qs : List Pv} {t : Nat} (h : t < qs.length) : qs.take (t + 1) = qs.take t ++ [pg qs t]:=by
 rw [List.take_succ_eq_append_getElem h]
 unfold pg
 rw [List.getD_eq_getElem?_getD,List.getElem?_eq_getElem h]
 rfl
theorem kept_all {qs : List Pv} : ∀ t,t ≤ qs.length → (∀ j,0 < j → j < t → cmpS (pg qs j).s (pg qs (j - 1)).s ≠ 0) → kept qs t = qs.take t
 | 0,_,_ => rfl
 | t + 1,ht,h => by
  rw [kept,if_neg (fun hh => h t hh.1 (by omega) hh.2),kept_all t (by omega) (fun j h1 h2 => h j h1 (by omega)),take_pg (by omega)]
/-- clear of a slice of things of several cells -/
theorem run_clearK {P : Program} (w : World) (t e ty : TypeId) (z : Value) (ht : P.underlying t = some (.slice e)) (hv : ∀ w,(zeroValue e).run P w = .ok z w) (h1 : ∀ u ∈ z.cells,u.oneCell' = true) (b o n c : Nat) (hn : 0 < n)
  (hc : ∀ j,j < n * z.cells.size → (w.cell? ⟨b,o + j,none⟩).isSome = true) (hf : ∀ j,j < n * z.cells.size → w.frozen? ⟨b,o + j,none⟩ = false) :
  (Builtin.clear_ #[t] ty #[.slice (some ⟨b,o,none⟩) n c]).run P w = .ok (.tuple #[]) (w.setCells b o (Builtin.zeroCells z.cells n).toList):=by
 have hlen : (Builtin.zeroCells z.cells n).toList.length = n * z.cells.size:=by
  simp [Builtin.zeroCells]
 have hmem : ∀ v ∈ (Builtin.zeroCells z.cells n).toList,v.oneCell' = true:=by
  intro v hv'
  simp only [Builtin.zeroCells,Array.toList_map,List.mem_map,Array.toList_range,List.mem_range] at hv'
  obtain ⟨i,hi,rfl⟩:=hv'
  have h0 : 0 < z.cells.size:=by
   rcases Nat.eq_zero_or_pos z.cells.size with h | h
   ·rw [h,Nat.mul_zero] at hi;omega
   ·exact h
  rw [getElem!_pos z.cells _ (Nat.mod_lt _ h0)]
  exact h1 _ (Array.getElem_mem _)
 have hst:=run_storeCells_cells (P:=P) b o (Builtin.zeroCells z.cells n).toList 0 w (by rw [hlen];simpa using hc) (by rw [hlen];simpa using hf) hmem
 simp only [Nat.add_zero] at hst
 obtain ⟨m,rfl⟩ : ∃ m,n = m + 1:=⟨n - 1,by omega⟩
 simp [Builtin.clear_,run_underlying ht,hv,hst]
def setL : List Value → Nat → List Value → List Value
 | l,_,[] => l
 | l,q,v :: vs => setL (l.set q v) (q + 1) vs
theorem setL_len : ∀ (cs : List Value) (l : List Value) (q : Nat),(setL l q cs).length = l.length
 | [],_,_ => rfl
 | v :: vs,l,q => by rw [setL,setL_len vs,List.length_set]
theorem setL_far : ∀ (cs : List Value) (l : List Value) (q : Nat) {j : Nat},j < q ∨ q + cs.length ≤ j → (setL l q cs)[j]? = l[j]?
 | [],_,_,_,_ => rfl
 | v :: vs,l,q,j,h => by
  rw [List.length_cons] at h
  rw [setL,setL_far vs _ _ (by omega),List.getElem?_set_ne (by omega)]
theorem setL_at : ∀ (cs : List Value) (l : List Value) (q : Nat) {i : Nat},i < cs.length → q + cs.length ≤ l.length → (setL l q cs)[q + i]? = cs[i]?
 | [],_,_,i,h,_ => absurd h (Nat.not_lt_zero i)
 | v :: vs,l,q,0,_,h => by
  rw [List.length_cons] at h
  rw [setL,setL_far vs _ _ (by omega),Nat.add_zero,List.getElem?_set_self (by omega)]
  rfl
 | v :: vs,l,q,i + 1,hi,h => by
  rw [List.length_cons] at h hi
  rw [setL,show q + (i + 1) = (q + 1) + i by omega,setL_at vs _ _ (by omega) (by rw [List.length_set];omega)]
  rfl
theorem Bk.setCells {g : Nat} {t : TypeId} : ∀ (L : List Value) (o : Nat) {w : World} {cur : List Value},Bk w g t cur → Bk (w.setCells g o L) g t (setL cur o L)
 | [],_,_,_,h => h
 | v :: L,o,w,cur,h => Bk.setCells L (o + 1) (h.set_ o v)
theorem below_setCells {B : Nat} {a : World} {g : Nat} (hg : B ≤ g) : ∀ (L : List Value) (o : Nat) {w : World},Below B a w → Below B a (w.setCells g o L)
 | [],_,_,h => h
 | v :: L,o,_,h => below_setCells hg L (o + 1) (h.setCell (p:=⟨g,o,none⟩) hg v)
theorem kept_le {qs : List Pv} {t : Nat} (h0 : 0 < t) (he : cmpS (pg qs t).s (pg qs (t - 1)).s = 0) : ∀ u,(kept qs (t + 1 + u)).length ≤ t + u
 | 0 => by
  have:=kept_len qs t
  rw [Nat.add_zero,kept,if_pos ⟨h0,he⟩]
  exact this
 | u + 1 => by
  have:=kept_le h0 he u
  rw [show t + 1 + (u + 1) = (t + 1 + u) + 1 by omega,kept]
  split
  ·omega
  ·rw [List.length_append];show _ + 1 ≤ _;omega
/-- a value's cells at a place of a row -/
theorem row_val {w : World} {g : Nat} {ty : TypeId} {cur : List Value} (hb : Bk w g ty cur) {r : Nat} {p : Pv} (h : ∀ i,i < 10 → cur[r * 10 + i]? = p.cs[i]?) : At w g (r * 10) p.cs:=fun j hj => by
 rw [Pv.cs_len] at hj
 rw [← h j hj]
 have hl : j < p.cs.length:=by rw [Pv.cs_len];exact hj
 have e:=h j hj
 rw [List.getElem?_eq_getElem hl] at e
 rw [e]
 exact hb.cell _ e
/-- the row while it is made tight: m of the qs are looked at -/
def CI (qs : List Pv) (C g m L : Nat) (w : World) : Prop:=∃ cur,Bk w g 30 cur ∧ cur.length = C * 10 ∧ L = (kept qs m).length ∧
 (∀ r,r < L → ∀ i,i < 10 → cur[r * 10 + i]? = (pg (kept qs m) r).cs[i]?) ∧ (∀ r,L ≤ r → r < qs.length → ∀ i,i < 10 → cur[r * 10 + i]? = (pg qs r).cs[i]?)
theorem CI.far {qs : List Pv} {C g m L : Nat} {w w' : World} (h : CI qs C g m L w) (hb : Below w.heap.size w w') : CI qs C g m L w':=by
 obtain ⟨cur,h1,h2⟩:=h
 exact ⟨cur,h1.below hb h1.lt,h2⟩
theorem CI.skip {qs : List Pv} {C g m L : Nat} {w : World} (h : CI qs C g m L w) (hk : kept qs (m + 1) = kept qs m) : CI qs C g (m + 1) L w:=by
 unfold CI at *
 rw [hk]
 exact h
theorem pg_app_lt {a b : List Pv} {r : Nat} (h : r < a.length) : pg (a ++ b) r = pg a r:=by
 unfold pg
 rw [List.getD_eq_getElem?_getD,List.getD_eq_getElem?_getD,List.getElem?_append_left h]
theorem pg_app_eq {a : List Pv} {p : Pv} : pg (a ++ [p]) a.length = p:=by
 unfold pg
 rw [List.getD_eq_getElem?_getD,List.getElem?_append_right (Nat.le_refl _),Nat.sub_self]
 rfl
theorem CI.put {qs : List Pv} {C g m L : Nat} {w : World} (h : CI qs C g m L w) (hC : qs.length ≤ C) (hL : L < qs.length) (hk : kept qs (m + 1) = kept qs m ++ [pg qs m]) : CI qs C g (m + 1) (L + 1) (w.setCells g (L * 10) (pg qs m).cs):=by
 obtain ⟨cur,h1,h2,h3,h4,h5⟩:=h
 refine ⟨_,Bk.setCells _ _ h1,(setL_len _ _ _).trans h2, ?_, ?_, ?_⟩
 ·rw [hk,List.length_append,h3];rfl
 ·intro r hr i hi
  rw [hk]
  by_cases e : r = L
  ·subst e
   rw [setL_at _ _ _ (by rw [Pv.cs_len];exact hi) (by rw [Pv.cs_len];omega),h3,pg_app_eq]
  ·rw [setL_far _ _ _ (by rw [Pv.cs_len];omega),h4 r (by omega) i hi,pg_app_lt (by omega)]
 ·intro r hr hr2 i hi
  rw [setL_far _ _ _ (by rw [Pv.cs_len];omega),h5 r (by omega) hr2 i hi]
/-- the end: what lies behind is cleared, the rest is given back -/
theorem CI.fin {qs : List Pv} {C g m L : Nat} {w : World} (h : CI qs C g m L w) (hm : L ≤ C) (hC : C ≤ maxLen) {B : Nat} (hg : B ≤ g) (Z : List Value) : Ro (w.setCells g (L * 10) Z) (ob B) 1 30 10 (.slice (some ⟨g,0,none⟩) L C) (kept qs m).length (flat (kept qs m)):=by
 obtain ⟨cur,h1,h2,h3,h4,h5⟩:=h
 have hf : (setL cur (L * 10) Z).take (L * 10) = flat (kept qs m):=by
  refine List.ext_getElem? (fun j => ?_)
  rcases Nat.lt_or_ge j (L * 10) with hj | hj
  ·rw [List.getElem?_take_of_lt hj,setL_far _ _ _ (.inl hj),show j = (j / 10) * 10 + j % 10 by omega,h4 _ (by omega) _ (by omega),flat_at (by omega) (by omega)]
  ·rw [List.getElem?_eq_none (by rw [List.length_take];omega),List.getElem?_eq_none (by rw [flat_len];omega)]
 rw [← h3]
 exact Ro.of_block ⟨Bk.setCells _ _ h1,ob_up hg⟩ hm hC (by rw [setL_len,h2]) hf
theorem below_put {B : Nat} {a w : World} {g : Nat} (h : Below B a w) (hg : B ≤ g) (L : List Value) (o : Nat) : Below B a (w.setCells g o L):=below_setCells hg L o h
theorem CI.start {qs : List Pv} {C g t : Nat} {w : World} {cur : List Value} (h : Bk w g 30 cur) (hl : cur.length = C * 10) (h0 : t + 1 < qs.length) (hcur : ∀ r,r < qs.length → ∀ i,i < 10 → cur[r * 10 + i]? = (pg qs r).cs[i]?) (hk1 : kept qs (t + 1) = qs.take (t + 1)) (he : cmpS (pg qs (t + 1)).s (pg qs (t + 1 - 1)).s = 0) : CI qs C g (t + 2) (t + 1) w:=by
 have hk2 : kept qs (t + 2) = kept qs (t + 1):=by rw [kept,if_pos ⟨by omega,he⟩]
 have hl2 : (qs.take (t + 1)).length = t + 1:=by rw [List.length_take];omega
 refine ⟨cur,h,hl,by rw [hk2,hk1,hl2],fun r hr i hi => ?_,fun r _ hr i hi => hcur r hr i hi⟩
 rw [hk2,hk1,hcur r (by omega) i hi]
 unfold pg
 rw [List.getD_eq_getElem?_getD,List.getD_eq_getElem?_getD,List.getElem?_take_of_lt hr]
theorem CI.row {qs : List Pv} {C g m L : Nat} {w : World} (h : CI qs C g m L w) {r : Nat} (hr : L ≤ r) (hr2 : r < qs.length) : At w g (r * 10) (pg qs r).cs ∧ ∀ i,w.frozen? ⟨g,i,none⟩ = false:=by
 obtain ⟨cur,h1,h2,h3,h4,h5⟩:=h
 exact ⟨row_val h1 (h5 r hr hr2),fun i => h1.frozen i⟩
def CompPost (qs : List Pv) (B0 : Nat) (w : World) (e : Ending) (w' : World) : Prop:=∃ r,e = .returned r ∧ Ro w' (ob B0) 1 30 10 r (kept qs qs.length).length (flat (kept qs qs.length)) ∧ Below B0 w w'
theorem CI.clear {qs : List Pv} {C g m L : Nat} {w : World} (h : CI qs C g m L w) (hC : qs.length ≤ C) (hL : L < qs.length) (ty : TypeId) : ∃ Z : List Value,(Builtin.clear_ #[22] ty #[.slice (some ⟨g,L * 10,none⟩) (qs.length - L) (C - L)]).run Tryz.prog w = .ok (.tuple #[]) (w.setCells g (L * 10) Z):=by
 obtain ⟨cur,h1,h2,-,-,-⟩:=h
 obtain ⟨i0,hi0,hz0,hz1,hz2⟩:=info_parts info_val10
 refine ⟨_,run_clearK w 22 30 ty _ Tryz.underlying22 (fun w => by simp [zeroValue,typeInfo,hi0,hz0];rfl) ?_ g (L * 10) (qs.length - L) (C - L) (by omega) (fun j hj => ?_) (fun j hj => h1.frozen _)⟩
 ·intro u hu
  simp [Value.cells] at hu
  rcases hu with rfl | rfl | rfl | rfl | rfl | rfl | rfl | rfl | rfl | rfl <;> rfl
 ·have h3 : L * 10 + j < cur.length:=by
   have : j < (qs.length - L) * 10:=hj
   omega
  rw [h1.cell (L * 10 + j) (List.getElem?_eq_getElem h3)]
  rfl
set_option maxRecDepth 100000 in
set_option maxHeartbeats 4000000 in
theorem compact_vals {k : Int} (hk : Kd k) (qs : List Pv) (hqs : ∀ p ∈ qs,Sc k p.s) (hm : qs.length ≤ 1048576) (B0 : Nat) (v : Value) (w : World) (hB : B0 ≤ w.heap.size) (h : Ro w (ob B0) 1 30 10 v qs.length (flat qs)) :
  Calls Tryz.prog 63 #[v,.func (.func 64) #[] #[]] w (CompPost qs B0 w):=by
 have HR:=Lib.hid h
 have HQ:=Lib.hid hqs
 unfold CompPost
 rcases Nat.lt_or_ge qs.length 2 with hn | hn
 ·have hk2 : kept qs qs.length = qs:=by rw [kept_all _ (Nat.le_refl _) (fun j h1 h2 => by omega),List.take_length]
  have HK:=Lib.hid hk2
  obtain ⟨A,C,rfl,-⟩:=h.sl.is
  clear h hqs hk2
  go_enter Tryz.func63,Tryz.ntmps63
  go_wp2_with fail
  go_ret
  exact ⟨_,rfl,by rw [HK.out];exact HR.out,Below.refl _ _⟩
 ·obtain ⟨g,C,cur,rfl,h1,h2,h3,h4,h5⟩:=h.form (by omega)
  have hg : B0 ≤ g:=by
   rcases Nat.lt_or_ge g B0 with h' | h'
   ·have e:=h4.2
    rw [ob_low h'] at e
    cases e
   ·exact h'
  have hcur : ∀ r,r < qs.length → ∀ i,i < 10 → cur[r * 10 + i]? = (pg qs r).cs[i]?:=fun r hr i hi => by
   rw [← flat_at hr hi,← h5,List.getElem?_take_of_lt (by omega)]
  have HCU:=Lib.hid hcur
  have HB:=Lib.hid h4.1
  have HF:=Lib.hid (And.intro h1 (And.intro h2 (And.intro h3 h5)))
  clear h h1 h2 h3 h4 h5 hcur hqs
  go_enter Tryz.func63,Tryz.ntmps63
  go_wp2_with fail
  go_loopg [5] (qs.length - 1) (fun k i wr => ∃ t : Nat,k + (t + 1) = qs.length ∧ i = .int .i64 ((t : Int) + 1) ∧ Hid (∀ j,0 < j → j < t + 1 → cmpS (pg qs j).s (pg qs (j - 1)).s ≠ 0) ∧ Hid (Below w.heap.size w wr))
  case atStart => exact ⟨0,by omega,by go_num,Lib.hid (fun j h1 h2 => by omega),Lib.hid (Below.refl _ _)⟩
  case round =>
   obtain ⟨t,hkk,rfl,HN,HBW⟩:=hrel
   have HKK:=Lib.hid hkk
   have htn : t + 1 ≤ qs.length:=by omega
   clear hkk
   by_cases hlt : t + 1 < qs.length
   ·have hb:=HB.out.below HBW.out HB.out.lt
    have a1:=row_val hb (HCU.out t (by omega))
    have a2:=row_val hb (HCU.out (t + 1) hlt)
    have HS:=Lib.hid (fun W => (B.same_vals hk (pg qs (t + 1)) (pg qs t) (HQ.out _ (pg_mem hlt)) (HQ.out _ (pg_mem (by omega))) W).mono (fun e w' hh => And.intro hh.1 hh.2.toBelow))
    obtain ⟨c,hc⟩ : ∃ c,c = cmpS (pg qs (t + 1)).s (pg qs t).s:=⟨_,rfl⟩
    have HC:=Lib.hid hc
    rw [← hc] at HS
    obtain ⟨p,hp⟩ : ∃ p,p = pg qs t:=⟨_,rfl⟩
    obtain ⟨q,hq⟩ : ∃ p,p = pg qs (t + 1):=⟨_,rfl⟩
    rw [← hp] at a1 HS
    rw [← hq] at a2 HS
    clear hc hp hq hb
    obtain ⟨s,A1,C1,A2,C2⟩:=p
    obtain ⟨s',A1',C1',A2',C2'⟩:=q
    obtain ⟨z0,z1,z2,z3,z4,z5,z6,z7,z8,z9⟩:=At.val (s:=s) (L:=.slice A1 0 C1) (N:=.slice A2 0 C2) a1
    obtain ⟨y0,y1,y2,y3,y4,y5,y6,y7,y8,y9⟩:=At.val (s:=s') (L:=.slice A1' 0 C1') (N:=.slice A2' 0 C2') a2
    clear a1 a2
    unfold Pv.val vagg at HS
    dsimp only at HS
    obtain ⟨kind,yes,neg,coef,sc,text,day⟩:=s
    obtain ⟨kind',yes',neg',coef',sc',text',day'⟩:=s'
    dsimp only at HS z0 z1 z2 z3 z4 z5 z6 z7 z8 z9 y0 y1 y2 y3 y4 y5 y6 y7 y8 y9
    have i0 : (0 : Int) ≤ (t : Int):=by omega
    have i1 : (t : Int) < (qs.length : Int):=by omega
    have i2 : (t : Int) + 1 < (qs.length : Int):=by omega
    have i3 : (t : Int) + 1 - 1 < (qs.length : Int):=by omega
    have i4 : (0 : Int) ≤ (t : Int) + 1 - 1:=by omega
    have i5 : (0 : Int) ≤ (t : Int) + 1:=by omega
    have i6 : IntKind.i64.wrap (t : Int) = (t : Int):=by rw [IntKind.wrap_i64];omega
    by_cases h0 : c = 0
    ·rw [decide_eq_true h0] at HS
     have HC0:=Lib.hid h0
     clear h0
     go_wp2_with fail
     have HT0:=Lib.hid (show cmpS (pg qs (t + 1)).s (pg qs (t + 1 - 1)).s = 0 by rw [Nat.add_sub_cancel,← HC.out];exact HC0.out)
     have hcap:=HF.out.1
     have hcap2:=HF.out.2.1
     unfold maxLen at hcap2
     have hC1 : (t : Int) + 1 ≤ (C : Int):=by omega
     have hC2 : (t : Int) + 1 ≤ (qs.length : Int):=by omega
     go_region_with (go_at_call 64;(with_reducible refine (HS.out _).mono ?_);rintro _ w3 ⟨rfl,hb3⟩)
     all_goals
      have hb4:=(HB.out.below HBW.out HB.out.lt).drew
      have HB4:=Lib.hid (hb4.below hb3 hb4.lt)
      have HBW4:=Lib.hid ((HBW.out.mono hB).drew.trans (hb3.mono (Nat.le_trans hB HBW.out.size)))
      clear z0 z1 z2 z3 z4 z5 z6 z7 z8 z9 y0 y1 y2 y3 y4 y5 y6 y7 y8 y9 hb3 hb4
      go_wp2_with fail
      have HCI:=Lib.hid (CI.start (C:=C) HB4.out HF.out.2.2.1 hlt HCU.out (kept_all (t + 1) (by omega) HN.out) HT0.out)
      clear HB4 HC HC0
      go_loopg [5,7] (qs.length - (t + 2)) (fun k x i wr => ∃ u L : Nat,k + (t + 2 + u) = qs.length ∧ x = .int .i64 L ∧ i = .int .i64 ((u : Int) + 1) ∧ Hid (CI qs C g (t + 2 + u) L wr) ∧ Hid (Below B0 w wr))
      case atStart => exact ⟨0,t + 1,by omega,by go_num,by go_num,HCI,HBW4⟩
      case round =>
       obtain ⟨u,L,hkk,rfl,rfl,HC4,HB5⟩:=hrel
       have HKK2:=Lib.hid hkk
       have hLe : L ≤ t + 1 + u:=by
        obtain ⟨_,_,_,e,_⟩:=HC4.out
        rw [e,show t + 2 + u = (t + 1) + 1 + u by omega]
        exact kept_le (by omega) HT0.out u
       have HLE:=Lib.hid hLe
       have hun : t + 2 + u ≤ qs.length:=by omega
       clear hkk hLe
       by_cases hlu : t + 2 + u < qs.length
       ·have ⟨a1,f1⟩:=HC4.out.row (r:=t + 1 + u) HLE.out (by omega)
        have ⟨a2,f2⟩:=HC4.out.row (r:=t + 2 + u) (by have:=HLE.out;omega) hlu
        rw [show (t + 1 + u) * 10 = (t + 1) * 10 + u * 10 by omega] at a1
        rw [show (t + 2 + u) * 10 = (t + 1) * 10 + (u + 1) * 10 by omega] at a2
        have HS2:=Lib.hid (fun W => (B.same_vals hk (pg qs (t + 2 + u)) (pg qs (t + 1 + u)) (HQ.out _ (pg_mem hlu)) (HQ.out _ (pg_mem (by omega))) W).mono (fun e w' hh => And.intro hh.1 hh.2.toBelow))
        obtain ⟨c,hc⟩ : ∃ c,c = cmpS (pg qs (t + 2 + u)).s (pg qs (t + 1 + u)).s:=⟨_,rfl⟩
        have HC:=Lib.hid hc
        rw [← hc] at HS2
        obtain ⟨p,hp⟩ : ∃ p,p = pg qs (t + 1 + u):=⟨_,rfl⟩
        obtain ⟨q,hq⟩ : ∃ p,p = pg qs (t + 2 + u):=⟨_,rfl⟩
        have HQQ:=Lib.hid hq
        rw [← hp] at a1 HS2
        rw [← hq] at a2 HS2
        clear hc hp hq f2 HS
        obtain ⟨s,A1,C1,A2,C2⟩:=p
        obtain ⟨s',A1',C1',A2',C2'⟩:=q
        obtain ⟨z0,z1,z2,z3,z4,z5,z6,z7,z8,z9⟩:=At.val (s:=s) (L:=.slice A1 0 C1) (N:=.slice A2 0 C2) a1
        obtain ⟨y0,y1,y2,y3,y4,y5,y6,y7,y8,y9⟩:=At.val (s:=s') (L:=.slice A1' 0 C1') (N:=.slice A2' 0 C2') a2
        clear a1 a2
        unfold Pv.val vagg at HS2
        dsimp only at HS2
        obtain ⟨kind,yes,neg,coef,sc,text,day⟩:=s
        obtain ⟨kind',yes',neg',coef',sc',text',day'⟩:=s'
        dsimp only at HS2 z0 z1 z2 z3 z4 z5 z6 z7 z8 z9 y0 y1 y2 y3 y4 y5 y6 y7 y8 y9
        have j0 : (u : Int) + 1 < ((qs.length - (t + 1) : Nat) : Int):=by omega
        have j1 : (u : Int) < ((qs.length - (t + 1) : Nat) : Int):=by omega
        have j3 : (u : Int) + 1 - 1 < ((qs.length - (t + 1) : Nat) : Int):=by omega
        have j4 : (0 : Int) ≤ (u : Int) + 1 - 1:=by omega
        have j5 : (0 : Int) ≤ (u : Int) + 1:=by omega
        have j6 : IntKind.i64.wrap (u : Int) = (u : Int):=by rw [IntKind.wrap_i64];omega
        by_cases h0 : c = 0
        ·rw [decide_eq_true h0] at HS2
         have HC0:=Lib.hid h0
         clear h0
         go_wp2_with fail
         go_region_with (go_at_call 64;(with_reducible refine (HS2.out _).mono ?_);rintro _ w5 ⟨rfl,hb5⟩)
         all_goals
          have HC5:=Lib.hid ((((HC4.out.far (Below.refl _ _).drew)).far hb5).skip (by rw [kept,if_pos ⟨by omega,by rw [show t + 2 + u - 1 = t + 1 + u by omega,← HC.out];exact HC0.out⟩]))
          have HB6:=Lib.hid (HB5.out.drew.trans (hb5.mono (Nat.le_trans hB HB5.out.size)))
          clear z0 z1 z2 z3 z4 z5 z6 z7 z8 z9 y0 y1 y2 y3 y4 y5 y6 y7 y8 y9 hb5
          go_wp2_with fail
          go_roundg (gk - 1)
          case measure => have:=HKK2.out;omega
          case rel => exact ⟨u + 1,L,by have:=HKK2.out;omega,rfl,by go_num,HC5,HB6⟩
        ·rw [decide_eq_false h0] at HS2
         have HC0:=Lib.hid h0
         clear h0
         go_wp2_with fail
         go_region_with (go_at_call 64;(with_reducible refine (HS2.out _).mono ?_);rintro _ w5 ⟨rfl,hb5⟩)
         all_goals
          have hc5:=(HC4.out.far (Below.refl _ _).drew).far hb5
          have HB6:=Lib.hid (HB5.out.drew.trans (hb5.mono (Nat.le_trans hB HB5.out.size)))
          clear z0 z1 z2 z3 z4 z5 z6 z7 z8 z9 y0 y1 y2 y3 y4 y5 y6 y7 y8 y9 hb5 f1
          have ⟨a2,f1⟩:=hc5.row (r:=t + 2 + u) (by have:=HLE.out;omega) hlu
          have ⟨a1,f2⟩:=hc5.row (r:=L) (Nat.le_refl _) (by have:=HLE.out;omega)
          rw [show (t + 2 + u) * 10 = (t + 1) * 10 + (u + 1) * 10 by omega,← HQQ.out] at a2
          obtain ⟨p,hp⟩ : ∃ p,p = pg qs L:=⟨_,rfl⟩
          rw [← hp] at a1
          clear hp f2
          obtain ⟨sL,AL,CL,AL2,CL2⟩:=p
          obtain ⟨z0,z1,z2,z3,z4,z5,z6,z7,z8,z9⟩:=At.val (s:=sL) (L:=.slice AL 0 CL) (N:=.slice AL2 0 CL2) a1
          obtain ⟨y0,y1,y2,y3,y4,y5,y6,y7,y8,y9⟩:=At.val (s:=⟨kind',yes',neg',coef',sc',text',day'⟩) (L:=.slice A1' 0 C1') (N:=.slice A2' 0 C2') a2
          clear a1 a2
          dsimp only at y0 y1 y2 y3 y4 y5 y6 y7 y8 y9
          have HC5:=Lib.hid (hc5.put HF.out.1 (by have:=HLE.out;omega) (by rw [kept,if_neg (fun hh => HC0.out (by rw [HC.out,show t + 1 + u = t + 2 + u - 1 by omega];exact hh.2))]))
          rw [← HQQ.out] at HC5
          have HB7:=Lib.hid (below_put HB6.out hg (Pv.cs ⟨⟨kind',yes',neg',coef',sc',text',day'⟩,A1',C1',A2',C2'⟩) (L * 10))
          unfold Pv.cs VS.cs at HC5 HB7
          dsimp only [List.cons_append,List.nil_append] at HC5 HB7
          have l0 : (0 : Int) ≤ (L : Int):=by omega
          have l1 : (L : Int) < (qs.length : Int):=by have:=HLE.out;omega
          clear hc5
          go_wp2_with fail
          go_roundg (gk - 1)
          case measure => have:=HKK2.out;omega
          case rel => exact ⟨u + 1,L + 1,by have:=HKK2.out;omega,rfl,by go_num,HC5,HB7⟩
       ·have hue : t + 2 + u = qs.length:=by omega
        have hlt2 : L < qs.length:=by have:=HLE.out;omega
        have j0 : ¬ (u : Int) + 1 < ((qs.length - (t + 1) : Nat) : Int):=by omega
        have hcl:=fun ty => HC4.out.clear HF.out.1 hlt2 ty
        have l0 : (0 : Int) ≤ (L : Int):=by omega
        have l1 : (L : Int) ≤ (qs.length : Int):=by omega
        have hCq:=HF.out.1
        have l2 : (L : Int) ≤ (C : Int):=by omega
        have l3 : ¬ C = L:=by omega
        clear hCq
        have HFIN:=Lib.hid (fun Z => HC4.out.fin (by omega) HF.out.2.1 hg Z)
        have HBF:=Lib.hid (fun Z => below_put HB5.out hg Z (L * 10))
        rw [hue] at HFIN
        obtain ⟨Z,hZ⟩:=hcl 0
        clear hcl HS hue hlt2
        go_wp2_with fail
        go_ret
        exact ⟨_,rfl,HFIN.out Z,HBF.out Z⟩
    ·rw [decide_eq_false h0] at HS
     have HC0:=Lib.hid h0
     clear h0
     go_wp2_with fail
     go_region_with (go_at_call 64;(with_reducible refine (HS.out _).mono ?_);rintro _ w3 ⟨rfl,hb3⟩)
     all_goals
      have HN2 : Hid (∀ j,0 < j → j < t + 1 + 1 → cmpS (pg qs j).s (pg qs (j - 1)).s ≠ 0):=Lib.hid (fun j h1 h2 => by
       by_cases e : j = t + 1
       ·subst e
        rw [Nat.add_sub_cancel,← HC.out]
        exact HC0.out
       ·exact HN.out j h1 (by omega))
      have HBW4:=Lib.hid (HBW.out.drew.trans (hb3.mono HBW.out.size))
      clear z0 z1 z2 z3 z4 z5 z6 z7 z8 z9 y0 y1 y2 y3 y4 y5 y6 y7 y8 y9 hb3
      go_wp2_with fail
      go_roundg (gk - 1)
      case measure => have:=HKK.out;omega
      case rel => exact ⟨t + 1,by have:=HKK.out;omega,by go_num,HN2,HBW4⟩
   ·have hte : t + 1 = qs.length:=by omega
    have hk2 : kept qs qs.length = qs:=by rw [kept_all _ (Nat.le_refl _) (fun j h1 h2 => HN.out j h1 (by omega)),List.take_length]
    have HK:=Lib.hid hk2
    have hro : Ro wr (ob B0) 1 30 10 (.slice (some ⟨g,0,none⟩) qs.length C) qs.length (flat qs) :=
     HR.out.relab (o':=ob B0) HBW.out (fun _ _ e => e)
    have HRO:=Lib.hid hro
    have i2 : ¬ (t : Int) + 1 < (qs.length : Int):=by omega
    clear hk2 hro
    go_wp2_with fail
    go_ret
    exact ⟨_,rfl,by rw [HK.out];exact HRO.out,HBW.out.mono hB⟩
end Go.Proofs.YtbnadlpkbbdgjaaGreatDoor

