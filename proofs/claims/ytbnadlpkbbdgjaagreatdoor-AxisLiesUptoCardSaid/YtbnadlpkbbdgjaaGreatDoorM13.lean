/- The contracts of the functions that the laws reach, part 13: what each returns and what becomes of memory. -/
import Derived.Test.YtbnadlpkbbdgjaaGreatDoorM12
set_option linter.unusedSimpArgs false
set_option linter.unusedVariables false


namespace Go.Proofs.YtbnadlpkbbdgjaaGreatDoor
open Go.RowKit

/-- strictly rising -/
def Rise (L : List VS) : Prop:=L.Pairwise fun a b => cmpS a b < 0
theorem kept_under {k : Int} (hk : Kd k) {qs : List Pv} (hqs : ∀ p ∈ qs,Sc k p.s) (hu : Ups qs) : ∀ t,t + 1 ≤ qs.length → ((kept qs (t + 1)).map Pv.s).Pairwise (fun a b => cmpS a b < 0) ∧ ∀ p ∈ kept qs (t + 1),p.s = (pg qs t).s ∨ cmpS p.s (pg qs t).s < 0
 | 0,_ => by
  rw [kept,if_neg (by omega)]
  refine ⟨List.pairwise_singleton _ _,fun p hp => .inl ?_⟩
  rw [kept,List.nil_append] at hp
  rw [List.mem_singleton.1 hp]
 | t + 1,ht => by
  obtain ⟨h1,h2⟩:=kept_under hk hqs hu t (by omega)
  have s0:=hqs _ (pg_mem (show t < qs.length by omega))
  have s1:=hqs _ (pg_mem (show t + 1 < qs.length by omega))
  rw [kept]
  by_cases hd : cmpS (pg qs (t + 1)).s (pg qs (t + 1 - 1)).s = 0
  ·rw [if_pos ⟨by omega,hd⟩]
   have e:=(cmpS_zero hk s1 s0).1 hd
   refine ⟨h1,fun p hp => ?_⟩
   rw [e]
   exact h2 p hp
  ·rw [if_neg (fun hh => hd hh.2)]
   rw [Nat.add_sub_cancel] at hd
   have hlt : cmpS (pg qs t).s (pg qs (t + 1)).s < 0:=by
    have:=hu t (t + 1) (by omega) (by omega)
    have:=cmpS_swap hk s0 s1
    omega
   have hup : ∀ p ∈ kept qs (t + 1),cmpS p.s (pg qs (t + 1)).s < 0:=fun p hp => by
    rcases h2 p hp with e | e
    ·rw [e];exact hlt
    ·exact cmpS_trans hk (hqs p (kept_mem qs (t + 1) (by omega) p hp)) s0 e hlt
   refine ⟨?_,fun p hp => ?_⟩
   ·rw [List.map_append,List.pairwise_append]
    refine ⟨h1,List.pairwise_singleton _ _,fun a ha b hb => ?_⟩
    obtain ⟨p,hp,rfl⟩:=List.mem_map.1 ha
    rw [List.map_singleton,List.mem_singleton] at hb
    rw [hb]
    exact hup p hp
   ·rcases List.mem_append.1 hp with hp | hp
    ·exact .inr (hup p hp)
    ·rw [List.mem_singleton.1 hp];exact .inl rfl
theorem kept_has {k : Int} (hk : Kd k) {qs : List Pv} (hqs : ∀ p ∈ qs,Sc k p.s) : ∀ t,t ≤ qs.length → ∀ j,j < t → ∃ x ∈ kept qs t,x.s = (pg qs j).s
 | 0,_,j,hj => absurd hj (Nat.not_lt_zero j)
 | t + 1,ht,j,hj => by
  rw [kept]
  by_cases hd : 0 < t ∧ cmpS (pg qs t).s (pg qs (t - 1)).s = 0
  ·rw [if_pos hd]
   by_cases e : j = t
   ·subst e
    obtain ⟨x,h1,h2⟩:=kept_has hk hqs j (by omega) (j - 1) (by omega)
    exact ⟨x,h1,h2.trans ((cmpS_zero hk (hqs _ (pg_mem (by omega))) (hqs _ (pg_mem (by omega)))).1 hd.2).symm⟩
   ·exact kept_has hk hqs t (by omega) j (by omega)
  ·rw [if_neg hd]
   by_cases e : j = t
   ·subst e
    exact ⟨_,List.mem_append_right _ (List.mem_singleton.2 rfl),rfl⟩
   ·obtain ⟨x,h1,h2⟩:=kept_has hk hqs t (by omega) j (by omega)
    exact ⟨x,List.mem_append_left _ h1,h2⟩
/-- the points of a list of ends: rising, with the same members -/
def Pts (L M : List VS) : Prop:=Rise L ∧ ∀ x,x ∈ L ↔ x ∈ M
theorem kept_pts {k : Int} (hk : Kd k) {qs ps : List Pv} (hps : ∀ p ∈ ps,Sc k p.s) (hp : qs.Perm ps) (hu : Ups qs) : Pts ((kept qs qs.length).map Pv.s) (ps.map Pv.s):=by
 have hqs : ∀ p ∈ qs,Sc k p.s:=fun p h => hps p (hp.mem_iff.1 h)
 refine ⟨?_,fun x => ⟨fun hx => ?_,fun hx => ?_⟩⟩
 ·rcases Nat.eq_zero_or_pos qs.length with h0 | h0
  ·rw [h0];exact List.Pairwise.nil
  ·obtain ⟨t,ht⟩ : ∃ t,qs.length = t + 1:=⟨qs.length - 1,by omega⟩
   rw [ht]
   exact (kept_under hk hqs hu t (by omega)).1
 ·obtain ⟨p,h1,rfl⟩:=List.mem_map.1 hx
  exact List.mem_map.2 ⟨p,hp.mem_iff.1 (kept_mem qs _ (Nat.le_refl _) p h1),rfl⟩
 ·obtain ⟨p,h1,rfl⟩:=List.mem_map.1 hx
  obtain ⟨j,hj,e⟩:=List.getElem_of_mem (hp.mem_iff.2 h1)
  obtain ⟨y,h2,h3⟩:=kept_has hk hqs qs.length (Nat.le_refl _) j hj
  refine List.mem_map.2 ⟨y,h2,h3.trans ?_⟩
  unfold pg
  rw [List.getD_eq_getElem?_getD,List.getElem?_eq_getElem hj,e]
  rfl
theorem Rise.tail {a : VS} {L : List VS} (h : Rise (a :: L)) : Rise L:=(List.pairwise_cons.1 h).2
/-- two rising lists with the same members are the same -/
theorem rise_ext {k : Int} (hk : Kd k) : ∀ {L M : List VS},Rise L → Rise M → (∀ x ∈ L,Sc k x) → (∀ x,x ∈ L ↔ x ∈ M) → L = M
 | [],[],_,_,_,_ => rfl
 | [],b :: M,_,_,_,h => absurd ((h b).2 (List.mem_cons_self ..)) List.not_mem_nil
 | a :: L,[],_,_,_,h => absurd ((h a).1 (List.mem_cons_self ..)) List.not_mem_nil
 | a :: L,b :: M,h1,h2,hs,h => by
  have sa:=hs a (List.mem_cons_self ..)
  have sb:=hs b ((h b).2 (List.mem_cons_self ..))
  have g1:=(List.pairwise_cons.1 h1).1
  have g2:=(List.pairwise_cons.1 h2).1
  have e : a = b:=by
   rcases List.mem_cons.1 ((h a).1 (List.mem_cons_self ..)) with e | e
   ·exact e
   ·rcases List.mem_cons.1 ((h b).2 (List.mem_cons_self ..)) with e2 | e2
    ·exact e2.symm
    ·have u1:=g2 a e
     have u2:=g1 b e2
     have:=cmpS_swap hk sa sb
     omega
  subst e
  have hn1 : a ∉ L:=fun hh => by have:=g1 a hh;rw [cmpS_self hk sa] at this;omega
  have hn2 : a ∉ M:=fun hh => by have:=g2 a hh;rw [cmpS_self hk sa] at this;omega
  rw [rise_ext hk h1.tail h2.tail (fun x hx => hs x (List.mem_cons_of_mem _ hx)) (fun x => ⟨fun hx => ?_,fun hx => ?_⟩)]
  ·rcases List.mem_cons.1 ((h x).1 (List.mem_cons_of_mem _ hx)) with e | e
   ·subst e;exact absurd hx hn1
   ·exact e
  ·rcases List.mem_cons.1 ((h x).2 (List.mem_cons_of_mem _ hx)) with e | e
   ·subst e;exact absurd hx hn2
   ·exact e
def PointsPost (ps : List Pv) (w : World) (e : Ending) (w' : World) : Prop:=∃ r ls,e = .returned r ∧ Pts (ls.map Pv.s) (ps.map Pv.s) ∧ (∀ p ∈ ls,p ∈ ps) ∧ ls.length ≤ ps.length ∧ Ro w' (ob w.heap.size) 1 30 10 r ls.length (flat ls) ∧ Below w.heap.size w w'
set_option maxRecDepth 100000 in
theorem points_vals {k : Int} (hk : Kd k) (ps : List Pv) (hps : ∀ p ∈ ps,Sc k p.s) (v : Value) (w : World) (hm : ps.length ≤ 1048576) (h : ∀ W,Below w.heap.size w W → Pvs W v ps) :
  Calls Tryz.prog 42 #[v] w (PointsPost ps w):=by
 obtain ⟨A,C,rfl,-⟩:=h w (Below.refl _ _)
 have hal : Below w.heap.size w (w.alloc (.cells #[.slice A ps.length C] 22)):=(Below.refl _ _).alloc (Nat.le_refl _) _
 have HV:=Lib.hid (values_any A ps.length C w)
 have HS:=Lib.hid (sorted_vals hk w.heap.size ps hps (.slice A ps.length C) (w.alloc (.cells #[.slice A ps.length C] 22)) hm (by rw [World.size_alloc];exact Nat.lt_succ_self _) (Bk.new _ _ _) (fun W hW => h W (hal.trans (hW.mono (by omega)))))
 unfold SortedPost at HS
 have HC:=Lib.hid (fun qs (hp : qs.Perm ps) W r (hW : w.heap.size + 1 ≤ W.heap.size) (hr : Ro W (ob (w.heap.size + 1)) 1 30 10 r ps.length (flat qs)) => compact_vals hk qs (fun p hh => hps p (hp.mem_iff.1 hh)) (by rw [hp.length_eq];exact hm) (w.heap.size + 1) r W hW (by rw [hp.length_eq];exact hr))
 unfold CompPost at HC
 have HPS:=Lib.hid hps
 have HAL:=Lib.hid hal
 unfold PointsPost
 clear h hps hal
 go_enter Tryz.func42,Tryz.ntmps42
 go_wp2_with (first | (go_at_call 62;(with_reducible refine HV.out.mono ?_);rintro _ _ ⟨rfl,rfl⟩) | (go_at_call 61;(with_reducible refine HS.out.mono ?_);rintro _ w2 ⟨r,qs,rfl,hq1,hq2,hq3,hb2⟩) | (go_at_call 63;(with_reducible refine (HC.out qs hq1 w2 r (by have:=hb2.size;rw [World.size_alloc] at this;exact this) (by rw [World.size_alloc] at hq3;exact hq3)).mono ?_);rintro _ w3 ⟨r3,rfl,hr3,hb3⟩))
 go_ret
 refine ⟨_,kept qs qs.length,rfl,kept_pts hk HPS.out hq1 hq2,fun p hp => hq1.mem_iff.1 (kept_mem qs _ (Nat.le_refl _) p hp),by rw [← hq1.length_eq];exact kept_len _ _,ob_mono hr3 (by omega),HAL.out.trans ((hb2.mono (by rw [World.size_alloc];omega)).trans (hb3.mono (by omega)))⟩
end Go.Proofs.YtbnadlpkbbdgjaaGreatDoor

