/- What this law reaches beyond the common contracts, part 3. -/
import Derived.Test.YtbnadlpkbbdgjaaGreatDoorM17
import Derived.Test.YtbnadlpkbbdgjaaGreatDoorXAyp2
set_option linter.unusedSimpArgs false
set_option linter.unusedVariables false


namespace Go.Proofs.YtbnadlpkbbdgjaaGreatDoor
open Go.RowKit

theorem sgt_of_mem {S : List (VS × Bool)} {x : VS × Bool} (h : x ∈ S) : ∃ j,j < S.length ∧ sgt S j = x:=by
 obtain ⟨j,hj,e⟩:=List.getElem_of_mem h
 exact ⟨j,hj,by rw [sgt_get hj,e]⟩
def LstG (S : List (VS × Bool)) (v : VS) (t a : Nat) : Prop:=(a = 0 ∨ (a < t ∧ ¬ cmpS v (sgt S a).1 < 0)) ∧ ∀ j,a < j → j < t → cmpS v (sgt S j).1 < 0
theorem LstG.find {k : Int} (hk : Kd k) {S : List (VS × Bool)} (hS : ∀ y ∈ S,Sc k y.1) (hR : RiseG S) (h0 : 0 < S.length) {v : VS} (hv : Sc k v) (hl : ¬ cmpS v (sgt S 0).1 < 0) {a : Nat} (h : LstG S v S.length a) : FindG S v a:=by
 obtain ⟨h1,h2⟩:=h
 have hal : a < S.length:=by rcases h1 with e | e <;> omega
 have hva : ¬ cmpS v (sgt S a).1 < 0:=by
  rcases h1 with e | e
  ·rw [e];exact hl
  ·exact e.2
 refine ⟨hal,fun j hj hh=>?_,h2⟩
 by_cases ej : j = a
 ·subst ej;exact hva hh
 ·exact hva (cmpS_trans hk hv (hS _ (sgt_mem (by omega))) hh (hR.at (by omega) hal))
end Go.Proofs.YtbnadlpkbbdgjaaGreatDoor



namespace Go.Proofs.YtbnadlpkbbdgjaaGreatDoor
open Go.RowKit

@[reducible] def truthV (b : Bool) : Value:=.agg #[.int .i64 1,.bool b,.bool false,.int .u64 0,.int .u64 0,.int .i64 0,.string ⟨#[]⟩,.int .i64 0,.slice none 0 0,.slice none 0 0]
set_option maxHeartbeats 400000 in
theorem ris_truth (b : Bool) (w : World) : Calls Tryz.prog 12 #[truthV b,.bool true] w fun e w'=>e = .returned (.bool b) ∧ Below w.heap.size w w':=by
 go_enter Tryz.func12,Tryz.ntmps12
 go_wp2_with fail
 go_ret
 exact ⟨ret_bool (by cases b <;> rfl),by exact bel⟩
theorem cmpi_neg_dec (a b : Int) : decide (cmpi a b < 0) = decide (a < b):=by
 rw [Bool.eq_iff_iff,decide_eq_true_iff,decide_eq_true_iff]
 exact cmpi_neg
end Go.Proofs.YtbnadlpkbbdgjaaGreatDoor



namespace Go.Proofs.YtbnadlpkbbdgjaaGreatDoor
open Go.RowKit

theorem same_pv (p q : Pv) : sameB p.d q.d = true ↔ p.s = q.s:=by
 rw [sameB_iff]
 constructor
 ·intro h
  injection h
 ·intro h
  unfold Pv.d
  rw [h]
theorem gg_mem {gs : List Sg} {r : Nat} (h : r < gs.length) : gg gs r ∈ gs:=by
 unfold gg
 rw [List.getD_eq_getElem?_getD,List.getElem?_eq_getElem h]
 exact List.getElem_mem _
end Go.Proofs.YtbnadlpkbbdgjaaGreatDoor



namespace Go.Proofs.YtbnadlpkbbdgjaaGreatDoor
open Go.RowKit

@[reducible] def dvo (n : Int) : Obj:=.cells #[.int .i64 (dayV n).kind,.bool (dayV n).yes,.bool (dayV n).neg,.int .u64 (wd (dayV n).coef 1),.int .u64 (wd (dayV n).coef 0),.int .i64 (dayV n).sc,.string ⟨(dayV n).text.toArray⟩,.int .i64 (dayV n).day,.slice none 0 0,.slice none 0 0] 30
def dvd (n : Int) : VD:=.mk (dayV n) [] []
theorem va_day (n : Int) (w : World) : VA w (dvd n) none 0 none 0:=Pv.va (p:=scp (dayV n)) ⟨⟨Nat.pow_pos (by decide),Nat.zero_le _⟩,Nat.zero_le _,Nat.zero_le _⟩ w
theorem vls_day (n : Int) (w : World) : Vls (RV (w.alloc (dvo n))) (w.alloc (dvo n)) (.slice (some ⟨w.heap.size,0,none⟩) 1 1) [dvd n]:=vls_one (va_day n w)
theorem three_rows {w : World} {A : Option Addr} {C : Nat} {gs : List Sg} (h : Sgs w (.slice A 3 C) gs) (hl : gs.length = 3) (hS : gs.map Sg.v = S3) : ∃ b o,A = some ⟨b,o,none⟩ ∧ w.cell? ⟨b,o + 7,none⟩ = some (.int .i64 1) ∧ w.cell? ⟨b,o + 11 + 7,none⟩ = some (.int .i64 2) ∧ w.cell? ⟨b,o + 11 + 10,none⟩ = some (.bool true) ∧ w.cell? ⟨b,o + 22 + 7,none⟩ = some (.int .i64 3):=by
 have hv : ∀ r,(gg gs r).v = sgt S3 r:=fun r=>by rw [gg_v,hS]
 have key : ∀ r,r < 3 → ∃ b o,A = some ⟨b,o,none⟩ ∧ w.cell? ⟨b,o + r * 11 + 7,none⟩ = some (.int .i64 (sgt S3 r).1.day) ∧ w.cell? ⟨b,o + r * 11 + 10,none⟩ = some (.bool (sgt S3 r).2):=fun r hr=>by
  obtain ⟨b,o,e,hat⟩:=h.at (by omega : r < gs.length)
  have:=hv r
  obtain ⟨x,hx⟩ : ∃ x,x = gg gs r:=⟨_,rfl⟩
  rw [← hx] at hat this
  obtain ⟨⟨s,A1,C1,A2,C2⟩,q⟩:=x
  obtain ⟨-,-,-,-,-,-,-,a7,-,-,a10⟩:=At.seg (s:=s) (L:=.slice A1 0 C1) (N:=.slice A2 0 C2) (B:=.bool q) hat
  unfold Sg.v at this
  rw [← this]
  exact ⟨b,o,e,a7,a10⟩
 obtain ⟨b,o,e,h0,-⟩:=key 0 (by decide)
 obtain ⟨b1,o1,e1,h1,h1'⟩:=key 1 (by decide)
 obtain ⟨b2,o2,e2,h2,-⟩:=key 2 (by decide)
 rw [e] at e1 e2
 injection e1 with e1
 injection e1 with e3 e4
 injection e2 with e2
 injection e2 with e5 e6
 subst e3 e4 e5 e6
 exact ⟨b,o,e,h0,h1,h1',h2⟩
set_option maxRecDepth 100000 in
set_option maxHeartbeats 4000000 in
theorem known22_any (w : World) (hT : Tabs w) : Calls Tryz.prog 5 #[] w fun e w'=>e = .returned (.bool true) ∧ Below w.heap.size w w':=by
 have HD:=Lib.hid (fun n W=>day_any n W)
 have HCU:=Lib.hid (fun W (hW : Below w.heap.size w W)=>Cut_any 4 (some ⟨W.heap.size,0,none⟩) 1 [dvd 2] (W.alloc (dvo 2)) (tabs_below hT (hW.alloc hW.size _)) (vls_day 2 W))
 have HFI:=Lib.hid (fun W (hW : Below w.heap.size w W) W' (hW' : Below (W.alloc (dvo 2)).heap.size (W.alloc (dvo 2)) W')=>Find_any 4 (some ⟨W.heap.size,0,none⟩) 1 [dvd 2] (dvd 5) none 0 none 0 W' (tabs_below hT ((hW.alloc hW.size _).trans (hW'.mono (by rw [World.size_alloc];exact Nat.le_succ_of_le hW.size)))) ((vls_day 2 W).kept hW') (va_day 5 W'))
 unfold CutsPost at HCU
 unfold FindPost at HFI
 have e1 : chkE 4 ([dvd 2] : List VD).length [dvd 2] = 0:=chk_days.1
 have e2 : chkE 4 ([dvd 2] : List VD).length ([dvd 2] ++ [dvd 5]) = 0:=chk_days.2
 rw [e1] at HCU
 rw [e2] at HFI
 have e3 : ([dvd 2] : List VD).map VD.s = [dayV 2]:=rfl
 have e4 : (dvd 5).s = dayV 5:=rfl
 rw [e3] at HCU HFI
 rw [e4] at HFI
 have e5 : ([dvd 2] : List VD).length = 1:=rfl
 rw [e5] at HCU HFI
 unfold vargs at HFI
 have e6 : (dvd 5).list.length = 0:=rfl
 have e7 : (dvd 5).names.length = 0:=rfl
 rw [e4,e6,e7] at HFI
 unfold Pv.val at HD
 dsimp only at HD
 unfold dvo at HCU HFI
 unfold vagg at HFI
 unfold vagg at HD
 clear e1 e2 e3 e4 e5 e6 e7
 have hb0:=Below.refl w.heap.size w
 go_enter Tryz.func5,Tryz.ntmps5
 go_upto_region 2 with (first | (go_at_call 14;(with_reducible refine (HD.out _ _).mono ?_);rintro _ w2 ⟨rfl,hb2⟩) | (go_at_call 7;(with_reducible refine (HCU.out w2 hb2).mono ?_);rintro _ w3 ⟨r,gs,rfl,hgl,hwf,hro,hseg,-,hb3⟩))
 have hsg:=segs_two (hseg (by trivial))
 have hlen : gs.length = 3:=by
  have:=congrArg List.length hsg
  rw [List.length_map] at this
  exact this
 have HSG:=Lib.hid hsg
 have HS:=Lib.hid (fun W (hW : Below w3.heap.size w3 W)=>(ro_sgs hro rfl hgl).below hW)
 obtain ⟨AR,CR,rfl,-⟩:=hro.sl.is
 rw [hlen] at HS ⊢
 have HLEN:=Lib.hid hlen
 have HB3 : Hid (Below w.heap.size w w3):=Lib.hid ((hb2.alloc hb2.size _).trans (hb3.mono (by rw [World.size_alloc];exact Nat.le_succ_of_le hb2.size)))
 clear hseg hgl hwf hro hb2 hb3 hsg hlen
 go_upto_region 3 with (first | (go_at_call 9;(with_reducible refine (HFI.out w4 (HB3.out.trans (hb4.mono HB3.out.size)) _ hb5).mono ?_);rintro _ w6 ⟨a,rfl,hfa,-,hb6⟩) | (go_at_call 14;(with_reducible refine (HD.out 2 _).mono ?_);rintro _ w4 ⟨rfl,hb4⟩) | (go_at_call 14;(with_reducible refine (HD.out 5 _).mono ?_);rintro _ w5 ⟨rfl,hb5⟩))
 have hF : ∃ S,Segs 4 [dayV 2] S ∧ FindS 4 S (dayV 5) a:=by first | exact hfa | exact hfa (by trivial)
 obtain ⟨S,hS,hF⟩:=hF
 rw [segs_two hS] at hF
 obtain rfl:=find_two hF
 have h36 : Below w3.heap.size w3 w6:=(hb4.alloc hb4.size _).trans ((hb5.mono (by rw [World.size_alloc];exact Nat.le_succ_of_le hb4.size)).trans (hb6.mono (by have h1:=hb5.size;have h2:=hb4.size;rw [World.size_alloc] at h1;omega)))
 obtain ⟨b,o,rfl,y0,y1,y2,y3⟩:=three_rows (HS.out w6 h36) HLEN.out HSG.out
 have hbl:=cell_lt2 y0
 have HBZ:=Lib.hid (HB3.out.trans (h36.mono HB3.out.size))
 clear h36 hfa hS hF hb4 hb5 hb6 HS
 go_wp2_with fail
 go_ret
 exact ⟨rfl,HBZ.out⟩
end Go.Proofs.YtbnadlpkbbdgjaaGreatDoor



namespace Go.Proofs.YtbnadlpkbbdgjaaGreatDoor
open Go.RowKit

def allC (l : List VD) : Bool:=l.all fun d=>decide (chkV d = 0)
theorem allC_iff {l : List VD} : allC l = true ↔ ∀ t,t < l.length → chkV (vg l t) = 0:=by
 unfold allC
 rw [List.all_eq_true]
 constructor
 ·intro h t ht
  have:=h (vg l t) (by unfold vg;rw [List.getD_eq_getElem?_getD,List.getElem?_eq_getElem ht];exact List.getElem_mem _)
  exact of_decide_eq_true this
 ·intro h x hx
  obtain ⟨t,ht,rfl⟩:=List.mem_iff_getElem.1 hx
  have:=h t ht
  unfold vg at this
  rw [List.getD_eq_getElem?_getD,List.getElem?_eq_getElem ht] at this
  exact decide_eq_true this
set_option maxRecDepth 100000 in
set_option maxHeartbeats 1000000 in
theorem vchecks_any (l : List VD) (v : Value) (w : World) (hT : Tabs w) (h : Vls (RV w) w v l) :
  Calls Tryz.prog 27 #[v] w fun e w'=>∃ z : Int,e = .returned (.int .i64 z) ∧ (z = 0 ↔ allC l = true) ∧ Below w.heap.size w w':=by
 obtain ⟨A,C,rfl,hll⟩:=h.is
 have HV:=Lib.hid h
 have HT:=Lib.hid hT
 have HZ:=Lib.hid (allC_iff (l:=l))
 clear h hT
 go_enter Tryz.func27,Tryz.ntmps27
 go_wp2_with fail
 go_loopg [8] l.length (fun k s8 wr=>∃ t : Nat,k + t = l.length ∧ s8 = .int .i64 t ∧ Hid (∀ i,i < t → chkV (vg l i) = 0) ∧ w.heap.size ≤ wr.heap.size ∧ Below w.heap.size w wr)
 case atStart=>exact ⟨0,by omega,rfl,Lib.hid (fun i hi=>absurd hi (Nat.not_lt_zero _)),by omega,by exact bel⟩
 case round =>
  obtain ⟨t,hk,rfl,HA,hsz,hbel⟩:=hrel
  have HK:=Lib.hid hk
  have htl : t ≤ l.length:=by omega
  clear hk
  by_cases hlt : t < l.length
  ·obtain ⟨b,o,B1,D1,B2,D2,rfl,hat,hx⟩:=(HV.out.kept hbel).at hlt
   obtain ⟨a0,a1,a2,a3,a4,a5,a6,a7,a8,a9⟩:=hat.val
   have lb:=vcell_lt a0
   have htc : (t : Int) < (l.length : Int):=by omega
   obtain ⟨x,hxx⟩ : ∃ x,x = vg l t:=⟨_,rfl⟩
   rw [← hxx] at hx a0 a1 a2 a3 a4 a5 a6 a7 a8 a9
   have HXX:=Lib.hid hxx
   have HX:=Lib.hid hx
   have HC:=Lib.hid (fun (W : World) (hW : Below wr.heap.size wr W)=>vcheck_any x B1 D1 B2 D2 W (tabs_below HT.out (hbel.trans (hW.mono hsz))) (RV.below HX.out hW))
   obtain ⟨e,he⟩ : ∃ e,e = chkV x:=⟨_,rfl⟩
   rw [← he] at HC
   have HE:=Lib.hid he
   unfold vargs at HC
   obtain ⟨n1',hn1⟩ : ∃ n1',n1' = x.list.length:=⟨_,rfl⟩
   obtain ⟨n2',hn2⟩ : ∃ n2',n2' = x.names.length:=⟨_,rfl⟩
   rw [← hn1] at a8 HC
   rw [← hn2] at a9 HC
   clear hat hx hxx he hn1 hn2 HX
   by_cases e0 : e = 0
   ·subst e0
    go_wp2_with ((go_at_call 39;with_reducible refine (HC.out _ (by exact bel)).mono ?_);rintro _ w2 ⟨rfl,hb2⟩;have hb2s:=hb2.size;(try simp only [wsA,wsS,wsD,wsN] at hb2s);obtain ⟨hb2c,hb2f⟩:=bcell hb2;(try have : w.heap.size < w2.heap.size:=by omega);(try have : w.heap.size + 1 < w2.heap.size:=by omega);(try have : w.heap.size + 1 + 1 < w2.heap.size:=by omega);(try have : w.heap.size + 1 + 1 + 1 < w2.heap.size:=by omega))
    go_roundg (gk - 1)
    case measure=>have:=HK.out;omega
    case rel=>exact ⟨t + 1,by have:=HK.out;omega,by go_num,Lib.hid (fun i hi=>by
     by_cases q : i = t
     ·subst q;rw [← HXX.out,← HE.out]
     ·exact HA.out i (by omega)),by omega,by exact bel⟩
   ·have f0 : (e != 0) = true:=by rw [bne_iff_ne];exact e0
    have HN : Hid (e = 0 ↔ allC l = true):=Lib.hid ⟨fun h=>absurd h e0,fun h=>absurd (by rw [HE.out,HXX.out];exact HZ.out.1 h t hlt) e0⟩
    clear e0
    go_wp2_with ((go_at_call 39;with_reducible refine (HC.out _ (by exact bel)).mono ?_);rintro _ w2 ⟨rfl,hb2⟩;have hb2s:=hb2.size;(try simp only [wsA,wsS,wsD,wsN] at hb2s);obtain ⟨hb2c,hb2f⟩:=bcell hb2;(try have : w.heap.size < w2.heap.size:=by omega);(try have : w.heap.size + 1 < w2.heap.size:=by omega);(try have : w.heap.size + 1 + 1 < w2.heap.size:=by omega);(try have : w.heap.size + 1 + 1 + 1 < w2.heap.size:=by omega))
    go_ret
    exact ⟨e,rfl,HN.out,by exact bel⟩
  ·obtain rfl : t = l.length:=by omega
   have HN : Hid ((0 : Int) = 0 ↔ allC l = true):=Lib.hid ⟨fun _=>HZ.out.2 HA.out,fun _=>rfl⟩
   clear hlt
   go_wp2_with fail
   go_ret
   exact ⟨0,rfl,⟨fun _=>HN.out.1 (by simp),fun _=>rfl⟩,by exact bel⟩
noncomputable def sameV (x y : VD) : Bool:=decide (chkV x = 0) && (decide (chkV y = 0) && sameB x y)
theorem two_all {x y : VD} : allC [x,y] = (decide (chkV x = 0) && decide (chkV y = 0)):=by
 simp [allC]
theorem vls_two {W : World} {q : Nat} {x y : VD} {A A2 B B2 : Option Addr} {C C2 D D2 : Nat}
  (h1 : At W q 0 (x.s.cs ++ [.slice A x.list.length C,.slice A2 x.names.length C2])) (h2 : At W q 10 (y.s.cs ++ [.slice B y.list.length D,.slice B2 y.names.length D2]))
  (hx : VA W x A C A2 C2) (hy : VA W y B D B2 D2) : Vls (RV W) W (.slice (some ⟨q,0,none⟩) 2 2) [x,y]:=by
 refine ⟨_,_,rfl,⟨by simp,by simp,by decide⟩,fun r hr=>?_⟩
 match r,hr with
 | 0,_=>exact ⟨q,0,A,C,A2,C2,rfl,h1,hx⟩
 | 1,_=>exact ⟨q,0,B,D,B2,D2,rfl,h2,hy⟩
theorem at_alloc {w : World} {cs : Array Value} {ty : Nat} {q : Nat} (hq : w.heap.size = q) (p n : Nat) : At (w.alloc (.cells cs ty)) q p ((cs.toList.drop p).take n):=by
 subst hq
 intro j hj
 rw [List.length_take] at hj
 have h1 : j < n:=by omega
 rw [List.getElem?_take_of_lt h1,List.getElem?_drop]
 rw [World.cell?_alloc_at cs ty _ _ rfl,Array.getElem?_toList]
set_option maxRecDepth 100000 in
set_option maxHeartbeats 1000000 in
theorem vsame_any (x y : VD) (A : Option Addr) (C : Nat) (A2 : Option Addr) (C2 : Nat) (B : Option Addr) (D : Nat) (B2 : Option Addr) (D2 : Nat) (w : World) (hT : Tabs w) (hx : VA w x A C A2 C2) (hy : VA w y B D B2 D2) :
  Calls Tryz.prog 13 #[vargs x A C A2 C2,vargs y B D B2 D2] w fun e w'=>e = .returned (.bool (sameV x y)) ∧ Below w.heap.size w w':=by
 have hc1:=fun (W : World) (hW : Below w.heap.size w W) (q : Nat) (h1 : At W q 0 (x.s.cs ++ [.slice A x.list.length C,.slice A2 x.names.length C2])) (h2 : At W q 10 (y.s.cs ++ [.slice B y.list.length D,.slice B2 y.names.length D2])) =>
  vchecks_any [x,y] (.slice (some ⟨q,0,none⟩) 2 2) W (tabs_below hT hW) (vls_two h1 h2 (VA.below hx hW) (VA.below hy hW))
 have hs:=fun (W : World) (hW : Below w.heap.size w W)=>alike_rv x y (.slice A x.list.length C) (.slice A2 x.names.length C2) (.slice B y.list.length D) (.slice B2 y.names.length D2) W (RV.below hx hW) (RV.below hy hW)
 have hz : sameV x y = (allC [x,y] && sameB x y):=by rw [two_all];unfold sameV;rw [Bool.and_assoc]
 rw [hz]
 obtain ⟨p,hp⟩ : ∃ p,p = allC [x,y]:=⟨_,rfl⟩
 obtain ⟨q,hq⟩ : ∃ q,q = sameB x y:=⟨_,rfl⟩
 rw [← hq] at hs
 rw [← hp,← hq]
 simp only [← hp] at hc1
 obtain ⟨s,l,nm⟩:=x
 obtain ⟨kind,yes,neg,coef,sc,text,day⟩:=s
 obtain ⟨s',l',nm'⟩:=y
 obtain ⟨kind',yes',neg',coef',sc',text',day'⟩:=s'
 unfold vargs vagg
 unfold vagg at hs
 unfold VS.cs at hc1
 dsimp only [VD.s,VD.list,VD.names] at hc1 hs ⊢
 have H1:=Lib.hid hc1
 have H3:=Lib.hid hs
 clear hc1 hs hx hy hp hq hz hT
 cases p with
 | false =>
  go_enter Tryz.func13,Tryz.ntmps13
  go_wp2_with (go_at_call 27;(with_reducible refine (H1.out _ (by exact bel) _ (at_alloc (by go_size) 0 10) (at_alloc (by go_size) 10 10)).mono ?_);rintro _ w2 ⟨z,rfl,hz,hb2⟩)
  go_ret
  exact ⟨ret_bool (by simp),by exact bel⟩
 | true =>
  go_enter Tryz.func13,Tryz.ntmps13
  go_wp2_with (first | (go_at_call 27;(with_reducible refine (H1.out _ (by exact bel) _ (at_alloc (by go_size) 0 10) (at_alloc (by go_size) 10 10)).mono ?_);rintro _ w2 ⟨z,rfl,hz,hb2⟩;have hb2s:=hb2.size;(try simp only [World.size_alloc] at hb2s);obtain ⟨hb2c,hb2f⟩:=bcell hb2;(try have : w.heap.size < w2.heap.size:=by omega);(try have : w.heap.size + 1 < w2.heap.size:=by omega);(try have : w.heap.size + 1 + 1 < w2.heap.size:=by omega);(try have : w.heap.size + 1 + 1 + 1 < w2.heap.size:=by omega);obtain rfl : z = 0:=hz.2 rfl;clear hz) | ((go_at_call 30;with_reducible refine (H3.out _ (by exact bel)).mono ?_);rintro _ w3 ⟨rfl,hb3⟩;have hb3s:=hb3.size;(try simp only [wsA,wsS,wsD,wsN] at hb3s);obtain ⟨hb3c,hb3f⟩:=bcell hb3;(try have : w.heap.size < w3.heap.size:=by omega);(try have : w.heap.size + 1 < w3.heap.size:=by omega);(try have : w.heap.size + 1 + 1 < w3.heap.size:=by omega);(try have : w.heap.size + 1 + 1 + 1 < w3.heap.size:=by omega);(try have : w2.heap.size < w3.heap.size:=by omega);(try have : w2.heap.size + 1 < w3.heap.size:=by omega);(try have : w2.heap.size + 1 + 1 < w3.heap.size:=by omega);(try have : w2.heap.size + 1 + 1 + 1 < w3.heap.size:=by omega)))
  go_ret
  exact ⟨ret_bool (by simp),by exact bel⟩
set_option maxHeartbeats 400000 in
theorem vtruth_any (b : Bool) (w : World) : Calls Tryz.prog 29 #[.bool b] w fun e w'=>e = .returned (truthV b) ∧ Below w.heap.size w w':=by
 go_enter Tryz.func29,Tryz.ntmps29
 go_wp2_with fail
 refine bodyPost_ret (by simp [results,Tryz.results29,go_sem, *];try rfl) rfl ?_
 exact ⟨rfl,by exact bel⟩
theorem chk_pv {k : Int} {p : Pv} (h : Sc k p.s) : chkV p.d = 0:=h.2.1
theorem vsame_pvs {k : Int} (p q : Pv) (hp : Sc k p.s) (hq : Sc k q.s) (hpw : p.wf) (hqw : q.wf) (w : World) (hT : Tabs w) : Calls Tryz.prog 13 #[p.val,q.val] w fun e w'=>e = .returned (.bool (sameB p.d q.d)) ∧ Below w.heap.size w w':=by
 have h:=vsame_any p.d q.d p.A p.C p.B p.D q.A q.C q.B q.D w hT (Pv.va ⟨hp.2.2,hpw⟩ w) (Pv.va ⟨hq.2.2,hqw⟩ w)
 have e : sameV p.d q.d = sameB p.d q.d:=by
  unfold sameV
  rw [decide_eq_true (chk_pv hp),decide_eq_true (chk_pv hq),Bool.true_and,Bool.true_and]
 rw [e] at h
 exact h
def VLessPost (c : Int) (w : World) (e : Ending) (w' : World) : Prop:=e = .returned (.tuple #[truthV (decide (c < 0)),.int .i64 0]) ∧ Below w.heap.size w w'
set_option maxRecDepth 100000 in
set_option maxHeartbeats 4000000 in
theorem vless_num (p q : Pv) (hp : Sc 2 p.s) (hq : Sc 2 q.s) (hpw : p.wf) (hqw : q.wf) (w : World) (hT : Tabs w) : Calls Tryz.prog 11 #[p.val,q.val] w (VLessPost (cmpS p.s q.s) w):=by
 have hc1:=fun (W : World) (hW : Below w.heap.size w W) (g : Nat) (h1 : At W g 0 (p.d.s.cs ++ [.slice p.A p.d.list.length p.C,.slice p.B p.d.names.length p.D])) (h2 : At W g 10 (q.d.s.cs ++ [.slice q.A q.d.list.length q.C,.slice q.B q.d.names.length q.D])) =>
  vchecks_any [p.d,q.d] (.slice (some ⟨g,0,none⟩) 2 2) W (tabs_below hT hW) (vls_two h1 h2 (Pv.va ⟨hp.2.2,hpw⟩ W) (Pv.va ⟨hq.2.2,hqw⟩ W))
 have hall : allC [p.d,q.d] = true:=by rw [two_all,decide_eq_true (chk_pv hp),decide_eq_true (chk_pv hq)];rfl
 simp only [hall] at hc1
 rw [cmpS_two hp]
 obtain ⟨t,e1,f1,g1⟩:=hp.num
 obtain ⟨u,e2,f2,g2⟩:=hq.num
 have ho:=ord_dec (b:=p.s.neg) (b':=q.s.neg) (c:=p.s.coef) (s:=t) (c':=q.s.coef) (s':=u) (fun h0=>(f1.2.2.1 h0).1) (fun h0=>(f2.2.2.1 h0).1)
 have hz1 : numZ p.s = sval p.s.neg (unit p.s.coef t):=by unfold numZ;rw [e1,Int.toNat_natCast]
 have hz2 : numZ q.s = sval q.s.neg (unit q.s.coef u):=by unfold numZ;rw [e2,Int.toNat_natCast]
 rw [hz1,hz2,← ho]
 rw [e1] at g1
 rw [e2] at g2
 have HCM:=Lib.hid (fun (W : World)=>dcmp_ok p.s.neg p.s.coef t q.s.neg q.s.coef u g1 g2 f1.1 f2.1 f1.2.1 f2.2.1 W)
 have HTR:=Lib.hid (fun b (W : World)=>vtruth_any b W)
 have hk1:=hp.1
 have hk2:=hq.1
 obtain ⟨⟨kind,yes,neg,coef,sc,text,day⟩,A,C,B,D⟩:=p
 obtain ⟨⟨kind',yes',neg',coef',sc',text',day'⟩,A',C',B',D'⟩:=q
 dsimp only at hk1 hk2 e1 e2 HCM
 unfold Pv.d VS.cs at hc1
 unfold Pv.val vagg
 dsimp only [VD.s,VD.list,VD.names,List.length_nil] at hc1 ⊢
 subst hk1 hk2 e1 e2
 generalize ordD neg (unit coef t) neg' (unit coef' u) = o at *
 generalize wd coef 1 = x1 at *
 generalize wd coef 0 = x0 at *
 generalize wd coef' 1 = y1 at *
 generalize wd coef' 0 = y0 at *
 have H1:=Lib.hid hc1
 clear hc1 hp hq hpw hqw ho hz1 hz2 f1 f2 g1 g2 hall hT
 unfold VLessPost
 go_enter Tryz.func11,Tryz.ntmps11
 go_wp2_with (first | (go_at_call 27;(with_reducible refine (H1.out _ (by exact bel) _ (at_alloc (by go_size) 0 10) (at_alloc (by go_size) 10 10)).mono ?_);rintro _ w2 ⟨z,rfl,hz,hb2⟩;have hb2s:=hb2.size;(try simp only [World.size_alloc] at hb2s);obtain ⟨hb2c,hb2f⟩:=bcell hb2;(try have : w.heap.size < w2.heap.size:=by omega);(try have : w.heap.size + 1 < w2.heap.size:=by omega);(try have : w.heap.size + 1 + 1 < w2.heap.size:=by omega);(try have : w.heap.size + 1 + 1 + 1 < w2.heap.size:=by omega);obtain rfl : z = 0:=hz.2 trivial;clear hz) | ((go_at_call 28;with_reducible refine (HCM.out _).mono ?_);rintro _ w3 ⟨rfl,hb3⟩;have hb3s:=hb3.size;(try simp only [wsA,wsS,wsD,wsN] at hb3s);obtain ⟨hb3c,hb3f⟩:=bcell hb3;(try have : w.heap.size < w3.heap.size:=by omega);(try have : w.heap.size + 1 < w3.heap.size:=by omega);(try have : w.heap.size + 1 + 1 < w3.heap.size:=by omega);(try have : w.heap.size + 1 + 1 + 1 < w3.heap.size:=by omega);(try have : w2.heap.size < w3.heap.size:=by omega);(try have : w2.heap.size + 1 < w3.heap.size:=by omega);(try have : w2.heap.size + 1 + 1 < w3.heap.size:=by omega);(try have : w2.heap.size + 1 + 1 + 1 < w3.heap.size:=by omega)) | ((go_at_call 29;with_reducible refine (HTR.out _ _).mono ?_);rintro _ w4 ⟨rfl,hb4⟩;have hb4s:=hb4.size;(try simp only [wsA,wsS,wsD,wsN] at hb4s);obtain ⟨hb4c,hb4f⟩:=bcell hb4;(try have : w.heap.size < w4.heap.size:=by omega);(try have : w.heap.size + 1 < w4.heap.size:=by omega);(try have : w.heap.size + 1 + 1 < w4.heap.size:=by omega);(try have : w.heap.size + 1 + 1 + 1 < w4.heap.size:=by omega);(try have : w3.heap.size < w4.heap.size:=by omega);(try have : w3.heap.size + 1 < w4.heap.size:=by omega);(try have : w3.heap.size + 1 + 1 < w4.heap.size:=by omega);(try have : w3.heap.size + 1 + 1 + 1 < w4.heap.size:=by omega)))
 refine bodyPost_ret (by simp [results,Tryz.results11,go_sem, *];try rfl) rfl ?_
 exact ⟨rfl,by exact bel⟩
set_option maxRecDepth 100000 in
set_option maxHeartbeats 4000000 in
theorem vless_day (p q : Pv) (hp : Sc 4 p.s) (hq : Sc 4 q.s) (hpw : p.wf) (hqw : q.wf) (w : World) (hT : Tabs w) : Calls Tryz.prog 11 #[p.val,q.val] w (VLessPost (cmpS p.s q.s) w):=by
 have hc1:=fun (W : World) (hW : Below w.heap.size w W) (g : Nat) (h1 : At W g 0 (p.d.s.cs ++ [.slice p.A p.d.list.length p.C,.slice p.B p.d.names.length p.D])) (h2 : At W g 10 (q.d.s.cs ++ [.slice q.A q.d.list.length q.C,.slice q.B q.d.names.length q.D])) =>
  vchecks_any [p.d,q.d] (.slice (some ⟨g,0,none⟩) 2 2) W (tabs_below hT hW) (vls_two h1 h2 (Pv.va ⟨hp.2.2,hpw⟩ W) (Pv.va ⟨hq.2.2,hqw⟩ W))
 have hall : allC [p.d,q.d] = true:=by rw [two_all,decide_eq_true (chk_pv hp),decide_eq_true (chk_pv hq)];rfl
 simp only [hall] at hc1
 rw [cmpS_day hp]
 have HTR:=Lib.hid (fun b (W : World)=>vtruth_any b W)
 have hk1:=hp.1
 have hk2:=hq.1
 obtain ⟨⟨kind,yes,neg,coef,sc,text,day⟩,A,C,B,D⟩:=p
 obtain ⟨⟨kind',yes',neg',coef',sc',text',day'⟩,A',C',B',D'⟩:=q
 dsimp only at hk1 hk2 ⊢
 unfold Pv.d VS.cs at hc1
 unfold Pv.val vagg
 dsimp only [VD.s,VD.list,VD.names,List.length_nil] at hc1 ⊢
 subst hk1 hk2
 generalize wd coef 1 = x1 at *
 generalize wd coef 0 = x0 at *
 generalize wd coef' 1 = y1 at *
 generalize wd coef' 0 = y0 at *
 have H1:=Lib.hid hc1
 clear hc1 hp hq hpw hqw hall hT
 unfold VLessPost
 rw [cmpi_neg_dec]
 go_enter Tryz.func11,Tryz.ntmps11
 go_wp2_with (first | (go_at_call 27;(with_reducible refine (H1.out _ (by exact bel) _ (at_alloc (by go_size) 0 10) (at_alloc (by go_size) 10 10)).mono ?_);rintro _ w2 ⟨z,rfl,hz,hb2⟩;have hb2s:=hb2.size;(try simp only [World.size_alloc] at hb2s);obtain ⟨hb2c,hb2f⟩:=bcell hb2;(try have : w.heap.size < w2.heap.size:=by omega);(try have : w.heap.size + 1 < w2.heap.size:=by omega);(try have : w.heap.size + 1 + 1 < w2.heap.size:=by omega);(try have : w.heap.size + 1 + 1 + 1 < w2.heap.size:=by omega);obtain rfl : z = 0:=hz.2 trivial;clear hz) | ((go_at_call 29;with_reducible refine (HTR.out _ _).mono ?_);rintro _ w4 ⟨rfl,hb4⟩;have hb4s:=hb4.size;(try simp only [wsA,wsS,wsD,wsN] at hb4s);obtain ⟨hb4c,hb4f⟩:=bcell hb4;(try have : w.heap.size < w4.heap.size:=by omega);(try have : w.heap.size + 1 < w4.heap.size:=by omega);(try have : w.heap.size + 1 + 1 < w4.heap.size:=by omega);(try have : w.heap.size + 1 + 1 + 1 < w4.heap.size:=by omega);(try have : w2.heap.size < w4.heap.size:=by omega);(try have : w2.heap.size + 1 < w4.heap.size:=by omega);(try have : w2.heap.size + 1 + 1 < w4.heap.size:=by omega);(try have : w2.heap.size + 1 + 1 + 1 < w4.heap.size:=by omega)))
 refine bodyPost_ret (by simp [results,Tryz.results11,go_sem, *];try rfl) rfl ?_
 exact ⟨rfl,by exact bel⟩
theorem vless_pv {k : Int} (hk : k = 2 ∨ k = 4) (p q : Pv) (hp : Sc k p.s) (hq : Sc k q.s) (hpw : p.wf) (hqw : q.wf) (w : World) (hT : Tabs w) : Calls Tryz.prog 11 #[p.val,q.val] w (VLessPost (cmpS p.s q.s) w):=by
 rcases hk with rfl | rfl
 ·exact vless_num p q hp hq hpw hqw w hT
 ·exact vless_day p q hp hq hpw hqw w hT
end Go.Proofs.YtbnadlpkbbdgjaaGreatDoor



namespace Go.Proofs.YtbnadlpkbbdgjaaGreatDoor
open Go.RowKit

theorem Tight.at {k : Int} : ∀ {S : List (VS × Bool)},Tight k S → ∀ {i : Nat},i < S.length → (sgt S i).2 = true → ∀ {v : VS},Sc k v → cmpS (sgt S i).1 v < 0 → i + 1 < S.length ∧ ¬ cmpS v (sgt S (i + 1)).1 < 0
 | [],_,_,h,_,_,_,_=>absurd h (Nat.not_lt_zero _)
 | y :: r,ht,0,_,hb,v,hv,hlt=>by
  obtain ⟨z,r',rfl,hz⟩:=ht.1 hb v hv hlt
  exact ⟨by show 1 < r'.length + 1 + 1;omega,hz⟩
 | y :: r,ht,i + 1,hi,hb,v,hv,hlt=>by
  have:=ht.2.at (i:=i) (by rw [List.length_cons] at hi;omega) hb hv hlt
  exact ⟨by rw [List.length_cons];omega,this.2⟩
theorem Alt.at : ∀ {S : List (VS × Bool)},Alt S → ∀ {i : Nat},i + 1 < S.length → (sgt S i).2 = true ∨ (sgt S (i + 1)).2 = true
 | [],_,_,h=>absurd h (Nat.not_lt_zero _)
 | [y],_,i,h=>by
  have : i + 1 < 1:=h
  omega
 | y :: z :: r,ha,0,_=>by
  cases hb : y.2 with
  | true=>exact .inl hb
  | false=>exact .inr (ha.1 hb z r rfl)
 | y :: z :: r,ha,i + 1,hi=>by
  have h2 : i + 1 < (z :: r).length:=by rw [List.length_cons] at hi;omega
  exact ha.2.at h2
theorem FindG.own {k : Int} (hk : Kd k) {S : List (VS × Bool)} (hS : ∀ y ∈ S,Sc k y.1) (hR : RiseG S) {i : Nat} (hi : i < S.length) : FindG S (sgt S i).1 i:=by
 have hs : ∀ {j},j < S.length → Sc k (sgt S j).1:=fun hj=>hS _ (sgt_mem hj)
 refine ⟨hi,fun j hj hh=>?_,fun j h1 h2=>hR.at h1 h2⟩
 by_cases e : j = i
 ·rw [e,cmpS_self hk (hs hi)] at hh
  omega
 ·have h1:=hR.at (show j < i by omega) hi
  rw [cmpS_swap hk (hs (by omega)) (hs hi)] at hh
  omega
theorem segT_at {L : List VS} {n i : Nat} (hi : i < L.length) : sgt (segT L n) i = (L[i],true):=by
 unfold sgt segT
 rw [List.getD_eq_getElem?_getD,List.getElem?_append_left (by rw [List.length_map];exact hi),List.getElem?_map,List.getElem?_eq_getElem hi]
 rfl
theorem segT_end {L : List VS} {n : Nat} : sgt (segT L n) L.length = (txV (aT n),false):=by
 unfold sgt segT
 rw [List.getD_eq_getElem?_getD,List.getElem?_append_right (by rw [List.length_map];exact Nat.le_refl _),List.length_map,Nat.sub_self]
 rfl
theorem segT_len {L : List VS} {n : Nat} : (segT L n).length = L.length + 1:=by
 unfold segT
 rw [List.length_append,List.length_map]
 rfl
theorem rise_ne {L : List VS} (h : Rise L) (hL : ∀ x ∈ L,Sc 3 x) {i j : Nat} (hij : i < j) (hj : j < L.length) : L[i]'(by omega) ≠ L[j]:=fun e=>by
 have h1:=List.pairwise_iff_getElem.1 h i j (by omega) hj hij
 rw [e,cmpS_self (.inr (.inl rfl)) (hL _ (List.getElem_mem hj))] at h1
 omega
theorem Segs.own {k : Int} (hk : 1 ≤ k ∧ k ≤ 4) {M : List VS} {S : List (VS × Bool)} (h : Segs k M S) (hM : ∀ x ∈ M,Sc k x) (hl : M.length ≤ 200) {i : Nat} (hi : i < S.length) : FindS k S (sgt S i).1 i:=by
 have hk' : k = 1 ∨ k = 3 ∨ (k = 2 ∨ k = 4):=by omega
 rcases hk' with rfl | rfl | hk'
 ·unfold Segs at h
  rw [if_pos rfl] at h
  subst h
  unfold FindS
  rw [if_pos (.inl rfl)]
  have hi : i < 2:=hi
  have hi' : i = 0 ∨ i = 1:=by omega
  rcases hi' with rfl | rfl
  ·exact .inl ⟨by decide,rfl,fun j hj=>absurd hj (Nat.not_lt_zero j)⟩
  ·refine .inl ⟨by decide,rfl,fun j hj hh=>?_⟩
   obtain rfl : j = 0:=by omega
   have h1:=congrArg (fun y : VS × Bool=>y.1.yes) hh
   cases h1
 ·obtain ⟨L,n,hP,hO,rfl⟩:=(h.txt hM hl).2.2.2
  have hL : ∀ x ∈ L,Sc 3 x:=fun x hx=>hM x ((hP.2 x).1 hx)
  unfold FindS
  rw [if_pos (.inr rfl)]
  rw [segT_len] at hi
  by_cases e : i = L.length
  ·subst e
   rw [segT_end]
   refine .inr ⟨by rw [segT_len],fun j hj hh=>?_⟩
   rw [segT_len] at hj
   by_cases ej : j = L.length
   ·rw [ej,segT_end] at hh
    have:=congrArg Prod.snd hh
    cases this
   ·have hjl : j < L.length:=by omega
    rw [segT_at hjl] at hh
    have h1 : L[j] = txV (aT n):=congrArg Prod.fst hh
    refine hO.1 L[j] ((hP.2 _).1 (List.getElem_mem hjl)) ?_
    rw [h1]
    rfl
  ·have hil : i < L.length:=by omega
   rw [segT_at hil]
   refine .inl ⟨by rw [segT_len];omega,segT_at hil,fun j hj hh=>?_⟩
   rw [segT_at (by omega)] at hh
   exact rise_ne hP.1 hL hj hil (congrArg Prod.fst hh)
 ·obtain ⟨t1,t2,-⟩:=h.two hk' hM
  unfold FindS
  rw [if_neg (by omega)]
  exact FindG.own (Kd.of hk') t1 t2 hi
theorem Segs.end_ {k : Int} (hk : 1 ≤ k ∧ k ≤ 4) {M : List VS} {S : List (VS × Bool)} (h : Segs k M S) (hM : ∀ x ∈ M,Sc k x) (hl : M.length ≤ 200) {v : VS} (hv : v ∈ M) {a : Nat} (hf : FindS k S v a) : sgt S a = (v,true):=by
 have hk' : k = 1 ∨ k = 3 ∨ (k = 2 ∨ k = 4):=by omega
 have hmem : (v,true) ∈ S:=by
  rcases hk' with rfl | rfl | hk'
  ·unfold Segs at h
   rw [if_pos rfl] at h
   subst h
   rw [(hM v hv).ext1]
   unfold segB
   cases v.yes with
   | true=>exact List.mem_cons_of_mem _ (List.mem_cons_self ..)
   | false=>exact List.mem_cons_self ..
  ·exact ((h.txt hM hl).2.2.1 v).2 hv
  ·exact ((h.two hk' hM).2.2.2.2.2.2 v).2 hv
 obtain ⟨j,hj,e⟩:=sgt_of_mem hmem
 have hh : FindS k S v j ∨ (sgt S a = (v,true)):=by
  rcases hk' with rfl | rfl | hk'
  ·unfold FindS at hf
   rw [if_pos (.inl rfl)] at hf
   rcases hf with ⟨_,h1,_⟩ | ⟨_,h1⟩
   ·exact .inr h1
   ·exact absurd e (h1 j hj)
  ·unfold FindS at hf
   rw [if_pos (.inr rfl)] at hf
   rcases hf with ⟨_,h1,_⟩ | ⟨_,h1⟩
   ·exact .inr h1
   ·exact absurd e (h1 j hj)
  ·left
   have:=h.own (by omega) hM hl hj
   rw [e] at this
   exact this
 rcases hh with hh | hh
 ·rw [hf.eq hh,e]
 ·exact hh
theorem Segs.lies {k : Int} (hk : k = 2 ∨ k = 4) {M : List VS} {S : List (VS × Bool)} (h : Segs k M S) (hM : ∀ x ∈ M,Sc k x) {v : VS} (hv : Sc k v) {a : Nat} (hf : FindS k S v a) : ¬ cmpS v (sgt S a).1 < 0 ∧ ((sgt S a).2 = true → v = (sgt S a).1) ∧ (a + 1 < S.length → cmpS v (sgt S (a + 1)).1 < 0):=by
 obtain ⟨t1,t2,t3,t4,-⟩:=h.two hk hM
 unfold FindS at hf
 rw [if_neg (by omega)] at hf
 obtain ⟨h1,h2,h3⟩:=hf
 have hs:=t1 _ (sgt_mem h1)
 refine ⟨h2 a (Nat.le_refl _),fun hb=>?_,fun hl=>h3 (a + 1) (Nat.lt_succ_self _) hl⟩
 by_cases e : cmpS v (sgt S a).1 = 0
 ·exact (cmpS_zero (Kd.of hk) hv hs).1 e
 ·have h4:=h2 a (Nat.le_refl _)
  have h5 : cmpS (sgt S a).1 v < 0:=by
   rw [cmpS_swap (Kd.of hk) hv hs]
   omega
  obtain ⟨h6,h7⟩:=t4.at h1 hb hv h5
  exact absurd (h3 (a + 1) (Nat.lt_succ_self _) h6) h7
theorem chk_sub {k : Int} {n : Nat} {ds : List VD} {vd : VD} (h : chkE k n (ds ++ [vd]) = 0) : chkE k n ds = 0:=by
 obtain ⟨h1,h2,h3,h4⟩:=chkE_zero h
 have h5 : fstE ds = 0:=by
  have : ∀ l : List VD,(∀ d ∈ l,chkV d = 0) → fstE l = 0:=fun l=>by
   induction l with
   | nil=>intro _;rfl
   | cons x r ih =>
    intro hl
    rw [fstE,if_pos (hl x (List.mem_cons_self ..))]
    exact ih fun d hd=>hl d (List.mem_cons_of_mem _ hd)
  exact this ds fun d hd=>(h4 d (List.mem_append_left _ hd)).1
 unfold chkE
 rw [if_neg (by omega),if_neg (fun hh=>hh h5),if_neg (by omega),if_neg]
 intro hh
 obtain ⟨d,hd,e⟩:=List.any_eq_true.1 hh
 exact (of_decide_eq_true e) (h4 d (List.mem_append_left _ hd)).2
theorem chk_add {k : Int} {n : Nat} {ds : List VD} {p : Pv} (h : chkE k n ds = 0) (hp : Sc k p.s) : chkE k n (ds ++ [p.d]) = 0:=by
 obtain ⟨h1,h2,h3,h4⟩:=chkE_zero h
 unfold chkE
 rw [if_neg (by omega),fstE_app _ _ h2,fstE,if_pos (chk_pv hp),fstE,if_neg (fun hh=>hh rfl),if_neg (by omega),if_neg]
 intro hh
 obtain ⟨d,hd,e⟩:=List.any_eq_true.1 hh
 rcases List.mem_append.1 hd with hd | hd
 ·exact (of_decide_eq_true e) (h4 d hd).2
 ·rw [List.mem_singleton.1 hd] at e
  exact (of_decide_eq_true e) hp.1
end Go.Proofs.YtbnadlpkbbdgjaaGreatDoor



namespace Go.Proofs.YtbnadlpkbbdgjaaGreatDoor
open Go.RowKit

structure EndsI (k : Int) (A : Option Addr) (C : Nat) (ds : List VD) (ps : List Pv) (w : World) : Prop where
 tabs : Tabs w
 vls : Vls (RV w) w (.slice A ds.length C) ds
 chk : chkE k ds.length ds = 0
 kind : 1 ≤ k ∧ k ≤ 4
 map : ps.map Pv.s = ds.map VD.s
 len : ps.length = ds.length
 sc : ∀ p ∈ ps,Sc k p.s
 wf : ∀ p ∈ ps,p.wf
 mem : ∀ p ∈ ps,p.d ∈ ds
 rd : ∀ W,Below w.heap.size w W → Pvs W (.slice A ds.length C) ps
 few : ds.length ≤ 200
theorem ends_of {k : Int} {A : Option Addr} {C : Nat} {ds : List VD} {w : World} (hT : Tabs w) (h : Vls (RV w) w (.slice A ds.length C) ds) (e : chkE k ds.length ds = 0) : ∃ ps,EndsI k A C ds ps w:=by
 obtain ⟨h200,-,hk,hd⟩:=chkE_zero e
 obtain ⟨ps,p1,p2,p3,p4,p5⟩:=pvs_of_vls hk h hd
 have hok : ∀ d ∈ ds,d.list = [] ∧ d.names = []:=fun d hd'=>by
  obtain ⟨l,hl,hr,-⟩:=vls_vcs h
  rw [← hl] at hd'
  obtain ⟨c,hc,rfl⟩:=List.mem_map.1 hd'
  have:=hd c.d (by rw [← hl];exact List.mem_map.2 ⟨c,hc,rfl⟩)
  exact (sc_of hk (hr c hc).ok this.1 this.2).2
 refine ⟨ps,hT,h,e,hk,p1,p2,p3,p4,fun p hp=>?_,p5,h200⟩
 have h1 : p.s ∈ ds.map VD.s:=by rw [← p1];exact List.mem_map.2 ⟨p,hp,rfl⟩
 obtain ⟨d,hd',e'⟩:=List.mem_map.1 h1
 have:=hok d hd'
 obtain ⟨s,l,nm⟩:=d
 dsimp only [VD.list,VD.names,VD.s] at this e'
 obtain ⟨rfl,rfl⟩:=this
 subst e'
 exact hd'
theorem EndsI.sM {k : Int} {A : Option Addr} {C : Nat} {ds : List VD} {ps : List Pv} {w : World} (h : EndsI k A C ds ps w) : ∀ x ∈ ds.map VD.s,Sc k x:=fun x hx=>by
 rw [← h.map] at hx
 obtain ⟨p,hp,rfl⟩:=List.mem_map.1 hx
 exact h.sc p hp
theorem EndsI.lM {k : Int} {A : Option Addr} {C : Nat} {ds : List VD} {ps : List Pv} {w : World} (h : EndsI k A C ds ps w) : (ds.map VD.s).length ≤ 200:=by
 rw [List.length_map]
 exact h.few
theorem EndsI.find {k : Int} {A : Option Addr} {C : Nat} {ds : List VD} {ps : List Pv} {w : World} (h : EndsI k A C ds ps w) {S : List (VS × Bool)} (hS : Segs k (ds.map VD.s) S) (p : Pv) (hp : Sc k p.s) (hw : p.wf) (W : World) (hW : Below w.heap.size w W) :
  Calls Tryz.prog 9 #[.int .i64 k,.slice A ds.length C,p.val] W fun e w'=>∃ a : Nat,e = .returned (.tuple #[.int .i64 a,.int .i64 0]) ∧ FindS k S p.s a ∧ Below W.heap.size W w':=by
 have hc:=Find_any k A C ds p.d p.A p.C p.B p.D W (tabs_below h.tabs hW) (h.vls.kept hW) (Pv.va ⟨hp.2.2,hw⟩ W)
 refine Calls.mono (R:=FindPost k ds p.d W) hc ?_
 rintro _ w' ⟨a,rfl,h1,-,h3⟩
 have e:=chk_add h.chk hp
 obtain ⟨S',s1,f1⟩:=h1 e
 rw [Segs.eq h.sM h.kind s1 hS] at f1
 rw [e]
 exact ⟨a,rfl,f1,h3⟩
theorem EndsI.own {k : Int} {A : Option Addr} {C : Nat} {ds : List VD} {ps : List Pv} {w : World} (h : EndsI k A C ds ps w) {gs : List Sg} (hS : Segs k (ds.map VD.s) (gs.map Sg.v)) (hw : WfG gs) (hs : ∀ g ∈ gs,Sc k g.p.s) {t : Nat} (ht : t < gs.length) (W : World) (hW : Below w.heap.size w W) :
  Calls Tryz.prog 9 #[.int .i64 k,.slice A ds.length C,(gg gs t).p.val] W fun e w'=>e = .returned (.tuple #[.int .i64 t,.int .i64 0]) ∧ Below W.heap.size W w':=by
 have hm:=gg_mem ht
 refine (h.find hS (gg gs t).p (hs _ hm) (hw _ hm) W hW).mono ?_
 rintro _ w' ⟨a,rfl,hf,hb⟩
 have h2:=Segs.own h.kind hS h.sM h.lM (i:=t) (by rw [List.length_map];exact ht)
 have e : (sgt (gs.map Sg.v) t).1 = (gg gs t).p.s:=by rw [← gg_v];rfl
 rw [e] at h2
 rw [hf.eq h2]
 exact ⟨rfl,hb⟩
theorem EndsI.end_ {k : Int} {A : Option Addr} {C : Nat} {ds : List VD} {ps : List Pv} {w : World} (h : EndsI k A C ds ps w) {S : List (VS × Bool)} (hS : Segs k (ds.map VD.s) S) {t : Nat} (ht : t < ps.length) (W : World) (hW : Below w.heap.size w W) :
  Calls Tryz.prog 9 #[.int .i64 k,.slice A ds.length C,(pg ps t).val] W fun e w'=>∃ a : Nat,e = .returned (.tuple #[.int .i64 a,.int .i64 0]) ∧ a < S.length ∧ sgt S a = ((pg ps t).s,true) ∧ Below W.heap.size W w':=by
 have hm:=pg_mem ht
 refine (h.find hS (pg ps t) (h.sc _ hm) (h.wf _ hm) W hW).mono ?_
 rintro _ w' ⟨a,rfl,hf,hb⟩
 refine ⟨a,rfl,hf.lt,Segs.end_ h.kind hS h.sM h.lM ?_ hf,hb⟩
 rw [← h.map]
 exact List.mem_map.2 ⟨_,hm,rfl⟩
theorem segs_sc {k : Int} (hk : 1 ≤ k ∧ k ≤ 4) {M : List VS} (hM : ∀ x ∈ M,Sc k x) (hl : M.length ≤ 200) {S : List (VS × Bool)} (hS : Segs k M S) : (∀ y ∈ S,Sc k y.1) ∧ 0 < S.length:=by
 have hk' : k = 1 ∨ k = 3 ∨ (k = 2 ∨ k = 4):=by omega
 rcases hk' with rfl | rfl | hk'
 ·unfold Segs at hS
  rw [if_pos rfl] at hS
  subst hS
  refine ⟨fun y hy=>?_,by decide⟩
  have hb : ∀ b,Sc 1 ⟨1,b,false,0,0,[],0⟩:=fun b=>by
   refine ⟨rfl,chk_sc ?_,Nat.pow_pos (by decide),Nat.zero_le _⟩
   unfold ownB kindB
   rw [Bool.and_eq_true]
   exact ⟨bareQ_iff.2 ⟨.inl rfl,.inr (zn_nil _ _ _ _),.inr rfl,.inr rfl,.inr rfl,.inr rfl⟩,if_pos (.inr (.inl rfl))⟩
  rcases List.mem_cons.1 hy with rfl | hy
  ·exact hb _
  ·rw [List.mem_singleton.1 hy];exact hb _
 ·exact ⟨(hS.txt hM hl).1,(hS.txt hM hl).2.1⟩
 ·exact ⟨(hS.two hk' hM).1,(hS.two hk' hM).2.2.1⟩
end Go.Proofs.YtbnadlpkbbdgjaaGreatDoor



namespace Go.Proofs.YtbnadlpkbbdgjaaGreatDoor
open Go.RowKit

theorem val_box {w : World} {g : Nat} {t : TypeId} {s : VS} {L N : Value} (h : Bk w g t (s.cs ++ [L,N])) : (w.cell? ⟨g,0,none⟩ = some (.int .i64 s.kind) ∧ w.cell? ⟨g,1,none⟩ = some (.bool s.yes) ∧ w.cell? ⟨g,2,none⟩ = some (.bool s.neg) ∧ w.cell? ⟨g,3,none⟩ = some (.int .u64 (wd s.coef 1)) ∧ w.cell? ⟨g,4,none⟩ = some (.int .u64 (wd s.coef 0)) ∧ w.cell? ⟨g,5,none⟩ = some (.int .i64 s.sc) ∧ w.cell? ⟨g,6,none⟩ = some (.string ⟨s.text.toArray⟩) ∧ w.cell? ⟨g,7,none⟩ = some (.int .i64 s.day) ∧ w.cell? ⟨g,8,none⟩ = some L ∧ w.cell? ⟨g,9,none⟩ = some N) ∧ ∀ i,w.frozen? ⟨g,i,none⟩ = false :=
 ⟨⟨h.cell 0 rfl,h.cell 1 rfl,h.cell 2 rfl,h.cell 3 rfl,h.cell 4 rfl,h.cell 5 rfl,h.cell 6 rfl,h.cell 7 rfl,h.cell 8 rfl,h.cell 9 rfl⟩,h.frozen⟩
end Go.Proofs.YtbnadlpkbbdgjaaGreatDoor

