/- The contracts of the functions that the laws reach, part 3: what each returns and what becomes of memory. -/
import Derived.IntWalk
import Derived.Deep.RegionHeld3
import Derived.ProofKit
import Derived.OpenShut
import Derived.ShutString
import Derived.ChangeOld
import Derived.Below
import Derived.Lib.SmallJoins
import Derived.Deep.Matrix
import Derived.ChangeArms
import Derived.Lib.LaidIn
import Derived.Lib.LaidU8T
import Derived.Deep.AppendLies
import Derived.Sort.Grow
import Derived.Shelf.SlSortCmp.Kit1
import Derived.Test.YtkjecoanlppeaaaGreatDoorSh
import Derived.Test.YtkjecoanlppeaaaGreatDoorM2
set_option linter.unusedSimpArgs false
set_option linter.unusedVariables false


namespace Go.Proofs.YtkjecoanlppeaaaGreatDoor
open Go.RowKit

theorem sameV_form {x y : VD} (hx : chkV x = 0) (hy : chkV y = 0) : sameV x y = sameB x y:=by
 unfold sameV
 rw [decide_eq_true hx,decide_eq_true hy];rfl
theorem idx_pos {l : List VD} {x : VD} (hl : allC l = true) (hx : chkV x = 0) : (idxV (fun v => sameV v x) l = -1 ∧ posF x l = l.length) ∨ idxV (fun v => sameV v x) l = (posF x l : Int):=by
 have hs : ∀ t,t < l.length → sameV (vg l t) x = sameB (vg l t) x:=fun t ht => sameV_form (allC_iff.1 hl t ht) hx
 unfold idxV
 split
 ·rename_i h
  right
  congr 1
  refine (posF_hit h ?_ ?_).symm
  ·rw [← hs _ h,vg_get h]
   exact List.findIdx_getElem (w:=h)
  ·intro j hj
   rw [← hs _ (by omega),vg_get (by omega)]
   simpa using List.not_of_lt_findIdx hj
 ·rename_i h
  left
  refine ⟨rfl,posF_none fun j hj => ?_⟩
  rw [← hs _ hj]
  cases e : sameV (vg l j) x with
  | false => rfl
  | true => exact absurd (List.findIdx_lt_length_of_exists ⟨vg l j,by rw [vg_get hj];exact List.getElem_mem _,e⟩) h
set_option maxRecDepth 100000 in
set_option maxHeartbeats 2000000 in
theorem hrank_any (order : List (List VD)) (row : List VD) (O R : Value) (w : World) (hT : Tabs w) (ho : Lls w O order) (hr : Vls (RV w) w R row) (hco : ∀ t,t < order.length → allC (lg order t) = true) (hcr : allC row = true) (hle : order.length ≤ row.length) (hmax : order.length ≤ 1000000) :
  Calls Tryz.prog 53 #[O,R] w fun e w' => ∃ v,e = .returned v ∧ Own w' w.heap.size v (rankF order row) ∧ Below w.heap.size w w':=by
 obtain ⟨A,C,rfl,q1,_,_⟩:=ho.is
 obtain ⟨RA,RC,rfl,q2⟩:=hr.is
 have HO:=Lib.hid ho
 have HR:=Lib.hid hr
 have HT:=Lib.hid hT
 have HCO:=Lib.hid hco
 have HCR:=Lib.hid (allC_iff.1 hcr)
 have hol : (order.length : Int) ≤ 1000000:=by omega
 have hrl : (row.length : Int) ≤ 1048576:=by omega
 have HLE:=Lib.hid hle
 clear ho hr hT hco hcr q1 q2 hle
 go_enter Tryz.func53,Tryz.ntmps53
 go_wp2_with fail
 go_loopg [5,11] order.length (fun k s5 s11 wr => ∃ t : Nat,k + t = order.length ∧ s11 = .int .i64 t ∧ Hid (Own wr (w.heap.size + 1) s5 (rankT order row t)) ∧ wr.cell? ⟨w.heap.size,0,none⟩ = some (.slice RA row.length RC) ∧ w.heap.size + 1 ≤ wr.heap.size ∧ Below w.heap.size w wr)
 case atStart => exact ⟨0,by omega,rfl,Lib.hid (Own.nil _ _),by go_simp,by go_size,by (repeat' first|(with_reducible first|exact blR _ _|assumption|refine blD ?_|refine blN ?_ _)|((with_reducible first|refine blA ?_ ?_ _|refine blS ?_ ?_ _|refine blT (by assumption) ?_ ?_);focus (go_size;done)))⟩
 case round =>
  obtain ⟨t,hk,rfl,HW,hbox,hsz,hbel⟩:=hrel
  have HK:=Lib.hid hk
  have htl : t ≤ order.length:=by omega
  clear hk
  by_cases hlt : t < order.length
  ·obtain ⟨b,o,B1,D1,rfl,hcell,hv⟩:=(HO.out.below hbel).at hlt
   have lb:=vcell_lt hcell
   have hlt0 : w.heap.size < wr.heap.size:=by omega
   have hbx2 : ∀ ob,(wr.alloc ob).cell? ⟨w.heap.size,0,none⟩ = some (.slice RA row.length RC):=fun ob => (World.cell?_alloc_lt _ _ _ (show w.heap.size < wr.heap.size by omega)).trans hbox
   have htc : (t : Int) < (order.length : Int):=by omega
   obtain ⟨x,hxx⟩ : ∃ x,x = lg order t:=⟨_,rfl⟩
   have hi : t < row.length:=by have:=HLE.out;omega
   have hip:=idx_pos (HCO.out t hlt) (HCR.out t hi)
   have hple:=posF_le (vg row t) (lg order t)
   have hrt : rankT order row (t + 1) = rankT order row t ++ (if lg order t = [] then [] else [posF (vg row t) (lg order t)]):=rfl
   rw [← hxx] at hv hcell hip hple hrt
   have hc:=fun (W : World) (hW : Below wr.heap.size wr W) (h1 : W.cell? ⟨w.heap.size,0,none⟩ = some (.slice RA row.length RC)) (h2 : W.cell? ⟨wr.heap.size,0,none⟩ = some (.int .i64 t)) =>
    idx_rank (some ⟨w.heap.size,0,none⟩) (some ⟨wr.heap.size,0,none⟩) (fun v => sameV v (vg row t)) (GR row t (.slice RA row.length RC) w.heap.size wr.heap.size) (fun _ _ h hb => h.below hb) (fun x A C A2 C2 W hw hv => clos_rank row t _ _ _ hi x A C A2 C2 W hw hv) x _ W (hv.kept hW)
     ⟨tabs_below HT.out (hbel.trans (hW.mono (by omega))),h1,h2,HR.out.kept (hbel.trans (hW.mono (by omega)))⟩
   obtain ⟨p,hp⟩ : ∃ p,p = posF (vg row t) x:=⟨_,rfl⟩
   obtain ⟨z,hz⟩ : ∃ z,z = idxV (fun v => sameV v (vg row t)) x:=⟨_,rfl⟩
   simp only [← hz] at hc hip
   rw [← hp] at hip hple hrt
   obtain ⟨n1,hn1⟩ : ∃ n1,n1 = x.length:=⟨_,rfl⟩
   simp only [← hn1] at hc hip hple hcell
   have HRT:=Lib.hid hrt
   have HC:=Lib.hid hc
   obtain ⟨_,_,_,hxl⟩:=hv.is
   rw [← hn1] at hxl
   have HN1:=Lib.hid hn1
   have HRL : Hid ((rankT order row t).length ≤ 1000000):=Lib.hid (by have:=rankT_le order row t;omega)
   clear hrt hc hv hxx hp hz hn1
   by_cases hn0 : n1 = 0
   ·subst hn0
    have hx0 : x = []:=List.eq_nil_of_length_eq_zero HN1.out.symm
    clear hip hple
    go_wp2_with fail
    go_roundg (gk - 1)
    case measure => have:=HK.out;omega
    case rel => exact ⟨t + 1,by have:=HK.out;omega,by go_num,Lib.hid (by rw [HRT.out,if_pos hx0,List.append_nil];exact HW.out.below (by (repeat' first|(with_reducible first|exact blR _ _|assumption|refine blD ?_|refine blN ?_ _)|((with_reducible first|refine blA ?_ ?_ _|refine blS ?_ ?_ _|refine blT (by assumption) ?_ ?_);focus (go_size;done))))),hbx2 _,by go_size,by (repeat' first|(with_reducible first|exact blR _ _|assumption|refine blD ?_|refine blN ?_ _)|((with_reducible first|refine blA ?_ ?_ _|refine blS ?_ ?_ _|refine blT (by assumption) ?_ ?_);focus (go_size;done)))⟩
   ·have hx0 : Hid (x ≠ []):=Lib.hid (fun e => hn0 (by rw [HN1.out,e];rfl))
    have f0 : ((n1 : Int) == 0) = false:=by rw [beq_eq_false_iff_ne];omega
    rcases hip with ⟨hz,hpp⟩ | hz
    ·subst hz
     subst hpp
     go_wp2_with (first | ((go_at_call 81;with_reducible refine (HC.out _ (by (repeat' first|(with_reducible first|exact blR _ _|assumption|refine blD ?_|refine blN ?_ _)|((with_reducible first|refine blA ?_ ?_ _|refine blS ?_ ?_ _|refine blT (by assumption) ?_ ?_);focus (go_size;done)))) (hbx2 _) (by go_simp)).mono ?_);rintro _ w2 ⟨rfl,hb2⟩;have hb2s:=hb2.size;(try simp only [wsA,wsS,wsD,wsN] at hb2s);obtain ⟨hb2c,hb2f⟩:=bcell hb2;(try have : w.heap.size < w2.heap.size:=by omega);(try have : w.heap.size + 1 < w2.heap.size:=by omega);(try have : w.heap.size + 1 + 1 < w2.heap.size:=by omega);(try have : w.heap.size + 1 + 1 + 1 < w2.heap.size:=by omega)) | (at_builtin;refine wpList_pushO rfl _ _ 43 rfl Tryz.underlying43 (w.heap.size + 1) (by go_size) u5 _ rfl (HW.out.below (by (repeat' first|(with_reducible first|exact blR _ _|assumption|refine blD ?_|refine blN ?_ _)|((with_reducible first|refine blA ?_ ?_ _|refine blS ?_ ?_ _|refine blT (by assumption) ?_ ?_);focus (go_size;done))))) w2.heap.size p rfl (by simp) HRL.out ?_;intro g cap w3 ho3 hb3 hlt3;have hs3:=hb3.size;(simp only [World.size_alloc] at hs3);have hbx3 : w3.cell? ⟨w.heap.size,0,none⟩ = some (.slice RA row.length RC):=(hb3.cell (p:=⟨w.heap.size,0,none⟩) (Nat.lt_succ_self _)).trans (by go_simp);have hbw3 : Below w.heap.size w w3:=Below.trans (by (repeat' first|(with_reducible first|exact blR _ _|assumption|refine blD ?_|refine blN ?_ _)|((with_reducible first|refine blA ?_ ?_ _|refine blS ?_ ?_ _|refine blT (by assumption) ?_ ?_);focus (go_size;done)))) (hb3.mono (Nat.le_succ _));have HO3:=Lib.hid ho3;clear ho3 hb3))
     go_roundg (gk - 1)
     case measure => have:=HK.out;omega
     case rel => exact ⟨t + 1,by have:=HK.out;omega,by go_num,Lib.hid (by rw [HRT.out,if_neg hx0.out];exact HO3.out),hbx3,by omega,hbw3⟩
    ·subst hz
     have hp0 : ¬ ((p : Int) < 0):=by omega
     go_wp2_with (first | ((go_at_call 81;with_reducible refine (HC.out _ (by (repeat' first|(with_reducible first|exact blR _ _|assumption|refine blD ?_|refine blN ?_ _)|((with_reducible first|refine blA ?_ ?_ _|refine blS ?_ ?_ _|refine blT (by assumption) ?_ ?_);focus (go_size;done)))) (hbx2 _) (by go_simp)).mono ?_);rintro _ w2 ⟨rfl,hb2⟩;have hb2s:=hb2.size;(try simp only [wsA,wsS,wsD,wsN] at hb2s);obtain ⟨hb2c,hb2f⟩:=bcell hb2;(try have : w.heap.size < w2.heap.size:=by omega);(try have : w.heap.size + 1 < w2.heap.size:=by omega);(try have : w.heap.size + 1 + 1 < w2.heap.size:=by omega);(try have : w.heap.size + 1 + 1 + 1 < w2.heap.size:=by omega)) | (at_builtin;refine wpList_pushO rfl _ _ 43 rfl Tryz.underlying43 (w.heap.size + 1) (by go_size) u5 _ rfl (HW.out.below (by (repeat' first|(with_reducible first|exact blR _ _|assumption|refine blD ?_|refine blN ?_ _)|((with_reducible first|refine blA ?_ ?_ _|refine blS ?_ ?_ _|refine blT (by assumption) ?_ ?_);focus (go_size;done))))) w2.heap.size p rfl (by simp) HRL.out ?_;intro g cap w3 ho3 hb3 hlt3;have hs3:=hb3.size;(simp only [World.size_alloc] at hs3);have hbx3 : w3.cell? ⟨w.heap.size,0,none⟩ = some (.slice RA row.length RC):=(hb3.cell (p:=⟨w.heap.size,0,none⟩) (Nat.lt_succ_self _)).trans (by go_simp);have hbw3 : Below w.heap.size w w3:=Below.trans (by (repeat' first|(with_reducible first|exact blR _ _|assumption|refine blD ?_|refine blN ?_ _)|((with_reducible first|refine blA ?_ ?_ _|refine blS ?_ ?_ _|refine blT (by assumption) ?_ ?_);focus (go_size;done)))) (hb3.mono (Nat.le_succ _));have HO3:=Lib.hid ho3;clear ho3 hb3))
     go_roundg (gk - 1)
     case measure => have:=HK.out;omega
     case rel => exact ⟨t + 1,by have:=HK.out;omega,by go_num,Lib.hid (by rw [HRT.out,if_neg hx0.out];exact HO3.out),hbx3,by omega,hbw3⟩
  ·obtain rfl : t = order.length:=by omega
   clear hlt
   go_wp2_with fail
   go_ret
   exact ⟨_,rfl,HW.out.mono (by omega),by (repeat' first|(with_reducible first|exact blR _ _|assumption|refine blD ?_|refine blN ?_ _)|((with_reducible first|refine blA ?_ ?_ _|refine blS ?_ ?_ _|refine blT (by assumption) ?_ ?_);focus (go_size;done)))⟩
end Go.Proofs.YtkjecoanlppeaaaGreatDoor



namespace Go.Proofs.YtkjecoanlppeaaaGreatDoor
open Go.RowKit

def ag (l : List Nat) (r : Nat) : Nat:=l.getD r 0
/-- a list of ints -/
def Ilst (w : World) (v : Value) (l : List Nat) : Prop:=∃ A C,v = .slice A l.length C ∧ (l.length ≤ 1048576 ∧ l.length ≤ C ∧ C ≤ maxLen) ∧ ∀ r,r < l.length → ∃ b o,A = some ⟨b,o,none⟩ ∧ w.cell? ⟨b,o + r,none⟩ = some (.int .i64 (ag l r))
theorem Ilst.below {w w' : World} {v : Value} {l : List Nat} (h : Ilst w v l) (hb : Below w.heap.size w w') : Ilst w' v l:=by
 obtain ⟨A,C,h1,h2,h3⟩:=h
 refine ⟨A,C,h1,h2,fun r hr => ?_⟩
 obtain ⟨b,o,h4,h5⟩:=h3 r hr
 exact ⟨b,o,h4,(hb.cell (p:=⟨b,o + r,none⟩) (vcell_lt h5)).trans h5⟩
theorem Ilst.is {w : World} {v : Value} {l : List Nat} (h : Ilst w v l) : ∃ A C,v = .slice A l.length C ∧ l.length ≤ 1048576 ∧ l.length ≤ C ∧ C ≤ maxLen:=by
 obtain ⟨A,C,h1,h2,_⟩:=h
 exact ⟨A,C,h1,h2⟩
theorem Ilst.at {w : World} {l : List Nat} {A : Option Addr} {n C : Nat} (h : Ilst w (.slice A n C) l) {r : Nat} (hr : r < l.length) : ∃ b o,A = some ⟨b,o,none⟩ ∧ w.cell? ⟨b,o + r,none⟩ = some (.int .i64 (ag l r)):=by
 obtain ⟨A',C',h1,_,h3⟩:=h
 injection h1 with e1 e2 e3
 subst e1
 exact h3 r hr
theorem Own.read {w : World} {B : Nat} {v : Value} {l : List Nat} (h : Own w B v l) (hl : l.length ≤ 1048576) : Ilst w v l:=by
 rcases h.2 with ⟨hv,hn⟩ | ⟨g,cap,cur,rfl,h1,hg,h2,h3,h4,h5⟩
 ·refine ⟨none,0, ?_,⟨hl,by omega,by decide⟩,fun r hr => absurd hr (by omega)⟩
  rw [hn];exact hv
 ·refine ⟨some ⟨g,0,none⟩,cap,rfl,⟨hl,h2,h3⟩,fun r hr => ⟨g,0,rfl, ?_⟩⟩
  have e : cur.toList.take (intsV l).length = intsV l:=by simpa [intsV] using h5
  have e2 : cur[r]? = some (.int .i64 (ag l r)):=by
   have e3 : (cur.toList.take (intsV l).length)[r]? = cur.toList[r]?:=List.getElem?_take_of_lt (by simpa [intsV] using hr)
   rw [← Array.getElem?_toList,← e3,e]
   unfold intsV ag
   rw [List.getElem?_map,List.getElem?_eq_getElem hr,List.getD_eq_getElem?_getD,List.getElem?_eq_getElem hr]
   rfl
  rw [Nat.zero_add]
  simp [World.cell?,hg,e2]
theorem cmpL_at : ∀ {a b : List Nat} {k : Nat},k < a.length → k < b.length → (∀ j,j < k → ag a j = ag b j) → ag a k ≠ ag b k → cmpL a b = if ag a k < ag b k then -1 else 1
 | [],_,_,h,_,_,_ => absurd h (Nat.not_lt_zero _)
 | _ :: _,[],_,_,h,_,_ => absurd h (Nat.not_lt_zero _)
 | x :: a,y :: b,0,_,_,_,h => by
  have h' : x ≠ y:=h
  unfold cmpL
  show _ = if x < y then (-1 : Int) else 1
  by_cases q : x < y
  ·rw [if_pos q,if_pos q]
  ·rw [if_neg q,if_neg q,if_pos (by omega)]
 | x :: a,y :: b,k + 1,h1,h2,hj,h => by
  have h0 : x = y:=hj 0 (by omega)
  unfold cmpL
  rw [if_neg (by omega),if_neg (by omega)]
  exact cmpL_at (a:=a) (b:=b) (k:=k) (by simpa using h1) (by simpa using h2) (fun j q => hj (j + 1) (by omega)) h
theorem ag_get {l : List Nat} {r : Nat} (h : r < l.length) : ag l r = l[r]:=by
 unfold ag
 rw [List.getD_eq_getElem?_getD,List.getElem?_eq_getElem h];rfl
theorem cmpL_same {a b : List Nat} (hl : a.length = b.length) (h : ∀ j,j < a.length → ag a j = ag b j) : cmpL a b = 0:=by
 have : a = b:=List.ext_getElem hl (fun i h1 h2 => by rw [← ag_get h1,← ag_get h2];exact h i h1)
 rw [this];exact cmpL_self b
end Go.Proofs.YtkjecoanlppeaaaGreatDoor



namespace Go.Proofs.YtkjecoanlppeaaaGreatDoor
open Go.RowKit

def ferr (x : Bool) : Int:=if x = true then 0 else 2
set_option maxHeartbeats 4000000 in
theorem formed_two (b : Bool) (c : Nat) (s : Int) (hc : c < 2 ^ 128) (b' : Bool) (c' : Nat) (s' : Int) (hc' : c' < 2 ^ 128) (g : Nat) (w : World) (hg : Bk w g 32 [.bool b,.int .u64 (wd c 1),.int .u64 (wd c 0),.int .i64 s,.bool b',.int .u64 (wd c' 1),.int .u64 (wd c' 0),.int .i64 s']) :
  Calls Tryz.prog 59 #[.slice (some ⟨g,0,none⟩) 2 2] w fun e w' => e = .returned (.int .i64 (ferr (dform b c s && dform b' c' s'))) ∧ Below w.heap.size w w':=by
 have HF:=Lib.hid (fun W => form_any b c s hc W)
 have HF':=Lib.hid (fun W => form_any b' c' s' hc' W)
 obtain ⟨v,hv⟩ : ∃ v,v = dform b c s:=⟨_,rfl⟩
 obtain ⟨v',hv'⟩ : ∃ v',v' = dform b' c' s':=⟨_,rfl⟩
 rw [← hv] at HF
 rw [← hv'] at HF'
 rw [← hv,← hv']
 generalize wd c 0 = x0 at *
 generalize wd c 1 = x1 at *
 generalize wd c' 0 = y0 at *
 generalize wd c' 1 = y1 at *
 have HG:=Lib.hid hg
 have hgl:=hg.lt
 clear hc hv hg hc' hv'
 go_enter Tryz.func59,Tryz.ntmps59
 go_wp2_with fail
 go_loopg [7] 2 (fun k i wr => ∃ t : Nat,k + t = 2 ∧ i = .int .i64 t ∧ (t = 0 ∨ v = true) ∧ (t ≤ 1 ∨ v' = true) ∧ Below w.heap.size w wr)
 case atStart => exact ⟨0,rfl,rfl,.inl rfl,.inl (by decide),by (repeat' first|(with_reducible first|exact blR _ _|assumption|refine blD ?_|refine blN ?_ _)|((with_reducible first|refine blA ?_ ?_ _|refine blS ?_ ?_ _|refine blT (by assumption) ?_ ?_);focus (go_size;done)))⟩
 case round =>
  obtain ⟨t,hk,rfl,hv,hv',hbel⟩:=hrel
  have HK:=Lib.hid hk
  have hbs:=hbel.size
  have hc : t = 0 ∨ t = 1 ∨ t = 2:=by omega
  have bg:=HG.out.below hbel hgl
  clear hk
  rcases hc with rfl | rfl | rfl
  ·have d0:=bg.cell 0 rfl
   have d1:=bg.cell 1 rfl
   have d2:=bg.cell 2 rfl
   have d3:=bg.cell 3 rfl
   clear bg hv hv'
   cases v
   ·go_wp2_with ((go_at_call 86;with_reducible refine (HF.out _).mono ?_);rintro _ w1 ⟨rfl,hb1⟩;have hb1s:=hb1.size;(try simp only [wsA,wsS,wsD,wsN] at hb1s);obtain ⟨hb1c,hb1f⟩:=bcell hb1;(try have : w.heap.size < w1.heap.size:=by omega);(try have : w.heap.size + 1 < w1.heap.size:=by omega);(try have : w.heap.size + 1 + 1 < w1.heap.size:=by omega);(try have : w.heap.size + 1 + 1 + 1 < w1.heap.size:=by omega))
    go_ret
    exact ⟨rfl,by (repeat' first|(with_reducible first|exact blR _ _|assumption|refine blD ?_|refine blN ?_ _)|((with_reducible first|refine blA ?_ ?_ _|refine blS ?_ ?_ _|refine blT (by assumption) ?_ ?_);focus (go_size;done)))⟩
   ·go_wp2_with ((go_at_call 86;with_reducible refine (HF.out _).mono ?_);rintro _ w1 ⟨rfl,hb1⟩;have hb1s:=hb1.size;(try simp only [wsA,wsS,wsD,wsN] at hb1s);obtain ⟨hb1c,hb1f⟩:=bcell hb1;(try have : w.heap.size < w1.heap.size:=by omega);(try have : w.heap.size + 1 < w1.heap.size:=by omega);(try have : w.heap.size + 1 + 1 < w1.heap.size:=by omega);(try have : w.heap.size + 1 + 1 + 1 < w1.heap.size:=by omega))
    go_roundg 1
    case measure => have:=HK.out;omega
    case rel => exact ⟨1,rfl,rfl,.inr (by simp),.inl (Nat.le_refl _),by (repeat' first|(with_reducible first|exact blR _ _|assumption|refine blD ?_|refine blN ?_ _)|((with_reducible first|refine blA ?_ ?_ _|refine blS ?_ ?_ _|refine blT (by assumption) ?_ ?_);focus (go_size;done)))⟩
  ·obtain rfl : v = true:=by simpa using hv
   have d0:=bg.cell 4 rfl
   have d1:=bg.cell 5 rfl
   have d2:=bg.cell 6 rfl
   have d3:=bg.cell 7 rfl
   clear bg hv hv' HF
   cases v'
   ·go_wp2_with ((go_at_call 86;with_reducible refine (HF'.out _).mono ?_);rintro _ w1 ⟨rfl,hb1⟩;have hb1s:=hb1.size;(try simp only [wsA,wsS,wsD,wsN] at hb1s);obtain ⟨hb1c,hb1f⟩:=bcell hb1;(try have : w.heap.size < w1.heap.size:=by omega);(try have : w.heap.size + 1 < w1.heap.size:=by omega);(try have : w.heap.size + 1 + 1 < w1.heap.size:=by omega);(try have : w.heap.size + 1 + 1 + 1 < w1.heap.size:=by omega))
    go_ret
    exact ⟨rfl,by (repeat' first|(with_reducible first|exact blR _ _|assumption|refine blD ?_|refine blN ?_ _)|((with_reducible first|refine blA ?_ ?_ _|refine blS ?_ ?_ _|refine blT (by assumption) ?_ ?_);focus (go_size;done)))⟩
   ·go_wp2_with ((go_at_call 86;with_reducible refine (HF'.out _).mono ?_);rintro _ w1 ⟨rfl,hb1⟩;have hb1s:=hb1.size;(try simp only [wsA,wsS,wsD,wsN] at hb1s);obtain ⟨hb1c,hb1f⟩:=bcell hb1;(try have : w.heap.size < w1.heap.size:=by omega);(try have : w.heap.size + 1 < w1.heap.size:=by omega);(try have : w.heap.size + 1 + 1 < w1.heap.size:=by omega);(try have : w.heap.size + 1 + 1 + 1 < w1.heap.size:=by omega))
    go_roundg 0
    case measure => have:=HK.out;omega
    case rel => exact ⟨2,rfl,rfl,.inr (by simp),.inr (by simp),by (repeat' first|(with_reducible first|exact blR _ _|assumption|refine blD ?_|refine blN ?_ _)|((with_reducible first|refine blA ?_ ?_ _|refine blS ?_ ?_ _|refine blT (by assumption) ?_ ?_);focus (go_size;done)))⟩
  ·obtain rfl : v = true:=by simpa using hv
   obtain rfl : v' = true:=by simpa using hv'
   clear hv hv' bg
   go_wp2_with fail
   go_ret
   exact ⟨rfl,by (repeat' first|(with_reducible first|exact blR _ _|assumption|refine blD ?_|refine blN ?_ _)|((with_reducible first|refine blA ?_ ?_ _|refine blS ?_ ?_ _|refine blT (by assumption) ?_ ?_);focus (go_size;done)))⟩
end Go.Proofs.YtkjecoanlppeaaaGreatDoor



namespace Go.Proofs.YtkjecoanlppeaaaGreatDoor
open Go.RowKit

theorem ten_step (x c : Int) (hx0 : 0 ≤ x) (hx : x < 18446744073709551616) (hc0 : 0 ≤ c) (hc : c < 18446744073709551616) :
  ∃ h l s k : Int,Hid (∀ w : World,Calls Tryz.prog 119 #[.int .u64 x,.int .u64 10] w fun e w' => e = .returned (.tuple #[.int .u64 h,.int .u64 l]) ∧ ∃ nn,w' = w.drewN nn) ∧
   (∀ W : World,(callFunc 120 #[.int .u64 l,.int .u64 c,.int .u64 0]).run Tryz.prog W = .ok (.value (.tuple #[.int .u64 s,.int .u64 k])) W) ∧
   Hid (s + 18446744073709551616 * (h + k) = x * 10 + c) ∧ 0 ≤ h ∧ 0 ≤ k ∧ 0 ≤ s ∧ s < 18446744073709551616 ∧ h + k < 18446744073709551616:=by
 obtain ⟨h,l,f,H⟩:=mul64_ex x 10 hx0 hx (by decide) (by decide)
 unfold Two at H
 obtain ⟨s,k,g,K⟩:=add64_ex l c 0 (by omega) (by omega) hc0 hc (by decide) (by decide)
 unfold Carry at K
 exact ⟨h,l,s,k,f,g,by show s + 18446744073709551616 * (h + k) = x * 10 + c;omega,by omega,by omega,by omega,by omega,by omega⟩
set_option maxHeartbeats 4000000 in
theorem times_any4 (c k : Nat) (hc : c < 2 ^ 128) (hk : k ≤ 1000) (h : c * 10 ^ k < 2 ^ 256) (w : World) : Calls Tryz.prog 87 #[.agg #[.int .u64 (wd c 1),.int .u64 (wd c 0)],.int .i64 k] w fun e w' => e = .returned (.agg #[.int .u64 (wd (c * 10 ^ k) 0),.int .u64 (wd (c * 10 ^ k) 1),.int .u64 (wd (c * 10 ^ k) 2),.int .u64 (wd (c * 10 ^ k) 3)]) ∧ Below w.heap.size w w':=by
 have HL:=Lib.hid (fun W => long_any c hc W)
 have H:=Far.mk h
 have k0 : (0 : Int) ≤ (k : Int):=by omega
 have k1 : (k : Int) ≤ 1000:=by omega
 obtain ⟨z,hz⟩ : ∃ z,z = c * 10 ^ k:=⟨_,rfl⟩
 rw [← hz]
 have HZ:=Far.mk hz
 clear hc h hz
 obtain ⟨x1,hx1⟩ : ∃ x1,x1 = wd c 1:=⟨_,rfl⟩
 obtain ⟨x0,hx0⟩ : ∃ x0,x0 = wd c 0:=⟨_,rfl⟩
 rw [← hx1,← hx0]
 rw [← hx1,← hx0] at HL
 have X1:=Lib.hid hx1
 have X0:=Lib.hid hx0
 clear hx1 hx0
 go_enter Tryz.func87,Tryz.ntmps87
 go_wp2_with fail
 refine (HL.out _).mono ?_
 rw [X1.out,X0.out]
 rintro _ w1 ⟨rfl,hb1⟩;have hb1s:=hb1.size;(try simp only [wsA,wsS,wsD,wsN] at hb1s);obtain ⟨hb1c,hb1f⟩:=bcell hb1;(try have : w.heap.size < w1.heap.size:=by omega);(try have : w.heap.size + 1 < w1.heap.size:=by omega);(try have : w.heap.size + 1 + 1 < w1.heap.size:=by omega);(try have : w.heap.size + 1 + 1 + 1 < w1.heap.size:=by omega)
 go_wp2_with fail
 go_loopg [14] k (fun kk i wr => ∃ t : Nat,kk + t = k ∧ i = .int .i64 t ∧ Bk wr w1.heap.size 82 (lcells (c * 10 ^ t)) ∧ Bk wr (w.heap.size + 1) 82 [.int .u64 0,.int .u64 0,.int .u64 0,.int .u64 0] ∧ w1.heap.size < wr.heap.size ∧ Below w.heap.size w wr)
 case atStart =>
  refine ⟨0,by omega,rfl, ?_,by (repeat (first|(with_reducible assumption)|((with_reducible refine bkW ?_);(first|rfl|(simp only [wsA,wsS,wsD,wsN];done)))|(with_reducible first|refine bkA ?_ _|refine bkD ?_|refine bkN ?_ _)|((with_reducible refine bkF ?_ ?_ _);focus (simp only [];omega))|((with_reducible refine bkB (by assumption) ?_ ?_);focus (go_size;done)))),by go_size,by (repeat' first|(with_reducible first|exact blR _ _|assumption|refine blD ?_|refine blN ?_ _)|((with_reducible first|refine blA ?_ ?_ _|refine blS ?_ ?_ _|refine blT (by assumption) ?_ ?_);focus (go_size;done)))⟩
  rw [Nat.pow_zero,Nat.mul_one,lcells_eq]
  (repeat (first|(with_reducible assumption)|((with_reducible refine bkW ?_);(first|rfl|(simp only [wsA,wsS,wsD,wsN];done)))|(with_reducible first|refine bkA ?_ _|refine bkD ?_|refine bkN ?_ _)|((with_reducible refine bkF ?_ ?_ _);focus (simp only [];omega))|((with_reducible refine bkB (by assumption) ?_ ?_);focus (go_size;done))))
 case round =>
  obtain ⟨t,hn,rfl,b1,b0,hsz,hbel⟩:=hrel
  have HK:=Lib.hid hn
  have HB1:=Lib.hid b1
  have HB0:=Lib.hid b0
  have ht : t ≤ k:=by omega
  clear hn b1 b0
  by_cases hlt : t < k
  ·have hM : c * 10 ^ t * 10 < 2 ^ 256:=by
    have h1:=H.out
    have h2 : c * 10 ^ t * 10 ≤ c * 10 ^ k:=by
     rw [Nat.mul_assoc,← Nat.pow_succ]
     exact Nat.mul_le_mul_left _ (Nat.pow_le_pow_right (by decide) hlt)
    omega
   obtain ⟨M,eM⟩ : ∃ M,M = c * 10 ^ t:=⟨_,rfl⟩
   rw [← eM] at hM HB1
   have EM:=Far.mk eM
   have HM:=Far.mk hM
   have HM0 : Far (M < 2 ^ 256):=Far.mk (by omega)
   have tlt : (t : Int) < (k : Int):=by omega
   clear eM hM
   go_wp2_with fail
   obtain ⟨wo,hwo⟩ : ∃ wo : World,wo = wr:=⟨_,rfl⟩
   obtain ⟨go,hgo⟩ : ∃ go : Nat,go = gk:=⟨_,rfl⟩
   rw [← hgo] at HK
   have HGO:=Lib.hid hgo
   clear hwo hgo
   go_loopg [6,16] 4 (fun kk cv j wr => ∃ (s : Nat) (cc : Int) (V : Nat),kk + s = 4 ∧ j = .int .i64 s ∧ cv = .int .u64 cc ∧ 0 ≤ cc ∧ cc < 18446744073709551616 ∧ Far (V < 2 ^ 256) ∧ Far ((V : Int) + cc * ((2 ^ (64 * s) : Nat) : Int) = M + 9 * ((M % 2 ^ (64 * s) : Nat) : Int)) ∧ Hid (∀ i,s ≤ i → i < 4 → wd V i = wd M i) ∧
    Bk wr w1.heap.size 82 (lcells V) ∧ Bk wr (w.heap.size + 1) 82 [.int .u64 0,.int .u64 0,.int .u64 0,.int .u64 0] ∧ w1.heap.size < wr.heap.size ∧ Below w.heap.size w wr)
   case atStart =>
    refine ⟨0,0,M,rfl,rfl,rfl,by decide,by decide,HM0,Far.mk ?_,Lib.hid (fun i _ _ => rfl),HB1.out,HB0.out,hsz,hbel⟩
    rw [Nat.mul_zero,Nat.pow_zero,Nat.mod_one];simp
   case round =>
    obtain ⟨s,cc,V,hk2,rfl,rfl,c0,c1,hV,hE,hU,b1,b0,hsz,hbel⟩:=hrel
    have HK2:=Lib.hid hk2
    have HB1:=Lib.hid b1
    have HB0:=Lib.hid b0
    have s4 : s ≤ 4:=by omega
    clear hk2 b1 b0
    by_cases hls : s < 4
    ·have s0' : (0 : Int) ≤ (s : Int):=by omega
     have s3' : (s : Int) < 4:=by omega
     have d0 : wr.cell? ⟨w1.heap.size,s,none⟩ = some (.int .u64 (wd V s)):=HB1.out.cell s (lcells_at V s hls)
     have f0:=HB1.out.frozen s
     obtain ⟨h,l,u,q,f,g,HS,h0,q0,u0,u1,hq⟩:=ten_step (wd V s) cc (wd_nn V s) (wd_lt V s) c0 c1
     obtain ⟨V',v1,v2,v3,v4,v5⟩:=lcells_set V s hls hV.out u u0 u1
     have HNEW:=Far.mk (ten_word hE.out rfl (hU.out s (Nat.le_refl _) hls) v2 HS.out)
     have HV':=Far.mk v1
     have HL:=Lib.hid v3
     have HU' : Hid (∀ i,s + 1 ≤ i → i < 4 → wd V' i = wd M i):=Lib.hid (fun i hi h4 => by rw [v4 i h4 (by omega)];exact hU.out i (by omega) h4)
     have hq0 : 0 ≤ h + q:=by omega
     clear v1 v2 v3 v4 v5 hE hV hU HS
     generalize wd V s = x at *
     go_wp2_with ((go_at_call 119;with_reducible refine (f.out _).mono ?_);rintro _ _ ⟨rfl,nn,rfl⟩)
     go_roundg (gk - 1)
     case measure => have:=HK2.out;omega
     case rel =>
      have b0:=HB0.out
      have b1:=HB1.out
      refine ⟨s + 1,h + q,V',by have:=HK2.out;omega,by go_num,rfl,hq0,hq,HV',HNEW,HU', ?_,by (repeat (first|(with_reducible assumption)|((with_reducible refine bkW ?_);(first|rfl|(simp only [wsA,wsS,wsD,wsN];done)))|(with_reducible first|refine bkA ?_ _|refine bkD ?_|refine bkN ?_ _)|((with_reducible refine bkF ?_ ?_ _);focus (simp only [];omega))|((with_reducible refine bkB (by assumption) ?_ ?_);focus (go_size;done)))),by go_size,by (repeat' first|(with_reducible first|exact blR _ _|assumption|refine blD ?_|refine blN ?_ _)|((with_reducible first|refine blA ?_ ?_ _|refine blS ?_ ?_ _|refine blT (by assumption) ?_ ?_);focus (go_size;done)))⟩
      rw [← HL.out]
      exact (b1.drewN _).set_ _ _
    ·obtain rfl : s = 4:=by omega
     have e:=ten_end hV.out HM.out c0 hE.out
     subst e
     clear hV hE
     go_wp2_with fail
     go_roundg (go - 1)
     case measure => have:=HK.out;have:=HGO.out;omega
     case rel =>
      refine ⟨t + 1,by have:=HK.out;omega,by go_num, ?_,HB0.out,hsz,hbel⟩
      rw [Nat.pow_succ,← Nat.mul_assoc,← EM.out]
      exact HB1.out
  ·obtain rfl : t = k:=by omega
   have b1:=HB1.out
   rw [← HZ.out,lcells_eq] at b1
   have b0:=HB0.out
   have d0:=b1.cell 0 rfl
   have d1:=b1.cell 1 rfl
   have d2:=b1.cell 2 rfl
   have d3:=b1.cell 3 rfl
   have e0:=b0.cell 0 rfl
   have e1:=b0.cell 1 rfl
   have e2:=b0.cell 2 rfl
   have e3:=b0.cell 3 rfl
   have g0:=b0.frozen 0
   have g1:=b0.frozen 1
   have g2:=b0.frozen 2
   have g3:=b0.frozen 3
   clear b0 b1
   go_wp2_with fail
   refine bodyPost_ret (by simp [results,Tryz.results87,go_sem, *];try rfl) rfl ?_
   exact ⟨rfl,by (repeat' first|(with_reducible first|exact blR _ _|assumption|refine blD ?_|refine blN ?_ _)|((with_reducible first|refine blA ?_ ?_ _|refine blS ?_ ?_ _|refine blT (by assumption) ?_ ?_);focus (go_size;done)))⟩
end Go.Proofs.YtkjecoanlppeaaaGreatDoor



namespace Go.Proofs.YtkjecoanlppeaaaGreatDoor
open Go.RowKit

theorem times_sub (c m s : Nat) (hc : c < B34) (h : s ≤ m) (hm : m ≤ 18) (W : World) : Calls Tryz.prog 87 #[.agg #[.int .u64 (wd c 1),.int .u64 (wd c 0)],.int .i64 ((m : Int) - (s : Int))] W fun e w' => e = .returned (.agg #[.int .u64 (wd (c * 10 ^ (m - s)) 0),.int .u64 (wd (c * 10 ^ (m - s)) 1),.int .u64 (wd (c * 10 ^ (m - s)) 2),.int .u64 (wd (c * 10 ^ (m - s)) 3)]) ∧ Below W.heap.size W w':=by
 rw [show (m : Int) - (s : Int) = ((m - s : Nat) : Int) by omega]
 exact times_any4 c (m - s) (Nat.lt_trans hc B34_lt) (by omega) (Nat.lt_trans (scaled_lt hc hm) (by decide)) W
set_option maxHeartbeats 4000000 in
theorem both_any (b : Bool) (c s : Nat) (b' : Bool) (c' s' m : Nat) (hc : c < B34) (hc' : c' < B34) (hs : s ≤ 18) (hs' : s' ≤ 18) (hm : m = max s s') (w : World) :
  Calls Tryz.prog 60 #[.agg #[.bool b,.int .u64 (wd (c) 1),.int .u64 (wd (c) 0),.int .i64 s],.agg #[.bool b',.int .u64 (wd (c') 1),.int .u64 (wd (c') 0),.int .i64 s']] w fun e w' => e = .returned (.tuple #[.agg #[.int .u64 (wd (c * 10 ^ (m - s)) 0),.int .u64 (wd (c * 10 ^ (m - s)) 1),.int .u64 (wd (c * 10 ^ (m - s)) 2),.int .u64 (wd (c * 10 ^ (m - s)) 3)],.agg #[.int .u64 (wd (c' * 10 ^ (m - s')) 0),.int .u64 (wd (c' * 10 ^ (m - s')) 1),.int .u64 (wd (c' * 10 ^ (m - s')) 2),.int .u64 (wd (c' * 10 ^ (m - s')) 3)],.int .i64 m]) ∧ Below w.heap.size w w':=by
 have m18 : m ≤ 18:=by omega
 have sm : s ≤ m:=by omega
 have sm' : s' ≤ m:=by omega
 have HA:=Lib.hid (fun W => times_sub c m s hc sm m18 W)
 have HB:=Lib.hid (fun W => times_sub c' m s' hc' sm' m18 W)
 generalize c * 10 ^ (m - s) = X at *
 generalize c' * 10 ^ (m - s') = Y at *
 have ga : IntKind.i64.wrap ((m : Int) - (s : Int)) = (m : Int) - (s : Int):=IntWalk.i64_in _ (by omega)
 have gb : IntKind.i64.wrap ((m : Int) - (s' : Int)) = (m : Int) - (s' : Int):=IntWalk.i64_in _ (by omega)
 have GA:=Lib.hid ga
 have GB:=Lib.hid gb
 clear ga gb
 have hmi : max (s : Int) (s' : Int) = (m : Int):=by omega
 have HMI:=Lib.hid hmi
 generalize wd c 0 = x0 at *
 generalize wd c 1 = x1 at *
 generalize wd c' 0 = y0 at *
 generalize wd c' 1 = y1 at *
 clear hmi hm hc hc'
 go_enter Tryz.func60,Tryz.ntmps60
 go_wp2_with fail
 rw [HMI.out]
 have ga:=GA.out
 have gb:=GB.out
 go_region_held3 (fun w' => (w'.cell? ⟨w.heap.size,0,none⟩ = some (.bool b) ∧ w'.cell? ⟨w.heap.size,1,none⟩ = some (.int .u64 x1) ∧ w'.cell? ⟨w.heap.size,2,none⟩ = some (.int .u64 x0) ∧ w'.cell? ⟨w.heap.size,3,none⟩ = some (.int .i64 ((s : Int)))) ∧ (w'.cell? ⟨(w.heap.size + 1),0,none⟩ = some (.bool b') ∧ w'.cell? ⟨(w.heap.size + 1),1,none⟩ = some (.int .u64 y1) ∧ w'.cell? ⟨(w.heap.size + 1),2,none⟩ = some (.int .u64 y0) ∧ w'.cell? ⟨(w.heap.size + 1),3,none⟩ = some (.int .i64 ((s' : Int))))) (first | (first | (go_keep;done) | (simp [go_sem];done) | ((try dsimp only);(repeat' apply And.intro) <;> (first | (with_reducible assumption) | ((rw [World.cell?_alloc_lt _ _ _ (by show _ < _;omega)]);go_split_ands;(first | with_reducible assumption | (refine (World.cell?_alloc_lt _ _ _ (by show _ < _;omega)).symm.trans ?_;with_reducible assumption))) | ((rw [World.cell?_setCell_other _ _ _ _ (by intro e;injection e;omega)]);with_reducible assumption) | (go_keep;done) | (simp [go_sem];done) | (simp (disch:=go_size) [*,World.cell?_alloc_some,World.cell?_setCell_far];done)))) | ((refine ⟨?_, ?_⟩) <;> (first | ((refine ⟨Bk.cell (t:=32) (cs:=[.bool b,.int .u64 x1,.int .u64 x0,.int .i64 ((s : Int))]) ?_ 0 rfl,Bk.cell (t:=32) (cs:=[.bool b,.int .u64 x1,.int .u64 x0,.int .i64 ((s : Int))]) ?_ 1 rfl,Bk.cell (t:=32) (cs:=[.bool b,.int .u64 x1,.int .u64 x0,.int .i64 ((s : Int))]) ?_ 2 rfl,Bk.cell (t:=32) (cs:=[.bool b,.int .u64 x1,.int .u64 x0,.int .i64 ((s : Int))]) ?_ 3 rfl⟩) <;> ((repeat (first|(with_reducible assumption)|((with_reducible refine bkW ?_);(first|rfl|(simp only [wsA,wsS,wsD,wsN];done)))|(with_reducible first|refine bkA ?_ _|refine bkD ?_|refine bkN ?_ _)|((with_reducible refine bkF ?_ ?_ _);focus (simp only [];omega))|((with_reducible refine bkB (by assumption) ?_ ?_);focus (go_size;done))));done)) | ((refine ⟨Bk.cell (t:=32) (cs:=[.bool b',.int .u64 y1,.int .u64 y0,.int .i64 ((s' : Int))]) ?_ 0 rfl,Bk.cell (t:=32) (cs:=[.bool b',.int .u64 y1,.int .u64 y0,.int .i64 ((s' : Int))]) ?_ 1 rfl,Bk.cell (t:=32) (cs:=[.bool b',.int .u64 y1,.int .u64 y0,.int .i64 ((s' : Int))]) ?_ 2 rfl,Bk.cell (t:=32) (cs:=[.bool b',.int .u64 y1,.int .u64 y0,.int .i64 ((s' : Int))]) ?_ 3 rfl⟩) <;> ((repeat (first|(with_reducible assumption)|((with_reducible refine bkW ?_);(first|rfl|(simp only [wsA,wsS,wsD,wsN];done)))|(with_reducible first|refine bkA ?_ _|refine bkD ?_|refine bkN ?_ _)|((with_reducible refine bkF ?_ ?_ _);focus (simp only [];omega))|((with_reducible refine bkB (by assumption) ?_ ?_);focus (go_size;done))));done))))) (first | (go_at_call 87;(with_reducible refine (HA.out _).mono ?_);rintro _ w1 ⟨rfl,hb1⟩;have hb1s:=hb1.size;(try simp only [wsA,wsS,wsD,wsN] at hb1s);obtain ⟨hb1c,hb1f⟩:=bcell hb1;(try have : w.heap.size < w1.heap.size:=by omega);(try have : w.heap.size + 1 < w1.heap.size:=by omega);(try have : w.heap.size + 1 + 1 < w1.heap.size:=by omega);(try have : w.heap.size + 1 + 1 + 1 < w1.heap.size:=by omega);(try have : w2.heap.size < w1.heap.size:=by omega);(try have : w2.heap.size + 1 < w1.heap.size:=by omega);(try have : w2.heap.size + 1 + 1 < w1.heap.size:=by omega);(try have : w2.heap.size + 1 + 1 + 1 < w1.heap.size:=by omega)) | (go_at_call 87;(with_reducible refine (HB.out _).mono ?_);rintro _ w2 ⟨rfl,hb2⟩;have hb2s:=hb2.size;(try simp only [wsA,wsS,wsD,wsN] at hb2s);obtain ⟨hb2c,hb2f⟩:=bcell hb2;(try have : w.heap.size < w2.heap.size:=by omega);(try have : w.heap.size + 1 < w2.heap.size:=by omega);(try have : w.heap.size + 1 + 1 < w2.heap.size:=by omega);(try have : w.heap.size + 1 + 1 + 1 < w2.heap.size:=by omega);(try have : w1.heap.size < w2.heap.size:=by omega);(try have : w1.heap.size + 1 < w2.heap.size:=by omega);(try have : w1.heap.size + 1 + 1 < w2.heap.size:=by omega);(try have : w1.heap.size + 1 + 1 + 1 < w2.heap.size:=by omega)))
 all_goals
  go_wp2_with fail
  refine bodyPost_ret (by simp [results,Tryz.results60,go_sem, *];try rfl) rfl ?_
  exact ⟨rfl,by (repeat' first|(with_reducible first|exact blR _ _|assumption|refine blD ?_|refine blN ?_ _)|((with_reducible first|refine blA ?_ ?_ _|refine blS ?_ ?_ _|refine blT (by assumption) ?_ ?_);focus (go_size;done)))⟩
end Go.Proofs.YtkjecoanlppeaaaGreatDoor



namespace Go.Proofs.YtkjecoanlppeaaaGreatDoor
open Go.RowKit

theorem power_sub (k s : Nat) (h : s ≤ k) (hk : k ≤ 38) (W : World) : Calls Tryz.prog 141 #[.int .i64 ((k : Int) - (s : Int))] W fun e w' => e = .returned (.agg #[.int .u64 (wd (10 ^ (k - s)) 1),.int .u64 (wd (10 ^ (k - s)) 0)]) ∧ Below W.heap.size W w':=by
 rw [show (k : Int) - (s : Int) = ((k - s : Nat) : Int) by omega]
 exact power_any (k - s) (by omega) W
set_option maxHeartbeats 2000000 in
theorem canon_any (neg : Bool) (c s : Nat) (hc : c < B34) (hs : s ≤ 1000) (w : World) : Calls Tryz.prog 144 #[.bool neg,.agg #[.int .u64 (wd c 1),.int .u64 (wd c 0)],.int .i64 s] w fun e w' => e = .returned (.agg #[.bool (sg neg (stripC c s)),.int .u64 (wd ((stripC c s)) 1),.int .u64 (wd ((stripC c s)) 0),.int .i64 (stripS c s)]) ∧ Below w.heap.size w w':=by
 have hc2 : c < 2 ^ 128:=Nat.lt_trans hc B34_lt
 have s0 : (0 : Int) ≤ (s : Int):=by omega
 have s1 : (s : Int) ≤ 1000:=by omega
 have qz : ∀ W,(binOp .eql 30 (.agg #[.int .u64 (wd c 1),.int .u64 (wd c 0)]) (.agg #[.int .u64 0,.int .u64 0])).run Tryz.prog W = .ok (.bool (decide (c = 0))) W:=fun W => by rw [eq_wide,eq_nil hc2]
 by_cases hz : c = 0
 ·rw [decide_eq_true hz] at qz
  have e1 : stripC c s = 0:=stripC_zero.2 hz
  have e2 : stripS c s = 0:=by rw [hz];exact (strip_nil s).2
  rw [e1,e2,wd_zero,wd_zero]
  rw [sg_zero]
  generalize wd c 0 = x0 at *
  generalize wd c 1 = x1 at *
  clear hc hz e1 e2 hc2
  go_enter Tryz.func144,Tryz.ntmps144
  go_wp2_with fail
  refine bodyPost_ret (by simp [results,Tryz.results144,go_sem, *];try rfl) rfl ?_
  exact ⟨rfl,by (repeat' first|(with_reducible first|exact blR _ _|assumption|refine blD ?_|refine blN ?_ _)|((with_reducible first|refine blA ?_ ?_ _|refine blS ?_ ?_ _|refine blT (by assumption) ?_ ?_);focus (go_size;done)))⟩
 ·rw [decide_eq_false hz] at qz
  obtain ⟨T,k,ht⟩:=tz_upto c 34 hz hc
  have hk38:=ht.k_le hc2
  have HT:=Lib.hid (fun W => trim_any c T k hc2 ht W)
  have hne : sg neg (stripC c s) = neg:=sg_pos (fun e => hz (stripC_zero.1 e))
  rw [hne]
  have hT : T < 2 ^ 128:=by
   have h1:=ht.1
   have h2 : T ≤ c:=by rw [h1];exact Nat.le_mul_of_pos_right _ (Nat.pow_pos (by decide))
   omega
  obtain ⟨h1,h2⟩:=strip_trim T k s ht.2
  rw [← ht.1] at h1 h2
  have k0 : (0 : Int) ≤ (k : Int):=by omega
  have k1 : (k : Int) ≤ 38:=by omega
  by_cases hks : k ≤ s
  ·rw [(h1 hks).1,(h1 hks).2]
   have g1 : (k : Int) ≤ (s : Int):=by omega
   rw [show ((s - k : Nat) : Int) = (s : Int) - (k : Int) by omega]
   generalize wd c 0 = x0 at *
   generalize wd c 1 = x1 at *
   generalize wd T 0 = y0 at *
   generalize wd T 1 = y1 at *
   clear h1 h2 hc hc2 hz ht hne hT
   go_enter Tryz.func144,Tryz.ntmps144
   go_wp2_with ((go_at_call 117;with_reducible refine (HT.out _).mono ?_);rintro _ w1 ⟨rfl,hb1⟩;have hb1s:=hb1.size;(try simp only [wsA,wsS,wsD,wsN] at hb1s);obtain ⟨hb1c,hb1f⟩:=bcell hb1;(try have : w.heap.size < w1.heap.size:=by omega);(try have : w.heap.size + 1 < w1.heap.size:=by omega);(try have : w.heap.size + 1 + 1 < w1.heap.size:=by omega);(try have : w.heap.size + 1 + 1 + 1 < w1.heap.size:=by omega))
   refine bodyPost_ret (by simp [results,Tryz.results144,go_sem, *];try rfl) rfl ?_
   exact ⟨rfl,by (repeat' first|(with_reducible first|exact blR _ _|assumption|refine blD ?_|refine blN ?_ _)|((with_reducible first|refine blA ?_ ?_ _|refine blS ?_ ?_ _|refine blT (by assumption) ?_ ?_);focus (go_size;done)))⟩
  ·rw [(h2 (by omega)).1,(h2 (by omega)).2]
   have g1 : ¬ (k : Int) ≤ (s : Int):=by omega
   have hle : T * 10 ^ (k - s) < 2 ^ 128:=by
    have e:=ht.1
    rw [show k = k - s + s by omega,Nat.pow_add,← Nat.mul_assoc] at e
    have : T * 10 ^ (k - s) ≤ c:=by rw [e];exact Nat.le_mul_of_pos_right _ (Nat.pow_pos (by decide))
    omega
   have HP:=Lib.hid (fun W => power_sub k s (by omega) hk38 W)
   have HM:=Lib.hid (fun W => mul_any T (10 ^ (k - s)) hT (ten_38 (by omega)) W)
   have HN:=Lib.hid (fun W => narrow_any (T * 10 ^ (k - s)) (Nat.lt_trans hle (by decide)) W)
   rw [fit_id hle,over_id hle] at HN
   generalize T * 10 ^ (k - s) = P at *
   generalize 10 ^ (k - s) = Q at *
   generalize wd c 0 = x0 at *
   generalize wd c 1 = x1 at *
   generalize wd T 0 = y0 at *
   generalize wd T 1 = y1 at *
   generalize wd P 0 = z0 at *
   generalize wd P 1 = z1 at *
   generalize wd P 2 = z2 at *
   generalize wd P 3 = z3 at *
   generalize wd Q 0 = q0 at *
   generalize wd Q 1 = q1 at *
   clear h1 h2 hc hc2 hz ht hne hT hle
   go_enter Tryz.func144,Tryz.ntmps144
   have gs1 : IntKind.i64.wrap ((k : Int) - (s : Int)) = (k : Int) - (s : Int):=IntWalk.i64_in _ (by omega)
   go_wp2_with ((go_at_call 117;with_reducible refine (HT.out _).mono ?_);rintro _ w1 ⟨rfl,hb1⟩;have hb1s:=hb1.size;(try simp only [wsA,wsS,wsD,wsN] at hb1s);obtain ⟨hb1c,hb1f⟩:=bcell hb1;(try have : w.heap.size < w1.heap.size:=by omega);(try have : w.heap.size + 1 < w1.heap.size:=by omega);(try have : w.heap.size + 1 + 1 < w1.heap.size:=by omega);(try have : w.heap.size + 1 + 1 + 1 < w1.heap.size:=by omega))
   go_region_held3 (fun w' => w'.cell? ⟨w1.heap.size,0,none⟩ = some (.int .u64 y1) ∧ w'.cell? ⟨w1.heap.size,1,none⟩ = some (.int .u64 y0)) (first | (first | (go_keep;done) | (simp [go_sem];done) | ((try dsimp only);(repeat' apply And.intro) <;> (first | (with_reducible assumption) | ((rw [World.cell?_alloc_lt _ _ _ (by show _ < _;omega)]);go_split_ands;(first | with_reducible assumption | (refine (World.cell?_alloc_lt _ _ _ (by show _ < _;omega)).symm.trans ?_;with_reducible assumption))) | ((rw [World.cell?_setCell_other _ _ _ _ (by intro e;injection e;omega)]);with_reducible assumption) | (go_keep;done) | (simp [go_sem];done) | (simp (disch:=go_size) [*,World.cell?_alloc_some,World.cell?_setCell_far];done)))) | ((refine ⟨Bk.cell (t:=30) (cs:=[.int .u64 y1,.int .u64 y0]) ?_ 0 rfl,Bk.cell (t:=30) (cs:=[.int .u64 y1,.int .u64 y0]) ?_ 1 rfl⟩) <;> ((repeat (first|(with_reducible assumption)|((with_reducible refine bkW ?_);(first|rfl|(simp only [wsA,wsS,wsD,wsN];done)))|(with_reducible first|refine bkA ?_ _|refine bkD ?_|refine bkN ?_ _)|((with_reducible refine bkF ?_ ?_ _);focus (simp only [];omega))|((with_reducible refine bkB (by assumption) ?_ ?_);focus (go_size;done))));done))) (first | ((go_at_call 141;with_reducible refine (HP.out _).mono ?_);rintro _ w2 ⟨rfl,hb2⟩;have hb2s:=hb2.size;(try simp only [wsA,wsS,wsD,wsN] at hb2s);obtain ⟨hb2c,hb2f⟩:=bcell hb2;(try have : w.heap.size < w2.heap.size:=by omega);(try have : w.heap.size + 1 < w2.heap.size:=by omega);(try have : w.heap.size + 1 + 1 < w2.heap.size:=by omega);(try have : w.heap.size + 1 + 1 + 1 < w2.heap.size:=by omega);(try have : w1.heap.size < w2.heap.size:=by omega);(try have : w1.heap.size + 1 < w2.heap.size:=by omega);(try have : w1.heap.size + 1 + 1 < w2.heap.size:=by omega);(try have : w1.heap.size + 1 + 1 + 1 < w2.heap.size:=by omega)) | ((go_at_call 162;with_reducible refine (HM.out _).mono ?_);rintro _ w3 ⟨rfl,hb3⟩;have hb3s:=hb3.size;(try simp only [wsA,wsS,wsD,wsN] at hb3s);obtain ⟨hb3c,hb3f⟩:=bcell hb3;(try have : w.heap.size < w3.heap.size:=by omega);(try have : w.heap.size + 1 < w3.heap.size:=by omega);(try have : w.heap.size + 1 + 1 < w3.heap.size:=by omega);(try have : w.heap.size + 1 + 1 + 1 < w3.heap.size:=by omega);(try have : w1.heap.size < w3.heap.size:=by omega);(try have : w1.heap.size + 1 < w3.heap.size:=by omega);(try have : w1.heap.size + 1 + 1 < w3.heap.size:=by omega);(try have : w1.heap.size + 1 + 1 + 1 < w3.heap.size:=by omega);(try have : w2.heap.size < w3.heap.size:=by omega);(try have : w2.heap.size + 1 < w3.heap.size:=by omega);(try have : w2.heap.size + 1 + 1 < w3.heap.size:=by omega);(try have : w2.heap.size + 1 + 1 + 1 < w3.heap.size:=by omega)) | ((go_at_call 160;with_reducible refine (HN.out _).mono ?_);rintro _ w4 ⟨rfl,hb4⟩;have hb4s:=hb4.size;(try simp only [wsA,wsS,wsD,wsN] at hb4s);obtain ⟨hb4c,hb4f⟩:=bcell hb4;(try have : w.heap.size < w4.heap.size:=by omega);(try have : w.heap.size + 1 < w4.heap.size:=by omega);(try have : w.heap.size + 1 + 1 < w4.heap.size:=by omega);(try have : w.heap.size + 1 + 1 + 1 < w4.heap.size:=by omega);(try have : w1.heap.size < w4.heap.size:=by omega);(try have : w1.heap.size + 1 < w4.heap.size:=by omega);(try have : w1.heap.size + 1 + 1 < w4.heap.size:=by omega);(try have : w1.heap.size + 1 + 1 + 1 < w4.heap.size:=by omega);(try have : w2.heap.size < w4.heap.size:=by omega);(try have : w2.heap.size + 1 < w4.heap.size:=by omega);(try have : w2.heap.size + 1 + 1 < w4.heap.size:=by omega);(try have : w2.heap.size + 1 + 1 + 1 < w4.heap.size:=by omega);(try have : w3.heap.size < w4.heap.size:=by omega);(try have : w3.heap.size + 1 < w4.heap.size:=by omega);(try have : w3.heap.size + 1 + 1 < w4.heap.size:=by omega);(try have : w3.heap.size + 1 + 1 + 1 < w4.heap.size:=by omega)))
   all_goals
    first | (refine wp_named (fun W => Bk W (w1.heap.size + 1) 30 [.int .u64 z1,.int .u64 z0] ∧ Bk W (w.heap.size + 1) 32 [.bool false,.int .u64 0,.int .u64 0,.int .i64 0] ∧ Below w.heap.size w W) ⟨?h1, ?h2, ?h3⟩ ?_;(case h1 => (first | ((repeat (first|(with_reducible assumption)|((with_reducible refine bkW ?_);(first|rfl|(simp only [wsA,wsS,wsD,wsN];done)))|(with_reducible first|refine bkA ?_ _|refine bkD ?_|refine bkN ?_ _)|((with_reducible refine bkF ?_ ?_ _);focus (simp only [];omega))|((with_reducible refine bkB (by assumption) ?_ ?_);focus (go_size;done))));done) | ((repeat (first | (with_reducible refine Bk.alloc ?_ _) | (with_reducible refine Bk.drew ?_) | ((with_reducible refine Bk.far ?_ ?_ _);rotate_left;focus (simp only [];omega))));(refine ((?_ : Bk _ _ _ [.int .u64 0,.int .u64 0]).set_ 0 _).set_ 1 _);(repeat (first|(with_reducible assumption)|((with_reducible refine bkW ?_);(first|rfl|(simp only [wsA,wsS,wsD,wsN];done)))|(with_reducible first|refine bkA ?_ _|refine bkD ?_|refine bkN ?_ _)|((with_reducible refine bkF ?_ ?_ _);focus (simp only [];omega))|((with_reducible refine bkB (by assumption) ?_ ?_);focus (go_size;done)))));done));(case h2 => ((repeat (first|(with_reducible assumption)|((with_reducible refine bkW ?_);(first|rfl|(simp only [wsA,wsS,wsD,wsN];done)))|(with_reducible first|refine bkA ?_ _|refine bkD ?_|refine bkN ?_ _)|((with_reducible refine bkF ?_ ?_ _);focus (simp only [];omega))|((with_reducible refine bkB (by assumption) ?_ ?_);focus (go_size;done))));done));(case h3 => ((repeat' first|(with_reducible first|exact blR _ _|assumption|refine blD ?_|refine blN ?_ _)|((with_reducible first|refine blA ?_ ?_ _|refine blS ?_ ?_ _|refine blT (by assumption) ?_ ?_);focus (go_size;done)));done))) | (refine wp_named (fun W => Bk W (w2.heap.size) 30 [.int .u64 z1,.int .u64 z0] ∧ Bk W (w.heap.size + 1) 32 [.bool false,.int .u64 0,.int .u64 0,.int .i64 0] ∧ Below w.heap.size w W) ⟨?h1, ?h2, ?h3⟩ ?_;(case h1 => (first | ((repeat (first|(with_reducible assumption)|((with_reducible refine bkW ?_);(first|rfl|(simp only [wsA,wsS,wsD,wsN];done)))|(with_reducible first|refine bkA ?_ _|refine bkD ?_|refine bkN ?_ _)|((with_reducible refine bkF ?_ ?_ _);focus (simp only [];omega))|((with_reducible refine bkB (by assumption) ?_ ?_);focus (go_size;done))));done) | ((repeat (first | (with_reducible refine Bk.alloc ?_ _) | (with_reducible refine Bk.drew ?_) | ((with_reducible refine Bk.far ?_ ?_ _);rotate_left;focus (simp only [];omega))));(refine ((?_ : Bk _ _ _ [.int .u64 0,.int .u64 0]).set_ 0 _).set_ 1 _);(repeat (first|(with_reducible assumption)|((with_reducible refine bkW ?_);(first|rfl|(simp only [wsA,wsS,wsD,wsN];done)))|(with_reducible first|refine bkA ?_ _|refine bkD ?_|refine bkN ?_ _)|((with_reducible refine bkF ?_ ?_ _);focus (simp only [];omega))|((with_reducible refine bkB (by assumption) ?_ ?_);focus (go_size;done)))));done));(case h2 => ((repeat (first|(with_reducible assumption)|((with_reducible refine bkW ?_);(first|rfl|(simp only [wsA,wsS,wsD,wsN];done)))|(with_reducible first|refine bkA ?_ _|refine bkD ?_|refine bkN ?_ _)|((with_reducible refine bkF ?_ ?_ _);focus (simp only [];omega))|((with_reducible refine bkB (by assumption) ?_ ?_);focus (go_size;done))));done));(case h3 => ((repeat' first|(with_reducible first|exact blR _ _|assumption|refine blD ?_|refine blN ?_ _)|((with_reducible first|refine blA ?_ ?_ _|refine blS ?_ ?_ _|refine blT (by assumption) ?_ ?_);focus (go_size;done)));done))) | (refine wp_named (fun W => Bk W (w3.heap.size) 30 [.int .u64 z1,.int .u64 z0] ∧ Bk W (w.heap.size + 1) 32 [.bool false,.int .u64 0,.int .u64 0,.int .i64 0] ∧ Below w.heap.size w W) ⟨?h1, ?h2, ?h3⟩ ?_;(case h1 => (first | ((repeat (first|(with_reducible assumption)|((with_reducible refine bkW ?_);(first|rfl|(simp only [wsA,wsS,wsD,wsN];done)))|(with_reducible first|refine bkA ?_ _|refine bkD ?_|refine bkN ?_ _)|((with_reducible refine bkF ?_ ?_ _);focus (simp only [];omega))|((with_reducible refine bkB (by assumption) ?_ ?_);focus (go_size;done))));done) | ((repeat (first | (with_reducible refine Bk.alloc ?_ _) | (with_reducible refine Bk.drew ?_) | ((with_reducible refine Bk.far ?_ ?_ _);rotate_left;focus (simp only [];omega))));(refine ((?_ : Bk _ _ _ [.int .u64 0,.int .u64 0]).set_ 0 _).set_ 1 _);(repeat (first|(with_reducible assumption)|((with_reducible refine bkW ?_);(first|rfl|(simp only [wsA,wsS,wsD,wsN];done)))|(with_reducible first|refine bkA ?_ _|refine bkD ?_|refine bkN ?_ _)|((with_reducible refine bkF ?_ ?_ _);focus (simp only [];omega))|((with_reducible refine bkB (by assumption) ?_ ?_);focus (go_size;done)))));done));(case h2 => ((repeat (first|(with_reducible assumption)|((with_reducible refine bkW ?_);(first|rfl|(simp only [wsA,wsS,wsD,wsN];done)))|(with_reducible first|refine bkA ?_ _|refine bkD ?_|refine bkN ?_ _)|((with_reducible refine bkF ?_ ?_ _);focus (simp only [];omega))|((with_reducible refine bkB (by assumption) ?_ ?_);focus (go_size;done))));done));(case h3 => ((repeat' first|(with_reducible first|exact blR _ _|assumption|refine blD ?_|refine blN ?_ _)|((with_reducible first|refine blA ?_ ?_ _|refine blS ?_ ?_ _|refine blT (by assumption) ?_ ?_);focus (go_size;done)));done))) | (refine wp_named (fun W => Bk W (w4.heap.size) 30 [.int .u64 z1,.int .u64 z0] ∧ Bk W (w.heap.size + 1) 32 [.bool false,.int .u64 0,.int .u64 0,.int .i64 0] ∧ Below w.heap.size w W) ⟨?h1, ?h2, ?h3⟩ ?_;(case h1 => (first | ((repeat (first|(with_reducible assumption)|((with_reducible refine bkW ?_);(first|rfl|(simp only [wsA,wsS,wsD,wsN];done)))|(with_reducible first|refine bkA ?_ _|refine bkD ?_|refine bkN ?_ _)|((with_reducible refine bkF ?_ ?_ _);focus (simp only [];omega))|((with_reducible refine bkB (by assumption) ?_ ?_);focus (go_size;done))));done) | ((repeat (first | (with_reducible refine Bk.alloc ?_ _) | (with_reducible refine Bk.drew ?_) | ((with_reducible refine Bk.far ?_ ?_ _);rotate_left;focus (simp only [];omega))));(refine ((?_ : Bk _ _ _ [.int .u64 0,.int .u64 0]).set_ 0 _).set_ 1 _);(repeat (first|(with_reducible assumption)|((with_reducible refine bkW ?_);(first|rfl|(simp only [wsA,wsS,wsD,wsN];done)))|(with_reducible first|refine bkA ?_ _|refine bkD ?_|refine bkN ?_ _)|((with_reducible refine bkF ?_ ?_ _);focus (simp only [];omega))|((with_reducible refine bkB (by assumption) ?_ ?_);focus (go_size;done)))));done));(case h2 => ((repeat (first|(with_reducible assumption)|((with_reducible refine bkW ?_);(first|rfl|(simp only [wsA,wsS,wsD,wsN];done)))|(with_reducible first|refine bkA ?_ _|refine bkD ?_|refine bkN ?_ _)|((with_reducible refine bkF ?_ ?_ _);focus (simp only [];omega))|((with_reducible refine bkB (by assumption) ?_ ?_);focus (go_size;done))));done));(case h3 => ((repeat' first|(with_reducible first|exact blR _ _|assumption|refine blD ?_|refine blN ?_ _)|((with_reducible first|refine blA ?_ ?_ _|refine blS ?_ ?_ _|refine blT (by assumption) ?_ ?_);focus (go_size;done)));done)))
    rintro W ⟨k1,k2,mb⟩
    clear hb1 hb2 hb3 hb4 hb1c hb2c hb3c hb4c hb1f hb2f hb3f hb4f
    have c10:=k1.cell 0 rfl
    have c11:=k1.cell 1 rfl
    have c20:=k2.cell 0 rfl
    have c21:=k2.cell 1 rfl
    have c22:=k2.cell 2 rfl
    have c23:=k2.cell 3 rfl
    have f20:=k2.frozen 0
    have f21:=k2.frozen 1
    have f22:=k2.frozen 2
    have f23:=k2.frozen 3
    go_wp2_with fail
    refine bodyPost_ret (by simp [results,Tryz.results144,go_sem, *];try rfl) rfl ?_
    exact ⟨rfl,by (repeat' first|(with_reducible first|exact blR _ _|assumption|refine blD ?_|refine blN ?_ _)|((with_reducible first|refine blA ?_ ?_ _|refine blS ?_ ?_ _|refine blT (by assumption) ?_ ?_);focus (go_size;done)))⟩
end Go.Proofs.YtkjecoanlppeaaaGreatDoor



namespace Go.Proofs.YtkjecoanlppeaaaGreatDoor
open Go.RowKit

theorem fit_step_yes {n t j : Nat} (hj : j ≤ t) (h : near n (10 ^ (t - j)) < B34) (e : fin (fitK n (10 ^ t) (K19 n)) = fin (fitK n (10 ^ t) (j + 1))) :
  FitC n (10 ^ t) = stripC (near n (10 ^ (t - j))) j ∧ FitS n (10 ^ t) = stripS (near n (10 ^ (t - j))) j ∧ FitE n (10 ^ t) = 0:=by
 have hp:=near_pow n j t hj
 unfold FitC FitS FitE
 rw [e,fitK_yes (by rw [hp];exact h),hp]
 exact ⟨rfl,rfl,rfl⟩
theorem fit_step_no {n t j : Nat} (hj : j ≤ t) (h : ¬ near n (10 ^ (t - j)) < B34) (e : fin (fitK n (10 ^ t) (K19 n)) = fin (fitK n (10 ^ t) (j + 1))) :
  fin (fitK n (10 ^ t) (K19 n)) = fin (fitK n (10 ^ t) j):=by
 have hp:=near_pow n j t hj
 rw [e,fitK_no (by rw [hp];exact h)]
theorem fit_step_end {n t : Nat} (e : fin (fitK n (10 ^ t) (K19 n)) = fin (fitK n (10 ^ t) 0)) : FitC n (10 ^ t) = 0 ∧ FitS n (10 ^ t) = 0 ∧ FitE n (10 ^ t) = 3:=by
 unfold FitC FitS FitE
 rw [e]
 exact ⟨rfl,rfl,rfl⟩
theorem fit_begin (n t : Nat) : ∃ k,k ≤ 19 ∧ k = min 18 t + 1 ∧ k ≤ t + 1 ∧ fin (fitK n (10 ^ t) (K19 n)) = fin (fitK n (10 ^ t) k):=by
 refine ⟨min 18 t + 1,by omega,rfl,by omega, ?_⟩
 by_cases h : t ≤ 18
 ·rw [show min 18 t = t by omega];exact fit_top n t h
 ·rw [show min 18 t + 1 = K19 n by rw [K19_eq];omega]
set_option maxHeartbeats 4000000 in
theorem fit_any (neg : Bool) (n t : Nat) (hn : n < 2 ^ 256) (ht : t ≤ 76) (w : World) : Calls Tryz.prog 121 #[.bool neg,.agg #[.int .u64 (wd n 0),.int .u64 (wd n 1),.int .u64 (wd n 2),.int .u64 (wd n 3)],.int .i64 t] w fun e w' => e = .returned (.tuple #[.agg #[.bool (sg neg (FitC (n) (10 ^ t))),.int .u64 (wd (FitC (n) (10 ^ t)) 1),.int .u64 (wd (FitC (n) (10 ^ t)) 0),.int .i64 (FitS (n) (10 ^ t))],.int .i64 (FitE n (10 ^ t))]) ∧ Below w.heap.size w w':=by
 obtain ⟨k,k19,hk,kt,he⟩:=fit_begin n t
 have HE:=Far.mk he
 have HN:=Far.mk hn
 have HBD:=Lib.hid (fun W => bound_any W)
 obtain ⟨p0,hp0⟩ : ∃ p0,p0 = wd B34 0:=⟨_,rfl⟩
 obtain ⟨p1,hp1⟩ : ∃ p1,p1 = wd B34 1:=⟨_,rfl⟩
 rw [← hp0,← hp1] at HBD
 have HPW : Hid (p0 = wd B34 0 ∧ p1 = wd B34 1):=Lib.hid ⟨hp0,hp1⟩
 clear hp0 hp1
 obtain ⟨C,hC⟩ : ∃ C,C = FitC n (10 ^ t):=⟨_,rfl⟩
 obtain ⟨S,hS⟩ : ∃ S,S = FitS n (10 ^ t):=⟨_,rfl⟩
 obtain ⟨E,hE⟩ : ∃ E,E = FitE n (10 ^ t):=⟨_,rfl⟩
 rw [← hC,← hS,← hE]
 have EC:=Far.mk hC
 have ES:=Far.mk hS
 have EE:=Far.mk hE
 clear hC hS hE he hn
 have t0 : (0 : Int) ≤ (t : Int):=by omega
 have t76 : (t : Int) ≤ 76:=by omega
 by_cases h18 : t ≤ 18
 ·have g1 : (t : Int) ≤ 18:=by omega
  have hk2 : (t : Int) = (k : Int) - 1:=by omega
  have HK2:=Lib.hid hk2
  clear hk hk2
  go_enter Tryz.func121,Tryz.ntmps121
  go_wp2_with fail
  go_loopg [8] k (fun kk sv wr => kk ≤ t + 1 ∧ kk ≤ 19 ∧ sv = .int .i64 ((kk : Int) - 1) ∧ Far (fin (fitK n (10 ^ t) (K19 n)) = fin (fitK n (10 ^ t) kk)) ∧ Bk wr w.heap.size 82 (lcells n) ∧ Bk wr (w.heap.size + 1) 32 [.bool false,.int .u64 0,.int .u64 0,.int .i64 0] ∧ Below w.heap.size w wr)
  case atStart => exact ⟨kt,k19,congrArg (Value.int .i64) (by have:=HK2.out;omega),HE,by rw [lcells_eq];(repeat (first|(with_reducible assumption)|((with_reducible refine bkW ?_);(first|rfl|(simp only [wsA,wsS,wsD,wsN];done)))|(with_reducible first|refine bkA ?_ _|refine bkD ?_|refine bkN ?_ _)|((with_reducible refine bkF ?_ ?_ _);focus (simp only [];omega))|((with_reducible refine bkB (by assumption) ?_ ?_);focus (go_size;done)))),by (repeat (first|(with_reducible assumption)|((with_reducible refine bkW ?_);(first|rfl|(simp only [wsA,wsS,wsD,wsN];done)))|(with_reducible first|refine bkA ?_ _|refine bkD ?_|refine bkN ?_ _)|((with_reducible refine bkF ?_ ?_ _);focus (simp only [];omega))|((with_reducible refine bkB (by assumption) ?_ ?_);focus (go_size;done)))),by (repeat' first|(with_reducible first|exact blR _ _|assumption|refine blD ?_|refine blN ?_ _)|((with_reducible first|refine blA ?_ ?_ _|refine blS ?_ ?_ _|refine blT (by assumption) ?_ ?_);focus (go_size;done)))⟩
  case round =>
   obtain ⟨hkt,hk19,rfl,he,b0,b1,hbel⟩:=hrel
   have HB0:=Lib.hid b0
   have HB1:=Lib.hid b1
   have hbs:=hbel.size
   have l0:=b0.lt
   have l1:=b1.lt
   rw [lcells_eq] at b0
   have d0:=b0.cell 0 rfl
   have d1:=b0.cell 1 rfl
   have d2:=b0.cell 2 rfl
   have d3:=b0.cell 3 rfl
   clear b0
   by_cases hz : gk = 0
   ·subst hz
    have h0 : ¬ (0 : Int) ≤ ((0 : Nat) : Int) - 1:=by omega
    have c0:=b1.cell 0 rfl
    have c1:=b1.cell 1 rfl
    have c2:=b1.cell 2 rfl
    have c3:=b1.cell 3 rfl
    have f0:=b1.frozen 0
    have f1:=b1.frozen 1
    have f2:=b1.frozen 2
    have f3:=b1.frozen 3
    clear b1
    go_wp2_with fail
    refine bodyPost_ret (by simp [results,Tryz.results121,go_sem, *];try rfl) rfl ?_
    obtain ⟨e1,e2,e3⟩:=fit_step_end he.out
    exact ⟨by rw [EC.out,ES.out,EE.out,e1,e2,e3,wd_zero,wd_zero,sg_zero];rfl,by (repeat' first|(with_reducible first|exact blR _ _|assumption|refine blD ?_|refine blN ?_ _)|((with_reducible first|refine blA ?_ ?_ _|refine blS ?_ ?_ _|refine blT (by assumption) ?_ ?_);focus (go_size;done)))⟩
   ·obtain ⟨j,rfl⟩ : ∃ j,gk = j + 1:=⟨gk - 1,by omega⟩
    have hx : ((j + 1 : Nat) : Int) - 1 = (j : Int):=by omega
    rw [hx]
    have hjt : j ≤ t:=by omega
    have j0 : (0 : Int) ≤ (j : Int):=by omega
    have j18 : (j : Int) ≤ 18:=by omega
    have gs : IntKind.i64.wrap ((t : Int) - (j : Int)) = (t : Int) - (j : Int):=IntWalk.i64_in _ (by omega)
    have HR : Hid (∀ W,Calls Tryz.prog 143 #[.agg #[.int .u64 (wd n 0),.int .u64 (wd n 1),.int .u64 (wd n 2),.int .u64 (wd n 3)],.int .i64 ((t : Int) - (j : Int))] W fun e w' => e = .returned (.tuple #[.agg #[.int .u64 (wd (fitW (near n (10 ^ (t - j)))) 1),.int .u64 (wd (fitW (near n (10 ^ (t - j)))) 0)],.int .i64 (over (near n (10 ^ (t - j))))]) ∧ Below W.heap.size W w'):=Lib.hid (fun W => by
     rw [show (t : Int) - (j : Int) = ((t - j : Nat) : Int) by omega]
     exact round_any n HN.out (t - j) (by omega) W)
    have hyes:=fit_step_yes (n:=n) (t:=t) (j:=j) hjt
    have hno:=fit_step_no (n:=n) (t:=t) (j:=j) hjt
    have HYES:=Far.mk hyes
    have HNO:=Far.mk hno
    generalize near n (10 ^ (t - j)) = q at *
    clear hx hyes hno b1
    by_cases hq : q < B34
    ·have hq2 : q < 2 ^ 128:=Nat.lt_trans hq B34_lt
     obtain ⟨e1,e2,e3⟩:=HYES.out hq he.out
     have HCM:=Lib.hid (fun W => cmp_any q B34 hq2 B34_lt W)
     have hcc:=cmp_bound hq
     have HCN:=Lib.hid (fun W => canon_any neg q j hq (by omega) W)
     rw [fit_id hq2,over_id hq2] at HR
     rw [← e1,← e2,← EC.out,← ES.out] at HCN
     have E3:=Far.mk e3
     have HP0:=HPW
     obtain ⟨hp0,hp1⟩:=HP0.out
     rw [← hp0,← hp1] at HCM
     generalize cmpN q B34 = cc at *
     generalize wd q 0 = q0 at *
     generalize wd q 1 = q1 at *
     clear hq hq2 e1 e2 e3 HYES HNO he hp0 hp1
     go_wp2_with ((go_at_call 143;with_reducible refine (HR.out _).mono ?_);rintro _ w1 ⟨rfl,hb1⟩;have hb1s:=hb1.size;(try simp only [wsA,wsS,wsD,wsN] at hb1s);obtain ⟨hb1c,hb1f⟩:=bcell hb1;(try have : w.heap.size < w1.heap.size:=by omega);(try have : w.heap.size + 1 < w1.heap.size:=by omega);(try have : w.heap.size + 1 + 1 < w1.heap.size:=by omega);(try have : w.heap.size + 1 + 1 + 1 < w1.heap.size:=by omega))
     go_region_held3 (fun w' => w'.cell? ⟨w1.heap.size,0,none⟩ = some (.int .u64 q1) ∧ w'.cell? ⟨w1.heap.size,1,none⟩ = some (.int .u64 q0)) (first | (first | (go_keep;done) | (simp [go_sem];done) | ((try dsimp only);(repeat' apply And.intro) <;> (first | (with_reducible assumption) | ((rw [World.cell?_alloc_lt _ _ _ (by show _ < _;omega)]);go_split_ands;(first | with_reducible assumption | (refine (World.cell?_alloc_lt _ _ _ (by show _ < _;omega)).symm.trans ?_;with_reducible assumption))) | ((rw [World.cell?_setCell_other _ _ _ _ (by intro e;injection e;omega)]);with_reducible assumption) | (go_keep;done) | (simp [go_sem];done) | (simp (disch:=go_size) [*,World.cell?_alloc_some,World.cell?_setCell_far];done)))) | ((refine ⟨Bk.cell (t:=30) (cs:=[.int .u64 q1,.int .u64 q0]) ?_ 0 rfl,Bk.cell (t:=30) (cs:=[.int .u64 q1,.int .u64 q0]) ?_ 1 rfl⟩) <;> ((repeat (first|(with_reducible assumption)|((with_reducible refine bkW ?_);(first|rfl|(simp only [wsA,wsS,wsD,wsN];done)))|(with_reducible first|refine bkA ?_ _|refine bkD ?_|refine bkN ?_ _)|((with_reducible refine bkF ?_ ?_ _);focus (simp only [];omega))|((with_reducible refine bkB (by assumption) ?_ ?_);focus (go_size;done))));done))) (first | ((go_at_call 115;with_reducible refine (HBD.out _).mono ?_);rintro _ w2 ⟨rfl,hb2⟩;have hb2s:=hb2.size;(try simp only [wsA,wsS,wsD,wsN] at hb2s);obtain ⟨hb2c,hb2f⟩:=bcell hb2;(try have : w.heap.size < w2.heap.size:=by omega);(try have : w.heap.size + 1 < w2.heap.size:=by omega);(try have : w.heap.size + 1 + 1 < w2.heap.size:=by omega);(try have : w.heap.size + 1 + 1 + 1 < w2.heap.size:=by omega);(try have : w1.heap.size < w2.heap.size:=by omega);(try have : w1.heap.size + 1 < w2.heap.size:=by omega);(try have : w1.heap.size + 1 + 1 < w2.heap.size:=by omega);(try have : w1.heap.size + 1 + 1 + 1 < w2.heap.size:=by omega)) | ((go_at_call 114;with_reducible refine (HCM.out _).mono ?_);rintro _ w3 ⟨rfl,hb3⟩;have hb3s:=hb3.size;(try simp only [wsA,wsS,wsD,wsN] at hb3s);obtain ⟨hb3c,hb3f⟩:=bcell hb3;(try have : w.heap.size < w3.heap.size:=by omega);(try have : w.heap.size + 1 < w3.heap.size:=by omega);(try have : w.heap.size + 1 + 1 < w3.heap.size:=by omega);(try have : w.heap.size + 1 + 1 + 1 < w3.heap.size:=by omega);(try have : w1.heap.size < w3.heap.size:=by omega);(try have : w1.heap.size + 1 < w3.heap.size:=by omega);(try have : w1.heap.size + 1 + 1 < w3.heap.size:=by omega);(try have : w1.heap.size + 1 + 1 + 1 < w3.heap.size:=by omega);(try have : w2.heap.size < w3.heap.size:=by omega);(try have : w2.heap.size + 1 < w3.heap.size:=by omega);(try have : w2.heap.size + 1 + 1 < w3.heap.size:=by omega);(try have : w2.heap.size + 1 + 1 + 1 < w3.heap.size:=by omega)))
     all_goals
      refine wp_named (fun W => Bk W w1.heap.size 30 [.int .u64 q1,.int .u64 q0] ∧ Bk W (w.heap.size + 1) 32 [.bool false,.int .u64 0,.int .u64 0,.int .i64 0] ∧ Below w.heap.size w W) ⟨?h1, ?h2, ?h3⟩ ?_
      case h1 => ((repeat (first|(with_reducible assumption)|((with_reducible refine bkW ?_);(first|rfl|(simp only [wsA,wsS,wsD,wsN];done)))|(with_reducible first|refine bkA ?_ _|refine bkD ?_|refine bkN ?_ _)|((with_reducible refine bkF ?_ ?_ _);focus (simp only [];omega))|((with_reducible refine bkB (by assumption) ?_ ?_);focus (go_size;done))));done)
      case h2 =>
       have b1:=HB1.out
       ((repeat (first|(with_reducible assumption)|((with_reducible refine bkW ?_);(first|rfl|(simp only [wsA,wsS,wsD,wsN];done)))|(with_reducible first|refine bkA ?_ _|refine bkD ?_|refine bkN ?_ _)|((with_reducible refine bkF ?_ ?_ _);focus (simp only [];omega))|((with_reducible refine bkB (by assumption) ?_ ?_);focus (go_size;done))));done)
      case h3 => ((repeat' first|(with_reducible first|exact blR _ _|assumption|refine blD ?_|refine blN ?_ _)|((with_reducible first|refine blA ?_ ?_ _|refine blS ?_ ?_ _|refine blT (by assumption) ?_ ?_);focus (go_size;done)));done)
      rintro W ⟨k1,k2,mb⟩
      have kl1:=k1.lt
      have kl2:=k2.lt
      have c10:=k1.cell 0 rfl
      have c11:=k1.cell 1 rfl
      have c20:=k2.cell 0 rfl
      have c21:=k2.cell 1 rfl
      have c22:=k2.cell 2 rfl
      have c23:=k2.cell 3 rfl
      have f20:=k2.frozen 0
      have f21:=k2.frozen 1
      have f22:=k2.frozen 2
      have f23:=k2.frozen 3
      clear hb1 hb2 hb3 hb1c hb2c hb3c hb1f hb2f hb3f d0 d1 d2 d3
      go_wp2_with ((go_at_call 144;with_reducible refine (HCN.out _).mono ?_);rintro _ w4 ⟨rfl,hb4⟩;have hb4s:=hb4.size;(try simp only [wsA,wsS,wsD,wsN] at hb4s);obtain ⟨hb4c,hb4f⟩:=bcell hb4;(try have : w.heap.size < w4.heap.size:=by omega);(try have : w.heap.size + 1 < w4.heap.size:=by omega);(try have : w.heap.size + 1 + 1 < w4.heap.size:=by omega);(try have : w.heap.size + 1 + 1 + 1 < w4.heap.size:=by omega))
      refine bodyPost_ret (by simp [results,Tryz.results121,go_sem, *];try rfl) rfl ?_
      exact ⟨by rw [EE.out,E3.out],by (repeat' first|(with_reducible first|exact blR _ _|assumption|refine blD ?_|refine blN ?_ _)|((with_reducible first|refine blA ?_ ?_ _|refine blS ?_ ?_ _|refine blT (by assumption) ?_ ?_);focus (go_size;done)))⟩
    ·by_cases hq2 : q < 2 ^ 128
     ·have HCM:=Lib.hid (fun W => cmp_any q B34 hq2 B34_lt W)
      have hcc:=cmp_bound' hq
      have HNX:=Far.mk (HNO.out hq he.out)
      have hcn : ¬ cmpN q B34 < 0:=by omega
      rw [fit_id hq2,over_id hq2] at HR
      have HP0:=HPW
      obtain ⟨hp0,hp1⟩:=HP0.out
      rw [← hp0,← hp1] at HCM
      generalize cmpN q B34 = cc at *
      generalize wd q 0 = q0 at *
      generalize wd q 1 = q1 at *
      clear hq hq2 HYES HNO he hp0 hp1
      go_wp2_with ((go_at_call 143;with_reducible refine (HR.out _).mono ?_);rintro _ w1 ⟨rfl,hb1⟩;have hb1s:=hb1.size;(try simp only [wsA,wsS,wsD,wsN] at hb1s);obtain ⟨hb1c,hb1f⟩:=bcell hb1;(try have : w.heap.size < w1.heap.size:=by omega);(try have : w.heap.size + 1 < w1.heap.size:=by omega);(try have : w.heap.size + 1 + 1 < w1.heap.size:=by omega);(try have : w.heap.size + 1 + 1 + 1 < w1.heap.size:=by omega))
      go_region_held3 (fun w' => w'.cell? ⟨w1.heap.size,0,none⟩ = some (.int .u64 q1) ∧ w'.cell? ⟨w1.heap.size,1,none⟩ = some (.int .u64 q0)) (first | (first | (go_keep;done) | (simp [go_sem];done) | ((try dsimp only);(repeat' apply And.intro) <;> (first | (with_reducible assumption) | ((rw [World.cell?_alloc_lt _ _ _ (by show _ < _;omega)]);go_split_ands;(first | with_reducible assumption | (refine (World.cell?_alloc_lt _ _ _ (by show _ < _;omega)).symm.trans ?_;with_reducible assumption))) | ((rw [World.cell?_setCell_other _ _ _ _ (by intro e;injection e;omega)]);with_reducible assumption) | (go_keep;done) | (simp [go_sem];done) | (simp (disch:=go_size) [*,World.cell?_alloc_some,World.cell?_setCell_far];done)))) | ((refine ⟨Bk.cell (t:=30) (cs:=[.int .u64 q1,.int .u64 q0]) ?_ 0 rfl,Bk.cell (t:=30) (cs:=[.int .u64 q1,.int .u64 q0]) ?_ 1 rfl⟩) <;> ((repeat (first|(with_reducible assumption)|((with_reducible refine bkW ?_);(first|rfl|(simp only [wsA,wsS,wsD,wsN];done)))|(with_reducible first|refine bkA ?_ _|refine bkD ?_|refine bkN ?_ _)|((with_reducible refine bkF ?_ ?_ _);focus (simp only [];omega))|((with_reducible refine bkB (by assumption) ?_ ?_);focus (go_size;done))));done))) (first | ((go_at_call 115;with_reducible refine (HBD.out _).mono ?_);rintro _ w2 ⟨rfl,hb2⟩;have hb2s:=hb2.size;(try simp only [wsA,wsS,wsD,wsN] at hb2s);obtain ⟨hb2c,hb2f⟩:=bcell hb2;(try have : w.heap.size < w2.heap.size:=by omega);(try have : w.heap.size + 1 < w2.heap.size:=by omega);(try have : w.heap.size + 1 + 1 < w2.heap.size:=by omega);(try have : w.heap.size + 1 + 1 + 1 < w2.heap.size:=by omega);(try have : w1.heap.size < w2.heap.size:=by omega);(try have : w1.heap.size + 1 < w2.heap.size:=by omega);(try have : w1.heap.size + 1 + 1 < w2.heap.size:=by omega);(try have : w1.heap.size + 1 + 1 + 1 < w2.heap.size:=by omega)) | ((go_at_call 114;with_reducible refine (HCM.out _).mono ?_);rintro _ w3 ⟨rfl,hb3⟩;have hb3s:=hb3.size;(try simp only [wsA,wsS,wsD,wsN] at hb3s);obtain ⟨hb3c,hb3f⟩:=bcell hb3;(try have : w.heap.size < w3.heap.size:=by omega);(try have : w.heap.size + 1 < w3.heap.size:=by omega);(try have : w.heap.size + 1 + 1 < w3.heap.size:=by omega);(try have : w.heap.size + 1 + 1 + 1 < w3.heap.size:=by omega);(try have : w1.heap.size < w3.heap.size:=by omega);(try have : w1.heap.size + 1 < w3.heap.size:=by omega);(try have : w1.heap.size + 1 + 1 < w3.heap.size:=by omega);(try have : w1.heap.size + 1 + 1 + 1 < w3.heap.size:=by omega);(try have : w2.heap.size < w3.heap.size:=by omega);(try have : w2.heap.size + 1 < w3.heap.size:=by omega);(try have : w2.heap.size + 1 + 1 < w3.heap.size:=by omega);(try have : w2.heap.size + 1 + 1 + 1 < w3.heap.size:=by omega)))
      all_goals
       refine wp_named (fun W => Bk W w.heap.size 82 (lcells n) ∧ Bk W (w.heap.size + 1) 32 [.bool false,.int .u64 0,.int .u64 0,.int .i64 0] ∧ Below w.heap.size w W) ⟨?h1, ?h2, ?h3⟩ ?_
       case h1 =>
        have b0:=HB0.out
        ((repeat (first|(with_reducible assumption)|((with_reducible refine bkW ?_);(first|rfl|(simp only [wsA,wsS,wsD,wsN];done)))|(with_reducible first|refine bkA ?_ _|refine bkD ?_|refine bkN ?_ _)|((with_reducible refine bkF ?_ ?_ _);focus (simp only [];omega))|((with_reducible refine bkB (by assumption) ?_ ?_);focus (go_size;done))));done)
       case h2 =>
        have b1:=HB1.out
        ((repeat (first|(with_reducible assumption)|((with_reducible refine bkW ?_);(first|rfl|(simp only [wsA,wsS,wsD,wsN];done)))|(with_reducible first|refine bkA ?_ _|refine bkD ?_|refine bkN ?_ _)|((with_reducible refine bkF ?_ ?_ _);focus (simp only [];omega))|((with_reducible refine bkB (by assumption) ?_ ?_);focus (go_size;done))));done)
       case h3 => ((repeat' first|(with_reducible first|exact blR _ _|assumption|refine blD ?_|refine blN ?_ _)|((with_reducible first|refine blA ?_ ?_ _|refine blS ?_ ?_ _|refine blT (by assumption) ?_ ?_);focus (go_size;done)));done)
       rintro W ⟨k1,k2,mb⟩
       go_wp2_with fail
       go_roundg j
       case measure => omega
       case rel => exact ⟨by omega,by omega,rfl,HNX,k1,k2,mb⟩
     ·have HNX:=Far.mk (HNO.out hq he.out)
      have eo : over q = 3:=by unfold over;rw [if_neg hq2]
      rw [eo] at HR
      generalize wd (fitW q) 0 = q0 at *
      generalize wd (fitW q) 1 = q1 at *
      clear hq hq2 HYES HNO he
      go_wp2_with ((go_at_call 143;with_reducible refine (HR.out _).mono ?_);rintro _ w1 ⟨rfl,hb1⟩;have hb1s:=hb1.size;(try simp only [wsA,wsS,wsD,wsN] at hb1s);obtain ⟨hb1c,hb1f⟩:=bcell hb1;(try have : w.heap.size < w1.heap.size:=by omega);(try have : w.heap.size + 1 < w1.heap.size:=by omega);(try have : w.heap.size + 1 + 1 < w1.heap.size:=by omega);(try have : w.heap.size + 1 + 1 + 1 < w1.heap.size:=by omega))
      first | (go_region_with fail) | fail
      all_goals
       refine wp_named (fun W => Bk W w.heap.size 82 (lcells n) ∧ Bk W (w.heap.size + 1) 32 [.bool false,.int .u64 0,.int .u64 0,.int .i64 0] ∧ Below w.heap.size w W) ⟨?h1, ?h2, ?h3⟩ ?_
       case h1 =>
        have b0:=HB0.out
        ((repeat (first|(with_reducible assumption)|((with_reducible refine bkW ?_);(first|rfl|(simp only [wsA,wsS,wsD,wsN];done)))|(with_reducible first|refine bkA ?_ _|refine bkD ?_|refine bkN ?_ _)|((with_reducible refine bkF ?_ ?_ _);focus (simp only [];omega))|((with_reducible refine bkB (by assumption) ?_ ?_);focus (go_size;done))));done)
       case h2 =>
        have b1:=HB1.out
        ((repeat (first|(with_reducible assumption)|((with_reducible refine bkW ?_);(first|rfl|(simp only [wsA,wsS,wsD,wsN];done)))|(with_reducible first|refine bkA ?_ _|refine bkD ?_|refine bkN ?_ _)|((with_reducible refine bkF ?_ ?_ _);focus (simp only [];omega))|((with_reducible refine bkB (by assumption) ?_ ?_);focus (go_size;done))));done)
       case h3 => ((repeat' first|(with_reducible first|exact blR _ _|assumption|refine blD ?_|refine blN ?_ _)|((with_reducible first|refine blA ?_ ?_ _|refine blS ?_ ?_ _|refine blT (by assumption) ?_ ?_);focus (go_size;done)));done)
       rintro W ⟨k1,k2,mb⟩
       go_wp2_with fail
       go_roundg j
       case measure => omega
       case rel => exact ⟨by omega,by omega,rfl,HNX,k1,k2,mb⟩
 ·have g1 : ¬ (t : Int) ≤ 18:=by omega
  have hk2 : (18 : Int) = (k : Int) - 1:=by omega
  have HK2:=Lib.hid hk2
  clear hk hk2
  go_enter Tryz.func121,Tryz.ntmps121
  go_wp2_with fail
  go_loopg [8] k (fun kk sv wr => kk ≤ t + 1 ∧ kk ≤ 19 ∧ sv = .int .i64 ((kk : Int) - 1) ∧ Far (fin (fitK n (10 ^ t) (K19 n)) = fin (fitK n (10 ^ t) kk)) ∧ Bk wr w.heap.size 82 (lcells n) ∧ Bk wr (w.heap.size + 1) 32 [.bool false,.int .u64 0,.int .u64 0,.int .i64 0] ∧ Below w.heap.size w wr)
  case atStart => exact ⟨kt,k19,congrArg (Value.int .i64) (by have:=HK2.out;omega),HE,by rw [lcells_eq];(repeat (first|(with_reducible assumption)|((with_reducible refine bkW ?_);(first|rfl|(simp only [wsA,wsS,wsD,wsN];done)))|(with_reducible first|refine bkA ?_ _|refine bkD ?_|refine bkN ?_ _)|((with_reducible refine bkF ?_ ?_ _);focus (simp only [];omega))|((with_reducible refine bkB (by assumption) ?_ ?_);focus (go_size;done)))),by (repeat (first|(with_reducible assumption)|((with_reducible refine bkW ?_);(first|rfl|(simp only [wsA,wsS,wsD,wsN];done)))|(with_reducible first|refine bkA ?_ _|refine bkD ?_|refine bkN ?_ _)|((with_reducible refine bkF ?_ ?_ _);focus (simp only [];omega))|((with_reducible refine bkB (by assumption) ?_ ?_);focus (go_size;done)))),by (repeat' first|(with_reducible first|exact blR _ _|assumption|refine blD ?_|refine blN ?_ _)|((with_reducible first|refine blA ?_ ?_ _|refine blS ?_ ?_ _|refine blT (by assumption) ?_ ?_);focus (go_size;done)))⟩
  case round =>
   obtain ⟨hkt,hk19,rfl,he,b0,b1,hbel⟩:=hrel
   have HB0:=Lib.hid b0
   have HB1:=Lib.hid b1
   have hbs:=hbel.size
   have l0:=b0.lt
   have l1:=b1.lt
   rw [lcells_eq] at b0
   have d0:=b0.cell 0 rfl
   have d1:=b0.cell 1 rfl
   have d2:=b0.cell 2 rfl
   have d3:=b0.cell 3 rfl
   clear b0
   by_cases hz : gk = 0
   ·subst hz
    have h0 : ¬ (0 : Int) ≤ ((0 : Nat) : Int) - 1:=by omega
    have c0:=b1.cell 0 rfl
    have c1:=b1.cell 1 rfl
    have c2:=b1.cell 2 rfl
    have c3:=b1.cell 3 rfl
    have f0:=b1.frozen 0
    have f1:=b1.frozen 1
    have f2:=b1.frozen 2
    have f3:=b1.frozen 3
    clear b1
    go_wp2_with fail
    refine bodyPost_ret (by simp [results,Tryz.results121,go_sem, *];try rfl) rfl ?_
    obtain ⟨e1,e2,e3⟩:=fit_step_end he.out
    exact ⟨by rw [EC.out,ES.out,EE.out,e1,e2,e3,wd_zero,wd_zero,sg_zero];rfl,by (repeat' first|(with_reducible first|exact blR _ _|assumption|refine blD ?_|refine blN ?_ _)|((with_reducible first|refine blA ?_ ?_ _|refine blS ?_ ?_ _|refine blT (by assumption) ?_ ?_);focus (go_size;done)))⟩
   ·obtain ⟨j,rfl⟩ : ∃ j,gk = j + 1:=⟨gk - 1,by omega⟩
    have hx : ((j + 1 : Nat) : Int) - 1 = (j : Int):=by omega
    rw [hx]
    have hjt : j ≤ t:=by omega
    have j0 : (0 : Int) ≤ (j : Int):=by omega
    have j18 : (j : Int) ≤ 18:=by omega
    have gs : IntKind.i64.wrap ((t : Int) - (j : Int)) = (t : Int) - (j : Int):=IntWalk.i64_in _ (by omega)
    have HR : Hid (∀ W,Calls Tryz.prog 143 #[.agg #[.int .u64 (wd n 0),.int .u64 (wd n 1),.int .u64 (wd n 2),.int .u64 (wd n 3)],.int .i64 ((t : Int) - (j : Int))] W fun e w' => e = .returned (.tuple #[.agg #[.int .u64 (wd (fitW (near n (10 ^ (t - j)))) 1),.int .u64 (wd (fitW (near n (10 ^ (t - j)))) 0)],.int .i64 (over (near n (10 ^ (t - j))))]) ∧ Below W.heap.size W w'):=Lib.hid (fun W => by
     rw [show (t : Int) - (j : Int) = ((t - j : Nat) : Int) by omega]
     exact round_any n HN.out (t - j) (by omega) W)
    have hyes:=fit_step_yes (n:=n) (t:=t) (j:=j) hjt
    have hno:=fit_step_no (n:=n) (t:=t) (j:=j) hjt
    have HYES:=Far.mk hyes
    have HNO:=Far.mk hno
    generalize near n (10 ^ (t - j)) = q at *
    clear hx hyes hno b1
    by_cases hq : q < B34
    ·have hq2 : q < 2 ^ 128:=Nat.lt_trans hq B34_lt
     obtain ⟨e1,e2,e3⟩:=HYES.out hq he.out
     have HCM:=Lib.hid (fun W => cmp_any q B34 hq2 B34_lt W)
     have hcc:=cmp_bound hq
     have HCN:=Lib.hid (fun W => canon_any neg q j hq (by omega) W)
     rw [fit_id hq2,over_id hq2] at HR
     rw [← e1,← e2,← EC.out,← ES.out] at HCN
     have E3:=Far.mk e3
     have HP0:=HPW
     obtain ⟨hp0,hp1⟩:=HP0.out
     rw [← hp0,← hp1] at HCM
     generalize cmpN q B34 = cc at *
     generalize wd q 0 = q0 at *
     generalize wd q 1 = q1 at *
     clear hq hq2 e1 e2 e3 HYES HNO he hp0 hp1
     go_wp2_with ((go_at_call 143;with_reducible refine (HR.out _).mono ?_);rintro _ w1 ⟨rfl,hb1⟩;have hb1s:=hb1.size;(try simp only [wsA,wsS,wsD,wsN] at hb1s);obtain ⟨hb1c,hb1f⟩:=bcell hb1;(try have : w.heap.size < w1.heap.size:=by omega);(try have : w.heap.size + 1 < w1.heap.size:=by omega);(try have : w.heap.size + 1 + 1 < w1.heap.size:=by omega);(try have : w.heap.size + 1 + 1 + 1 < w1.heap.size:=by omega))
     go_region_held3 (fun w' => w'.cell? ⟨w1.heap.size,0,none⟩ = some (.int .u64 q1) ∧ w'.cell? ⟨w1.heap.size,1,none⟩ = some (.int .u64 q0)) (first | (first | (go_keep;done) | (simp [go_sem];done) | ((try dsimp only);(repeat' apply And.intro) <;> (first | (with_reducible assumption) | ((rw [World.cell?_alloc_lt _ _ _ (by show _ < _;omega)]);go_split_ands;(first | with_reducible assumption | (refine (World.cell?_alloc_lt _ _ _ (by show _ < _;omega)).symm.trans ?_;with_reducible assumption))) | ((rw [World.cell?_setCell_other _ _ _ _ (by intro e;injection e;omega)]);with_reducible assumption) | (go_keep;done) | (simp [go_sem];done) | (simp (disch:=go_size) [*,World.cell?_alloc_some,World.cell?_setCell_far];done)))) | ((refine ⟨Bk.cell (t:=30) (cs:=[.int .u64 q1,.int .u64 q0]) ?_ 0 rfl,Bk.cell (t:=30) (cs:=[.int .u64 q1,.int .u64 q0]) ?_ 1 rfl⟩) <;> ((repeat (first|(with_reducible assumption)|((with_reducible refine bkW ?_);(first|rfl|(simp only [wsA,wsS,wsD,wsN];done)))|(with_reducible first|refine bkA ?_ _|refine bkD ?_|refine bkN ?_ _)|((with_reducible refine bkF ?_ ?_ _);focus (simp only [];omega))|((with_reducible refine bkB (by assumption) ?_ ?_);focus (go_size;done))));done))) (first | ((go_at_call 115;with_reducible refine (HBD.out _).mono ?_);rintro _ w2 ⟨rfl,hb2⟩;have hb2s:=hb2.size;(try simp only [wsA,wsS,wsD,wsN] at hb2s);obtain ⟨hb2c,hb2f⟩:=bcell hb2;(try have : w.heap.size < w2.heap.size:=by omega);(try have : w.heap.size + 1 < w2.heap.size:=by omega);(try have : w.heap.size + 1 + 1 < w2.heap.size:=by omega);(try have : w.heap.size + 1 + 1 + 1 < w2.heap.size:=by omega);(try have : w1.heap.size < w2.heap.size:=by omega);(try have : w1.heap.size + 1 < w2.heap.size:=by omega);(try have : w1.heap.size + 1 + 1 < w2.heap.size:=by omega);(try have : w1.heap.size + 1 + 1 + 1 < w2.heap.size:=by omega)) | ((go_at_call 114;with_reducible refine (HCM.out _).mono ?_);rintro _ w3 ⟨rfl,hb3⟩;have hb3s:=hb3.size;(try simp only [wsA,wsS,wsD,wsN] at hb3s);obtain ⟨hb3c,hb3f⟩:=bcell hb3;(try have : w.heap.size < w3.heap.size:=by omega);(try have : w.heap.size + 1 < w3.heap.size:=by omega);(try have : w.heap.size + 1 + 1 < w3.heap.size:=by omega);(try have : w.heap.size + 1 + 1 + 1 < w3.heap.size:=by omega);(try have : w1.heap.size < w3.heap.size:=by omega);(try have : w1.heap.size + 1 < w3.heap.size:=by omega);(try have : w1.heap.size + 1 + 1 < w3.heap.size:=by omega);(try have : w1.heap.size + 1 + 1 + 1 < w3.heap.size:=by omega);(try have : w2.heap.size < w3.heap.size:=by omega);(try have : w2.heap.size + 1 < w3.heap.size:=by omega);(try have : w2.heap.size + 1 + 1 < w3.heap.size:=by omega);(try have : w2.heap.size + 1 + 1 + 1 < w3.heap.size:=by omega)))
     all_goals
      refine wp_named (fun W => Bk W w1.heap.size 30 [.int .u64 q1,.int .u64 q0] ∧ Bk W (w.heap.size + 1) 32 [.bool false,.int .u64 0,.int .u64 0,.int .i64 0] ∧ Below w.heap.size w W) ⟨?h1, ?h2, ?h3⟩ ?_
      case h1 => ((repeat (first|(with_reducible assumption)|((with_reducible refine bkW ?_);(first|rfl|(simp only [wsA,wsS,wsD,wsN];done)))|(with_reducible first|refine bkA ?_ _|refine bkD ?_|refine bkN ?_ _)|((with_reducible refine bkF ?_ ?_ _);focus (simp only [];omega))|((with_reducible refine bkB (by assumption) ?_ ?_);focus (go_size;done))));done)
      case h2 =>
       have b1:=HB1.out
       ((repeat (first|(with_reducible assumption)|((with_reducible refine bkW ?_);(first|rfl|(simp only [wsA,wsS,wsD,wsN];done)))|(with_reducible first|refine bkA ?_ _|refine bkD ?_|refine bkN ?_ _)|((with_reducible refine bkF ?_ ?_ _);focus (simp only [];omega))|((with_reducible refine bkB (by assumption) ?_ ?_);focus (go_size;done))));done)
      case h3 => ((repeat' first|(with_reducible first|exact blR _ _|assumption|refine blD ?_|refine blN ?_ _)|((with_reducible first|refine blA ?_ ?_ _|refine blS ?_ ?_ _|refine blT (by assumption) ?_ ?_);focus (go_size;done)));done)
      rintro W ⟨k1,k2,mb⟩
      have kl1:=k1.lt
      have kl2:=k2.lt
      have c10:=k1.cell 0 rfl
      have c11:=k1.cell 1 rfl
      have c20:=k2.cell 0 rfl
      have c21:=k2.cell 1 rfl
      have c22:=k2.cell 2 rfl
      have c23:=k2.cell 3 rfl
      have f20:=k2.frozen 0
      have f21:=k2.frozen 1
      have f22:=k2.frozen 2
      have f23:=k2.frozen 3
      clear hb1 hb2 hb3 hb1c hb2c hb3c hb1f hb2f hb3f d0 d1 d2 d3
      go_wp2_with ((go_at_call 144;with_reducible refine (HCN.out _).mono ?_);rintro _ w4 ⟨rfl,hb4⟩;have hb4s:=hb4.size;(try simp only [wsA,wsS,wsD,wsN] at hb4s);obtain ⟨hb4c,hb4f⟩:=bcell hb4;(try have : w.heap.size < w4.heap.size:=by omega);(try have : w.heap.size + 1 < w4.heap.size:=by omega);(try have : w.heap.size + 1 + 1 < w4.heap.size:=by omega);(try have : w.heap.size + 1 + 1 + 1 < w4.heap.size:=by omega))
      refine bodyPost_ret (by simp [results,Tryz.results121,go_sem, *];try rfl) rfl ?_
      exact ⟨by rw [EE.out,E3.out],by (repeat' first|(with_reducible first|exact blR _ _|assumption|refine blD ?_|refine blN ?_ _)|((with_reducible first|refine blA ?_ ?_ _|refine blS ?_ ?_ _|refine blT (by assumption) ?_ ?_);focus (go_size;done)))⟩
    ·by_cases hq2 : q < 2 ^ 128
     ·have HCM:=Lib.hid (fun W => cmp_any q B34 hq2 B34_lt W)
      have hcc:=cmp_bound' hq
      have HNX:=Far.mk (HNO.out hq he.out)
      have hcn : ¬ cmpN q B34 < 0:=by omega
      rw [fit_id hq2,over_id hq2] at HR
      have HP0:=HPW
      obtain ⟨hp0,hp1⟩:=HP0.out
      rw [← hp0,← hp1] at HCM
      generalize cmpN q B34 = cc at *
      generalize wd q 0 = q0 at *
      generalize wd q 1 = q1 at *
      clear hq hq2 HYES HNO he hp0 hp1
      go_wp2_with ((go_at_call 143;with_reducible refine (HR.out _).mono ?_);rintro _ w1 ⟨rfl,hb1⟩;have hb1s:=hb1.size;(try simp only [wsA,wsS,wsD,wsN] at hb1s);obtain ⟨hb1c,hb1f⟩:=bcell hb1;(try have : w.heap.size < w1.heap.size:=by omega);(try have : w.heap.size + 1 < w1.heap.size:=by omega);(try have : w.heap.size + 1 + 1 < w1.heap.size:=by omega);(try have : w.heap.size + 1 + 1 + 1 < w1.heap.size:=by omega))
      go_region_held3 (fun w' => w'.cell? ⟨w1.heap.size,0,none⟩ = some (.int .u64 q1) ∧ w'.cell? ⟨w1.heap.size,1,none⟩ = some (.int .u64 q0)) (first | (first | (go_keep;done) | (simp [go_sem];done) | ((try dsimp only);(repeat' apply And.intro) <;> (first | (with_reducible assumption) | ((rw [World.cell?_alloc_lt _ _ _ (by show _ < _;omega)]);go_split_ands;(first | with_reducible assumption | (refine (World.cell?_alloc_lt _ _ _ (by show _ < _;omega)).symm.trans ?_;with_reducible assumption))) | ((rw [World.cell?_setCell_other _ _ _ _ (by intro e;injection e;omega)]);with_reducible assumption) | (go_keep;done) | (simp [go_sem];done) | (simp (disch:=go_size) [*,World.cell?_alloc_some,World.cell?_setCell_far];done)))) | ((refine ⟨Bk.cell (t:=30) (cs:=[.int .u64 q1,.int .u64 q0]) ?_ 0 rfl,Bk.cell (t:=30) (cs:=[.int .u64 q1,.int .u64 q0]) ?_ 1 rfl⟩) <;> ((repeat (first|(with_reducible assumption)|((with_reducible refine bkW ?_);(first|rfl|(simp only [wsA,wsS,wsD,wsN];done)))|(with_reducible first|refine bkA ?_ _|refine bkD ?_|refine bkN ?_ _)|((with_reducible refine bkF ?_ ?_ _);focus (simp only [];omega))|((with_reducible refine bkB (by assumption) ?_ ?_);focus (go_size;done))));done))) (first | ((go_at_call 115;with_reducible refine (HBD.out _).mono ?_);rintro _ w2 ⟨rfl,hb2⟩;have hb2s:=hb2.size;(try simp only [wsA,wsS,wsD,wsN] at hb2s);obtain ⟨hb2c,hb2f⟩:=bcell hb2;(try have : w.heap.size < w2.heap.size:=by omega);(try have : w.heap.size + 1 < w2.heap.size:=by omega);(try have : w.heap.size + 1 + 1 < w2.heap.size:=by omega);(try have : w.heap.size + 1 + 1 + 1 < w2.heap.size:=by omega);(try have : w1.heap.size < w2.heap.size:=by omega);(try have : w1.heap.size + 1 < w2.heap.size:=by omega);(try have : w1.heap.size + 1 + 1 < w2.heap.size:=by omega);(try have : w1.heap.size + 1 + 1 + 1 < w2.heap.size:=by omega)) | ((go_at_call 114;with_reducible refine (HCM.out _).mono ?_);rintro _ w3 ⟨rfl,hb3⟩;have hb3s:=hb3.size;(try simp only [wsA,wsS,wsD,wsN] at hb3s);obtain ⟨hb3c,hb3f⟩:=bcell hb3;(try have : w.heap.size < w3.heap.size:=by omega);(try have : w.heap.size + 1 < w3.heap.size:=by omega);(try have : w.heap.size + 1 + 1 < w3.heap.size:=by omega);(try have : w.heap.size + 1 + 1 + 1 < w3.heap.size:=by omega);(try have : w1.heap.size < w3.heap.size:=by omega);(try have : w1.heap.size + 1 < w3.heap.size:=by omega);(try have : w1.heap.size + 1 + 1 < w3.heap.size:=by omega);(try have : w1.heap.size + 1 + 1 + 1 < w3.heap.size:=by omega);(try have : w2.heap.size < w3.heap.size:=by omega);(try have : w2.heap.size + 1 < w3.heap.size:=by omega);(try have : w2.heap.size + 1 + 1 < w3.heap.size:=by omega);(try have : w2.heap.size + 1 + 1 + 1 < w3.heap.size:=by omega)))
      all_goals
       refine wp_named (fun W => Bk W w.heap.size 82 (lcells n) ∧ Bk W (w.heap.size + 1) 32 [.bool false,.int .u64 0,.int .u64 0,.int .i64 0] ∧ Below w.heap.size w W) ⟨?h1, ?h2, ?h3⟩ ?_
       case h1 =>
        have b0:=HB0.out
        ((repeat (first|(with_reducible assumption)|((with_reducible refine bkW ?_);(first|rfl|(simp only [wsA,wsS,wsD,wsN];done)))|(with_reducible first|refine bkA ?_ _|refine bkD ?_|refine bkN ?_ _)|((with_reducible refine bkF ?_ ?_ _);focus (simp only [];omega))|((with_reducible refine bkB (by assumption) ?_ ?_);focus (go_size;done))));done)
       case h2 =>
        have b1:=HB1.out
        ((repeat (first|(with_reducible assumption)|((with_reducible refine bkW ?_);(first|rfl|(simp only [wsA,wsS,wsD,wsN];done)))|(with_reducible first|refine bkA ?_ _|refine bkD ?_|refine bkN ?_ _)|((with_reducible refine bkF ?_ ?_ _);focus (simp only [];omega))|((with_reducible refine bkB (by assumption) ?_ ?_);focus (go_size;done))));done)
       case h3 => ((repeat' first|(with_reducible first|exact blR _ _|assumption|refine blD ?_|refine blN ?_ _)|((with_reducible first|refine blA ?_ ?_ _|refine blS ?_ ?_ _|refine blT (by assumption) ?_ ?_);focus (go_size;done)));done)
       rintro W ⟨k1,k2,mb⟩
       go_wp2_with fail
       go_roundg j
       case measure => omega
       case rel => exact ⟨by omega,by omega,rfl,HNX,k1,k2,mb⟩
     ·have HNX:=Far.mk (HNO.out hq he.out)
      have eo : over q = 3:=by unfold over;rw [if_neg hq2]
      rw [eo] at HR
      generalize wd (fitW q) 0 = q0 at *
      generalize wd (fitW q) 1 = q1 at *
      clear hq hq2 HYES HNO he
      go_wp2_with ((go_at_call 143;with_reducible refine (HR.out _).mono ?_);rintro _ w1 ⟨rfl,hb1⟩;have hb1s:=hb1.size;(try simp only [wsA,wsS,wsD,wsN] at hb1s);obtain ⟨hb1c,hb1f⟩:=bcell hb1;(try have : w.heap.size < w1.heap.size:=by omega);(try have : w.heap.size + 1 < w1.heap.size:=by omega);(try have : w.heap.size + 1 + 1 < w1.heap.size:=by omega);(try have : w.heap.size + 1 + 1 + 1 < w1.heap.size:=by omega))
      first | (go_region_with fail) | fail
      all_goals
       refine wp_named (fun W => Bk W w.heap.size 82 (lcells n) ∧ Bk W (w.heap.size + 1) 32 [.bool false,.int .u64 0,.int .u64 0,.int .i64 0] ∧ Below w.heap.size w W) ⟨?h1, ?h2, ?h3⟩ ?_
       case h1 =>
        have b0:=HB0.out
        ((repeat (first|(with_reducible assumption)|((with_reducible refine bkW ?_);(first|rfl|(simp only [wsA,wsS,wsD,wsN];done)))|(with_reducible first|refine bkA ?_ _|refine bkD ?_|refine bkN ?_ _)|((with_reducible refine bkF ?_ ?_ _);focus (simp only [];omega))|((with_reducible refine bkB (by assumption) ?_ ?_);focus (go_size;done))));done)
       case h2 =>
        have b1:=HB1.out
        ((repeat (first|(with_reducible assumption)|((with_reducible refine bkW ?_);(first|rfl|(simp only [wsA,wsS,wsD,wsN];done)))|(with_reducible first|refine bkA ?_ _|refine bkD ?_|refine bkN ?_ _)|((with_reducible refine bkF ?_ ?_ _);focus (simp only [];omega))|((with_reducible refine bkB (by assumption) ?_ ?_);focus (go_size;done))));done)
       case h3 => ((repeat' first|(with_reducible first|exact blR _ _|assumption|refine blD ?_|refine blN ?_ _)|((with_reducible first|refine blA ?_ ?_ _|refine blS ?_ ?_ _|refine blT (by assumption) ?_ ?_);focus (go_size;done)));done)
       rintro W ⟨k1,k2,mb⟩
       go_wp2_with fail
       go_roundg j
       case measure => omega
       case rel => exact ⟨by omega,by omega,rfl,HNX,k1,k2,mb⟩
end Go.Proofs.YtkjecoanlppeaaaGreatDoor



namespace Go.Proofs.YtkjecoanlppeaaaGreatDoor
open Go.RowKit

set_option maxHeartbeats 4000000 in
theorem order_any (n m : Nat) (hn : n < 2 ^ 256) (hm : m < 2 ^ 256) (w : World) : Calls Tryz.prog 61 #[.agg #[.int .u64 (wd n 0),.int .u64 (wd n 1),.int .u64 (wd n 2),.int .u64 (wd n 3)],.agg #[.int .u64 (wd m 0),.int .u64 (wd m 1),.int .u64 (wd m 2),.int .u64 (wd m 3)]] w fun e w' => e = .returned (.int .i64 (cmpN n m)) ∧ Below w.heap.size w w':=by
 have H0:=Far.mk (top_none hn hm)
 obtain ⟨cc,hcc⟩ : ∃ cc,cc = cmpN n m:=⟨_,rfl⟩
 rw [← hcc]
 have HC:=Lib.hid hcc
 clear hn hm hcc
 go_enter Tryz.func61,Tryz.ntmps61
 go_wp2_with fail
 go_loopg [5] 4 (fun k i wr => k ≤ 4 ∧ i = .int .i64 ((k : Int) - 1) ∧ Far (n / 2 ^ (64 * k) = m / 2 ^ (64 * k)) ∧ Bk wr w.heap.size 82 (lcells n) ∧ Bk wr (w.heap.size + 1) 82 (lcells m) ∧ Below w.heap.size w wr)
 case atStart => exact ⟨Nat.le_refl _,rfl,H0,by rw [lcells_eq];(repeat (first|(with_reducible assumption)|((with_reducible refine bkW ?_);(first|rfl|(simp only [wsA,wsS,wsD,wsN];done)))|(with_reducible first|refine bkA ?_ _|refine bkD ?_|refine bkN ?_ _)|((with_reducible refine bkF ?_ ?_ _);focus (simp only [];omega))|((with_reducible refine bkB (by assumption) ?_ ?_);focus (go_size;done)))),by rw [lcells_eq];(repeat (first|(with_reducible assumption)|((with_reducible refine bkW ?_);(first|rfl|(simp only [wsA,wsS,wsD,wsN];done)))|(with_reducible first|refine bkA ?_ _|refine bkD ?_|refine bkN ?_ _)|((with_reducible refine bkF ?_ ?_ _);focus (simp only [];omega))|((with_reducible refine bkB (by assumption) ?_ ?_);focus (go_size;done)))),by (repeat' first|(with_reducible first|exact blR _ _|assumption|refine blD ?_|refine blN ?_ _)|((with_reducible first|refine blA ?_ ?_ _|refine blS ?_ ?_ _|refine blT (by assumption) ?_ ?_);focus (go_size;done)))⟩
 case round =>
  obtain ⟨hk,rfl,hd,b0,b1,hbel⟩:=hrel
  have HB0:=Lib.hid b0
  have HB1:=Lib.hid b1
  clear b0 b1 H0
  by_cases hz : gk = 0
  ·subst hz
   have e : n = m:=by have:=hd.out;rwa [Nat.mul_zero,Nat.pow_zero,Nat.div_one,Nat.div_one] at this
   have hc : cmpN n m = 0:=by unfold cmpN;rw [if_pos e]
   have HD:=Lib.hid hc
   have h0 : ¬ (0 : Int) ≤ ((0 : Nat) : Int) - 1:=by omega
   clear e hc hd
   go_wp2_with fail
   go_ret
   exact ⟨ret_int (by rw [HC.out,HD.out]),by (repeat' first|(with_reducible first|exact blR _ _|assumption|refine blD ?_|refine blN ?_ _)|((with_reducible first|refine blA ?_ ?_ _|refine blS ?_ ?_ _|refine blT (by assumption) ?_ ?_);focus (go_size;done)))⟩
  ·obtain ⟨j,rfl⟩ : ∃ j,gk = j + 1:=⟨gk - 1,by omega⟩
   have j4 : j < 4:=by omega
   have hx : ((j + 1 : Nat) : Int) - 1 = (j : Int):=by omega
   have c0 : wr.cell? ⟨w.heap.size,j,none⟩ = some (.int .u64 (wd n j)):=HB0.out.cell j (lcells_at n j j4)
   have c1 : wr.cell? ⟨w.heap.size + 1,j,none⟩ = some (.int .u64 (wd m j)):=HB1.out.cell j (lcells_at m j j4)
   obtain ⟨x,ex⟩ : ∃ x,x = wd n j:=⟨_,rfl⟩
   obtain ⟨y,ey⟩ : ∃ y,y = wd m j:=⟨_,rfl⟩
   rw [← ex] at c0
   rw [← ey] at c1
   have HX:=Lib.hid ex
   have HY:=Lib.hid ey
   clear ex ey hz
   rw [hx]
   have j0 : (0 : Int) ≤ (j : Int):=by omega
   have j3 : (j : Int) < 4:=by omega
   rcases Int.lt_trichotomy x y with hl | he | hg
   ·have hlt : n < m:=top_lt hd.out (by rw [← HX.out,← HY.out];exact hl)
    have hc : cmpN n m = -1:=by unfold cmpN;rw [if_neg (by omega),if_pos hlt]
    have HD:=Lib.hid hc
    clear hc hlt hx
    go_wp2_with fail
    go_region
    all_goals
     go_wp2_with fail
     go_ret
     exact ⟨ret_int (by rw [HC.out,HD.out]),by (repeat' first|(with_reducible first|exact blR _ _|assumption|refine blD ?_|refine blN ?_ _)|((with_reducible first|refine blA ?_ ?_ _|refine blS ?_ ?_ _|refine blT (by assumption) ?_ ?_);focus (go_size;done)))⟩
   ·have heq : n / 2 ^ (64 * j) = m / 2 ^ (64 * j):=top_eq hd.out (by rw [← HX.out,← HY.out];exact he)
    have HE:=Far.mk heq
    clear heq hx
    subst he
    go_wp2_with fail
    go_region
    all_goals
     go_wp2_with fail
     go_region
     all_goals
      go_wp2_with fail
      go_roundg j
      case measure => omega
      case rel =>
       have b0:=HB0.out
       have b1:=HB1.out
       exact ⟨by omega,rfl,HE,by (repeat (first|(with_reducible assumption)|((with_reducible refine bkW ?_);(first|rfl|(simp only [wsA,wsS,wsD,wsN];done)))|(with_reducible first|refine bkA ?_ _|refine bkD ?_|refine bkN ?_ _)|((with_reducible refine bkF ?_ ?_ _);focus (simp only [];omega))|((with_reducible refine bkB (by assumption) ?_ ?_);focus (go_size;done)))),by (repeat (first|(with_reducible assumption)|((with_reducible refine bkW ?_);(first|rfl|(simp only [wsA,wsS,wsD,wsN];done)))|(with_reducible first|refine bkA ?_ _|refine bkD ?_|refine bkN ?_ _)|((with_reducible refine bkF ?_ ?_ _);focus (simp only [];omega))|((with_reducible refine bkB (by assumption) ?_ ?_);focus (go_size;done)))),by (repeat' first|(with_reducible first|exact blR _ _|assumption|refine blD ?_|refine blN ?_ _)|((with_reducible first|refine blA ?_ ?_ _|refine blS ?_ ?_ _|refine blT (by assumption) ?_ ?_);focus (go_size;done)))⟩
   ·have hlt : m < n:=top_lt hd.out.symm (by rw [← HX.out,← HY.out];exact hg)
    have hc : cmpN n m = 1:=by unfold cmpN;rw [if_neg (by omega),if_neg (by omega)]
    have HD:=Lib.hid hc
    have hg2 : ¬ x < y:=by omega
    clear hc hlt hx
    go_wp2_with fail
    go_region
    all_goals
     go_wp2_with fail
     go_region
     all_goals
      go_wp2_with fail
      go_ret
      exact ⟨ret_int (by rw [HC.out,HD.out]),by (repeat' first|(with_reducible first|exact blR _ _|assumption|refine blD ?_|refine blN ?_ _)|((with_reducible first|refine blA ?_ ?_ _|refine blS ?_ ?_ _|refine blT (by assumption) ?_ ?_);focus (go_size;done)))⟩
end Go.Proofs.YtkjecoanlppeaaaGreatDoor



namespace Go.Proofs.YtkjecoanlppeaaaGreatDoor
open Go.RowKit

set_option maxHeartbeats 4000000 in
theorem plus4_any (n m : Nat) (hs : n + m < 2 ^ 256) (w : World) : Calls Tryz.prog 122 #[.agg #[.int .u64 (wd n 0),.int .u64 (wd n 1),.int .u64 (wd n 2),.int .u64 (wd n 3)],.agg #[.int .u64 (wd m 0),.int .u64 (wd m 1),.int .u64 (wd m 2),.int .u64 (wd m 3)]] w fun e w' => e = .returned (.agg #[.int .u64 (wd (n + m) 0),.int .u64 (wd (n + m) 1),.int .u64 (wd (n + m) 2),.int .u64 (wd (n + m) 3)]) ∧ Below w.heap.size w w':=by
 have hn : n < 2 ^ 256:=by omega
 have HN:=Far.mk hn
 have HS:=Far.mk hs
 obtain ⟨z,hz⟩ : ∃ z,z = n + m:=⟨_,rfl⟩
 rw [← hz]
 have HZ:=Lib.hid hz
 clear hn hs hz
 go_enter Tryz.func122,Tryz.ntmps122
 go_wp2_with fail
 go_loopg [5,7] 4 (fun k c i wr => ∃ (t : Nat) (cc : Int) (V : Nat),k + t = 4 ∧ i = .int .i64 t ∧ c = .int .u64 cc ∧ 0 ≤ cc ∧ cc ≤ 1 ∧ Far (V < 2 ^ 256) ∧ Far ((V : Int) + cc * ((2 ^ (64 * t) : Nat) : Int) = n + ((m % 2 ^ (64 * t) : Nat) : Int)) ∧
  Bk wr w.heap.size 82 (lcells V) ∧ Bk wr (w.heap.size + 1) 82 (lcells m) ∧ Bk wr (w.heap.size + 1 + 1) 82 [.int .u64 0,.int .u64 0,.int .u64 0,.int .u64 0] ∧ Below w.heap.size w wr)
 case atStart =>
  refine ⟨0,0,n,rfl,rfl,rfl,by decide,by decide,HN,Far.mk ?_,by rw [lcells_eq];(repeat (first|(with_reducible assumption)|((with_reducible refine bkW ?_);(first|rfl|(simp only [wsA,wsS,wsD,wsN];done)))|(with_reducible first|refine bkA ?_ _|refine bkD ?_|refine bkN ?_ _)|((with_reducible refine bkF ?_ ?_ _);focus (simp only [];omega))|((with_reducible refine bkB (by assumption) ?_ ?_);focus (go_size;done)))),by rw [lcells_eq];(repeat (first|(with_reducible assumption)|((with_reducible refine bkW ?_);(first|rfl|(simp only [wsA,wsS,wsD,wsN];done)))|(with_reducible first|refine bkA ?_ _|refine bkD ?_|refine bkN ?_ _)|((with_reducible refine bkF ?_ ?_ _);focus (simp only [];omega))|((with_reducible refine bkB (by assumption) ?_ ?_);focus (go_size;done)))),by (repeat (first|(with_reducible assumption)|((with_reducible refine bkW ?_);(first|rfl|(simp only [wsA,wsS,wsD,wsN];done)))|(with_reducible first|refine bkA ?_ _|refine bkD ?_|refine bkN ?_ _)|((with_reducible refine bkF ?_ ?_ _);focus (simp only [];omega))|((with_reducible refine bkB (by assumption) ?_ ?_);focus (go_size;done)))),by (repeat' first|(with_reducible first|exact blR _ _|assumption|refine blD ?_|refine blN ?_ _)|((with_reducible first|refine blA ?_ ?_ _|refine blS ?_ ?_ _|refine blT (by assumption) ?_ ?_);focus (go_size;done)))⟩
  rw [Nat.mul_zero,Nat.pow_zero,Nat.mod_one];simp
 case round =>
  obtain ⟨t,cc,V,hk,rfl,rfl,c0,c1,hV,hE,b0,b1,b2,hbel⟩:=hrel
  have HK:=Lib.hid hk
  have HB0:=Lib.hid b0
  have HB1:=Lib.hid b1
  have HB2:=Lib.hid b2
  have t4 : t ≤ 4:=by omega
  have l2:=b2.lt
  clear hk b0 b1 b2
  by_cases hlt : t < 4
  ·have t0 : (0 : Int) ≤ (t : Int):=by omega
   have t3 : (t : Int) < 4:=by omega
   have d0 : wr.cell? ⟨w.heap.size,t,none⟩ = some (.int .u64 (wd V t)):=HB0.out.cell t (lcells_at V t hlt)
   have d1 : wr.cell? ⟨w.heap.size + 1,t,none⟩ = some (.int .u64 (wd m t)):=HB1.out.cell t (lcells_at m t hlt)
   have f0:=HB0.out.frozen t
   obtain ⟨s,k,f,hC⟩:=add64_ex (wd V t) (wd m t) cc (wd_nn V t) (wd_lt V t) (wd_nn m t) (wd_lt m t) c0 c1
   unfold Carry at hC
   obtain ⟨i3,s0,s1,k0,k1⟩:=hC
   obtain ⟨V',v1,v2,v3,v4,v5⟩:=lcells_set V t hlt hV.out s s0 s1
   have HNEW:=Far.mk (plus_word hE.out rfl rfl v2 i3)
   have HV':=Far.mk v1
   have HL:=Lib.hid v3
   clear i3 v1 v2 v3 v4 v5 hE hV
   generalize wd V t = x at *
   generalize wd m t = y at *
   go_wp2_with fail
   go_region
   all_goals
    go_wp2_with fail
    go_roundg (gk - 1)
    case measure => have:=HK.out;omega
    case rel =>
     have b0:=HB0.out
     have b1:=HB1.out
     have b2:=HB2.out
     refine ⟨t + 1,k,V',by have:=HK.out;omega,by go_num,rfl,k0,k1,HV',HNEW, ?_,by (repeat (first|(with_reducible assumption)|((with_reducible refine bkW ?_);(first|rfl|(simp only [wsA,wsS,wsD,wsN];done)))|(with_reducible first|refine bkA ?_ _|refine bkD ?_|refine bkN ?_ _)|((with_reducible refine bkF ?_ ?_ _);focus (simp only [];omega))|((with_reducible refine bkB (by assumption) ?_ ?_);focus (go_size;done)))),by (repeat (first|(with_reducible assumption)|((with_reducible refine bkW ?_);(first|rfl|(simp only [wsA,wsS,wsD,wsN];done)))|(with_reducible first|refine bkA ?_ _|refine bkD ?_|refine bkN ?_ _)|((with_reducible refine bkF ?_ ?_ _);focus (simp only [];omega))|((with_reducible refine bkB (by assumption) ?_ ?_);focus (go_size;done)))),by (repeat' first|(with_reducible first|exact blR _ _|assumption|refine blD ?_|refine blN ?_ _)|((with_reducible first|refine blA ?_ ?_ _|refine blS ?_ ?_ _|refine blT (by assumption) ?_ ?_);focus (go_size;done)))⟩
     rw [← HL.out]
     repeat (first | refine Bk.drew ?_ | refine Bk.drewN ?_ _)
     exact b0.set_ _ _
  ·obtain rfl : t = 4:=by omega
   have e:=plus_end hV.out HS.out c0 hE.out
   rw [← HZ.out] at e
   subst e
   have b0:=HB0.out
   have b2:=HB2.out
   rw [lcells_eq] at b0
   have d0:=b0.cell 0 rfl
   have d1:=b0.cell 1 rfl
   have d2:=b0.cell 2 rfl
   have d3:=b0.cell 3 rfl
   have e0:=b2.cell 0 rfl
   have e1:=b2.cell 1 rfl
   have e2:=b2.cell 2 rfl
   have e3:=b2.cell 3 rfl
   have g0:=b2.frozen 0
   have g1:=b2.frozen 1
   have g2:=b2.frozen 2
   have g3:=b2.frozen 3
   clear b0 b2 hE hV HS
   go_wp2_with fail
   refine bodyPost_ret (by simp [results,Tryz.results122,go_sem, *];try rfl) rfl ?_
   exact ⟨rfl,by (repeat' first|(with_reducible first|exact blR _ _|assumption|refine blD ?_|refine blN ?_ _)|((with_reducible first|refine blA ?_ ?_ _|refine blS ?_ ?_ _|refine blT (by assumption) ?_ ?_);focus (go_size;done)))⟩
end Go.Proofs.YtkjecoanlppeaaaGreatDoor



namespace Go.Proofs.YtkjecoanlppeaaaGreatDoor
open Go.RowKit

set_option maxHeartbeats 4000000 in
theorem minus4_any (n m : Nat) (hn : n < 2 ^ 256) (hs : m ≤ n) (w : World) : Calls Tryz.prog 123 #[.agg #[.int .u64 (wd n 0),.int .u64 (wd n 1),.int .u64 (wd n 2),.int .u64 (wd n 3)],.agg #[.int .u64 (wd m 0),.int .u64 (wd m 1),.int .u64 (wd m 2),.int .u64 (wd m 3)]] w fun e w' => e = .returned (.agg #[.int .u64 (wd (n - m) 0),.int .u64 (wd (n - m) 1),.int .u64 (wd (n - m) 2),.int .u64 (wd (n - m) 3)]) ∧ Below w.heap.size w w':=by
 have HN:=Far.mk hn
 have HS:=Far.mk hs
 obtain ⟨z,hz⟩ : ∃ z,z = n - m:=⟨_,rfl⟩
 rw [← hz]
 have HZ:=Lib.hid hz
 clear hn hs hz
 go_enter Tryz.func123,Tryz.ntmps123
 go_wp2_with fail
 go_loopg [5,7] 4 (fun k c i wr => ∃ (t : Nat) (cc : Int) (V : Nat),k + t = 4 ∧ i = .int .i64 t ∧ c = .int .u64 cc ∧ 0 ≤ cc ∧ cc ≤ 1 ∧ Far (V < 2 ^ 256) ∧ Far ((V : Int) - cc * ((2 ^ (64 * t) : Nat) : Int) = n - ((m % 2 ^ (64 * t) : Nat) : Int)) ∧
  Bk wr w.heap.size 82 (lcells V) ∧ Bk wr (w.heap.size + 1) 82 (lcells m) ∧ Bk wr (w.heap.size + 1 + 1) 82 [.int .u64 0,.int .u64 0,.int .u64 0,.int .u64 0] ∧ Below w.heap.size w wr)
 case atStart =>
  refine ⟨0,0,n,rfl,rfl,rfl,by decide,by decide,HN,Far.mk ?_,by rw [lcells_eq];(repeat (first|(with_reducible assumption)|((with_reducible refine bkW ?_);(first|rfl|(simp only [wsA,wsS,wsD,wsN];done)))|(with_reducible first|refine bkA ?_ _|refine bkD ?_|refine bkN ?_ _)|((with_reducible refine bkF ?_ ?_ _);focus (simp only [];omega))|((with_reducible refine bkB (by assumption) ?_ ?_);focus (go_size;done)))),by rw [lcells_eq];(repeat (first|(with_reducible assumption)|((with_reducible refine bkW ?_);(first|rfl|(simp only [wsA,wsS,wsD,wsN];done)))|(with_reducible first|refine bkA ?_ _|refine bkD ?_|refine bkN ?_ _)|((with_reducible refine bkF ?_ ?_ _);focus (simp only [];omega))|((with_reducible refine bkB (by assumption) ?_ ?_);focus (go_size;done)))),by (repeat (first|(with_reducible assumption)|((with_reducible refine bkW ?_);(first|rfl|(simp only [wsA,wsS,wsD,wsN];done)))|(with_reducible first|refine bkA ?_ _|refine bkD ?_|refine bkN ?_ _)|((with_reducible refine bkF ?_ ?_ _);focus (simp only [];omega))|((with_reducible refine bkB (by assumption) ?_ ?_);focus (go_size;done)))),by (repeat' first|(with_reducible first|exact blR _ _|assumption|refine blD ?_|refine blN ?_ _)|((with_reducible first|refine blA ?_ ?_ _|refine blS ?_ ?_ _|refine blT (by assumption) ?_ ?_);focus (go_size;done)))⟩
  rw [Nat.mul_zero,Nat.pow_zero,Nat.mod_one];simp
 case round =>
  obtain ⟨t,cc,V,hk,rfl,rfl,c0,c1,hV,hE,b0,b1,b2,hbel⟩:=hrel
  have HK:=Lib.hid hk
  have HB0:=Lib.hid b0
  have HB1:=Lib.hid b1
  have HB2:=Lib.hid b2
  have t4 : t ≤ 4:=by omega
  have l2:=b2.lt
  clear hk b0 b1 b2
  by_cases hlt : t < 4
  ·have t0 : (0 : Int) ≤ (t : Int):=by omega
   have t3 : (t : Int) < 4:=by omega
   have d0 : wr.cell? ⟨w.heap.size,t,none⟩ = some (.int .u64 (wd V t)):=HB0.out.cell t (lcells_at V t hlt)
   have d1 : wr.cell? ⟨w.heap.size + 1,t,none⟩ = some (.int .u64 (wd m t)):=HB1.out.cell t (lcells_at m t hlt)
   have f0:=HB0.out.frozen t
   obtain ⟨s,k,f,hC⟩:=sub64_ex (wd V t) (wd m t) cc (wd_nn V t) (wd_lt V t) (wd_nn m t) (wd_lt m t) c0 c1
   unfold Borrow at hC
   obtain ⟨i3,s0,s1,k0,k1⟩:=hC
   obtain ⟨V',v1,v2,v3,v4,v5⟩:=lcells_set V t hlt hV.out s s0 s1
   have HNEW:=Far.mk (minus_word hE.out rfl rfl v2 i3)
   have HV':=Far.mk v1
   have HL:=Lib.hid v3
   clear i3 v1 v2 v3 v4 v5 hE hV
   generalize wd V t = x at *
   generalize wd m t = y at *
   go_wp2_with fail
   go_region
   all_goals
    go_wp2_with fail
    go_roundg (gk - 1)
    case measure => have:=HK.out;omega
    case rel =>
     have b0:=HB0.out
     have b1:=HB1.out
     have b2:=HB2.out
     refine ⟨t + 1,k,V',by have:=HK.out;omega,by go_num,rfl,k0,k1,HV',HNEW, ?_,by (repeat (first|(with_reducible assumption)|((with_reducible refine bkW ?_);(first|rfl|(simp only [wsA,wsS,wsD,wsN];done)))|(with_reducible first|refine bkA ?_ _|refine bkD ?_|refine bkN ?_ _)|((with_reducible refine bkF ?_ ?_ _);focus (simp only [];omega))|((with_reducible refine bkB (by assumption) ?_ ?_);focus (go_size;done)))),by (repeat (first|(with_reducible assumption)|((with_reducible refine bkW ?_);(first|rfl|(simp only [wsA,wsS,wsD,wsN];done)))|(with_reducible first|refine bkA ?_ _|refine bkD ?_|refine bkN ?_ _)|((with_reducible refine bkF ?_ ?_ _);focus (simp only [];omega))|((with_reducible refine bkB (by assumption) ?_ ?_);focus (go_size;done)))),by (repeat' first|(with_reducible first|exact blR _ _|assumption|refine blD ?_|refine blN ?_ _)|((with_reducible first|refine blA ?_ ?_ _|refine blS ?_ ?_ _|refine blT (by assumption) ?_ ?_);focus (go_size;done)))⟩
     rw [← HL.out]
     repeat (first | refine Bk.drew ?_ | refine Bk.drewN ?_ _)
     exact b0.set_ _ _
  ·obtain rfl : t = 4:=by omega
   have e:=minus_end hV.out HN.out HS.out c0 hE.out
   rw [← HZ.out] at e
   subst e
   have b0:=HB0.out
   have b2:=HB2.out
   rw [lcells_eq] at b0
   have d0:=b0.cell 0 rfl
   have d1:=b0.cell 1 rfl
   have d2:=b0.cell 2 rfl
   have d3:=b0.cell 3 rfl
   have e0:=b2.cell 0 rfl
   have e1:=b2.cell 1 rfl
   have e2:=b2.cell 2 rfl
   have e3:=b2.cell 3 rfl
   have g0:=b2.frozen 0
   have g1:=b2.frozen 1
   have g2:=b2.frozen 2
   have g3:=b2.frozen 3
   clear b0 b2 hE hV HS
   go_wp2_with fail
   refine bodyPost_ret (by simp [results,Tryz.results123,go_sem, *];try rfl) rfl ?_
   exact ⟨rfl,by (repeat' first|(with_reducible first|exact blR _ _|assumption|refine blD ?_|refine blN ?_ _)|((with_reducible first|refine blA ?_ ?_ _|refine blS ?_ ?_ _|refine blT (by assumption) ?_ ?_);focus (go_size;done)))⟩
end Go.Proofs.YtkjecoanlppeaaaGreatDoor



namespace Go.Proofs.YtkjecoanlppeaaaGreatDoor
open Go.RowKit

theorem sgn_same {b b' : Bool} {x y : Nat} (h : b = b') : sgn b x b' y = b ∧ sab b x b' y = x + y:=by unfold sgn sab;rw [if_pos h,if_pos h];exact ⟨rfl,rfl⟩
theorem sgn_ge {b b' : Bool} {x y : Nat} (h : b ≠ b') (hl : y ≤ x) : sgn b x b' y = b ∧ sab b x b' y = x - y:=by unfold sgn sab;rw [if_neg h,if_neg h,if_pos hl,if_pos hl];exact ⟨rfl,rfl⟩
theorem sgn_lt {b b' : Bool} {x y : Nat} (h : b ≠ b') (hl : x < y) : sgn b x b' y = b' ∧ sab b x b' y = y - x:=by unfold sgn sab;rw [if_neg h,if_neg h,if_neg (by omega),if_neg (by omega)];exact ⟨rfl,rfl⟩
theorem cmpN_ge {x y : Nat} (h : y ≤ x) : 0 ≤ cmpN x y:=by unfold cmpN;split <;> (try split) <;> omega
theorem cmpN_lt {x y : Nat} (h : x < y) : cmpN x y < 0:=by unfold cmpN;rw [if_neg (by omega),if_pos h];decide
/-- the sum in the units of the greater scale -/
theorem add_units (b b' : Bool) (c c' s s' m : Nat) (hs : s ≤ 18) (hs' : s' ≤ 18) (hm : m = max s s') :
  FitC (sab b (unit c s) b' (unit c' s')) (10 ^ 18) = FitC (sab b (c * 10 ^ (m - s)) b' (c' * 10 ^ (m - s'))) (10 ^ m) ∧ FitS (sab b (unit c s) b' (unit c' s')) (10 ^ 18) = FitS (sab b (c * 10 ^ (m - s)) b' (c' * 10 ^ (m - s'))) (10 ^ m) ∧
  FitE (sab b (unit c s) b' (unit c' s')) (10 ^ 18) = FitE (sab b (c * 10 ^ (m - s)) b' (c' * 10 ^ (m - s'))) (10 ^ m) ∧ sgn b (unit c s) b' (unit c' s') = sgn b (c * 10 ^ (m - s)) b' (c' * 10 ^ (m - s')):=by
 obtain ⟨e1,e2⟩:=sum_units b b' c c' s s' m (by omega) (by omega) (by omega)
 obtain ⟨e3,e4,e5⟩:=fit_units (sab b (c * 10 ^ (m - s)) b' (c' * 10 ^ (m - s'))) m (by omega)
 rw [e1,e2,e3,e4,e5]
 exact ⟨rfl,rfl,rfl,rfl⟩
set_option maxRecDepth 100000 in
set_option maxHeartbeats 8000000 in
theorem add_ok (b : Bool) (c s : Nat) (b' : Bool) (c' s' : Nat) (h : dform b c s = true) (h' : dform b' c' s' = true) (hc : c < B34) (hc' : c' < B34) (hs : s ≤ 18) (hs' : s' ≤ 18) (w : World) :
  Calls Tryz.prog 91 #[.agg #[.bool b,.int .u64 (wd (c) 1),.int .u64 (wd (c) 0),.int .i64 s],.agg #[.bool b',.int .u64 (wd (c') 1),.int .u64 (wd (c') 0),.int .i64 s']] w fun e w' => e = .returned (.tuple #[.agg #[.bool (sg (sgn b (unit c s) b' (unit c' s')) (FitC ((sab b (unit c s) b' (unit c' s'))) (10 ^ 18))),.int .u64 (wd (FitC ((sab b (unit c s) b' (unit c' s'))) (10 ^ 18)) 1),.int .u64 (wd (FitC ((sab b (unit c s) b' (unit c' s'))) (10 ^ 18)) 0),.int .i64 (FitS ((sab b (unit c s) b' (unit c' s'))) (10 ^ 18))],.int .i64 (FitE (sab b (unit c s) b' (unit c' s')) (10 ^ 18))]) ∧ Below w.heap.size w w':=by
 obtain ⟨m,hm⟩ : ∃ m,m = max s s':=⟨_,rfl⟩
 obtain ⟨e1,e2,e3,e4⟩:=add_units b b' c c' s s' m hs hs' hm
 rw [e1,e2,e3,e4]
 have HF:=Lib.hid (fun g W hg => formed_two b c s (Nat.lt_trans hc B34_lt) b' c' s' (Nat.lt_trans hc' B34_lt) g W hg)
 rw [h,h'] at HF
 simp only [ferr,Bool.and_true,if_true] at HF
 have HB:=Lib.hid (fun W => both_any b c s b' c' s' m hc hc' hs hs' hm W)
 have hX : c * 10 ^ (m - s) < 10 ^ 52:=scaled_lt hc (by omega)
 have hY : c' * 10 ^ (m - s') < 10 ^ 52:=scaled_lt hc' (by omega)
 generalize c * 10 ^ (m - s) = X at *
 generalize c' * 10 ^ (m - s') = Y at *
 have m76 : m ≤ 76:=by omega
 have hX2 : X < 2 ^ 256:=Nat.lt_trans hX (by decide)
 have hY2 : Y < 2 ^ 256:=Nat.lt_trans hY (by decide)
 have hXY : X + Y < 2 ^ 256:=Nat.lt_trans (Nat.add_lt_add hX hY) (by decide)
 have m0 : (0 : Int) ≤ (m : Int):=by omega
 clear e1 e2 e3 e4 h h' hm hX hY
 obtain ⟨sI,hsI⟩ : ∃ sI : Int,sI = (s : Int):=⟨_,rfl⟩
 obtain ⟨sJ,hsJ⟩ : ∃ sJ : Int,sJ = (s' : Int):=⟨_,rfl⟩
 rw [← hsI,← hsJ] at HF HB ⊢
 clear hsI hsJ hs hs'
 obtain ⟨s,rfl⟩ : ∃ s,s = sI:=⟨_,rfl⟩
 obtain ⟨s',rfl⟩ : ∃ s',s' = sJ:=⟨_,rfl⟩
 by_cases hb : b = b'
 ·obtain ⟨e1,e2⟩:=sgn_same (x:=X) (y:=Y) hb
  rw [e1,e2]
  have HP:=Lib.hid (fun W => plus4_any X Y hXY W)
  have HT:=Lib.hid (fun W => fit_any b (X + Y) m hXY m76 W)
  have hbe : (b == b') = true:=by simpa using hb
  clear e1 e2 hX2 hY2 hb
  generalize FitC (X + Y) (10 ^ m) = C at *
  generalize FitS (X + Y) (10 ^ m) = S at *
  generalize FitE (X + Y) (10 ^ m) = E at *
  generalize X + Y = U at *
  generalize wd X 0 = p0 at *
  generalize wd X 1 = p1 at *
  generalize wd X 2 = p2 at *
  generalize wd X 3 = p3 at *
  generalize wd Y 0 = q0 at *
  generalize wd Y 1 = q1 at *
  generalize wd Y 2 = q2 at *
  generalize wd Y 3 = q3 at *
  generalize wd c 0 = x0 at *
  generalize wd c 1 = x1 at *
  generalize wd c' 0 = y0 at *
  generalize wd c' 1 = y1 at *
  clear hc hc'
  go_enter Tryz.func91,Tryz.ntmps91
  go_wp2_with fail
  (with_reducible refine (HF.out _ _ ?hg).mono ?_)
  case hg => ((repeat (first|(with_reducible assumption)|((with_reducible refine bkW ?_);(first|rfl|(simp only [wsA,wsS,wsD,wsN];done)))|(with_reducible first|refine bkA ?_ _|refine bkD ?_|refine bkN ?_ _)|((with_reducible refine bkF ?_ ?_ _);focus (simp only [];omega))|((with_reducible refine bkB (by assumption) ?_ ?_);focus (go_size;done))));done)
  rintro _ w1 ⟨rfl,hb1⟩;have hb1s:=hb1.size;(try simp only [wsA,wsS,wsD,wsN] at hb1s);obtain ⟨hb1c,hb1f⟩:=bcell hb1;(try have : w.heap.size < w1.heap.size:=by omega);(try have : w.heap.size + 1 < w1.heap.size:=by omega);(try have : w.heap.size + 1 + 1 < w1.heap.size:=by omega);(try have : w.heap.size + 1 + 1 + 1 < w1.heap.size:=by omega)
  have ka : Bk w1 (w.heap.size) 32 [.bool b,.int .u64 x1,.int .u64 x0,.int .i64 s]:=by (repeat (first|(with_reducible assumption)|((with_reducible refine bkW ?_);(first|rfl|(simp only [wsA,wsS,wsD,wsN];done)))|(with_reducible first|refine bkA ?_ _|refine bkD ?_|refine bkN ?_ _)|((with_reducible refine bkF ?_ ?_ _);focus (simp only [];omega))|((with_reducible refine bkB (by assumption) ?_ ?_);focus (go_size;done))))
  have ka_0:=ka.cell 0 rfl
  have ka_1:=ka.cell 1 rfl
  have ka_2:=ka.cell 2 rfl
  have ka_3:=ka.cell 3 rfl
  have ka_4:=ka.frozen 0
  have ka_5:=ka.frozen 1
  have ka_6:=ka.frozen 2
  have ka_7:=ka.frozen 3
  have kal:=ka.lt
  have kb : Bk w1 (w.heap.size + 1) 32 [.bool b',.int .u64 y1,.int .u64 y0,.int .i64 s']:=by (repeat (first|(with_reducible assumption)|((with_reducible refine bkW ?_);(first|rfl|(simp only [wsA,wsS,wsD,wsN];done)))|(with_reducible first|refine bkA ?_ _|refine bkD ?_|refine bkN ?_ _)|((with_reducible refine bkF ?_ ?_ _);focus (simp only [];omega))|((with_reducible refine bkB (by assumption) ?_ ?_);focus (go_size;done))))
  have kb_0:=kb.cell 0 rfl
  have kb_1:=kb.cell 1 rfl
  have kb_2:=kb.cell 2 rfl
  have kb_3:=kb.cell 3 rfl
  have kb_4:=kb.frozen 0
  have kb_5:=kb.frozen 1
  have kb_6:=kb.frozen 2
  have kb_7:=kb.frozen 3
  have kbl:=kb.lt
  have kr : Bk w1 (w.heap.size + 1 + 1) 32 [.bool false,.int .u64 0,.int .u64 0,.int .i64 0]:=by (repeat (first|(with_reducible assumption)|((with_reducible refine bkW ?_);(first|rfl|(simp only [wsA,wsS,wsD,wsN];done)))|(with_reducible first|refine bkA ?_ _|refine bkD ?_|refine bkN ?_ _)|((with_reducible refine bkF ?_ ?_ _);focus (simp only [];omega))|((with_reducible refine bkB (by assumption) ?_ ?_);focus (go_size;done))))
  have kr_0:=kr.cell 0 rfl
  have kr_1:=kr.cell 1 rfl
  have kr_2:=kr.cell 2 rfl
  have kr_3:=kr.cell 3 rfl
  have kr_4:=kr.frozen 0
  have kr_5:=kr.frozen 1
  have kr_6:=kr.frozen 2
  have kr_7:=kr.frozen 3
  have krl:=kr.lt
  clear hb1c hb1f
  go_wp2_with fail
  refine (HB.out _).mono ?_
  rintro _ w2 ⟨rfl,hb2⟩;have hb2s:=hb2.size;(try simp only [wsA,wsS,wsD,wsN] at hb2s);obtain ⟨hb2c,hb2f⟩:=bcell hb2;(try have : w.heap.size < w2.heap.size:=by omega);(try have : w.heap.size + 1 < w2.heap.size:=by omega);(try have : w.heap.size + 1 + 1 < w2.heap.size:=by omega);(try have : w.heap.size + 1 + 1 + 1 < w2.heap.size:=by omega)
  have ja : Bk w2 (w.heap.size) 32 [.bool b,.int .u64 x1,.int .u64 x0,.int .i64 s]:=by (repeat (first|(with_reducible assumption)|((with_reducible refine bkW ?_);(first|rfl|(simp only [wsA,wsS,wsD,wsN];done)))|(with_reducible first|refine bkA ?_ _|refine bkD ?_|refine bkN ?_ _)|((with_reducible refine bkF ?_ ?_ _);focus (simp only [];omega))|((with_reducible refine bkB (by assumption) ?_ ?_);focus (go_size;done))))
  have jb : Bk w2 (w.heap.size + 1) 32 [.bool b',.int .u64 y1,.int .u64 y0,.int .i64 s']:=by (repeat (first|(with_reducible assumption)|((with_reducible refine bkW ?_);(first|rfl|(simp only [wsA,wsS,wsD,wsN];done)))|(with_reducible first|refine bkA ?_ _|refine bkD ?_|refine bkN ?_ _)|((with_reducible refine bkF ?_ ?_ _);focus (simp only [];omega))|((with_reducible refine bkB (by assumption) ?_ ?_);focus (go_size;done))))
  have jr : Bk w2 (w.heap.size + 1 + 1) 32 [.bool false,.int .u64 0,.int .u64 0,.int .i64 0]:=by (repeat (first|(with_reducible assumption)|((with_reducible refine bkW ?_);(first|rfl|(simp only [wsA,wsS,wsD,wsN];done)))|(with_reducible first|refine bkA ?_ _|refine bkD ?_|refine bkN ?_ _)|((with_reducible refine bkF ?_ ?_ _);focus (simp only [];omega))|((with_reducible refine bkB (by assumption) ?_ ?_);focus (go_size;done))))
  clear hb2c hb2f ka_0 ka_1 ka_2 ka_3 ka_4 ka_5 ka_6 ka_7 kb_0 kb_1 kb_2 kb_3 kb_4 kb_5 kb_6 kb_7 kr_0 kr_1 kr_2 kr_3 kr_4 kr_5 kr_6 kr_7
  have ja_0:=ja.cell 0 rfl
  have ja_1:=ja.cell 1 rfl
  have ja_2:=ja.cell 2 rfl
  have ja_3:=ja.cell 3 rfl
  have ja_4:=ja.frozen 0
  have ja_5:=ja.frozen 1
  have ja_6:=ja.frozen 2
  have ja_7:=ja.frozen 3
  have jb_0:=jb.cell 0 rfl
  have jb_1:=jb.cell 1 rfl
  have jb_2:=jb.cell 2 rfl
  have jb_3:=jb.cell 3 rfl
  have jb_4:=jb.frozen 0
  have jb_5:=jb.frozen 1
  have jb_6:=jb.frozen 2
  have jb_7:=jb.frozen 3
  have jr_0:=jr.cell 0 rfl
  have jr_1:=jr.cell 1 rfl
  have jr_2:=jr.cell 2 rfl
  have jr_3:=jr.cell 3 rfl
  have jr_4:=jr.frozen 0
  have jr_5:=jr.frozen 1
  have jr_6:=jr.frozen 2
  have jr_7:=jr.frozen 3
  have jal:=ja.lt
  have jbl:=jb.lt
  have jrl:=jr.lt
  go_wp2_with fail
  go_region_held3 (fun w' => (w'.cell? ⟨w.heap.size,0,none⟩ = some (.bool b) ∧ w'.cell? ⟨w.heap.size,1,none⟩ = some (.int .u64 x1) ∧ w'.cell? ⟨w.heap.size,2,none⟩ = some (.int .u64 x0) ∧ w'.cell? ⟨w.heap.size,3,none⟩ = some (.int .i64 s)) ∧ (w'.cell? ⟨w2.heap.size,0,none⟩ = some (.int .u64 p0) ∧ w'.cell? ⟨w2.heap.size,1,none⟩ = some (.int .u64 p1) ∧ w'.cell? ⟨w2.heap.size,2,none⟩ = some (.int .u64 p2) ∧ w'.cell? ⟨w2.heap.size,3,none⟩ = some (.int .u64 p3)) ∧ (w'.cell? ⟨(w2.heap.size + 1),0,none⟩ = some (.int .u64 q0) ∧ w'.cell? ⟨(w2.heap.size + 1),1,none⟩ = some (.int .u64 q1) ∧ w'.cell? ⟨(w2.heap.size + 1),2,none⟩ = some (.int .u64 q2) ∧ w'.cell? ⟨(w2.heap.size + 1),3,none⟩ = some (.int .u64 q3))) (first | (first | (go_keep;done) | (simp [go_sem];done) | ((try dsimp only);(repeat' apply And.intro) <;> (first | (with_reducible assumption) | ((rw [World.cell?_alloc_lt _ _ _ (by show _ < _;omega)]);go_split_ands;(first | with_reducible assumption | (refine (World.cell?_alloc_lt _ _ _ (by show _ < _;omega)).symm.trans ?_;with_reducible assumption))) | ((rw [World.cell?_setCell_other _ _ _ _ (by intro e;injection e;omega)]);with_reducible assumption) | (go_keep;done) | (simp [go_sem];done) | (simp (disch:=go_size) [*,World.cell?_alloc_some,World.cell?_setCell_far];done)))) | ((refine ⟨?_, ?_, ?_⟩) <;> (first | ((refine ⟨Bk.cell (t:=32) (cs:=[.bool b,.int .u64 x1,.int .u64 x0,.int .i64 s]) ?_ 0 rfl,Bk.cell (t:=32) (cs:=[.bool b,.int .u64 x1,.int .u64 x0,.int .i64 s]) ?_ 1 rfl,Bk.cell (t:=32) (cs:=[.bool b,.int .u64 x1,.int .u64 x0,.int .i64 s]) ?_ 2 rfl,Bk.cell (t:=32) (cs:=[.bool b,.int .u64 x1,.int .u64 x0,.int .i64 s]) ?_ 3 rfl⟩) <;> ((repeat (first|(with_reducible assumption)|((with_reducible refine bkW ?_);(first|rfl|(simp only [wsA,wsS,wsD,wsN];done)))|(with_reducible first|refine bkA ?_ _|refine bkD ?_|refine bkN ?_ _)|((with_reducible refine bkF ?_ ?_ _);focus (simp only [];omega))|((with_reducible refine bkB (by assumption) ?_ ?_);focus (go_size;done))));done)) | ((refine ⟨Bk.cell (t:=82) (cs:=[.int .u64 p0,.int .u64 p1,.int .u64 p2,.int .u64 p3]) ?_ 0 rfl,Bk.cell (t:=82) (cs:=[.int .u64 p0,.int .u64 p1,.int .u64 p2,.int .u64 p3]) ?_ 1 rfl,Bk.cell (t:=82) (cs:=[.int .u64 p0,.int .u64 p1,.int .u64 p2,.int .u64 p3]) ?_ 2 rfl,Bk.cell (t:=82) (cs:=[.int .u64 p0,.int .u64 p1,.int .u64 p2,.int .u64 p3]) ?_ 3 rfl⟩) <;> ((repeat (first|(with_reducible assumption)|((with_reducible refine bkW ?_);(first|rfl|(simp only [wsA,wsS,wsD,wsN];done)))|(with_reducible first|refine bkA ?_ _|refine bkD ?_|refine bkN ?_ _)|((with_reducible refine bkF ?_ ?_ _);focus (simp only [];omega))|((with_reducible refine bkB (by assumption) ?_ ?_);focus (go_size;done))));done)) | ((refine ⟨Bk.cell (t:=82) (cs:=[.int .u64 q0,.int .u64 q1,.int .u64 q2,.int .u64 q3]) ?_ 0 rfl,Bk.cell (t:=82) (cs:=[.int .u64 q0,.int .u64 q1,.int .u64 q2,.int .u64 q3]) ?_ 1 rfl,Bk.cell (t:=82) (cs:=[.int .u64 q0,.int .u64 q1,.int .u64 q2,.int .u64 q3]) ?_ 2 rfl,Bk.cell (t:=82) (cs:=[.int .u64 q0,.int .u64 q1,.int .u64 q2,.int .u64 q3]) ?_ 3 rfl⟩) <;> ((repeat (first|(with_reducible assumption)|((with_reducible refine bkW ?_);(first|rfl|(simp only [wsA,wsS,wsD,wsN];done)))|(with_reducible first|refine bkA ?_ _|refine bkD ?_|refine bkN ?_ _)|((with_reducible refine bkF ?_ ?_ _);focus (simp only [];omega))|((with_reducible refine bkB (by assumption) ?_ ?_);focus (go_size;done))));done))))) (first | (go_at_call 122;(with_reducible refine (HP.out _).mono ?_);rintro _ w4 ⟨rfl,hb4⟩;have hb4s:=hb4.size;(try simp only [wsA,wsS,wsD,wsN] at hb4s);obtain ⟨hb4c,hb4f⟩:=bcell hb4;(try have : w.heap.size < w4.heap.size:=by omega);(try have : w.heap.size + 1 < w4.heap.size:=by omega);(try have : w.heap.size + 1 + 1 < w4.heap.size:=by omega);(try have : w.heap.size + 1 + 1 + 1 < w4.heap.size:=by omega);(try have : w2.heap.size < w4.heap.size:=by omega);(try have : w2.heap.size + 1 < w4.heap.size:=by omega);(try have : w2.heap.size + 1 + 1 < w4.heap.size:=by omega);(try have : w2.heap.size + 1 + 1 + 1 < w4.heap.size:=by omega)) | (go_at_call 121;(with_reducible refine (HT.out _).mono ?_);rintro _ w5 ⟨rfl,hb5⟩;have hb5s:=hb5.size;(try simp only [wsA,wsS,wsD,wsN] at hb5s);obtain ⟨hb5c,hb5f⟩:=bcell hb5;(try have : w.heap.size < w5.heap.size:=by omega);(try have : w.heap.size + 1 < w5.heap.size:=by omega);(try have : w.heap.size + 1 + 1 < w5.heap.size:=by omega);(try have : w.heap.size + 1 + 1 + 1 < w5.heap.size:=by omega);have zr : Bk w5 (w.heap.size + 1 + 1) 32 [.bool false,.int .u64 0,.int .u64 0,.int .i64 0]:=(by (repeat (first|(with_reducible assumption)|((with_reducible refine bkW ?_);(first|rfl|(simp only [wsA,wsS,wsD,wsN];done)))|(with_reducible first|refine bkA ?_ _|refine bkD ?_|refine bkN ?_ _)|((with_reducible refine bkF ?_ ?_ _);focus (simp only [];omega))|((with_reducible refine bkB (by assumption) ?_ ?_);focus (go_size;done)))));have zr_0:=zr.cell 0 rfl;have zr_1:=zr.cell 1 rfl;have zr_2:=zr.cell 2 rfl;have zr_3:=zr.cell 3 rfl;have zr_4:=zr.frozen 0;have zr_5:=zr.frozen 1;have zr_6:=zr.frozen 2;have zr_7:=zr.frozen 3;have zrl:=zr.lt;clear hb5c hb5f;(try have : w2.heap.size < w5.heap.size:=by omega);(try have : w2.heap.size + 1 < w5.heap.size:=by omega);(try have : w2.heap.size + 1 + 1 < w5.heap.size:=by omega);(try have : w2.heap.size + 1 + 1 + 1 < w5.heap.size:=by omega);(try have : w4.heap.size < w5.heap.size:=by omega);(try have : w4.heap.size + 1 < w5.heap.size:=by omega);(try have : w4.heap.size + 1 + 1 < w5.heap.size:=by omega);(try have : w4.heap.size + 1 + 1 + 1 < w5.heap.size:=by omega)))
  all_goals
   refine wp_named (fun W => Bk W (w.heap.size + 1 + 1) 32 [.bool (sg b C),.int .u64 (wd C 1),.int .u64 (wd C 0),.int .i64 (S : Int)] ∧ Below w.heap.size w W) ⟨?h1, ?h2⟩ ?_
   case h1 => (first | ((repeat (first|(with_reducible assumption)|((with_reducible refine bkW ?_);(first|rfl|(simp only [wsA,wsS,wsD,wsN];done)))|(with_reducible first|refine bkA ?_ _|refine bkD ?_|refine bkN ?_ _)|((with_reducible refine bkF ?_ ?_ _);focus (simp only [];omega))|((with_reducible refine bkB (by assumption) ?_ ?_);focus (go_size;done))));done) | ((repeat (first | (with_reducible refine Bk.alloc ?_ _) | (with_reducible refine Bk.drew ?_) | ((with_reducible refine Bk.far ?_ ?_ _);rotate_left;focus (simp only [];omega))));(refine ((((?_ : Bk _ _ _ [.bool false,.int .u64 0,.int .u64 0,.int .i64 0]).set_ 0 _).set_ 1 _).set_ 2 _).set_ 3 _);(repeat (first|(with_reducible assumption)|((with_reducible refine bkW ?_);(first|rfl|(simp only [wsA,wsS,wsD,wsN];done)))|(with_reducible first|refine bkA ?_ _|refine bkD ?_|refine bkN ?_ _)|((with_reducible refine bkF ?_ ?_ _);focus (simp only [];omega))|((with_reducible refine bkB (by assumption) ?_ ?_);focus (go_size;done)))));done)
   case h2 => ((repeat' first|(with_reducible first|exact blR _ _|assumption|refine blD ?_|refine blN ?_ _)|((with_reducible first|refine blA ?_ ?_ _|refine blS ?_ ?_ _|refine blT (by assumption) ?_ ?_);focus (go_size;done)));done)
   rintro W ⟨k1,mb⟩
   have k1_0:=k1.cell 0 rfl
   have k1_1:=k1.cell 1 rfl
   have k1_2:=k1.cell 2 rfl
   have k1_3:=k1.cell 3 rfl
   have k1_4:=k1.frozen 0
   have k1_5:=k1.frozen 1
   have k1_6:=k1.frozen 2
   have k1_7:=k1.frozen 3
   go_wp2_with fail
   refine bodyPost_ret (by simp [results,Tryz.results91,go_sem, *];try rfl) rfl ?_
   exact ⟨rfl,by (repeat' first|(with_reducible first|exact blR _ _|assumption|refine blD ?_|refine blN ?_ _)|((with_reducible first|refine blA ?_ ?_ _|refine blS ?_ ?_ _|refine blT (by assumption) ?_ ?_);focus (go_size;done)))⟩
 ·have hbe : (b == b') = false:=by simpa using hb
  have HO:=Lib.hid (fun W => order_any X Y hX2 hY2 W)
  by_cases hl : Y ≤ X
  ·obtain ⟨e1,e2⟩:=sgn_ge (x:=X) (y:=Y) hb hl
   rw [e1,e2]
   have hXd : X - Y < 2 ^ 256:=by omega
   have HP:=Lib.hid (fun W => minus4_any X Y hX2 hl W)
   have HT:=Lib.hid (fun W => fit_any b (X - Y) m hXd m76 W)
   have ho:=cmpN_ge hl
   clear e1 e2 hX2 hY2 hXY hXd hl hb
   generalize cmpN X Y = cc at *
   generalize FitC (X - Y) (10 ^ m) = C at *
   generalize FitS (X - Y) (10 ^ m) = S at *
   generalize FitE (X - Y) (10 ^ m) = E at *
   generalize X - Y = U at *
   generalize wd X 0 = p0 at *
   generalize wd X 1 = p1 at *
   generalize wd X 2 = p2 at *
   generalize wd X 3 = p3 at *
   generalize wd Y 0 = q0 at *
   generalize wd Y 1 = q1 at *
   generalize wd Y 2 = q2 at *
   generalize wd Y 3 = q3 at *
   generalize wd c 0 = x0 at *
   generalize wd c 1 = x1 at *
   generalize wd c' 0 = y0 at *
   generalize wd c' 1 = y1 at *
   clear hc hc'
   go_enter Tryz.func91,Tryz.ntmps91
   go_wp2_with fail
   (with_reducible refine (HF.out _ _ ?hg).mono ?_)
   case hg => ((repeat (first|(with_reducible assumption)|((with_reducible refine bkW ?_);(first|rfl|(simp only [wsA,wsS,wsD,wsN];done)))|(with_reducible first|refine bkA ?_ _|refine bkD ?_|refine bkN ?_ _)|((with_reducible refine bkF ?_ ?_ _);focus (simp only [];omega))|((with_reducible refine bkB (by assumption) ?_ ?_);focus (go_size;done))));done)
   rintro _ w1 ⟨rfl,hb1⟩;have hb1s:=hb1.size;(try simp only [wsA,wsS,wsD,wsN] at hb1s);obtain ⟨hb1c,hb1f⟩:=bcell hb1;(try have : w.heap.size < w1.heap.size:=by omega);(try have : w.heap.size + 1 < w1.heap.size:=by omega);(try have : w.heap.size + 1 + 1 < w1.heap.size:=by omega);(try have : w.heap.size + 1 + 1 + 1 < w1.heap.size:=by omega)
   have ka : Bk w1 (w.heap.size) 32 [.bool b,.int .u64 x1,.int .u64 x0,.int .i64 s]:=by (repeat (first|(with_reducible assumption)|((with_reducible refine bkW ?_);(first|rfl|(simp only [wsA,wsS,wsD,wsN];done)))|(with_reducible first|refine bkA ?_ _|refine bkD ?_|refine bkN ?_ _)|((with_reducible refine bkF ?_ ?_ _);focus (simp only [];omega))|((with_reducible refine bkB (by assumption) ?_ ?_);focus (go_size;done))))
   have ka_0:=ka.cell 0 rfl
   have ka_1:=ka.cell 1 rfl
   have ka_2:=ka.cell 2 rfl
   have ka_3:=ka.cell 3 rfl
   have ka_4:=ka.frozen 0
   have ka_5:=ka.frozen 1
   have ka_6:=ka.frozen 2
   have ka_7:=ka.frozen 3
   have kal:=ka.lt
   have kb : Bk w1 (w.heap.size + 1) 32 [.bool b',.int .u64 y1,.int .u64 y0,.int .i64 s']:=by (repeat (first|(with_reducible assumption)|((with_reducible refine bkW ?_);(first|rfl|(simp only [wsA,wsS,wsD,wsN];done)))|(with_reducible first|refine bkA ?_ _|refine bkD ?_|refine bkN ?_ _)|((with_reducible refine bkF ?_ ?_ _);focus (simp only [];omega))|((with_reducible refine bkB (by assumption) ?_ ?_);focus (go_size;done))))
   have kb_0:=kb.cell 0 rfl
   have kb_1:=kb.cell 1 rfl
   have kb_2:=kb.cell 2 rfl
   have kb_3:=kb.cell 3 rfl
   have kb_4:=kb.frozen 0
   have kb_5:=kb.frozen 1
   have kb_6:=kb.frozen 2
   have kb_7:=kb.frozen 3
   have kbl:=kb.lt
   have kr : Bk w1 (w.heap.size + 1 + 1) 32 [.bool false,.int .u64 0,.int .u64 0,.int .i64 0]:=by (repeat (first|(with_reducible assumption)|((with_reducible refine bkW ?_);(first|rfl|(simp only [wsA,wsS,wsD,wsN];done)))|(with_reducible first|refine bkA ?_ _|refine bkD ?_|refine bkN ?_ _)|((with_reducible refine bkF ?_ ?_ _);focus (simp only [];omega))|((with_reducible refine bkB (by assumption) ?_ ?_);focus (go_size;done))))
   have kr_0:=kr.cell 0 rfl
   have kr_1:=kr.cell 1 rfl
   have kr_2:=kr.cell 2 rfl
   have kr_3:=kr.cell 3 rfl
   have kr_4:=kr.frozen 0
   have kr_5:=kr.frozen 1
   have kr_6:=kr.frozen 2
   have kr_7:=kr.frozen 3
   have krl:=kr.lt
   clear hb1c hb1f
   go_wp2_with fail
   refine (HB.out _).mono ?_
   rintro _ w2 ⟨rfl,hb2⟩;have hb2s:=hb2.size;(try simp only [wsA,wsS,wsD,wsN] at hb2s);obtain ⟨hb2c,hb2f⟩:=bcell hb2;(try have : w.heap.size < w2.heap.size:=by omega);(try have : w.heap.size + 1 < w2.heap.size:=by omega);(try have : w.heap.size + 1 + 1 < w2.heap.size:=by omega);(try have : w.heap.size + 1 + 1 + 1 < w2.heap.size:=by omega)
   have ja : Bk w2 (w.heap.size) 32 [.bool b,.int .u64 x1,.int .u64 x0,.int .i64 s]:=by (repeat (first|(with_reducible assumption)|((with_reducible refine bkW ?_);(first|rfl|(simp only [wsA,wsS,wsD,wsN];done)))|(with_reducible first|refine bkA ?_ _|refine bkD ?_|refine bkN ?_ _)|((with_reducible refine bkF ?_ ?_ _);focus (simp only [];omega))|((with_reducible refine bkB (by assumption) ?_ ?_);focus (go_size;done))))
   have jb : Bk w2 (w.heap.size + 1) 32 [.bool b',.int .u64 y1,.int .u64 y0,.int .i64 s']:=by (repeat (first|(with_reducible assumption)|((with_reducible refine bkW ?_);(first|rfl|(simp only [wsA,wsS,wsD,wsN];done)))|(with_reducible first|refine bkA ?_ _|refine bkD ?_|refine bkN ?_ _)|((with_reducible refine bkF ?_ ?_ _);focus (simp only [];omega))|((with_reducible refine bkB (by assumption) ?_ ?_);focus (go_size;done))))
   have jr : Bk w2 (w.heap.size + 1 + 1) 32 [.bool false,.int .u64 0,.int .u64 0,.int .i64 0]:=by (repeat (first|(with_reducible assumption)|((with_reducible refine bkW ?_);(first|rfl|(simp only [wsA,wsS,wsD,wsN];done)))|(with_reducible first|refine bkA ?_ _|refine bkD ?_|refine bkN ?_ _)|((with_reducible refine bkF ?_ ?_ _);focus (simp only [];omega))|((with_reducible refine bkB (by assumption) ?_ ?_);focus (go_size;done))))
   clear hb2c hb2f ka_0 ka_1 ka_2 ka_3 ka_4 ka_5 ka_6 ka_7 kb_0 kb_1 kb_2 kb_3 kb_4 kb_5 kb_6 kb_7 kr_0 kr_1 kr_2 kr_3 kr_4 kr_5 kr_6 kr_7
   have ja_0:=ja.cell 0 rfl
   have ja_1:=ja.cell 1 rfl
   have ja_2:=ja.cell 2 rfl
   have ja_3:=ja.cell 3 rfl
   have ja_4:=ja.frozen 0
   have ja_5:=ja.frozen 1
   have ja_6:=ja.frozen 2
   have ja_7:=ja.frozen 3
   have jb_0:=jb.cell 0 rfl
   have jb_1:=jb.cell 1 rfl
   have jb_2:=jb.cell 2 rfl
   have jb_3:=jb.cell 3 rfl
   have jb_4:=jb.frozen 0
   have jb_5:=jb.frozen 1
   have jb_6:=jb.frozen 2
   have jb_7:=jb.frozen 3
   have jr_0:=jr.cell 0 rfl
   have jr_1:=jr.cell 1 rfl
   have jr_2:=jr.cell 2 rfl
   have jr_3:=jr.cell 3 rfl
   have jr_4:=jr.frozen 0
   have jr_5:=jr.frozen 1
   have jr_6:=jr.frozen 2
   have jr_7:=jr.frozen 3
   have jal:=ja.lt
   have jbl:=jb.lt
   have jrl:=jr.lt
   go_wp2_with fail
   refine (HO.out _).mono ?_
   rintro _ w3 ⟨rfl,hb3⟩;have hb3s:=hb3.size;(try simp only [wsA,wsS,wsD,wsN] at hb3s);obtain ⟨hb3c,hb3f⟩:=bcell hb3;(try have : w.heap.size < w3.heap.size:=by omega);(try have : w.heap.size + 1 < w3.heap.size:=by omega);(try have : w.heap.size + 1 + 1 < w3.heap.size:=by omega);(try have : w.heap.size + 1 + 1 + 1 < w3.heap.size:=by omega)
   have la : Bk w3 (w.heap.size) 32 [.bool b,.int .u64 x1,.int .u64 x0,.int .i64 s]:=by (repeat (first|(with_reducible assumption)|((with_reducible refine bkW ?_);(first|rfl|(simp only [wsA,wsS,wsD,wsN];done)))|(with_reducible first|refine bkA ?_ _|refine bkD ?_|refine bkN ?_ _)|((with_reducible refine bkF ?_ ?_ _);focus (simp only [];omega))|((with_reducible refine bkB (by assumption) ?_ ?_);focus (go_size;done))))
   have lb : Bk w3 (w.heap.size + 1) 32 [.bool b',.int .u64 y1,.int .u64 y0,.int .i64 s']:=by (repeat (first|(with_reducible assumption)|((with_reducible refine bkW ?_);(first|rfl|(simp only [wsA,wsS,wsD,wsN];done)))|(with_reducible first|refine bkA ?_ _|refine bkD ?_|refine bkN ?_ _)|((with_reducible refine bkF ?_ ?_ _);focus (simp only [];omega))|((with_reducible refine bkB (by assumption) ?_ ?_);focus (go_size;done))))
   have lr : Bk w3 (w.heap.size + 1 + 1) 32 [.bool false,.int .u64 0,.int .u64 0,.int .i64 0]:=by (repeat (first|(with_reducible assumption)|((with_reducible refine bkW ?_);(first|rfl|(simp only [wsA,wsS,wsD,wsN];done)))|(with_reducible first|refine bkA ?_ _|refine bkD ?_|refine bkN ?_ _)|((with_reducible refine bkF ?_ ?_ _);focus (simp only [];omega))|((with_reducible refine bkB (by assumption) ?_ ?_);focus (go_size;done))))
   have lx : Bk w3 (w2.heap.size) 82 [.int .u64 p0,.int .u64 p1,.int .u64 p2,.int .u64 p3]:=by (repeat (first|(with_reducible assumption)|((with_reducible refine bkW ?_);(first|rfl|(simp only [wsA,wsS,wsD,wsN];done)))|(with_reducible first|refine bkA ?_ _|refine bkD ?_|refine bkN ?_ _)|((with_reducible refine bkF ?_ ?_ _);focus (simp only [];omega))|((with_reducible refine bkB (by assumption) ?_ ?_);focus (go_size;done))))
   have ly : Bk w3 (w2.heap.size + 1) 82 [.int .u64 q0,.int .u64 q1,.int .u64 q2,.int .u64 q3]:=by (repeat (first|(with_reducible assumption)|((with_reducible refine bkW ?_);(first|rfl|(simp only [wsA,wsS,wsD,wsN];done)))|(with_reducible first|refine bkA ?_ _|refine bkD ?_|refine bkN ?_ _)|((with_reducible refine bkF ?_ ?_ _);focus (simp only [];omega))|((with_reducible refine bkB (by assumption) ?_ ?_);focus (go_size;done))))
   clear hb3c hb3f ja_0 ja_1 ja_2 ja_3 ja_4 ja_5 ja_6 ja_7 jb_0 jb_1 jb_2 jb_3 jb_4 jb_5 jb_6 jb_7 jr_0 jr_1 jr_2 jr_3 jr_4 jr_5 jr_6 jr_7
   have la_0:=la.cell 0 rfl
   have la_1:=la.cell 1 rfl
   have la_2:=la.cell 2 rfl
   have la_3:=la.cell 3 rfl
   have la_4:=la.frozen 0
   have la_5:=la.frozen 1
   have la_6:=la.frozen 2
   have la_7:=la.frozen 3
   have lb_0:=lb.cell 0 rfl
   have lb_1:=lb.cell 1 rfl
   have lb_2:=lb.cell 2 rfl
   have lb_3:=lb.cell 3 rfl
   have lb_4:=lb.frozen 0
   have lb_5:=lb.frozen 1
   have lb_6:=lb.frozen 2
   have lb_7:=lb.frozen 3
   have lr_0:=lr.cell 0 rfl
   have lr_1:=lr.cell 1 rfl
   have lr_2:=lr.cell 2 rfl
   have lr_3:=lr.cell 3 rfl
   have lr_4:=lr.frozen 0
   have lr_5:=lr.frozen 1
   have lr_6:=lr.frozen 2
   have lr_7:=lr.frozen 3
   have lx_0:=lx.cell 0 rfl
   have lx_1:=lx.cell 1 rfl
   have lx_2:=lx.cell 2 rfl
   have lx_3:=lx.cell 3 rfl
   have lx_4:=lx.frozen 0
   have lx_5:=lx.frozen 1
   have lx_6:=lx.frozen 2
   have lx_7:=lx.frozen 3
   have ly_0:=ly.cell 0 rfl
   have ly_1:=ly.cell 1 rfl
   have ly_2:=ly.cell 2 rfl
   have ly_3:=ly.cell 3 rfl
   have ly_4:=ly.frozen 0
   have ly_5:=ly.frozen 1
   have ly_6:=ly.frozen 2
   have ly_7:=ly.frozen 3
   go_wp2_with fail
   go_region_held3 (fun w' => (w'.cell? ⟨w.heap.size,0,none⟩ = some (.bool b) ∧ w'.cell? ⟨w.heap.size,1,none⟩ = some (.int .u64 x1) ∧ w'.cell? ⟨w.heap.size,2,none⟩ = some (.int .u64 x0) ∧ w'.cell? ⟨w.heap.size,3,none⟩ = some (.int .i64 s)) ∧ (w'.cell? ⟨w2.heap.size,0,none⟩ = some (.int .u64 p0) ∧ w'.cell? ⟨w2.heap.size,1,none⟩ = some (.int .u64 p1) ∧ w'.cell? ⟨w2.heap.size,2,none⟩ = some (.int .u64 p2) ∧ w'.cell? ⟨w2.heap.size,3,none⟩ = some (.int .u64 p3)) ∧ (w'.cell? ⟨(w2.heap.size + 1),0,none⟩ = some (.int .u64 q0) ∧ w'.cell? ⟨(w2.heap.size + 1),1,none⟩ = some (.int .u64 q1) ∧ w'.cell? ⟨(w2.heap.size + 1),2,none⟩ = some (.int .u64 q2) ∧ w'.cell? ⟨(w2.heap.size + 1),3,none⟩ = some (.int .u64 q3))) (first | (first | (go_keep;done) | (simp [go_sem];done) | ((try dsimp only);(repeat' apply And.intro) <;> (first | (with_reducible assumption) | ((rw [World.cell?_alloc_lt _ _ _ (by show _ < _;omega)]);go_split_ands;(first | with_reducible assumption | (refine (World.cell?_alloc_lt _ _ _ (by show _ < _;omega)).symm.trans ?_;with_reducible assumption))) | ((rw [World.cell?_setCell_other _ _ _ _ (by intro e;injection e;omega)]);with_reducible assumption) | (go_keep;done) | (simp [go_sem];done) | (simp (disch:=go_size) [*,World.cell?_alloc_some,World.cell?_setCell_far];done)))) | ((refine ⟨?_, ?_, ?_⟩) <;> (first | ((refine ⟨Bk.cell (t:=32) (cs:=[.bool b,.int .u64 x1,.int .u64 x0,.int .i64 s]) ?_ 0 rfl,Bk.cell (t:=32) (cs:=[.bool b,.int .u64 x1,.int .u64 x0,.int .i64 s]) ?_ 1 rfl,Bk.cell (t:=32) (cs:=[.bool b,.int .u64 x1,.int .u64 x0,.int .i64 s]) ?_ 2 rfl,Bk.cell (t:=32) (cs:=[.bool b,.int .u64 x1,.int .u64 x0,.int .i64 s]) ?_ 3 rfl⟩) <;> ((repeat (first|(with_reducible assumption)|((with_reducible refine bkW ?_);(first|rfl|(simp only [wsA,wsS,wsD,wsN];done)))|(with_reducible first|refine bkA ?_ _|refine bkD ?_|refine bkN ?_ _)|((with_reducible refine bkF ?_ ?_ _);focus (simp only [];omega))|((with_reducible refine bkB (by assumption) ?_ ?_);focus (go_size;done))));done)) | ((refine ⟨Bk.cell (t:=82) (cs:=[.int .u64 p0,.int .u64 p1,.int .u64 p2,.int .u64 p3]) ?_ 0 rfl,Bk.cell (t:=82) (cs:=[.int .u64 p0,.int .u64 p1,.int .u64 p2,.int .u64 p3]) ?_ 1 rfl,Bk.cell (t:=82) (cs:=[.int .u64 p0,.int .u64 p1,.int .u64 p2,.int .u64 p3]) ?_ 2 rfl,Bk.cell (t:=82) (cs:=[.int .u64 p0,.int .u64 p1,.int .u64 p2,.int .u64 p3]) ?_ 3 rfl⟩) <;> ((repeat (first|(with_reducible assumption)|((with_reducible refine bkW ?_);(first|rfl|(simp only [wsA,wsS,wsD,wsN];done)))|(with_reducible first|refine bkA ?_ _|refine bkD ?_|refine bkN ?_ _)|((with_reducible refine bkF ?_ ?_ _);focus (simp only [];omega))|((with_reducible refine bkB (by assumption) ?_ ?_);focus (go_size;done))));done)) | ((refine ⟨Bk.cell (t:=82) (cs:=[.int .u64 q0,.int .u64 q1,.int .u64 q2,.int .u64 q3]) ?_ 0 rfl,Bk.cell (t:=82) (cs:=[.int .u64 q0,.int .u64 q1,.int .u64 q2,.int .u64 q3]) ?_ 1 rfl,Bk.cell (t:=82) (cs:=[.int .u64 q0,.int .u64 q1,.int .u64 q2,.int .u64 q3]) ?_ 2 rfl,Bk.cell (t:=82) (cs:=[.int .u64 q0,.int .u64 q1,.int .u64 q2,.int .u64 q3]) ?_ 3 rfl⟩) <;> ((repeat (first|(with_reducible assumption)|((with_reducible refine bkW ?_);(first|rfl|(simp only [wsA,wsS,wsD,wsN];done)))|(with_reducible first|refine bkA ?_ _|refine bkD ?_|refine bkN ?_ _)|((with_reducible refine bkF ?_ ?_ _);focus (simp only [];omega))|((with_reducible refine bkB (by assumption) ?_ ?_);focus (go_size;done))));done))))) (first | (go_at_call 123;(with_reducible refine (HP.out _).mono ?_);rintro _ w4 ⟨rfl,hb4⟩;have hb4s:=hb4.size;(try simp only [wsA,wsS,wsD,wsN] at hb4s);obtain ⟨hb4c,hb4f⟩:=bcell hb4;(try have : w.heap.size < w4.heap.size:=by omega);(try have : w.heap.size + 1 < w4.heap.size:=by omega);(try have : w.heap.size + 1 + 1 < w4.heap.size:=by omega);(try have : w.heap.size + 1 + 1 + 1 < w4.heap.size:=by omega);(try have : w2.heap.size < w4.heap.size:=by omega);(try have : w2.heap.size + 1 < w4.heap.size:=by omega);(try have : w2.heap.size + 1 + 1 < w4.heap.size:=by omega);(try have : w2.heap.size + 1 + 1 + 1 < w4.heap.size:=by omega);(try have : w3.heap.size < w4.heap.size:=by omega);(try have : w3.heap.size + 1 < w4.heap.size:=by omega);(try have : w3.heap.size + 1 + 1 < w4.heap.size:=by omega);(try have : w3.heap.size + 1 + 1 + 1 < w4.heap.size:=by omega)) | (go_at_call 121;(with_reducible refine (HT.out _).mono ?_);rintro _ w5 ⟨rfl,hb5⟩;have hb5s:=hb5.size;(try simp only [wsA,wsS,wsD,wsN] at hb5s);obtain ⟨hb5c,hb5f⟩:=bcell hb5;(try have : w.heap.size < w5.heap.size:=by omega);(try have : w.heap.size + 1 < w5.heap.size:=by omega);(try have : w.heap.size + 1 + 1 < w5.heap.size:=by omega);(try have : w.heap.size + 1 + 1 + 1 < w5.heap.size:=by omega);have zr : Bk w5 (w.heap.size + 1 + 1) 32 [.bool false,.int .u64 0,.int .u64 0,.int .i64 0]:=(by (repeat (first|(with_reducible assumption)|((with_reducible refine bkW ?_);(first|rfl|(simp only [wsA,wsS,wsD,wsN];done)))|(with_reducible first|refine bkA ?_ _|refine bkD ?_|refine bkN ?_ _)|((with_reducible refine bkF ?_ ?_ _);focus (simp only [];omega))|((with_reducible refine bkB (by assumption) ?_ ?_);focus (go_size;done)))));have zr_0:=zr.cell 0 rfl;have zr_1:=zr.cell 1 rfl;have zr_2:=zr.cell 2 rfl;have zr_3:=zr.cell 3 rfl;have zr_4:=zr.frozen 0;have zr_5:=zr.frozen 1;have zr_6:=zr.frozen 2;have zr_7:=zr.frozen 3;have zrl:=zr.lt;clear hb5c hb5f;(try have : w2.heap.size < w5.heap.size:=by omega);(try have : w2.heap.size + 1 < w5.heap.size:=by omega);(try have : w2.heap.size + 1 + 1 < w5.heap.size:=by omega);(try have : w2.heap.size + 1 + 1 + 1 < w5.heap.size:=by omega);(try have : w3.heap.size < w5.heap.size:=by omega);(try have : w3.heap.size + 1 < w5.heap.size:=by omega);(try have : w3.heap.size + 1 + 1 < w5.heap.size:=by omega);(try have : w3.heap.size + 1 + 1 + 1 < w5.heap.size:=by omega);(try have : w4.heap.size < w5.heap.size:=by omega);(try have : w4.heap.size + 1 < w5.heap.size:=by omega);(try have : w4.heap.size + 1 + 1 < w5.heap.size:=by omega);(try have : w4.heap.size + 1 + 1 + 1 < w5.heap.size:=by omega)))
   all_goals
    refine wp_named (fun W => Bk W (w.heap.size + 1 + 1) 32 [.bool (sg b C),.int .u64 (wd C 1),.int .u64 (wd C 0),.int .i64 (S : Int)] ∧ Below w.heap.size w W) ⟨?h1, ?h2⟩ ?_
    case h1 => (first | ((repeat (first|(with_reducible assumption)|((with_reducible refine bkW ?_);(first|rfl|(simp only [wsA,wsS,wsD,wsN];done)))|(with_reducible first|refine bkA ?_ _|refine bkD ?_|refine bkN ?_ _)|((with_reducible refine bkF ?_ ?_ _);focus (simp only [];omega))|((with_reducible refine bkB (by assumption) ?_ ?_);focus (go_size;done))));done) | ((repeat (first | (with_reducible refine Bk.alloc ?_ _) | (with_reducible refine Bk.drew ?_) | ((with_reducible refine Bk.far ?_ ?_ _);rotate_left;focus (simp only [];omega))));(refine ((((?_ : Bk _ _ _ [.bool false,.int .u64 0,.int .u64 0,.int .i64 0]).set_ 0 _).set_ 1 _).set_ 2 _).set_ 3 _);(repeat (first|(with_reducible assumption)|((with_reducible refine bkW ?_);(first|rfl|(simp only [wsA,wsS,wsD,wsN];done)))|(with_reducible first|refine bkA ?_ _|refine bkD ?_|refine bkN ?_ _)|((with_reducible refine bkF ?_ ?_ _);focus (simp only [];omega))|((with_reducible refine bkB (by assumption) ?_ ?_);focus (go_size;done)))));done)
    case h2 => ((repeat' first|(with_reducible first|exact blR _ _|assumption|refine blD ?_|refine blN ?_ _)|((with_reducible first|refine blA ?_ ?_ _|refine blS ?_ ?_ _|refine blT (by assumption) ?_ ?_);focus (go_size;done)));done)
    rintro W ⟨k1,mb⟩
    have k1_0:=k1.cell 0 rfl
    have k1_1:=k1.cell 1 rfl
    have k1_2:=k1.cell 2 rfl
    have k1_3:=k1.cell 3 rfl
    have k1_4:=k1.frozen 0
    have k1_5:=k1.frozen 1
    have k1_6:=k1.frozen 2
    have k1_7:=k1.frozen 3
    go_wp2_with fail
    refine bodyPost_ret (by simp [results,Tryz.results91,go_sem, *];try rfl) rfl ?_
    exact ⟨rfl,by (repeat' first|(with_reducible first|exact blR _ _|assumption|refine blD ?_|refine blN ?_ _)|((with_reducible first|refine blA ?_ ?_ _|refine blS ?_ ?_ _|refine blT (by assumption) ?_ ?_);focus (go_size;done)))⟩
  ·obtain ⟨e1,e2⟩:=sgn_lt (x:=X) (y:=Y) hb (by omega)
   rw [e1,e2]
   have hXd : Y - X < 2 ^ 256:=by omega
   have HP:=Lib.hid (fun W => minus4_any Y X hY2 (by omega) W)
   have HT:=Lib.hid (fun W => fit_any b' (Y - X) m hXd m76 W)
   have ho:=cmpN_lt (show X < Y by omega)
   have ho' : ¬ 0 ≤ cmpN X Y:=by omega
   clear e1 e2 hX2 hY2 hXY hXd hl hb
   generalize cmpN X Y = cc at *
   generalize FitC (Y - X) (10 ^ m) = C at *
   generalize FitS (Y - X) (10 ^ m) = S at *
   generalize FitE (Y - X) (10 ^ m) = E at *
   generalize Y - X = U at *
   generalize wd X 0 = p0 at *
   generalize wd X 1 = p1 at *
   generalize wd X 2 = p2 at *
   generalize wd X 3 = p3 at *
   generalize wd Y 0 = q0 at *
   generalize wd Y 1 = q1 at *
   generalize wd Y 2 = q2 at *
   generalize wd Y 3 = q3 at *
   generalize wd c 0 = x0 at *
   generalize wd c 1 = x1 at *
   generalize wd c' 0 = y0 at *
   generalize wd c' 1 = y1 at *
   clear hc hc'
   go_enter Tryz.func91,Tryz.ntmps91
   go_wp2_with fail
   (with_reducible refine (HF.out _ _ ?hg).mono ?_)
   case hg => ((repeat (first|(with_reducible assumption)|((with_reducible refine bkW ?_);(first|rfl|(simp only [wsA,wsS,wsD,wsN];done)))|(with_reducible first|refine bkA ?_ _|refine bkD ?_|refine bkN ?_ _)|((with_reducible refine bkF ?_ ?_ _);focus (simp only [];omega))|((with_reducible refine bkB (by assumption) ?_ ?_);focus (go_size;done))));done)
   rintro _ w1 ⟨rfl,hb1⟩;have hb1s:=hb1.size;(try simp only [wsA,wsS,wsD,wsN] at hb1s);obtain ⟨hb1c,hb1f⟩:=bcell hb1;(try have : w.heap.size < w1.heap.size:=by omega);(try have : w.heap.size + 1 < w1.heap.size:=by omega);(try have : w.heap.size + 1 + 1 < w1.heap.size:=by omega);(try have : w.heap.size + 1 + 1 + 1 < w1.heap.size:=by omega)
   have ka : Bk w1 (w.heap.size) 32 [.bool b,.int .u64 x1,.int .u64 x0,.int .i64 s]:=by (repeat (first|(with_reducible assumption)|((with_reducible refine bkW ?_);(first|rfl|(simp only [wsA,wsS,wsD,wsN];done)))|(with_reducible first|refine bkA ?_ _|refine bkD ?_|refine bkN ?_ _)|((with_reducible refine bkF ?_ ?_ _);focus (simp only [];omega))|((with_reducible refine bkB (by assumption) ?_ ?_);focus (go_size;done))))
   have ka_0:=ka.cell 0 rfl
   have ka_1:=ka.cell 1 rfl
   have ka_2:=ka.cell 2 rfl
   have ka_3:=ka.cell 3 rfl
   have ka_4:=ka.frozen 0
   have ka_5:=ka.frozen 1
   have ka_6:=ka.frozen 2
   have ka_7:=ka.frozen 3
   have kal:=ka.lt
   have kb : Bk w1 (w.heap.size + 1) 32 [.bool b',.int .u64 y1,.int .u64 y0,.int .i64 s']:=by (repeat (first|(with_reducible assumption)|((with_reducible refine bkW ?_);(first|rfl|(simp only [wsA,wsS,wsD,wsN];done)))|(with_reducible first|refine bkA ?_ _|refine bkD ?_|refine bkN ?_ _)|((with_reducible refine bkF ?_ ?_ _);focus (simp only [];omega))|((with_reducible refine bkB (by assumption) ?_ ?_);focus (go_size;done))))
   have kb_0:=kb.cell 0 rfl
   have kb_1:=kb.cell 1 rfl
   have kb_2:=kb.cell 2 rfl
   have kb_3:=kb.cell 3 rfl
   have kb_4:=kb.frozen 0
   have kb_5:=kb.frozen 1
   have kb_6:=kb.frozen 2
   have kb_7:=kb.frozen 3
   have kbl:=kb.lt
   have kr : Bk w1 (w.heap.size + 1 + 1) 32 [.bool false,.int .u64 0,.int .u64 0,.int .i64 0]:=by (repeat (first|(with_reducible assumption)|((with_reducible refine bkW ?_);(first|rfl|(simp only [wsA,wsS,wsD,wsN];done)))|(with_reducible first|refine bkA ?_ _|refine bkD ?_|refine bkN ?_ _)|((with_reducible refine bkF ?_ ?_ _);focus (simp only [];omega))|((with_reducible refine bkB (by assumption) ?_ ?_);focus (go_size;done))))
   have kr_0:=kr.cell 0 rfl
   have kr_1:=kr.cell 1 rfl
   have kr_2:=kr.cell 2 rfl
   have kr_3:=kr.cell 3 rfl
   have kr_4:=kr.frozen 0
   have kr_5:=kr.frozen 1
   have kr_6:=kr.frozen 2
   have kr_7:=kr.frozen 3
   have krl:=kr.lt
   clear hb1c hb1f
   go_wp2_with fail
   refine (HB.out _).mono ?_
   rintro _ w2 ⟨rfl,hb2⟩;have hb2s:=hb2.size;(try simp only [wsA,wsS,wsD,wsN] at hb2s);obtain ⟨hb2c,hb2f⟩:=bcell hb2;(try have : w.heap.size < w2.heap.size:=by omega);(try have : w.heap.size + 1 < w2.heap.size:=by omega);(try have : w.heap.size + 1 + 1 < w2.heap.size:=by omega);(try have : w.heap.size + 1 + 1 + 1 < w2.heap.size:=by omega)
   have ja : Bk w2 (w.heap.size) 32 [.bool b,.int .u64 x1,.int .u64 x0,.int .i64 s]:=by (repeat (first|(with_reducible assumption)|((with_reducible refine bkW ?_);(first|rfl|(simp only [wsA,wsS,wsD,wsN];done)))|(with_reducible first|refine bkA ?_ _|refine bkD ?_|refine bkN ?_ _)|((with_reducible refine bkF ?_ ?_ _);focus (simp only [];omega))|((with_reducible refine bkB (by assumption) ?_ ?_);focus (go_size;done))))
   have jb : Bk w2 (w.heap.size + 1) 32 [.bool b',.int .u64 y1,.int .u64 y0,.int .i64 s']:=by (repeat (first|(with_reducible assumption)|((with_reducible refine bkW ?_);(first|rfl|(simp only [wsA,wsS,wsD,wsN];done)))|(with_reducible first|refine bkA ?_ _|refine bkD ?_|refine bkN ?_ _)|((with_reducible refine bkF ?_ ?_ _);focus (simp only [];omega))|((with_reducible refine bkB (by assumption) ?_ ?_);focus (go_size;done))))
   have jr : Bk w2 (w.heap.size + 1 + 1) 32 [.bool false,.int .u64 0,.int .u64 0,.int .i64 0]:=by (repeat (first|(with_reducible assumption)|((with_reducible refine bkW ?_);(first|rfl|(simp only [wsA,wsS,wsD,wsN];done)))|(with_reducible first|refine bkA ?_ _|refine bkD ?_|refine bkN ?_ _)|((with_reducible refine bkF ?_ ?_ _);focus (simp only [];omega))|((with_reducible refine bkB (by assumption) ?_ ?_);focus (go_size;done))))
   clear hb2c hb2f ka_0 ka_1 ka_2 ka_3 ka_4 ka_5 ka_6 ka_7 kb_0 kb_1 kb_2 kb_3 kb_4 kb_5 kb_6 kb_7 kr_0 kr_1 kr_2 kr_3 kr_4 kr_5 kr_6 kr_7
   have ja_0:=ja.cell 0 rfl
   have ja_1:=ja.cell 1 rfl
   have ja_2:=ja.cell 2 rfl
   have ja_3:=ja.cell 3 rfl
   have ja_4:=ja.frozen 0
   have ja_5:=ja.frozen 1
   have ja_6:=ja.frozen 2
   have ja_7:=ja.frozen 3
   have jb_0:=jb.cell 0 rfl
   have jb_1:=jb.cell 1 rfl
   have jb_2:=jb.cell 2 rfl
   have jb_3:=jb.cell 3 rfl
   have jb_4:=jb.frozen 0
   have jb_5:=jb.frozen 1
   have jb_6:=jb.frozen 2
   have jb_7:=jb.frozen 3
   have jr_0:=jr.cell 0 rfl
   have jr_1:=jr.cell 1 rfl
   have jr_2:=jr.cell 2 rfl
   have jr_3:=jr.cell 3 rfl
   have jr_4:=jr.frozen 0
   have jr_5:=jr.frozen 1
   have jr_6:=jr.frozen 2
   have jr_7:=jr.frozen 3
   have jal:=ja.lt
   have jbl:=jb.lt
   have jrl:=jr.lt
   go_wp2_with fail
   refine (HO.out _).mono ?_
   rintro _ w3 ⟨rfl,hb3⟩;have hb3s:=hb3.size;(try simp only [wsA,wsS,wsD,wsN] at hb3s);obtain ⟨hb3c,hb3f⟩:=bcell hb3;(try have : w.heap.size < w3.heap.size:=by omega);(try have : w.heap.size + 1 < w3.heap.size:=by omega);(try have : w.heap.size + 1 + 1 < w3.heap.size:=by omega);(try have : w.heap.size + 1 + 1 + 1 < w3.heap.size:=by omega)
   have la : Bk w3 (w.heap.size) 32 [.bool b,.int .u64 x1,.int .u64 x0,.int .i64 s]:=by (repeat (first|(with_reducible assumption)|((with_reducible refine bkW ?_);(first|rfl|(simp only [wsA,wsS,wsD,wsN];done)))|(with_reducible first|refine bkA ?_ _|refine bkD ?_|refine bkN ?_ _)|((with_reducible refine bkF ?_ ?_ _);focus (simp only [];omega))|((with_reducible refine bkB (by assumption) ?_ ?_);focus (go_size;done))))
   have lb : Bk w3 (w.heap.size + 1) 32 [.bool b',.int .u64 y1,.int .u64 y0,.int .i64 s']:=by (repeat (first|(with_reducible assumption)|((with_reducible refine bkW ?_);(first|rfl|(simp only [wsA,wsS,wsD,wsN];done)))|(with_reducible first|refine bkA ?_ _|refine bkD ?_|refine bkN ?_ _)|((with_reducible refine bkF ?_ ?_ _);focus (simp only [];omega))|((with_reducible refine bkB (by assumption) ?_ ?_);focus (go_size;done))))
   have lr : Bk w3 (w.heap.size + 1 + 1) 32 [.bool false,.int .u64 0,.int .u64 0,.int .i64 0]:=by (repeat (first|(with_reducible assumption)|((with_reducible refine bkW ?_);(first|rfl|(simp only [wsA,wsS,wsD,wsN];done)))|(with_reducible first|refine bkA ?_ _|refine bkD ?_|refine bkN ?_ _)|((with_reducible refine bkF ?_ ?_ _);focus (simp only [];omega))|((with_reducible refine bkB (by assumption) ?_ ?_);focus (go_size;done))))
   have lx : Bk w3 (w2.heap.size) 82 [.int .u64 p0,.int .u64 p1,.int .u64 p2,.int .u64 p3]:=by (repeat (first|(with_reducible assumption)|((with_reducible refine bkW ?_);(first|rfl|(simp only [wsA,wsS,wsD,wsN];done)))|(with_reducible first|refine bkA ?_ _|refine bkD ?_|refine bkN ?_ _)|((with_reducible refine bkF ?_ ?_ _);focus (simp only [];omega))|((with_reducible refine bkB (by assumption) ?_ ?_);focus (go_size;done))))
   have ly : Bk w3 (w2.heap.size + 1) 82 [.int .u64 q0,.int .u64 q1,.int .u64 q2,.int .u64 q3]:=by (repeat (first|(with_reducible assumption)|((with_reducible refine bkW ?_);(first|rfl|(simp only [wsA,wsS,wsD,wsN];done)))|(with_reducible first|refine bkA ?_ _|refine bkD ?_|refine bkN ?_ _)|((with_reducible refine bkF ?_ ?_ _);focus (simp only [];omega))|((with_reducible refine bkB (by assumption) ?_ ?_);focus (go_size;done))))
   clear hb3c hb3f ja_0 ja_1 ja_2 ja_3 ja_4 ja_5 ja_6 ja_7 jb_0 jb_1 jb_2 jb_3 jb_4 jb_5 jb_6 jb_7 jr_0 jr_1 jr_2 jr_3 jr_4 jr_5 jr_6 jr_7
   have la_0:=la.cell 0 rfl
   have la_1:=la.cell 1 rfl
   have la_2:=la.cell 2 rfl
   have la_3:=la.cell 3 rfl
   have la_4:=la.frozen 0
   have la_5:=la.frozen 1
   have la_6:=la.frozen 2
   have la_7:=la.frozen 3
   have lb_0:=lb.cell 0 rfl
   have lb_1:=lb.cell 1 rfl
   have lb_2:=lb.cell 2 rfl
   have lb_3:=lb.cell 3 rfl
   have lb_4:=lb.frozen 0
   have lb_5:=lb.frozen 1
   have lb_6:=lb.frozen 2
   have lb_7:=lb.frozen 3
   have lr_0:=lr.cell 0 rfl
   have lr_1:=lr.cell 1 rfl
   have lr_2:=lr.cell 2 rfl
   have lr_3:=lr.cell 3 rfl
   have lr_4:=lr.frozen 0
   have lr_5:=lr.frozen 1
   have lr_6:=lr.frozen 2
   have lr_7:=lr.frozen 3
   have lx_0:=lx.cell 0 rfl
   have lx_1:=lx.cell 1 rfl
   have lx_2:=lx.cell 2 rfl
   have lx_3:=lx.cell 3 rfl
   have lx_4:=lx.frozen 0
   have lx_5:=lx.frozen 1
   have lx_6:=lx.frozen 2
   have lx_7:=lx.frozen 3
   have ly_0:=ly.cell 0 rfl
   have ly_1:=ly.cell 1 rfl
   have ly_2:=ly.cell 2 rfl
   have ly_3:=ly.cell 3 rfl
   have ly_4:=ly.frozen 0
   have ly_5:=ly.frozen 1
   have ly_6:=ly.frozen 2
   have ly_7:=ly.frozen 3
   go_wp2_with fail
   go_region_held3 (fun w' => (w'.cell? ⟨(w.heap.size + 1),0,none⟩ = some (.bool b') ∧ w'.cell? ⟨(w.heap.size + 1),1,none⟩ = some (.int .u64 y1) ∧ w'.cell? ⟨(w.heap.size + 1),2,none⟩ = some (.int .u64 y0) ∧ w'.cell? ⟨(w.heap.size + 1),3,none⟩ = some (.int .i64 s')) ∧ (w'.cell? ⟨w2.heap.size,0,none⟩ = some (.int .u64 p0) ∧ w'.cell? ⟨w2.heap.size,1,none⟩ = some (.int .u64 p1) ∧ w'.cell? ⟨w2.heap.size,2,none⟩ = some (.int .u64 p2) ∧ w'.cell? ⟨w2.heap.size,3,none⟩ = some (.int .u64 p3)) ∧ (w'.cell? ⟨(w2.heap.size + 1),0,none⟩ = some (.int .u64 q0) ∧ w'.cell? ⟨(w2.heap.size + 1),1,none⟩ = some (.int .u64 q1) ∧ w'.cell? ⟨(w2.heap.size + 1),2,none⟩ = some (.int .u64 q2) ∧ w'.cell? ⟨(w2.heap.size + 1),3,none⟩ = some (.int .u64 q3))) (first | (first | (go_keep;done) | (simp [go_sem];done) | ((try dsimp only);(repeat' apply And.intro) <;> (first | (with_reducible assumption) | ((rw [World.cell?_alloc_lt _ _ _ (by show _ < _;omega)]);go_split_ands;(first | with_reducible assumption | (refine (World.cell?_alloc_lt _ _ _ (by show _ < _;omega)).symm.trans ?_;with_reducible assumption))) | ((rw [World.cell?_setCell_other _ _ _ _ (by intro e;injection e;omega)]);with_reducible assumption) | (go_keep;done) | (simp [go_sem];done) | (simp (disch:=go_size) [*,World.cell?_alloc_some,World.cell?_setCell_far];done)))) | ((refine ⟨?_, ?_, ?_⟩) <;> (first | ((refine ⟨Bk.cell (t:=32) (cs:=[.bool b',.int .u64 y1,.int .u64 y0,.int .i64 s']) ?_ 0 rfl,Bk.cell (t:=32) (cs:=[.bool b',.int .u64 y1,.int .u64 y0,.int .i64 s']) ?_ 1 rfl,Bk.cell (t:=32) (cs:=[.bool b',.int .u64 y1,.int .u64 y0,.int .i64 s']) ?_ 2 rfl,Bk.cell (t:=32) (cs:=[.bool b',.int .u64 y1,.int .u64 y0,.int .i64 s']) ?_ 3 rfl⟩) <;> ((repeat (first|(with_reducible assumption)|((with_reducible refine bkW ?_);(first|rfl|(simp only [wsA,wsS,wsD,wsN];done)))|(with_reducible first|refine bkA ?_ _|refine bkD ?_|refine bkN ?_ _)|((with_reducible refine bkF ?_ ?_ _);focus (simp only [];omega))|((with_reducible refine bkB (by assumption) ?_ ?_);focus (go_size;done))));done)) | ((refine ⟨Bk.cell (t:=82) (cs:=[.int .u64 p0,.int .u64 p1,.int .u64 p2,.int .u64 p3]) ?_ 0 rfl,Bk.cell (t:=82) (cs:=[.int .u64 p0,.int .u64 p1,.int .u64 p2,.int .u64 p3]) ?_ 1 rfl,Bk.cell (t:=82) (cs:=[.int .u64 p0,.int .u64 p1,.int .u64 p2,.int .u64 p3]) ?_ 2 rfl,Bk.cell (t:=82) (cs:=[.int .u64 p0,.int .u64 p1,.int .u64 p2,.int .u64 p3]) ?_ 3 rfl⟩) <;> ((repeat (first|(with_reducible assumption)|((with_reducible refine bkW ?_);(first|rfl|(simp only [wsA,wsS,wsD,wsN];done)))|(with_reducible first|refine bkA ?_ _|refine bkD ?_|refine bkN ?_ _)|((with_reducible refine bkF ?_ ?_ _);focus (simp only [];omega))|((with_reducible refine bkB (by assumption) ?_ ?_);focus (go_size;done))));done)) | ((refine ⟨Bk.cell (t:=82) (cs:=[.int .u64 q0,.int .u64 q1,.int .u64 q2,.int .u64 q3]) ?_ 0 rfl,Bk.cell (t:=82) (cs:=[.int .u64 q0,.int .u64 q1,.int .u64 q2,.int .u64 q3]) ?_ 1 rfl,Bk.cell (t:=82) (cs:=[.int .u64 q0,.int .u64 q1,.int .u64 q2,.int .u64 q3]) ?_ 2 rfl,Bk.cell (t:=82) (cs:=[.int .u64 q0,.int .u64 q1,.int .u64 q2,.int .u64 q3]) ?_ 3 rfl⟩) <;> ((repeat (first|(with_reducible assumption)|((with_reducible refine bkW ?_);(first|rfl|(simp only [wsA,wsS,wsD,wsN];done)))|(with_reducible first|refine bkA ?_ _|refine bkD ?_|refine bkN ?_ _)|((with_reducible refine bkF ?_ ?_ _);focus (simp only [];omega))|((with_reducible refine bkB (by assumption) ?_ ?_);focus (go_size;done))));done))))) (first | (go_at_call 123;(with_reducible refine (HP.out _).mono ?_);rintro _ w4 ⟨rfl,hb4⟩;have hb4s:=hb4.size;(try simp only [wsA,wsS,wsD,wsN] at hb4s);obtain ⟨hb4c,hb4f⟩:=bcell hb4;(try have : w.heap.size < w4.heap.size:=by omega);(try have : w.heap.size + 1 < w4.heap.size:=by omega);(try have : w.heap.size + 1 + 1 < w4.heap.size:=by omega);(try have : w.heap.size + 1 + 1 + 1 < w4.heap.size:=by omega);(try have : w2.heap.size < w4.heap.size:=by omega);(try have : w2.heap.size + 1 < w4.heap.size:=by omega);(try have : w2.heap.size + 1 + 1 < w4.heap.size:=by omega);(try have : w2.heap.size + 1 + 1 + 1 < w4.heap.size:=by omega);(try have : w3.heap.size < w4.heap.size:=by omega);(try have : w3.heap.size + 1 < w4.heap.size:=by omega);(try have : w3.heap.size + 1 + 1 < w4.heap.size:=by omega);(try have : w3.heap.size + 1 + 1 + 1 < w4.heap.size:=by omega)) | (go_at_call 121;(with_reducible refine (HT.out _).mono ?_);rintro _ w5 ⟨rfl,hb5⟩;have hb5s:=hb5.size;(try simp only [wsA,wsS,wsD,wsN] at hb5s);obtain ⟨hb5c,hb5f⟩:=bcell hb5;(try have : w.heap.size < w5.heap.size:=by omega);(try have : w.heap.size + 1 < w5.heap.size:=by omega);(try have : w.heap.size + 1 + 1 < w5.heap.size:=by omega);(try have : w.heap.size + 1 + 1 + 1 < w5.heap.size:=by omega);have zr : Bk w5 (w.heap.size + 1 + 1) 32 [.bool false,.int .u64 0,.int .u64 0,.int .i64 0]:=(by (repeat (first|(with_reducible assumption)|((with_reducible refine bkW ?_);(first|rfl|(simp only [wsA,wsS,wsD,wsN];done)))|(with_reducible first|refine bkA ?_ _|refine bkD ?_|refine bkN ?_ _)|((with_reducible refine bkF ?_ ?_ _);focus (simp only [];omega))|((with_reducible refine bkB (by assumption) ?_ ?_);focus (go_size;done)))));have zr_0:=zr.cell 0 rfl;have zr_1:=zr.cell 1 rfl;have zr_2:=zr.cell 2 rfl;have zr_3:=zr.cell 3 rfl;have zr_4:=zr.frozen 0;have zr_5:=zr.frozen 1;have zr_6:=zr.frozen 2;have zr_7:=zr.frozen 3;have zrl:=zr.lt;clear hb5c hb5f;(try have : w2.heap.size < w5.heap.size:=by omega);(try have : w2.heap.size + 1 < w5.heap.size:=by omega);(try have : w2.heap.size + 1 + 1 < w5.heap.size:=by omega);(try have : w2.heap.size + 1 + 1 + 1 < w5.heap.size:=by omega);(try have : w3.heap.size < w5.heap.size:=by omega);(try have : w3.heap.size + 1 < w5.heap.size:=by omega);(try have : w3.heap.size + 1 + 1 < w5.heap.size:=by omega);(try have : w3.heap.size + 1 + 1 + 1 < w5.heap.size:=by omega);(try have : w4.heap.size < w5.heap.size:=by omega);(try have : w4.heap.size + 1 < w5.heap.size:=by omega);(try have : w4.heap.size + 1 + 1 < w5.heap.size:=by omega);(try have : w4.heap.size + 1 + 1 + 1 < w5.heap.size:=by omega)))
   all_goals
    refine wp_named (fun W => Bk W (w.heap.size + 1 + 1) 32 [.bool (sg b' C),.int .u64 (wd C 1),.int .u64 (wd C 0),.int .i64 (S : Int)] ∧ Below w.heap.size w W) ⟨?h1, ?h2⟩ ?_
    case h1 => (first | ((repeat (first|(with_reducible assumption)|((with_reducible refine bkW ?_);(first|rfl|(simp only [wsA,wsS,wsD,wsN];done)))|(with_reducible first|refine bkA ?_ _|refine bkD ?_|refine bkN ?_ _)|((with_reducible refine bkF ?_ ?_ _);focus (simp only [];omega))|((with_reducible refine bkB (by assumption) ?_ ?_);focus (go_size;done))));done) | ((repeat (first | (with_reducible refine Bk.alloc ?_ _) | (with_reducible refine Bk.drew ?_) | ((with_reducible refine Bk.far ?_ ?_ _);rotate_left;focus (simp only [];omega))));(refine ((((?_ : Bk _ _ _ [.bool false,.int .u64 0,.int .u64 0,.int .i64 0]).set_ 0 _).set_ 1 _).set_ 2 _).set_ 3 _);(repeat (first|(with_reducible assumption)|((with_reducible refine bkW ?_);(first|rfl|(simp only [wsA,wsS,wsD,wsN];done)))|(with_reducible first|refine bkA ?_ _|refine bkD ?_|refine bkN ?_ _)|((with_reducible refine bkF ?_ ?_ _);focus (simp only [];omega))|((with_reducible refine bkB (by assumption) ?_ ?_);focus (go_size;done)))));done)
    case h2 => ((repeat' first|(with_reducible first|exact blR _ _|assumption|refine blD ?_|refine blN ?_ _)|((with_reducible first|refine blA ?_ ?_ _|refine blS ?_ ?_ _|refine blT (by assumption) ?_ ?_);focus (go_size;done)));done)
    rintro W ⟨k1,mb⟩
    have k1_0:=k1.cell 0 rfl
    have k1_1:=k1.cell 1 rfl
    have k1_2:=k1.cell 2 rfl
    have k1_3:=k1.cell 3 rfl
    have k1_4:=k1.frozen 0
    have k1_5:=k1.frozen 1
    have k1_6:=k1.frozen 2
    have k1_7:=k1.frozen 3
    go_wp2_with fail
    refine bodyPost_ret (by simp [results,Tryz.results91,go_sem, *];try rfl) rfl ?_
    exact ⟨rfl,by (repeat' first|(with_reducible first|exact blR _ _|assumption|refine blD ?_|refine blN ?_ _)|((with_reducible first|refine blA ?_ ?_ _|refine blS ?_ ?_ _|refine blT (by assumption) ?_ ?_);focus (go_size;done)))⟩
end Go.Proofs.YtkjecoanlppeaaaGreatDoor



namespace Go.Proofs.YtkjecoanlppeaaaGreatDoor
open Go.RowKit

set_option maxRecDepth 100000 in
set_option maxHeartbeats 8000000 in
theorem dcmp_ok (b : Bool) (c s : Nat) (b' : Bool) (c' s' : Nat) (h : dform b c s = true) (h' : dform b' c' s' = true) (hc : c < B34) (hc' : c' < B34) (hs : s ≤ 18) (hs' : s' ≤ 18) (w : World) :
  Calls Tryz.prog 36 #[.agg #[.bool b,.int .u64 (wd (c) 1),.int .u64 (wd (c) 0),.int .i64 s],.agg #[.bool b',.int .u64 (wd (c') 1),.int .u64 (wd (c') 0),.int .i64 s']] w fun e w' => e = .returned (.tuple #[.int .i64 (ordD b (unit c s) b' (unit c' s')),.int .i64 0]) ∧ Below w.heap.size w w':=by
 obtain ⟨m,hm⟩ : ∃ m,m = max s s':=⟨_,rfl⟩
 rw [ord_units b b' c c' s s' m (by omega) (by omega) (by omega)]
 have HF:=Lib.hid (fun g W hg => formed_two b c s (Nat.lt_trans hc B34_lt) b' c' s' (Nat.lt_trans hc' B34_lt) g W hg)
 rw [h,h'] at HF
 simp only [ferr,Bool.and_true,if_true] at HF
 have HB:=Lib.hid (fun W => both_any b c s b' c' s' m hc hc' hs hs' hm W)
 have hX : c * 10 ^ (m - s) < 10 ^ 52:=scaled_lt hc (by omega)
 have hY : c' * 10 ^ (m - s') < 10 ^ 52:=scaled_lt hc' (by omega)
 generalize c * 10 ^ (m - s) = X at *
 generalize c' * 10 ^ (m - s') = Y at *
 have hX2 : X < 2 ^ 256:=Nat.lt_trans hX (by decide)
 have hY2 : Y < 2 ^ 256:=Nat.lt_trans hY (by decide)
 have HO:=Lib.hid (fun W => order_any X Y hX2 hY2 W)
 have HP:=Lib.hid (fun W => order_any Y X hY2 hX2 W)
 clear h h' hm hX hY hX2 hY2
 unfold ordD
 generalize cmpN X Y = c1 at *
 generalize cmpN Y X = c2 at *
 obtain ⟨sI,hsI⟩ : ∃ sI : Int,sI = (s : Int):=⟨_,rfl⟩
 obtain ⟨sJ,hsJ⟩ : ∃ sJ : Int,sJ = (s' : Int):=⟨_,rfl⟩
 rw [← hsI,← hsJ] at HF HB
 rw [← hsI,← hsJ]
 clear hsI hsJ hs hs'
 obtain ⟨s,rfl⟩ : ∃ s,s = sI:=⟨_,rfl⟩
 obtain ⟨s',rfl⟩ : ∃ s',s' = sJ:=⟨_,rfl⟩
 generalize wd X 0 = p0 at *
 generalize wd X 1 = p1 at *
 generalize wd X 2 = p2 at *
 generalize wd X 3 = p3 at *
 generalize wd Y 0 = q0 at *
 generalize wd Y 1 = q1 at *
 generalize wd Y 2 = q2 at *
 generalize wd Y 3 = q3 at *
 generalize wd c 0 = x0 at *
 generalize wd c 1 = x1 at *
 generalize wd c' 0 = y0 at *
 generalize wd c' 1 = y1 at *
 clear hc hc'
 cases b <;> cases b' <;> simp only [Bool.false_eq_true,if_true,if_false,reduceCtorEq]
 ·obtain ⟨b,hb⟩ : ∃ b,b = false:=⟨_,rfl⟩
  go_enter Tryz.func36,Tryz.ntmps36
  go_wp2_with fail
  (with_reducible refine (HF.out _ _ ?hg).mono ?_)
  case hg => ((repeat (first|(with_reducible assumption)|((with_reducible refine bkW ?_);(first|rfl|(simp only [wsA,wsS,wsD,wsN];done)))|(with_reducible first|refine bkA ?_ _|refine bkD ?_|refine bkN ?_ _)|((with_reducible refine bkF ?_ ?_ _);focus (simp only [];omega))|((with_reducible refine bkB (by assumption) ?_ ?_);focus (go_size;done))));done)
  rintro _ w1 ⟨rfl,hb1⟩;have hb1s:=hb1.size;(try simp only [wsA,wsS,wsD,wsN] at hb1s);obtain ⟨hb1c,hb1f⟩:=bcell hb1;(try have : w.heap.size < w1.heap.size:=by omega);(try have : w.heap.size + 1 < w1.heap.size:=by omega);(try have : w.heap.size + 1 + 1 < w1.heap.size:=by omega);(try have : w.heap.size + 1 + 1 + 1 < w1.heap.size:=by omega)
  have ka : Bk w1 (w.heap.size) 32 [.bool false,.int .u64 x1,.int .u64 x0,.int .i64 s]:=by (repeat (first|(with_reducible assumption)|((with_reducible refine bkW ?_);(first|rfl|(simp only [wsA,wsS,wsD,wsN];done)))|(with_reducible first|refine bkA ?_ _|refine bkD ?_|refine bkN ?_ _)|((with_reducible refine bkF ?_ ?_ _);focus (simp only [];omega))|((with_reducible refine bkB (by assumption) ?_ ?_);focus (go_size;done))))
  have ka_0:=ka.cell 0 rfl
  have ka_1:=ka.cell 1 rfl
  have ka_2:=ka.cell 2 rfl
  have ka_3:=ka.cell 3 rfl
  have ka_4:=ka.frozen 0
  have ka_5:=ka.frozen 1
  have ka_6:=ka.frozen 2
  have ka_7:=ka.frozen 3
  have kal:=ka.lt
  have kb : Bk w1 (w.heap.size + 1) 32 [.bool false,.int .u64 y1,.int .u64 y0,.int .i64 s']:=by (repeat (first|(with_reducible assumption)|((with_reducible refine bkW ?_);(first|rfl|(simp only [wsA,wsS,wsD,wsN];done)))|(with_reducible first|refine bkA ?_ _|refine bkD ?_|refine bkN ?_ _)|((with_reducible refine bkF ?_ ?_ _);focus (simp only [];omega))|((with_reducible refine bkB (by assumption) ?_ ?_);focus (go_size;done))))
  have kb_0:=kb.cell 0 rfl
  have kb_1:=kb.cell 1 rfl
  have kb_2:=kb.cell 2 rfl
  have kb_3:=kb.cell 3 rfl
  have kb_4:=kb.frozen 0
  have kb_5:=kb.frozen 1
  have kb_6:=kb.frozen 2
  have kb_7:=kb.frozen 3
  have kbl:=kb.lt
  clear hb1c hb1f
  go_wp2_with fail
  refine (HB.out _).mono ?_
  rintro _ w2 ⟨rfl,hb2⟩;have hb2s:=hb2.size;(try simp only [wsA,wsS,wsD,wsN] at hb2s);obtain ⟨hb2c,hb2f⟩:=bcell hb2;(try have : w.heap.size < w2.heap.size:=by omega);(try have : w.heap.size + 1 < w2.heap.size:=by omega);(try have : w.heap.size + 1 + 1 < w2.heap.size:=by omega);(try have : w.heap.size + 1 + 1 + 1 < w2.heap.size:=by omega)
  have ja : Bk w2 (w.heap.size) 32 [.bool false,.int .u64 x1,.int .u64 x0,.int .i64 s]:=by (repeat (first|(with_reducible assumption)|((with_reducible refine bkW ?_);(first|rfl|(simp only [wsA,wsS,wsD,wsN];done)))|(with_reducible first|refine bkA ?_ _|refine bkD ?_|refine bkN ?_ _)|((with_reducible refine bkF ?_ ?_ _);focus (simp only [];omega))|((with_reducible refine bkB (by assumption) ?_ ?_);focus (go_size;done))))
  have jb : Bk w2 (w.heap.size + 1) 32 [.bool false,.int .u64 y1,.int .u64 y0,.int .i64 s']:=by (repeat (first|(with_reducible assumption)|((with_reducible refine bkW ?_);(first|rfl|(simp only [wsA,wsS,wsD,wsN];done)))|(with_reducible first|refine bkA ?_ _|refine bkD ?_|refine bkN ?_ _)|((with_reducible refine bkF ?_ ?_ _);focus (simp only [];omega))|((with_reducible refine bkB (by assumption) ?_ ?_);focus (go_size;done))))
  clear hb2c hb2f ka_0 ka_1 ka_2 ka_3 ka_4 ka_5 ka_6 ka_7 kb_0 kb_1 kb_2 kb_3 kb_4 kb_5 kb_6 kb_7 ka kb
  have ja_0:=ja.cell 0 rfl
  have ja_1:=ja.cell 1 rfl
  have ja_2:=ja.cell 2 rfl
  have ja_3:=ja.cell 3 rfl
  have ja_4:=ja.frozen 0
  have ja_5:=ja.frozen 1
  have ja_6:=ja.frozen 2
  have ja_7:=ja.frozen 3
  have jb_0:=jb.cell 0 rfl
  have jb_1:=jb.cell 1 rfl
  have jb_2:=jb.cell 2 rfl
  have jb_3:=jb.cell 3 rfl
  have jb_4:=jb.frozen 0
  have jb_5:=jb.frozen 1
  have jb_6:=jb.frozen 2
  have jb_7:=jb.frozen 3
  have jal:=ja.lt
  have jbl:=jb.lt
  clear ja jb
  go_wp2_with fail
  refine (HO.out _).mono ?_
  rintro _ w3 ⟨rfl,hb3⟩;have hb3s:=hb3.size;(try simp only [wsA,wsS,wsD,wsN] at hb3s);obtain ⟨hb3c,hb3f⟩:=bcell hb3;(try have : w.heap.size < w3.heap.size:=by omega);(try have : w.heap.size + 1 < w3.heap.size:=by omega);(try have : w.heap.size + 1 + 1 < w3.heap.size:=by omega);(try have : w.heap.size + 1 + 1 + 1 < w3.heap.size:=by omega)
  go_wp2_with fail
  go_ret2
  exact ⟨rfl,by (repeat' first|(with_reducible first|exact blR _ _|assumption|refine blD ?_|refine blN ?_ _)|((with_reducible first|refine blA ?_ ?_ _|refine blS ?_ ?_ _|refine blT (by assumption) ?_ ?_);focus (go_size;done)))⟩
 ·
  go_enter Tryz.func36,Tryz.ntmps36
  go_wp2_with fail
  (with_reducible refine (HF.out _ _ ?hg).mono ?_)
  case hg => ((repeat (first|(with_reducible assumption)|((with_reducible refine bkW ?_);(first|rfl|(simp only [wsA,wsS,wsD,wsN];done)))|(with_reducible first|refine bkA ?_ _|refine bkD ?_|refine bkN ?_ _)|((with_reducible refine bkF ?_ ?_ _);focus (simp only [];omega))|((with_reducible refine bkB (by assumption) ?_ ?_);focus (go_size;done))));done)
  rintro _ w1 ⟨rfl,hb1⟩;have hb1s:=hb1.size;(try simp only [wsA,wsS,wsD,wsN] at hb1s);obtain ⟨hb1c,hb1f⟩:=bcell hb1;(try have : w.heap.size < w1.heap.size:=by omega);(try have : w.heap.size + 1 < w1.heap.size:=by omega);(try have : w.heap.size + 1 + 1 < w1.heap.size:=by omega);(try have : w.heap.size + 1 + 1 + 1 < w1.heap.size:=by omega)
  have ka : Bk w1 (w.heap.size) 32 [.bool false,.int .u64 x1,.int .u64 x0,.int .i64 s]:=by (repeat (first|(with_reducible assumption)|((with_reducible refine bkW ?_);(first|rfl|(simp only [wsA,wsS,wsD,wsN];done)))|(with_reducible first|refine bkA ?_ _|refine bkD ?_|refine bkN ?_ _)|((with_reducible refine bkF ?_ ?_ _);focus (simp only [];omega))|((with_reducible refine bkB (by assumption) ?_ ?_);focus (go_size;done))))
  have ka_0:=ka.cell 0 rfl
  have ka_1:=ka.cell 1 rfl
  have ka_2:=ka.cell 2 rfl
  have ka_3:=ka.cell 3 rfl
  have ka_4:=ka.frozen 0
  have ka_5:=ka.frozen 1
  have ka_6:=ka.frozen 2
  have ka_7:=ka.frozen 3
  have kal:=ka.lt
  have kb : Bk w1 (w.heap.size + 1) 32 [.bool true,.int .u64 y1,.int .u64 y0,.int .i64 s']:=by (repeat (first|(with_reducible assumption)|((with_reducible refine bkW ?_);(first|rfl|(simp only [wsA,wsS,wsD,wsN];done)))|(with_reducible first|refine bkA ?_ _|refine bkD ?_|refine bkN ?_ _)|((with_reducible refine bkF ?_ ?_ _);focus (simp only [];omega))|((with_reducible refine bkB (by assumption) ?_ ?_);focus (go_size;done))))
  have kb_0:=kb.cell 0 rfl
  have kb_1:=kb.cell 1 rfl
  have kb_2:=kb.cell 2 rfl
  have kb_3:=kb.cell 3 rfl
  have kb_4:=kb.frozen 0
  have kb_5:=kb.frozen 1
  have kb_6:=kb.frozen 2
  have kb_7:=kb.frozen 3
  have kbl:=kb.lt
  clear hb1c hb1f ka kb
  go_wp2_with fail
  go_ret2
  exact ⟨rfl,by (repeat' first|(with_reducible first|exact blR _ _|assumption|refine blD ?_|refine blN ?_ _)|((with_reducible first|refine blA ?_ ?_ _|refine blS ?_ ?_ _|refine blT (by assumption) ?_ ?_);focus (go_size;done)))⟩
 ·
  go_enter Tryz.func36,Tryz.ntmps36
  go_wp2_with fail
  (with_reducible refine (HF.out _ _ ?hg).mono ?_)
  case hg => ((repeat (first|(with_reducible assumption)|((with_reducible refine bkW ?_);(first|rfl|(simp only [wsA,wsS,wsD,wsN];done)))|(with_reducible first|refine bkA ?_ _|refine bkD ?_|refine bkN ?_ _)|((with_reducible refine bkF ?_ ?_ _);focus (simp only [];omega))|((with_reducible refine bkB (by assumption) ?_ ?_);focus (go_size;done))));done)
  rintro _ w1 ⟨rfl,hb1⟩;have hb1s:=hb1.size;(try simp only [wsA,wsS,wsD,wsN] at hb1s);obtain ⟨hb1c,hb1f⟩:=bcell hb1;(try have : w.heap.size < w1.heap.size:=by omega);(try have : w.heap.size + 1 < w1.heap.size:=by omega);(try have : w.heap.size + 1 + 1 < w1.heap.size:=by omega);(try have : w.heap.size + 1 + 1 + 1 < w1.heap.size:=by omega)
  have ka : Bk w1 (w.heap.size) 32 [.bool true,.int .u64 x1,.int .u64 x0,.int .i64 s]:=by (repeat (first|(with_reducible assumption)|((with_reducible refine bkW ?_);(first|rfl|(simp only [wsA,wsS,wsD,wsN];done)))|(with_reducible first|refine bkA ?_ _|refine bkD ?_|refine bkN ?_ _)|((with_reducible refine bkF ?_ ?_ _);focus (simp only [];omega))|((with_reducible refine bkB (by assumption) ?_ ?_);focus (go_size;done))))
  have ka_0:=ka.cell 0 rfl
  have ka_1:=ka.cell 1 rfl
  have ka_2:=ka.cell 2 rfl
  have ka_3:=ka.cell 3 rfl
  have ka_4:=ka.frozen 0
  have ka_5:=ka.frozen 1
  have ka_6:=ka.frozen 2
  have ka_7:=ka.frozen 3
  have kal:=ka.lt
  have kb : Bk w1 (w.heap.size + 1) 32 [.bool false,.int .u64 y1,.int .u64 y0,.int .i64 s']:=by (repeat (first|(with_reducible assumption)|((with_reducible refine bkW ?_);(first|rfl|(simp only [wsA,wsS,wsD,wsN];done)))|(with_reducible first|refine bkA ?_ _|refine bkD ?_|refine bkN ?_ _)|((with_reducible refine bkF ?_ ?_ _);focus (simp only [];omega))|((with_reducible refine bkB (by assumption) ?_ ?_);focus (go_size;done))))
  have kb_0:=kb.cell 0 rfl
  have kb_1:=kb.cell 1 rfl
  have kb_2:=kb.cell 2 rfl
  have kb_3:=kb.cell 3 rfl
  have kb_4:=kb.frozen 0
  have kb_5:=kb.frozen 1
  have kb_6:=kb.frozen 2
  have kb_7:=kb.frozen 3
  have kbl:=kb.lt
  clear hb1c hb1f ka kb
  go_wp2_with fail
  go_ret2
  exact ⟨rfl,by (repeat' first|(with_reducible first|exact blR _ _|assumption|refine blD ?_|refine blN ?_ _)|((with_reducible first|refine blA ?_ ?_ _|refine blS ?_ ?_ _|refine blT (by assumption) ?_ ?_);focus (go_size;done)))⟩
 ·obtain ⟨b,hb⟩ : ∃ b,b = true:=⟨_,rfl⟩
  go_enter Tryz.func36,Tryz.ntmps36
  go_wp2_with fail
  (with_reducible refine (HF.out _ _ ?hg).mono ?_)
  case hg => ((repeat (first|(with_reducible assumption)|((with_reducible refine bkW ?_);(first|rfl|(simp only [wsA,wsS,wsD,wsN];done)))|(with_reducible first|refine bkA ?_ _|refine bkD ?_|refine bkN ?_ _)|((with_reducible refine bkF ?_ ?_ _);focus (simp only [];omega))|((with_reducible refine bkB (by assumption) ?_ ?_);focus (go_size;done))));done)
  rintro _ w1 ⟨rfl,hb1⟩;have hb1s:=hb1.size;(try simp only [wsA,wsS,wsD,wsN] at hb1s);obtain ⟨hb1c,hb1f⟩:=bcell hb1;(try have : w.heap.size < w1.heap.size:=by omega);(try have : w.heap.size + 1 < w1.heap.size:=by omega);(try have : w.heap.size + 1 + 1 < w1.heap.size:=by omega);(try have : w.heap.size + 1 + 1 + 1 < w1.heap.size:=by omega)
  have ka : Bk w1 (w.heap.size) 32 [.bool true,.int .u64 x1,.int .u64 x0,.int .i64 s]:=by (repeat (first|(with_reducible assumption)|((with_reducible refine bkW ?_);(first|rfl|(simp only [wsA,wsS,wsD,wsN];done)))|(with_reducible first|refine bkA ?_ _|refine bkD ?_|refine bkN ?_ _)|((with_reducible refine bkF ?_ ?_ _);focus (simp only [];omega))|((with_reducible refine bkB (by assumption) ?_ ?_);focus (go_size;done))))
  have ka_0:=ka.cell 0 rfl
  have ka_1:=ka.cell 1 rfl
  have ka_2:=ka.cell 2 rfl
  have ka_3:=ka.cell 3 rfl
  have ka_4:=ka.frozen 0
  have ka_5:=ka.frozen 1
  have ka_6:=ka.frozen 2
  have ka_7:=ka.frozen 3
  have kal:=ka.lt
  have kb : Bk w1 (w.heap.size + 1) 32 [.bool true,.int .u64 y1,.int .u64 y0,.int .i64 s']:=by (repeat (first|(with_reducible assumption)|((with_reducible refine bkW ?_);(first|rfl|(simp only [wsA,wsS,wsD,wsN];done)))|(with_reducible first|refine bkA ?_ _|refine bkD ?_|refine bkN ?_ _)|((with_reducible refine bkF ?_ ?_ _);focus (simp only [];omega))|((with_reducible refine bkB (by assumption) ?_ ?_);focus (go_size;done))))
  have kb_0:=kb.cell 0 rfl
  have kb_1:=kb.cell 1 rfl
  have kb_2:=kb.cell 2 rfl
  have kb_3:=kb.cell 3 rfl
  have kb_4:=kb.frozen 0
  have kb_5:=kb.frozen 1
  have kb_6:=kb.frozen 2
  have kb_7:=kb.frozen 3
  have kbl:=kb.lt
  clear hb1c hb1f
  go_wp2_with fail
  refine (HB.out _).mono ?_
  rintro _ w2 ⟨rfl,hb2⟩;have hb2s:=hb2.size;(try simp only [wsA,wsS,wsD,wsN] at hb2s);obtain ⟨hb2c,hb2f⟩:=bcell hb2;(try have : w.heap.size < w2.heap.size:=by omega);(try have : w.heap.size + 1 < w2.heap.size:=by omega);(try have : w.heap.size + 1 + 1 < w2.heap.size:=by omega);(try have : w.heap.size + 1 + 1 + 1 < w2.heap.size:=by omega)
  have ja : Bk w2 (w.heap.size) 32 [.bool true,.int .u64 x1,.int .u64 x0,.int .i64 s]:=by (repeat (first|(with_reducible assumption)|((with_reducible refine bkW ?_);(first|rfl|(simp only [wsA,wsS,wsD,wsN];done)))|(with_reducible first|refine bkA ?_ _|refine bkD ?_|refine bkN ?_ _)|((with_reducible refine bkF ?_ ?_ _);focus (simp only [];omega))|((with_reducible refine bkB (by assumption) ?_ ?_);focus (go_size;done))))
  have jb : Bk w2 (w.heap.size + 1) 32 [.bool true,.int .u64 y1,.int .u64 y0,.int .i64 s']:=by (repeat (first|(with_reducible assumption)|((with_reducible refine bkW ?_);(first|rfl|(simp only [wsA,wsS,wsD,wsN];done)))|(with_reducible first|refine bkA ?_ _|refine bkD ?_|refine bkN ?_ _)|((with_reducible refine bkF ?_ ?_ _);focus (simp only [];omega))|((with_reducible refine bkB (by assumption) ?_ ?_);focus (go_size;done))))
  clear hb2c hb2f ka_0 ka_1 ka_2 ka_3 ka_4 ka_5 ka_6 ka_7 kb_0 kb_1 kb_2 kb_3 kb_4 kb_5 kb_6 kb_7 ka kb
  have ja_0:=ja.cell 0 rfl
  have ja_1:=ja.cell 1 rfl
  have ja_2:=ja.cell 2 rfl
  have ja_3:=ja.cell 3 rfl
  have ja_4:=ja.frozen 0
  have ja_5:=ja.frozen 1
  have ja_6:=ja.frozen 2
  have ja_7:=ja.frozen 3
  have jb_0:=jb.cell 0 rfl
  have jb_1:=jb.cell 1 rfl
  have jb_2:=jb.cell 2 rfl
  have jb_3:=jb.cell 3 rfl
  have jb_4:=jb.frozen 0
  have jb_5:=jb.frozen 1
  have jb_6:=jb.frozen 2
  have jb_7:=jb.frozen 3
  have jal:=ja.lt
  have jbl:=jb.lt
  clear ja jb
  go_wp2_with fail
  refine (HP.out _).mono ?_
  rintro _ w3 ⟨rfl,hb3⟩;have hb3s:=hb3.size;(try simp only [wsA,wsS,wsD,wsN] at hb3s);obtain ⟨hb3c,hb3f⟩:=bcell hb3;(try have : w.heap.size < w3.heap.size:=by omega);(try have : w.heap.size + 1 < w3.heap.size:=by omega);(try have : w.heap.size + 1 + 1 < w3.heap.size:=by omega);(try have : w.heap.size + 1 + 1 + 1 < w3.heap.size:=by omega)
  go_wp2_with fail
  go_ret2
  exact ⟨rfl,by (repeat' first|(with_reducible first|exact blR _ _|assumption|refine blD ?_|refine blN ?_ _)|((with_reducible first|refine blA ?_ ?_ _|refine blS ?_ ?_ _|refine blT (by assumption) ?_ ?_);focus (go_size;done)))⟩
end Go.Proofs.YtkjecoanlppeaaaGreatDoor



namespace Go.Proofs.YtkjecoanlppeaaaGreatDoor
open Go.RowKit

def kindS (k : Int) : VS:=⟨k,false,false,0,0,[],0⟩
def numS (b : Bool) (c : Nat) (s : Int) : VS:=⟨2,false,b,c,s,[],0⟩
/-- a row's value -/
def wholeD (names : List (List UInt8)) (row : List VD) : VD:=if names.length = 1 then vg row 0 else .mk (kindS 6) row names
/-- without a row -/
def noneD (p : Int) : VD:=if 5 ≤ p ∧ p ≤ 7 then .mk (kindS 5) [] [] else if p = 11 then .mk (kindS 2) [] [] else VD.zero
/-- one number more: the decimal so far, the error -/
def sumU (d : Bool × Nat × Nat) (x : VS) : Nat:=sab d.1 (unit d.2.1 d.2.2) x.neg (unit x.coef x.sc.toNat)
def sumB (d : Bool × Nat × Nat) (x : VS) : Bool:=sgn d.1 (unit d.2.1 d.2.2) x.neg (unit x.coef x.sc.toNat)
def numO (d : Bool × Nat × Nat) (x : VS) : Int:=ordD x.neg (unit x.coef x.sc.toNat) d.1 (unit d.2.1 d.2.2)
def numStep (p : Int) (d : Bool × Nat × Nat) (x : VS) : (Bool × Nat × Nat) × Int :=
 if p = 8 then ((sg (sumB d x) (FitC (sumU d x) (10 ^ 18)),FitC (sumU d x) (10 ^ 18),FitS (sumU d x) (10 ^ 18)),FitE (sumU d x) (10 ^ 18))
 else if p = 9 ∧ numO d x < 0 ∨ p = 10 ∧ 0 < numO d x then ((x.neg,x.coef,x.sc.toNat),0) else (d,0)
def numGo (p : Int) : Bool × Nat × Nat → List VD → VD × Int
 | d,[] => (.mk (numS d.1 d.2.1 d.2.2) [] [],0)
 | d,x :: r => if (numStep p d x.s).2 ≠ 0 then (VD.zero,(numStep p d x.s).2) else numGo p (numStep p d x.s).1 r
def decN (x : VS) : Bool × Nat × Nat:=(x.neg,x.coef,x.sc.toNat)
def numD (p : Int) (l : List VD) : VD × Int:=if (l.all fun x => decide (x.s.kind = 2)) = true then numGo p (decN (vg l 0).s) (l.drop 1) else (VD.zero,0)
noncomputable def allSame (l : List VD) : Bool:=l.all fun x => sameB x (vg l 0)
/-- of one row at least -/
noncomputable def decD (p : Int) (l : List VD) (pl : List Nat) : VD × Int :=
 if p = 1 then (if 1 < l.length then (VD.zero,14) else (vg l 0,0))
 else if p = 2 then (if allSame l = true then (vg l 0,0) else (VD.zero,15))
 else if p = 3 then (vg l (ag pl 0),0)
 else if p = 4 then (vg l 0,0)
 else if p = 6 then (.mk (kindS 5) (pl.map (vg l)) [],0)
 else if p = 11 then (.mk (numS false l.length 0) [] [],0)
 else if 8 ≤ p then numD p l
 else (.mk (kindS 5) l [],0)
def rowsD (rows : List (List VD)) (other : List VD) : List (List VD):=if rows.length = 0 ∧ 0 < other.length then [other] else rows
noncomputable def plD (order rows : List (List VD)) : List Nat:=srt (rankF order ∘ lg rows) rows.length
noncomputable def decR (p : Int) (names : List (List UInt8)) (order rows : List (List VD)) : VD × Int :=
 if rows.length = 0 then (noneD p,0) else decD p (rows.map (wholeD names)) (plD order rows)
/-- checked at the end -/
def endD (r : VD × Int) : VD × Int:=if r.2 ≠ 0 then (VD.zero,r.2) else if chkV r.1 ≠ 0 then (VD.zero,chkV r.1) else (r.1,0)
def policyB (p : Int) : Bool:=decide (1 ≤ p) && decide (p ≤ 11)
def formP (p : Int) (names : List (List UInt8)) (order rows : List (List VD)) (other : List VD) : Bool:=formT names order rows other && !(decide (8 ≤ p) && decide (1 < names.length))
noncomputable def decAll (p : Int) (names : List (List UInt8)) (order rows : List (List VD)) (other : List VD) : VD × Int :=
 if policyB p = false then (VD.zero,1) else if formP p names order rows other = false then (VD.zero,2) else endD (decR p names order (rowsD rows other))
theorem numGo_end {p : Int} {l : List VD} {d : Bool × Nat × Nat} {t : Nat} (h : l.length ≤ t) : numGo p d (l.drop t) = (.mk (numS d.1 d.2.1 d.2.2) [] [],0):=by
 rw [List.drop_of_length_le h];rfl
theorem numGo_next {p : Int} {l : List VD} {d : Bool × Nat × Nat} {t : Nat} (h : t < l.length) : numGo p d (l.drop t) = if (numStep p d (vg l t).s).2 ≠ 0 then (VD.zero,(numStep p d (vg l t).s).2) else numGo p (numStep p d (vg l t).s).1 (l.drop (t + 1)):=by
 rw [List.drop_eq_getElem_cons h,← vg_get h];rfl
theorem vg_map (f : List VD → VD) (ls : List (List VD)) {t : Nat} (h : t < ls.length) : vg (ls.map f) t = f (lg ls t):=by
 unfold vg lg
 rw [List.getD_eq_getElem?_getD,List.getD_eq_getElem?_getD,List.getElem?_map,List.getElem?_eq_getElem h];rfl
end Go.Proofs.YtkjecoanlppeaaaGreatDoor



namespace Go.Proofs.YtkjecoanlppeaaaGreatDoor
open Go.RowKit
open Go.ChangeShapes Go.WideShapes Go.ChangeAt
open Go.ChangeMaps (open_string shut_string)

theorem own : ownKnob Tryz.prog.godebug = none:=by kernel_rfl
theorem laidOut : laidOutB Tryz.prog = true:=by kernel_rfl

section
variable {H : Type} {enc : TypeId × Value → H} {W : World} {b0 : Nat} {sp : Nat → Bool} {held : Bool}
/-- how deep: one depth for all of a list -/
theorem RV.mk {d : VD} {A : Option Addr} {C : Nat} {A2 : Option Addr} {C2 : Nat} (h1 : d.s.ok) (h2 : Vls (RV W) W (.slice A d.list.length C) d.list) (h3 : Nms W (.slice A2 d.names.length C2) d.names) : RV W (.slice A d.list.length C) (.slice A2 d.names.length C2) d:=by
 have up : ∀ (n : Nat) (k : Nat) (L N : Value) (x : VD),VR n W L N x → VR (n + k) W L N x:=fun n => by
  induction n with
  | zero => intro k L N x h;exact h.elim
  | succ n ih =>
   intro k L N x h
   rw [show n + 1 + k = (n + k) + 1 by omega]
   exact ⟨h.1,h.2.1.imp (fun _ _ _ q => ih k _ _ _ q),h.2.2⟩
 obtain ⟨A',C',e,hc,hr⟩:=h2
 have hall : ∃ m,∀ r,r < d.list.length → ∃ b o A1 C1 A2 C2,A' = some ⟨b,o,none⟩ ∧ At W b (o + r * 10) ((vg d.list r).s.cs ++ [.slice A1 (vg d.list r).list.length C1,.slice A2 (vg d.list r).names.length C2]) ∧ VR m W (.slice A1 (vg d.list r).list.length C1) (.slice A2 (vg d.list r).names.length C2) (vg d.list r):=by
  have key : ∀ n,n ≤ d.list.length → ∃ m,∀ r,r < n → ∃ b o A1 C1 A2 C2,A' = some ⟨b,o,none⟩ ∧ At W b (o + r * 10) ((vg d.list r).s.cs ++ [.slice A1 (vg d.list r).list.length C1,.slice A2 (vg d.list r).names.length C2]) ∧ VR m W (.slice A1 (vg d.list r).list.length C1) (.slice A2 (vg d.list r).names.length C2) (vg d.list r):=fun n => by
   induction n with
   | zero => intro _;exact ⟨0,fun r hr => absurd hr (Nat.not_lt_zero _)⟩
   | succ n ih =>
    intro hn
    obtain ⟨m,hm⟩:=ih (by omega)
    obtain ⟨b,o,A1,C1,A2,C2,q1,q2,m2,q3⟩:=hr n (by omega)
    refine ⟨m + m2,fun r hr => ?_⟩
    rcases Nat.lt_or_ge r n with h' | h'
    ·obtain ⟨b',o',A1',C1',A2',C2',p1,p2,p3⟩:=hm r h'
     exact ⟨b',o',A1',C1',A2',C2',p1,p2,up m m2 _ _ _ p3⟩
    ·obtain rfl : r = n:=by omega
     exact ⟨b,o,A1,C1,A2,C2,q1,q2,by rw [Nat.add_comm];exact up m2 m _ _ _ q3⟩
  exact key _ (Nat.le_refl _)
 obtain ⟨m,hm⟩:=hall
 exact ⟨m + 1,h1,⟨A',C',e,hc,hm⟩,h3⟩
end
end Go.Proofs.YtkjecoanlppeaaaGreatDoor



namespace Go.Proofs.YtkjecoanlppeaaaGreatDoor
open Go.RowKit

/-- the same below h0, and from lo up to hi -/
def Agr (h0 lo hi : Nat) (w w' : World) : Prop:=∀ b,b < h0 ∨ (lo ≤ b ∧ b < hi) → w'.heap[b]? = w.heap[b]?
theorem Agr.cell {h0 lo hi : Nat} {w w' : World} (h : Agr h0 lo hi w w') {b : Nat} (hb : b < h0 ∨ (lo ≤ b ∧ b < hi)) (i : Nat) : w'.cell? ⟨b,i,none⟩ = w.cell? ⟨b,i,none⟩:=World.cell?_of_block (a:=⟨b,i,none⟩) (h b hb)
theorem Agr.sub {h0 lo hi lo' hi' : Nat} {w w' : World} (h : Agr h0 lo hi w w') (h1 : lo ≤ lo') (h2 : hi' ≤ hi) : Agr h0 lo' hi' w w':=fun b hb => h b (by omega)
theorem At.agree {w w' : World} {n b q : Nat} {cs : List Value} (h : At w b q cs) (hn : w.heap.size ≤ n) (ha : ∀ b,b < n → w'.heap[b]? = w.heap[b]?) : At w' b q cs:=fun j hj => by
 have e:=h j hj
 rw [List.getElem?_eq_getElem hj] at e
 exact (World.cell?_of_block (a:=⟨b,q + j,none⟩) (ha b (Nat.lt_of_lt_of_le (vcell_lt e) hn))).trans (h j hj)
theorem Nms.agree {w w' : World} {n : Nat} {N : Value} {l : List (List UInt8)} (h : Nms w N l) (hn : w.heap.size ≤ n) (ha : ∀ b,b < n → w'.heap[b]? = w.heap[b]?) : Nms w' N l:=by
 obtain ⟨A,C,h1,h2,h3⟩:=h
 refine ⟨A,C,h1,h2,fun r hr => ?_⟩
 obtain ⟨b,o,h4,h5,h6⟩:=h3 r hr
 exact ⟨b,o,h4,(World.cell?_of_block (a:=⟨b,o + r,none⟩) (ha b (Nat.lt_of_lt_of_le (vcell_lt h5) hn))).trans h5,h6⟩
theorem Vls.agree {R R' : Value → Value → VD → Prop} {w w' : World} {n : Nat} {L : Value} {l : List VD} (h : Vls R w L l) (hn : w.heap.size ≤ n) (ha : ∀ b,b < n → w'.heap[b]? = w.heap[b]?) (hR : ∀ L N d,R L N d → R' L N d) : Vls R' w' L l:=by
 obtain ⟨A,C,h1,h2,h3⟩:=h
 refine ⟨A,C,h1,h2,fun r hr => ?_⟩
 obtain ⟨b,o,A1,C1,A2,C2,h4,h5,h6⟩:=h3 r hr
 exact ⟨b,o,A1,C1,A2,C2,h4,h5.agree hn ha,hR _ _ _ h6⟩
theorem VR.agree {w w' : World} {m : Nat} (hm : w.heap.size ≤ m) (ha : ∀ b,b < m → w'.heap[b]? = w.heap[b]?) : ∀ {n : Nat} {L N : Value} {d : VD},VR n w L N d → VR n w' L N d
 | 0,_,_,_,h => h
 | n + 1,_,_,_,⟨h1,h2,h3⟩ => ⟨h1,h2.agree hm ha (fun _ _ _ h => h.agree hm ha),h3.agree hm ha⟩
theorem RV.agree {w w' : World} {m : Nat} {L N : Value} {d : VD} (h : RV w L N d) (hm : w.heap.size ≤ m) (ha : ∀ b,b < m → w'.heap[b]? = w.heap[b]?) : RV w' L N d:=by
 obtain ⟨n,h⟩:=h
 exact ⟨n,h.agree hm ha⟩
/-- a value that reads as it reads as long as the blocks below h0, and those from lo up to hi, stand -/
def VB (h0 lo hi : Nat) (w : World) (d : VD) (A : Option Addr) (C : Nat) (A2 : Option Addr) (C2 : Nat) : Prop:=∀ w',Agr h0 lo hi w w' → VA w' d A C A2 C2
theorem VB.va {h0 lo hi : Nat} {w : World} {d : VD} {A : Option Addr} {C : Nat} {A2 : Option Addr} {C2 : Nat} (h : VB h0 lo hi w d A C A2 C2) : VA w d A C A2 C2:=h w fun _ _ => rfl
theorem VB.move {h0 lo hi : Nat} {w w' : World} {d : VD} {A : Option Addr} {C : Nat} {A2 : Option Addr} {C2 : Nat} (h : VB h0 lo hi w d A C A2 C2) (ha : Agr h0 lo hi w w') : VB h0 lo hi w' d A C A2 C2:=fun w2 h2 => h w2 fun b hb => (h2 b hb).trans (ha b hb)
theorem VB.wide {h0 lo hi lo' hi' : Nat} {w : World} {d : VD} {A : Option Addr} {C : Nat} {A2 : Option Addr} {C2 : Nat} (h : VB h0 lo hi w d A C A2 C2) (h1 : lo' ≤ lo) (h2 : hi ≤ hi') : VB h0 lo' hi' w d A C A2 C2:=fun w2 ha => h w2 (ha.sub h1 h2)
theorem VB.base {w0 w : World} {d : VD} {A : Option Addr} {C : Nat} {A2 : Option Addr} {C2 : Nat} (h : VA w0 d A C A2 C2) (hb : Below w0.heap.size w0 w) (lo hi : Nat) : VB w0.heap.size lo hi w d A C A2 C2:=fun _ ha =>
 RV.agree h (Nat.le_refl _) fun b hb' => (ha b (.inl hb')).trans (hb.block b hb')
/-- and none of those blocks is bl -/
def VN (B h0 : Nat) (w : World) (bl : Option Nat) (d : VD) (A : Option Addr) (C : Nat) (A2 : Option Addr) (C2 : Nat) : Prop:=∃ lo hi,(B ≤ lo ∨ hi ≤ lo) ∧ hi ≤ w.heap.size ∧ (∀ g,bl = some g → h0 ≤ g ∧ (g < lo ∨ hi ≤ g)) ∧ VB h0 lo hi w d A C A2 C2
theorem VN.va {B h0 : Nat} {w : World} {bl : Option Nat} {d : VD} {A : Option Addr} {C : Nat} {A2 : Option Addr} {C2 : Nat} (h : VN B h0 w bl d A C A2 C2) : VA w d A C A2 C2:=by
 obtain ⟨lo,hi,_,_,_,h⟩:=h
 exact h.va
theorem VN.move {B h0 : Nat} {w w' : World} {bl bl' : Option Nat} {d : VD} {A : Option Addr} {C : Nat} {A2 : Option Addr} {C2 : Nat} (h : VN B h0 w bl d A C A2 C2) (h0w : h0 ≤ w.heap.size) (hs : w.heap.size ≤ w'.heap.size)
  (hk : ∀ b,b < w.heap.size → (b < h0 ∨ some b ≠ bl) → w'.heap[b]? = w.heap[b]?) (hb : ∀ g,bl' = some g → bl = some g ∨ w.heap.size ≤ g) : VN B h0 w' bl' d A C A2 C2:=by
 obtain ⟨lo,hi,hB,h1,h2,h3⟩:=h
 refine ⟨lo,hi,hB,by omega,fun g hg => ?_,h3.move fun b hb' => ?_⟩
 ·rcases hb g hg with e | e
  ·exact h2 g e
  ·exact ⟨by omega,.inr (by omega)⟩
 ·rcases hb' with hb' | hb'
  ·exact hk b (by omega) (.inl hb')
  ·exact hk b (by omega) (.inr fun e => by have:=h2 b e.symm;omega)
theorem VN.base {B : Nat} {w0 w : World} {bl : Option Nat} {d : VD} {A : Option Addr} {C : Nat} {A2 : Option Addr} {C2 : Nat} (h : VA w0 d A C A2 C2) (hb : Below w0.heap.size w0 w) (hbl : ∀ g,bl = some g → w0.heap.size ≤ g) : VN B w0.heap.size w bl d A C A2 C2 :=
 ⟨0,0,.inr (Nat.le_refl _),Nat.zero_le _,fun g hg => ⟨hbl g hg,.inr (Nat.zero_le _)⟩,VB.base h hb 0 0⟩
theorem VN.far {B h0 : Nat} {w : World} {bl : Option Nat} {d : VD} {A : Option Addr} {C : Nat} {A2 : Option Addr} {C2 : Nat} {lo hi : Nat} (h : VB h0 lo hi w d A C A2 C2) (hhi : hi ≤ w.heap.size) (hB : B ≤ lo) (hbl : ∀ g,bl = some g → h0 ≤ g ∧ g < lo) : VN B h0 w bl d A C A2 C2 :=
 ⟨lo,hi,.inl hB,hhi,fun g hg => ⟨(hbl g hg).1,.inl (hbl g hg).2⟩,h⟩
def vcs (d : VD) (A : Option Addr) (C : Nat) (A2 : Option Addr) (C2 : Nat) : List Value:=d.s.cs ++ [.slice A d.list.length C,.slice A2 d.names.length C2]
/-- a row of values in a block of the call's own; the values read as they read whatever becomes of that block -/
def OwnVs (B h0 : Nat) (w : World) (v : Value) (l : List VD) : Prop:=∃ cs : List (List Value),cs.length = l.length ∧ w.ownsRow B 34 10 v l.length cs.flatten ∧ ∀ i,i < l.length → ∃ A C A2 C2,cs[i]? = some (vcs (vg l i) A C A2 C2) ∧ VN B h0 w v.ownBlock (vg l i) A C A2 C2
theorem OwnVs.nil (B h0 : Nat) (w : World) : OwnVs B h0 w (.slice none 0 0) []:=⟨[],rfl,World.ownsRow_nil _ _ _ _,fun i hi => absurd hi (Nat.not_lt_zero _)⟩
theorem OwnVs.below {B h0 : Nat} {w w' : World} {v : Value} {l : List VD} (h : OwnVs B h0 w v l) (h0w : h0 ≤ w.heap.size) (hb : Below w.heap.size w w') : OwnVs B h0 w' v l:=by
 obtain ⟨cs,h1,h2,h3⟩:=h
 refine ⟨cs,h1,h2.kept (row:=none) ⟨hb.os,hb.tape,hb.output,hb.size,fun k hk _ => hb.block k hk⟩ ?_,fun i hi => ?_⟩
 ·cases e : v.ownBlock with
  | none => exact .inl rfl
  | some k => exact .inr (by simp)
 ·obtain ⟨A,C,A2,C2,h4,h5⟩:=h3 i hi
  exact ⟨A,C,A2,C2,h4,h5.move h0w hb.size (fun b hb' _ => hb.block b hb') (fun g hg => .inl hg)⟩
theorem OwnVs.mono {B B' h0 : Nat} {w : World} {v : Value} {l : List VD} (h : OwnVs B h0 w v l) (hB : B' ≤ B) : OwnVs B' h0 w v l:=by
 obtain ⟨cs,h1,h2,h3⟩:=h
 refine ⟨cs,h1,⟨h2.1, ?_⟩,fun i hi => ?_⟩
 rotate_left
 ·obtain ⟨A,C,A2,C2,h4,lo,hi',k1,k2⟩:=h3 i hi
  exact ⟨A,C,A2,C2,h4,lo,hi',by omega,k2⟩
 rcases h2.2 with hn | ⟨g,cap,cur,rfl,hb,rest⟩
 ·exact .inl hn
 ·exact .inr ⟨g,cap,cur,rfl,Nat.le_trans hB hb,rest⟩
theorem OwnVs.lt {B h0 : Nat} {w : World} {v : Value} {l : List VD} (h : OwnVs B h0 w v l) (g : Nat) (hg : v.ownBlock = some g) : B ≤ g ∧ g < w.heap.size:=by
 obtain ⟨cs,_,h2,_⟩:=h
 exact h2.lt g hg
theorem At.new (w : World) (cs : List Value) (t : TypeId) {g : Nat} (hg : g = w.heap.size) : At (w.alloc (.cells cs.toArray t)) g 0 cs:=fun j hj => by
 rw [Nat.zero_add,(Bk.new_ hg).cell j (List.getElem?_eq_getElem hj),List.getElem?_eq_getElem hj]
theorem flat_at : ∀ (cs : List (List Value)) (i j : Nat) (c : List Value),(∀ x ∈ cs,x.length = 10) → cs[i]? = some c → j < 10 → cs.flatten[i * 10 + j]? = c[j]?
 | [],i,j,c,_,h,_ => by simp at h
 | x :: r,0,j,c,hx,h,hj => by
  have e : x = c:=by simpa using h
  have hl:=hx x (by simp)
  rw [List.flatten_cons,List.getElem?_append_left (by omega),e,Nat.zero_mul,Nat.zero_add]
 | x :: r,i + 1,j,c,hx,h,hj => by
  have hl:=hx x (by simp)
  rw [List.flatten_cons,List.getElem?_append_right (by omega),hl]
  have e : (i + 1) * 10 + j - 10 = i * 10 + j:=by omega
  rw [e]
  exact flat_at r i j c (fun y hy => hx y (List.mem_cons_of_mem _ hy)) (by simpa using h) hj
theorem OwnVs.vlsR {B h0 : Nat} {w w' : World} {v : Value} {l : List VD} (h : OwnVs B h0 w v l) (hl : l.length ≤ 1048576) (hag : Agr h0 B w.heap.size w w') : Vls (RV w') w' v l:=by
 obtain ⟨cs,h1,h2,h3⟩:=h
 have hx : ∀ x ∈ cs,x.length = 10:=fun x hx => by
  obtain ⟨i,hi,rfl⟩:=List.getElem_of_mem hx
  obtain ⟨A,C,A2,C2,h4,_⟩:=h3 i (by omega)
  rw [List.getElem?_eq_getElem hi] at h4
  injection h4 with h4
  rw [h4];rfl
 rcases h2.2 with ⟨rfl,h0⟩ | ⟨g,cap,cur,rfl,hBg,hg,h5,h6,h7,h8⟩
 ·rw [List.eq_nil_of_length_eq_zero h0]
  exact ⟨none,0,rfl,⟨by simp,by simp,by decide⟩,fun r hr => absurd hr (Nat.not_lt_zero _)⟩
 ·have hgl : g < w.heap.size:=(Array.getElem?_eq_some_iff.1 hg).1
  have hg' : w'.heap[g]? = some (.cells cur 34 (0,0)):=(hag g (.inr ⟨hBg,hgl⟩)).trans hg
  refine ⟨some ⟨g,0,none⟩,cap,rfl,⟨hl,h5,h6⟩,fun r hr => ?_⟩
  obtain ⟨A,C,A2,C2,h9,lo,hi,k0,k1,k2,hv⟩:=h3 r hr
  refine ⟨g,0,A,C,A2,C2,rfl,fun j hj => ?_,hv w' fun b hb => hag b (by omega)⟩
  have hj10 : j < 10:=hj
  have e:=flat_at cs r j _ hx h9 hj10
  rw [← h8,List.getElem?_take_of_lt (by omega)] at e
  rw [Nat.zero_add,cell_of_row w' g _ cur _ (0,0) hg']
  unfold vcs at e
  rw [← e];simp
theorem OwnVs.vls {B h0 : Nat} {w : World} {v : Value} {l : List VD} (h : OwnVs B h0 w v l) (hl : l.length ≤ 1048576) : Vls (RV w) w v l:=h.vlsR hl fun _ _ => rfl
theorem OwnVs.is {B h0 : Nat} {w : World} {v : Value} {l : List VD} (h : OwnVs B h0 w v l) : ∃ A C,v = .slice A l.length C ∧ l.length ≤ C ∧ C ≤ maxLen:=by
 obtain ⟨cs,h1,h2,h3⟩:=h
 rcases h2.2 with ⟨rfl,h0⟩ | ⟨g,cap,cur,rfl,_,hg,h5,h6,h7,h8⟩
 ·rw [h0];exact ⟨none,0,rfl,Nat.le_refl _,by decide⟩
 ·exact ⟨_,_,rfl,h5,h6⟩
theorem info_val10 : (Tryz.prog.info? 34).map (fun i => (i.zero,i.size,i.bytes)) = some (some (.agg #[.int .i64 0,.bool false,.bool false,.int .u64 0,.int .u64 0,.int .i64 0,.string ⟨#[]⟩,.int .i64 0,.slice none 0 0,.slice none 0 0]),10,120):=by kernel_rfl
theorem vcs_one (d : VD) (A : Option Addr) (C : Nat) (A2 : Option Addr) (C2 : Nat) : ∀ u ∈ vcs d A C A2 C2,u.oneCell' = true:=fun u hu => by
 unfold vcs VS.cs at hu
 simp only [List.cons_append,List.nil_append,List.mem_cons,List.not_mem_nil,or_false] at hu
 rcases hu with rfl | rfl | rfl | rfl | rfl | rfl | rfl | rfl | rfl | rfl <;> rfl
/-- a value is appended -/
theorem wp_pushX {w : World} {o : Oper} {a : Act} {K : Act → World → Prop} {Q : Exit → Act → World → Prop} (s x : Operand)
  (ho : o.op = .call { callee:=.builtin .append,args:=#[s,x],argTypes:=#[24,24] })
  (B h0 : Nat) (h0B : h0 ≤ B) (hB : B ≤ w.heap.size) (v : Value) (l : List VD) (hs : a.eval s = v) (hrow : OwnVs B h0 w v l)
  (b : Nat) (d : VD) (A : Option Addr) (C : Nat) (A2 : Option Addr) (C2 : Nat) (hx : a.eval x = .slice (some ⟨b,0,none⟩) 1 1) (hd : At w b 0 (vcs d A C A2 C2)) (hnew : VN B h0 w v.ownBlock d A C A2 C2) (hlen : l.length ≤ 1000000)
  (h : ∀ g cap w',OwnVs B h0 w' (.slice (some ⟨g,0,none⟩) (l.length + 1) cap) (l ++ [d]) → Below B w w' → g < w'.heap.size → K (a.put o.dst (.slice (some ⟨g,0,none⟩) (l.length + 1) cap)) w') :
  o.wp Tryz.prog a w K Q:=by
 obtain ⟨i0,hi0,hz0,hz1,hz2⟩:=info_parts info_val10
 obtain ⟨cs,q1,q2,q3⟩:=hrow
 refine wp_append_lies w s x 24 ho B 34 i0 _ 10 120 Tryz.underlying24 hi0 hz0 hz1 hz2 rfl (by decide) v l.length cs.flatten hs q2 ⟨b,0,none⟩ 1 1 (vcs d A C A2 C2) hx rfl ?_ (vcs_one d A C A2 C2) (by decide) (by unfold maxLen;omega) (by omega) hB w.heap.size rfl ?_
 ·intro j u hj
  have hj10 : j < (vcs d A C A2 C2).length:=(List.getElem?_eq_some_iff.1 hj).1
  have e:=hd j hj10
  rw [Nat.zero_add] at e
  have hadd : (⟨b,0,none⟩ : Addr).add j = ⟨b,j,none⟩:=by unfold Addr.add;split <;> simp_all
  rw [hadd,e,hj]
 ·intro g cap w' k1 k2 k3 k4
  have hkeep : ∀ b,b < w.heap.size → (b < h0 ∨ some b ≠ v.ownBlock) → w'.heap[b]? = w.heap[b]?:=fun b hb hne => by
   refine k2.block b hb fun e => ?_
   rcases hne with hne | hne
   ·have:=(q2.lt b e.symm).1;omega
   ·exact hne e
  have hbl : ∀ g',(Value.slice (some ⟨g,0,none⟩) (l.length + 1) cap).ownBlock = some g' → v.ownBlock = some g' ∨ w.heap.size ≤ g':=fun g' e => by
   have e' : g = g':=by simpa [Value.ownBlock] using e
   subst e'
   rcases k3 with k3 | k3
   ·exact .inl k3
   ·exact .inr (by omega)
  refine h g cap w' ⟨cs ++ [vcs d A C A2 C2],by simp [q1], ?_,fun i hi => ?_⟩ ⟨k2.os,k2.tape,k2.output,k2.size,fun k hk => k2.block k (Nat.lt_of_lt_of_le hk hB) (fun e => by have:=(q2.lt k e.symm).1;omega)⟩ k4
  ·rw [List.length_append,List.flatten_append,List.flatten_singleton];exact k1
  ·by_cases e : i = l.length
   ·subst e
    refine ⟨A,C,A2,C2, ?_, ?_⟩
    ·rw [List.getElem?_append_right (by omega),q1,Nat.sub_self]
     unfold vg
     rw [List.getD_eq_getElem?_getD,List.getElem?_append_right (Nat.le_refl _),Nat.sub_self];rfl
    ·have e2 : vg (l ++ [d]) l.length = d:=by
      unfold vg
      rw [List.getD_eq_getElem?_getD,List.getElem?_append_right (Nat.le_refl _),Nat.sub_self];rfl
     rw [e2]
     exact hnew.move (Nat.le_trans h0B hB) k2.size hkeep hbl
   ·have hil : i < l.length:=by simp at hi;omega
    obtain ⟨A',C',A2',C2',h3,h4⟩:=q3 i hil
    have e2 : vg (l ++ [d]) i = vg l i:=by
     unfold vg
     rw [List.getD_eq_getElem?_getD,List.getD_eq_getElem?_getD,List.getElem?_append_left hil]
    rw [e2]
    refine ⟨A',C',A2',C2', ?_,h4.move (Nat.le_trans h0B hB) k2.size hkeep hbl⟩
    rw [List.getElem?_append_left (by omega)];exact h3
theorem wpList_pushX {w : World} {ops : Array Oper} {rest : List Oper} {o : Oper} {a : Act} {Q : Exit → Act → World → Prop} (hgd : o.guard = none) (s x : Operand)
  (ho : o.op = .call { callee:=.builtin .append,args:=#[s,x],argTypes:=#[24,24] })
  (B h0 : Nat) (h0B : h0 ≤ B) (hB : B ≤ w.heap.size) (v : Value) (l : List VD) (hs : a.eval s = v) (hrow : OwnVs B h0 w v l)
  (b : Nat) (d : VD) (A : Option Addr) (C : Nat) (A2 : Option Addr) (C2 : Nat) (hx : a.eval x = .slice (some ⟨b,0,none⟩) 1 1) (hd : At w b 0 (vcs d A C A2 C2)) (hnew : VN B h0 w v.ownBlock d A C A2 C2) (hlen : l.length ≤ 1000000)
  (h : ∀ g cap w',OwnVs B h0 w' (.slice (some ⟨g,0,none⟩) (l.length + 1) cap) (l ++ [d]) → Below B w w' → g < w'.heap.size → wpList Tryz.prog ops Q rest (a.put o.dst (.slice (some ⟨g,0,none⟩) (l.length + 1) cap)) w') :
  wpList Tryz.prog ops Q (o :: rest) a w :=
 wpList_plain hgd fun _ hK => wp_pushX s x ho B h0 h0B hB v l hs hrow b d A C A2 C2 hx hd hnew hlen fun g cap w' k1 k2 k3 => hK _ _ (h g cap w' k1 k2 k3)
theorem step_pushX {w : World} {ops : Array Oper} {o : Oper} {a : Act} {K : Act → World → Prop} {Q : Exit → Act → World → Prop} {E : Prop} (hgd : o.guard = none) (s x : Operand)
  (ho : o.op = .call { callee:=.builtin .append,args:=#[s,x],argTypes:=#[24,24] })
  (B h0 : Nat) (h0B : h0 ≤ B) (hB : B ≤ w.heap.size) (v : Value) (l : List VD) (hs : a.eval s = v) (hrow : OwnVs B h0 w v l)
  (b : Nat) (d : VD) (A : Option Addr) (C : Nat) (A2 : Option Addr) (C2 : Nat) (hx : a.eval x = .slice (some ⟨b,0,none⟩) 1 1) (hd : At w b 0 (vcs d A C A2 C2)) (hnew : VN B h0 w v.ownBlock d A C A2 C2) (hlen : l.length ≤ 1000000)
  (h : ∀ g cap w',OwnVs B h0 w' (.slice (some ⟨g,0,none⟩) (l.length + 1) cap) (l ++ [d]) → Below B w w' → g < w'.heap.size → K (a.put o.dst (.slice (some ⟨g,0,none⟩) (l.length + 1) cap)) w') :
  if Region.wanted o (yielded ops a.tmps) = true then Oper.wp Tryz.prog o a w K Q else E:=by
 have hw : Region.wanted o (yielded ops a.tmps) = true:=by simp [Region.wanted,hgd]
 rw [if_pos hw]
 exact wp_pushX s x ho B h0 h0B hB v l hs hrow b d A C A2 C2 hx hd hnew hlen h
end Go.Proofs.YtkjecoanlppeaaaGreatDoor



namespace Go.Proofs.YtkjecoanlppeaaaGreatDoor
open Go.RowKit

/-- a value is handed back whose lists lie in the memory of w0 -/
def RetW (w0 : World) (d : VD) (w : World) (e : Ending) (w' : World) : Prop:=∃ A C A2 C2,e = .returned (vargs d A C A2 C2) ∧ VA w0 d A C A2 C2 ∧ Below w.heap.size w w'
theorem kindS_ok (k : Int) : (kindS k).ok:=⟨by show 0 < 2 ^ 128;decide,by show 0 ≤ 1048576;decide⟩
theorem vls_sub {w : World} {A : Option Addr} {C : Nat} {d : VD} {l : List VD} {nm : List (List UInt8)} {k : Int} {A2 : Option Addr} {C2 : Nat} (h1 : Vls (RV w) w (.slice A l.length C) l) (h2 : Nms w (.slice A2 nm.length C2) nm) : VA w (.mk (kindS k) l nm) A C A2 C2:=RV.mk (d:=.mk (kindS k) l nm) (kindS_ok k) h1 h2
set_option maxRecDepth 100000 in
set_option maxHeartbeats 2000000 in
theorem whole18_any (names : List (List UInt8)) (row : List VD) (N R : Value) (w0 w : World) (hb : Below w0.heap.size w0 w) (hn : Nms w0 N names) (hr : Vls (RV w0) w0 R row) (h2 : names.length = 1 → 0 < row.length) :
  Calls Tryz.prog 89 #[N,R] w (RetW w0 (wholeD names row) w):=by
 obtain ⟨NA,NC,rfl,q1⟩:=hn.is
 obtain ⟨RA,RC,rfl,q2⟩:=hr.is
 by_cases h1 : names.length = 1
 ·have e : wholeD names row = vg row 0:=if_pos h1
  rw [e]
  obtain ⟨b,o,A,C,A2,C2,rfl,hat,hy⟩:=hr.at (h2 h1)
  rw [Nat.zero_mul,Nat.add_zero] at hat
  obtain ⟨a0,a1,a2,a3,a4,a5,a6,a7,a8,a9⟩:=(hat.below hb).val
  have lb:=vcell_lt a0
  have hr0 : (0 : Int) < (row.length : Int):=by have:=h2 h1;omega
  unfold RetW vargs
  obtain ⟨y,hyy⟩ : ∃ y,y = vg row 0:=⟨_,rfl⟩
  rw [← hyy] at a0 a1 a2 a3 a4 a5 a6 a7 a8 a9 hy
  rw [← hyy]
  obtain ⟨n1,hn1⟩ : ∃ n,n = y.list.length:=⟨_,rfl⟩
  obtain ⟨n2,hn2⟩ : ∃ n,n = y.names.length:=⟨_,rfl⟩
  rw [← hn1] at a8 ⊢
  rw [← hn2] at a9 ⊢
  have HY:=Lib.hid hy
  obtain ⟨s,hs⟩ : ∃ s,s = y.s:=⟨_,rfl⟩
  rw [← hs] at a0 a1 a2 a3 a4 a5 a6 a7 ⊢
  unfold vagg
  have hl : names.length = 1:=h1
  rw [h1]
  clear hat hyy hn1 hn2 hs hy hn hr h2 e q1 q2 hl h1
  go_enter Tryz.func89,Tryz.ntmps89
  go_wp2_with fail
  refine bodyPost_ret (by simp [results,Tryz.results89,go_sem, *];try rfl) rfl ?_
  exact ⟨A,C,A2,C2,rfl,HY.out,by (repeat' first|(with_reducible first|exact blR _ _|assumption|refine blD ?_|refine blN ?_ _)|((with_reducible first|refine blA ?_ ?_ _|refine blS ?_ ?_ _|refine blT (by assumption) ?_ ?_);focus (go_size;done)))⟩
 ·have e : wholeD names row = .mk (kindS 6) row names:=if_neg h1
  rw [e]
  have hv : VA w0 (.mk (kindS 6) row names) RA RC NA NC:=vls_sub (d:=VD.zero) hr hn
  have HV:=Lib.hid hv
  have f0 : ((names.length : Int) == 1) = false:=by rw [beq_eq_false_iff_ne];omega
  have hnl : (names.length : Int) ≤ 1048576:=by omega
  clear hv hn hr h2 e h1 q1 q2
  go_enter Tryz.func89,Tryz.ntmps89
  go_wp2_with fail
  refine bodyPost_ret (by simp [results,Tryz.results89,go_sem, *];try rfl) rfl ?_
  exact ⟨RA,RC,NA,NC,by rw [vargs,vagg];simp only [VD.s,VD.list,VD.names,kindS,wd_zero],HV.out,by (repeat' first|(with_reducible first|exact blR _ _|assumption|refine blD ?_|refine blN ?_ _)|((with_reducible first|refine blA ?_ ?_ _|refine blS ?_ ?_ _|refine blT (by assumption) ?_ ?_);focus (go_size;done)))⟩
end Go.Proofs.YtkjecoanlppeaaaGreatDoor



namespace Go.Proofs.YtkjecoanlppeaaaGreatDoor
open Go.RowKit

theorem isnan_any (a : Int) (w : World) : Calls Tryz.prog 85 #[.int .i64 a] w fun e w' => e = .returned (.bool false) ∧ w' = w:=by
 go_enter Tryz.func85,Tryz.ntmps85
 go_wp2_with fail
 go_ret
 exact ⟨ret_bool (by simp),rfl⟩
def cmpi (a b : Int) : Int:=if a < b then -1 else if b < a then 1 else 0
theorem ccmp_any (a b : Int) (w : World) : Calls Tryz.prog 58 #[.int .i64 a,.int .i64 b] w fun e w' => e = .returned (.int .i64 (cmpi a b)) ∧ w' = w:=by
 have HN:=Lib.hid (fun (x : Int) (W : World) => isnan_any x W)
 unfold cmpi
 by_cases h1 : a < b
 ·rw [if_pos h1]
  go_enter Tryz.func58,Tryz.ntmps58
  go_wp2_with (go_at_call 85;(with_reducible refine (HN.out _ _).mono ?_);rintro _ _ ⟨rfl,rfl⟩)
  go_ret
  exact ⟨rfl,rfl⟩
 ·rw [if_neg h1]
  by_cases h2 : b < a
  ·rw [if_pos h2]
   go_enter Tryz.func58,Tryz.ntmps58
   go_wp2_with (go_at_call 85;(with_reducible refine (HN.out _ _).mono ?_);rintro _ _ ⟨rfl,rfl⟩)
   go_ret
   exact ⟨rfl,rfl⟩
  ·rw [if_neg h2]
   go_enter Tryz.func58,Tryz.ntmps58
   go_wp2_with (go_at_call 85;(with_reducible refine (HN.out _ _).mono ?_);rintro _ _ ⟨rfl,rfl⟩)
   go_ret
   exact ⟨rfl,rfl⟩
set_option maxRecDepth 100000 in
set_option maxHeartbeats 1000000 in
theorem compare_any (a b : List Nat) (v1 v2 : Value) (w : World) (hl : a.length = b.length) (h1 : Ilst w v1 a) (h2 : Ilst w v2 b) :
  Calls Tryz.prog 57 #[v1,v2] w fun e w' => e = .returned (.int .i64 (cmpL a b)) ∧ w' = w:=by
 obtain ⟨A,C,rfl,q1,_,_⟩:=h1.is
 obtain ⟨A2,C2,rfl,q2,_,_⟩:=h2.is
 obtain ⟨z,hz⟩ : ∃ z,z = cmpL a b:=⟨_,rfl⟩
 rw [← hz]
 have HZ:=Lib.hid hz
 have H1:=Lib.hid h1
 have H2:=Lib.hid h2
 have HL:=Lib.hid hl
 have HC:=Lib.hid (fun (x y : Int) (W : World) => ccmp_any x y W)
 have hal : (a.length : Int) ≤ 1048576:=by omega
 have hbl : (b.length : Int) ≤ 1048576:=by omega
 clear hz h1 h2 hl q1 q2
 go_enter Tryz.func57,Tryz.ntmps57
 go_wp2_with fail
 go_loopg [11] a.length (fun k s11 wr => ∃ t : Nat,k + t = a.length ∧ s11 = .int .i64 t ∧ Hid (∀ i,i < t → ag a i = ag b i) ∧ wr = w)
 case atStart => exact ⟨0,by omega,rfl,Lib.hid (fun i hi => absurd hi (Nat.not_lt_zero _)),rfl⟩
 case round =>
  obtain ⟨t,hk,rfl,HA,hwr⟩:=hrel
  subst hwr
  have HK:=Lib.hid hk
  have htl : t ≤ a.length:=by omega
  clear hk
  by_cases hlt : t < a.length
  ·have hlt2 : t < b.length:=by have:=HL.out;omega
   obtain ⟨b1,o1,rfl,g1⟩:=H1.out.at hlt
   obtain ⟨b2,o2,rfl,g2⟩:=H2.out.at hlt2
   have l1:=vcell_lt g1
   have l2:=vcell_lt g2
   have ht1 : (t : Int) < (a.length : Int):=by omega
   have ht2 : (t : Int) < (b.length : Int):=by omega
   have ht3 : ¬ (b.length : Int) ≤ (t : Int):=by omega
   obtain ⟨x,hx⟩ : ∃ x,x = ag a t:=⟨_,rfl⟩
   obtain ⟨y,hy⟩ : ∃ y,y = ag b t:=⟨_,rfl⟩
   rw [← hx] at g1
   rw [← hy] at g2
   have HX:=Lib.hid hx
   have HY:=Lib.hid hy
   clear hx hy
   obtain ⟨q,hq⟩ : ∃ q,q = cmpi x y:=⟨_,rfl⟩
   have hc:=fun (W : World) => HC.out x y W
   rw [← hq] at hc
   have HC2:=Lib.hid hc
   have HQ:=Lib.hid hq
   clear hc hq
   by_cases c1 : x = y
   ·have hq0 : q = 0:=by rw [HQ.out];unfold cmpi;rw [if_neg (by omega),if_neg (by omega)]
    subst hq0
    have HE:=Lib.hid c1
    clear c1
    go_wp2_with (go_at_call 58;(with_reducible refine (HC2.out _).mono ?_);rintro _ _ ⟨rfl,rfl⟩)
    go_roundg (gk - 1)
    case measure => have:=HK.out;omega
    case rel => exact ⟨t + 1,by have:=HK.out;omega,by go_num,Lib.hid (fun i hi => by
     by_cases e : i = t
     ·subst e;rw [← HX.out,← HY.out];exact HE.out
     ·exact HA.out i (by omega)),rfl⟩
   ·have hq0 : (q != 0) = true:=by rw [bne_iff_ne,HQ.out];unfold cmpi;split <;> (try split) <;> omega
    have hz : z = q:=by
     rw [HZ.out,cmpL_at hlt hlt2 HA.out (by rw [← HX.out,← HY.out];exact c1),← HX.out,← HY.out,HQ.out]
     unfold cmpi
     split <;> split <;> (try split) <;> omega
    subst hz
    clear c1
    go_wp2_with (go_at_call 58;(with_reducible refine (HC2.out _).mono ?_);rintro _ _ ⟨rfl,rfl⟩)
    go_ret
    exact ⟨rfl,rfl⟩
  ·obtain rfl : t = a.length:=by omega
   have hz : z = 0:=by rw [HZ.out];exact cmpL_same HL.out HA.out
   have hll : ¬ (a.length : Int) < (b.length : Int):=by have:=HL.out;omega
   subst hz
   clear hlt
   go_wp2_with fail
   go_ret
   exact ⟨rfl,rfl⟩
set_option maxHeartbeats 1000000 in
theorem or_any (x y : Int) (q : Nat) (w : World) (g1 : w.cell? ⟨q,0,none⟩ = some (.int .i64 x)) (g2 : w.cell? ⟨q,1,none⟩ = some (.int .i64 y)) :
  Calls Tryz.prog 56 #[.slice (some ⟨q,0,none⟩) 2 2] w fun e w' => e = .returned (.int .i64 (if x ≠ 0 then x else y)) ∧ w' = w:=by
 have lq:=vcell_lt g1
 obtain ⟨z,hz⟩ : ∃ z,z = (if x ≠ 0 then x else y):=⟨_,rfl⟩
 rw [← hz]
 have HZ:=Lib.hid hz
 have G1:=Lib.hid g1
 have G2:=Lib.hid g2
 clear hz g1 g2
 go_enter Tryz.func56,Tryz.ntmps56
 go_wp2_with fail
 go_loopg [8] 2 (fun k s8 wr => ∃ t : Nat,k + t = 2 ∧ s8 = .int .i64 t ∧ Hid ((0 < t → x = 0) ∧ (1 < t → y = 0)) ∧ wr = w)
 case atStart => exact ⟨0,by omega,rfl,Lib.hid ⟨fun h => absurd h (by omega),fun h => absurd h (by omega)⟩,rfl⟩
 case round =>
  obtain ⟨t,hk,rfl,HA,hwr⟩:=hrel
  subst hwr
  have HK:=Lib.hid hk
  have ht : t ≤ 2:=by omega
  have g1 : wr.cell? ⟨q,0,none⟩ = some (.int .i64 x):=G1.out
  have g2 : wr.cell? ⟨q,1,none⟩ = some (.int .i64 y):=G2.out
  clear hk
  by_cases t0 : t = 0
  ·subst t0
   by_cases hx : x = 0
   ·subst hx
    go_wp2_with fail
    go_roundg (gk - 1)
    case measure => have:=HK.out;omega
    case rel => exact ⟨1,by have:=HK.out;omega,by go_num,Lib.hid ⟨fun _ => (by trivial),fun h => absurd h (by omega)⟩,rfl⟩
   ·have f0 : (x != 0) = true:=by rw [bne_iff_ne];exact hx
    have hz : z = x:=by rw [HZ.out,if_pos hx]
    subst hz
    clear hx
    go_wp2_with fail
    go_ret
    exact ⟨rfl,rfl⟩
  ·by_cases t1 : t = 1
   ·subst t1
    have hz : z = y:=by rw [HZ.out,HA.out.1 (by omega)];simp
    subst hz
    by_cases hy : z = 0
    ·subst hy
     go_wp2_with fail
     go_roundg (gk - 1)
     case measure => have:=HK.out;omega
     case rel => exact ⟨2,by have:=HK.out;omega,by go_num,Lib.hid ⟨fun _ => HA.out.1 (by omega),fun _ => (by trivial)⟩,rfl⟩
    ·have f0 : (z != 0) = true:=by rw [bne_iff_ne];exact hy
     clear hy
     go_wp2_with fail
     go_ret
     exact ⟨rfl,rfl⟩
   ·obtain rfl : t = 2:=by omega
    have hz : z = 0:=by rw [HZ.out,HA.out.1 (by omega),HA.out.2 (by omega)];simp
    subst hz
    clear t0 t1
    go_wp2_with fail
    go_ret
    exact ⟨rfl,rfl⟩
end Go.Proofs.YtkjecoanlppeaaaGreatDoor



namespace Go.Proofs.YtkjecoanlppeaaaGreatDoor
open Go.RowKit

/-- the ranks in memory, behind a pointer -/
def RankBox (w : World) (q : Nat) (n : Nat) (rk : Nat → List Nat) : Prop:=∃ (A : Option Addr) (C : Nat),w.cell? ⟨q,0,none⟩ = some (.slice A n C) ∧ n ≤ C ∧ C ≤ maxLen ∧ ∀ i,i < n → ∃ rb ro B D,A = some ⟨rb,ro,none⟩ ∧ w.cell? ⟨rb,ro + i,none⟩ = some (.slice B (rk i).length D) ∧ Ilst w (.slice B (rk i).length D) (rk i)
theorem RankBox.below {w w' : World} {q n : Nat} {rk : Nat → List Nat} (h : RankBox w q n rk) (hb : Below w.heap.size w w') : RankBox w' q n rk:=by
 obtain ⟨A,C,h1,h2,h3,h4⟩:=h
 refine ⟨A,C,(hb.cell (p:=⟨q,0,none⟩) (vcell_lt h1)).trans h1,h2,h3,fun i hi => ?_⟩
 obtain ⟨rb,ro,B,D,e,hc,hl⟩:=h4 i hi
 exact ⟨rb,ro,B,D,e,(hb.cell (p:=⟨rb,ro + i,none⟩) (vcell_lt hc)).trans hc,hl.below hb⟩
set_option maxRecDepth 100000 in
set_option maxHeartbeats 4000000 in
theorem clos_sorted (rk : Nat → List Nat) (n q a b : Nat) (w : World) (hn : n ≤ 1048576) (ha : a < n) (hb : b < n) (hl : (rk a).length = (rk b).length) (h : RankBox w q n rk) :
  Calls Tryz.prog 55 #[.int .i64 a,.int .i64 b,.pointer (some ⟨q,0,none⟩)] w fun e w' => e = .returned (.int .i64 (cfR rk a b)) ∧ ∃ k os',w' = Go.Sort.grow (w.drewN k) os':=by
 obtain ⟨A,C,h1,h2,h3,h4⟩:=h
 obtain ⟨rb,ro,B,D,rfl,g1,i1⟩:=h4 a ha
 obtain ⟨rb',ro',B',D',e,g2,i2⟩:=h4 b hb
 injection e with e
 injection e with e1 e2 _
 subst e1 e2
 have lq:=vcell_lt h1
 have lr:=vcell_lt g1
 have hac : (a : Int) < (n : Int):=by omega
 have hbc : (b : Int) < (n : Int):=by omega
 have hnc : (n : Int) ≤ 1048576:=by omega
 have hc1:=fun (W : World) (hW : Below w.heap.size w W) => compare_any (rk a) (rk b) _ _ W hl (i1.below hW) (i2.below hW)
 have hc2:=fun (W : World) => ccmp_any a b W
 have hz : (if cmpL (rk a) (rk b) ≠ 0 then cmpL (rk a) (rk b) else cmpi a b) = cfR rk a b:=by
  unfold cfR cmpi
  by_cases c : cmpL (rk a) (rk b) ≠ 0
  ·rw [if_pos c,if_pos c]
  ·rw [if_neg c,if_neg c]
   by_cases d : a < b
   ·rw [if_pos d,if_pos (by omega)]
   ·rw [if_neg d,if_neg (by omega)]
    by_cases e : b < a
    ·rw [if_pos e,if_pos (by omega)]
    ·rw [if_neg e,if_neg (by omega)]
 rw [← hz]
 obtain ⟨x,hx⟩ : ∃ x,x = cmpL (rk a) (rk b):=⟨_,rfl⟩
 obtain ⟨y,hy⟩ : ∃ y,y = cmpi a b:=⟨_,rfl⟩
 rw [← hx,← hy]
 rw [← hx] at hc1
 rw [← hy] at hc2
 obtain ⟨m1,hm1⟩ : ∃ m,m = (rk a).length:=⟨_,rfl⟩
 obtain ⟨m2,hm2⟩ : ∃ m,m = (rk b).length:=⟨_,rfl⟩
 rw [← hm1] at hc1 g1
 rw [← hm2] at hc1 g2
 have HC1:=Lib.hid hc1
 have HC2:=Lib.hid hc2
 have HC3:=Lib.hid (fun (s : Nat) (W : World) (k1 : W.cell? ⟨s,0,none⟩ = some (.int .i64 x)) (k2 : W.cell? ⟨s,1,none⟩ = some (.int .i64 y)) => or_any x y s W k1 k2)
 obtain ⟨z,hzz⟩ : ∃ z,z = (if x ≠ 0 then x else y):=⟨_,rfl⟩
 rw [← hzz] at HC3 ⊢
 clear hz hx hy hzz hm1 hm2 hc1 hc2 i1 i2 h4 hl
 go_enter Tryz.func55,Tryz.ntmps55
 go_wp2_with fail
 go_region_held3 (fun w' => w'.cell? ⟨q,0,none⟩ = some (.slice (some ⟨rb,ro,none⟩) n C) ∧ w'.cell? ⟨rb,ro + a,none⟩ = some (.slice B m1 D) ∧ w'.cell? ⟨rb,ro + b,none⟩ = some (.slice B' m2 D')) (first | (first | (go_keep;done) | (simp [go_sem];done) | ((try dsimp only);(repeat' apply And.intro) <;> (first | (with_reducible assumption) | ((rw [World.cell?_alloc_lt _ _ _ (by show _ < _;omega)]);go_split_ands;(first | with_reducible assumption | (refine (World.cell?_alloc_lt _ _ _ (by show _ < _;omega)).symm.trans ?_;with_reducible assumption))) | ((rw [World.cell?_setCell_other _ _ _ _ (by intro e;injection e;omega)]);with_reducible assumption) | (go_keep;done) | (simp [go_sem];done) | (simp (disch:=go_size) [*,World.cell?_alloc_some,World.cell?_setCell_far];done))))) (first | (go_at_call 57;(with_reducible refine (HC1.out _ (by (repeat' first|(with_reducible first|exact blR _ _|assumption|refine blD ?_|refine blN ?_ _)|((with_reducible first|refine blA ?_ ?_ _|refine blS ?_ ?_ _|refine blT (by assumption) ?_ ?_);focus (go_size;done))))).mono ?_);rintro _ _ ⟨rfl,rfl⟩) | (go_at_call 58;(with_reducible refine (HC2.out _).mono ?_);rintro _ _ ⟨rfl,rfl⟩) | (go_at_call 56;(with_reducible refine (HC3.out _ _ (by simp) (by simp)).mono ?_);rintro _ _ ⟨rfl,rfl⟩))
 go_wp2_with fail
 go_ret
 refine ⟨rfl,1,#[.cells #[.int .i64 x,.int .i64 y] 3], ?_⟩
 rw [Go.Sort.alloc_eq_grow]
 rfl
end Go.Proofs.YtkjecoanlppeaaaGreatDoor



namespace Go.Proofs.YtkjecoanlppeaaaGreatDoor
open Go.RowKit

theorem sort_other {α : Type} [Inhabited α] (enc : α → Value) (W : World) (blk off n : Nat) (dk : Array α) (os : Array Obj) (a : Addr) (h1 : a.block ≠ blk) (h2 : a.block < W.heap.size) : (sortWorld enc W blk off n dk os).cell? a = W.cell? a:=by
 unfold sortWorld
 rw [Go.Sort.cell?_grow _ _ _ (by first | simpa using h2 | (simp only [Go.Sort.size_putRow];exact h2)),Go.Sort.cell?_putRow_other _ _ _ _ _ _ (Or.inl h1)]
 rfl
/-- a list of ints in a block that is not blk -/
def IlstN (w : World) (v : Value) (l : List Nat) (blk : Nat) : Prop:=∃ A C,v = .slice A l.length C ∧ (l.length ≤ 1048576 ∧ l.length ≤ C ∧ C ≤ maxLen) ∧ ∀ r,r < l.length → ∃ b o,A = some ⟨b,o,none⟩ ∧ b ≠ blk ∧ w.cell? ⟨b,o + r,none⟩ = some (.int .i64 (ag l r))
/-- the ranks in memory, all of them in blocks that are not blk -/
def RankBoxN (w : World) (q : Nat) (n : Nat) (rk : Nat → List Nat) (blk : Nat) : Prop:=q ≠ blk ∧ ∃ (A : Option Addr) (C : Nat),w.cell? ⟨q,0,none⟩ = some (.slice A n C) ∧ n ≤ C ∧ C ≤ maxLen ∧ ∀ i,i < n → ∃ rb ro B D,A = some ⟨rb,ro,none⟩ ∧ rb ≠ blk ∧ w.cell? ⟨rb,ro + i,none⟩ = some (.slice B (rk i).length D) ∧ IlstN w (.slice B (rk i).length D) (rk i) blk
theorem RankBoxN.keeps {w w' : World} {q n blk : Nat} {rk : Nat → List Nat} (h : RankBoxN w q n rk blk) (hk : ∀ a : Addr,a.block ≠ blk → a.block < w.heap.size → w'.cell? a = w.cell? a) : RankBox w' q n rk:=by
 obtain ⟨hq,A,C,h1,h2,h3,h4⟩:=h
 refine ⟨A,C,(hk _ hq (vcell_lt h1)).trans h1,h2,h3,fun i hi => ?_⟩
 obtain ⟨rb,ro,B,D,e,hrb,hc,hl⟩:=h4 i hi
 refine ⟨rb,ro,B,D,e,(hk _ hrb (vcell_lt hc)).trans hc, ?_⟩
 obtain ⟨A',C',e',hb,hr⟩:=hl
 refine ⟨A',C',e',hb,fun r hr' => ?_⟩
 obtain ⟨b,o,ea,hne,hcell⟩:=hr r hr'
 exact ⟨b,o,ea,(hk _ hne (vcell_lt hcell)).trans hcell⟩
theorem sorted_lays (n : Nat) [Inhabited (Fin n)] (rk : Nat → List Nat) (q blk off : Nat) (w : World) (hn : n ≤ 1048576) (hl : ∀ a b,(rk a).length = (rk b).length) (h : RankBoxN w q n rk blk) :
  CmpLays1 Tryz.prog 55 #[.pointer (some ⟨q,0,none⟩)] (fun i : Fin n => .int .i64 (i.val : Int)) (fun a b => cfR rk a.val b.val) blk off n w:=by
 intro m os dk _ x y
 refine (clos_sorted rk n q x.val y.val _ hn x.isLt y.isLt (hl _ _) (h.keeps fun a h1 h2 => sort_other _ _ _ _ _ _ _ _ h1 h2)).mono ?_
 rintro _ _ ⟨rfl,k,os',rfl⟩
 exact ⟨rfl,k,os',rfl⟩
theorem sorted_swo (n : Nat) (rk : Nat → List Nat) : Go.Sort.SWO (ltOf fun (a b : Fin n) => cfR rk a.val b.val):=by
 refine ⟨fun x => ?_,fun x y z h1 h2 => ?_,fun x y z h1 h2 => ?_⟩
 ·unfold ltOf
  exact decide_eq_false (fun (h : cfR rk x.val x.val < 0) => by rw [cfR_self] at h;omega)
 ·unfold ltOf at *
  exact decide_eq_true (cfR_trans (of_decide_eq_true h1) (of_decide_eq_true h2))
 ·unfold ltOf at *
  have g1 : ¬ cfR rk x.val y.val < 0:=of_decide_eq_false h1
  have g2 : ¬ cfR rk y.val z.val < 0:=of_decide_eq_false h2
  refine decide_eq_false fun (h3 : cfR rk x.val z.val < 0) => ?_
  by_cases e : cfR rk x.val y.val = 0
  ·rw [cfR_zero e] at h3;exact g2 h3
  ·have g3 : cfR rk y.val x.val < 0:=by rw [cfR_neg];omega
   exact g2 (cfR_trans g3 h3)
theorem sorted_total (n : Nat) (rk : Nat → List Nat) (x y : Fin n) (h1 : ltOf (fun (a b : Fin n) => cfR rk a.val b.val) x y = false) (h2 : ltOf (fun (a b : Fin n) => cfR rk a.val b.val) y x = false) : x = y:=by
 unfold ltOf at *
 have g1 : ¬ cfR rk x.val y.val < 0:=of_decide_eq_false h1
 have g2 : ¬ cfR rk y.val x.val < 0:=of_decide_eq_false h2
 rw [cfR_neg] at g2
 exact Fin.ext (cfR_zero (rk:=rk) (by omega))
end Go.Proofs.YtkjecoanlppeaaaGreatDoor



namespace Go.Proofs.YtkjecoanlppeaaaGreatDoor
open Go.RowKit

def encF {n : Nat} (i : Fin n) : Value:=.int .i64 (i.val : Int)
theorem srtL_len (rk : Nat → List Nat) (n : Nat) : (srtL rk n).length = n:=by
 have h:=srt_len rk n
 unfold srt at h
 rwa [List.length_map] at h
theorem sorted_ilst (rk : Nat → List Nat) (n : Nat) [Inhabited (Fin n)] (hn : n ≤ 1048576) (w : World) (blk m : Nat) (os : Array Obj) (d0 : Array (Fin n)) (h0 : Go.Sort.Holds encF w blk 0 d0) (hs : d0.size = n) (hblk : blk < w.heap.size) :
  Ilst (sortWorld encF w blk 0 m (srtL rk n).toArray os) (.slice (some ⟨blk,0,none⟩) n n) (srt rk n):=by
 refine ⟨some ⟨blk,0,none⟩,n,by rw [srt_len],⟨by rw [srt_len];exact hn,by rw [srt_len];exact Nat.le_refl _,by unfold maxLen;omega⟩,fun r hr => ⟨blk,0,rfl, ?_⟩⟩
 rw [srt_len] at hr
 have hl : (srtL rk n).toArray.size = n:=by rw [List.size_toArray];exact srtL_len rk n
 unfold sortWorld
 rw [Go.Sort.cell?_grow _ _ _ (by rw [Go.Sort.size_putRow];exact hblk)]
 rw [Go.Sort.cell?_putRow encF (Go.Sort.ahead w m) blk 0 d0 _ (Go.Sort.holds_ahead _ _ _ _ _ _ h0) (by rw [hl,hs]) r (by rw [hl];exact hr)]
 have hr2 : r < (srtL rk n).length:=by rw [srtL_len];exact hr
 have e : (srtL rk n).toArray[r]! = (srtL rk n)[r]:=by
  rw [getElem!_pos _ r (by rw [hl];exact hr),List.getElem_toArray]
 rw [e,ag_get (by rw [srt_len];exact hr)]
 unfold encF srt
 rw [List.getElem_map]
/-- what the sort hands back is the list of sorted places -/
theorem sorted_eq (rk : Nat → List Nat) (n : Nat) (d : Array (Fin n)) (hd : d.toList = List.finRange n) :
  (d.toList.mergeSort fun x y => !(ltOf (fun (a b : Fin n) => cfR rk a.val b.val)) y x) = srtL rk n:=by
 rw [hd];rfl
end Go.Proofs.YtkjecoanlppeaaaGreatDoor



namespace Go.Proofs.YtkjecoanlppeaaaGreatDoor
open Go.RowKit

def zc10 : List Value:=[.int .i64 0,.bool false,.bool false,.int .u64 0,.int .u64 0,.int .i64 0,.string ⟨#[]⟩,.int .i64 0,.slice none 0 0,.slice none 0 0]
/-- a value and an error are handed back -/
def RetP (r : VD × Int) (w : World) (e : Ending) (w' : World) : Prop:=∃ A C A2 C2,e = .returned (.tuple #[vargs r.1 A C A2 C2,.int .i64 r.2]) ∧ VA w' r.1 A C A2 C2 ∧ Below w.heap.size w w'
theorem va_flat {w : World} {s : VS} (h : s.ok) : VA w (.mk s [] []) none 0 none 0 :=
 RV.mk (d:=.mk s [] []) h ⟨none,0,rfl,⟨by show 0 ≤ 1048576;decide,Nat.le_refl _,by decide⟩,fun r hr => absurd hr (Nat.not_lt_zero _)⟩ ⟨none,0,rfl,⟨by show 0 ≤ 1048576;decide,Nat.le_refl _,by decide⟩,fun r hr => absurd hr (Nat.not_lt_zero _)⟩
theorem numS_ok {b : Bool} {c : Nat} {s : Int} (h : c < 2 ^ 128) : (numS b c s).ok:=⟨h,by show 0 ≤ 1048576;decide⟩
theorem VS.zero_ok : VS.zero.ok:=⟨by show 0 < 2 ^ 128;decide,by show 0 ≤ 1048576;decide⟩
theorem zero_vargs : vargs VD.zero none 0 none 0 = .agg #[.int .i64 0,.bool false,.bool false,.int .u64 0,.int .u64 0,.int .i64 0,.string ⟨#[]⟩,.int .i64 0,.slice none 0 0,.slice none 0 0]:=by
 rw [vargs,vagg]
 simp only [VD.zero,VS.zero,VD.s,VD.list,VD.names,wd_zero];rfl
theorem num_vargs (b : Bool) (c : Nat) (s : Int) : vargs (.mk (numS b c s) [] []) none 0 none 0 = .agg #[.int .i64 2,.bool false,.bool b,.int .u64 (wd c 1),.int .u64 (wd c 0),.int .i64 s,.string ⟨#[]⟩,.int .i64 0,.slice none 0 0,.slice none 0 0]:=by
 rw [vargs,vagg]
 simp only [numS,VD.s,VD.list,VD.names];rfl
theorem chk_num {x : VD} (h : chkV x = 0) (hk : x.s.kind = 2) : dform x.s.neg x.s.coef x.s.sc = true:=by
 unfold chkV at h
 split at h
 ·omega
 ·split at h
  ·omega
  ·split at h
   ·rename_i ho
    rw [okV_eq] at ho
    simp only [Bool.and_eq_true] at ho
    have:=ho.1
    unfold ownB kindB at this
    simp only [Bool.and_eq_true] at this
    have h2:=this.2
    rw [if_neg (by omega),if_pos hk] at h2
    exact h2
   ·omega
def allNum (l : List VD) : Bool:=l.all fun x => decide (x.s.kind = 2)
theorem allNum_iff {l : List VD} : allNum l = true ↔ ∀ t,t < l.length → (vg l t).s.kind = 2:=by
 unfold allNum
 rw [List.all_eq_true]
 constructor
 ·intro h t ht
  rw [vg_get ht]
  exact of_decide_eq_true (h _ (List.getElem_mem _))
 ·intro h x hx
  obtain ⟨i,hi,rfl⟩:=List.getElem_of_mem hx
  exact decide_eq_true (by rw [← vg_get hi];exact h i hi)
set_option maxRecDepth 100000 in
set_option maxHeartbeats 1000000 in
theorem idx_reckon (cap0 : Array Value) (p : VD → Bool) (G : World → Prop) (hG : ∀ W W',G W → Below W.heap.size W W' → G W') (hp : ∀ (x : VD) (A : Option Addr) (C : Nat) (A2 : Option Addr) (C2 : Nat) (W : World),G W → VA W x A C A2 C2 → Calls Tryz.prog 90 #[vargs x A C A2 C2] W fun e w' => e = .returned (.bool (p x)) ∧ Below W.heap.size W w')
  (l : List VD) (v : Value) (w : World) (h : Vls (RV w) w v l) (hw : G w) :
  Calls Tryz.prog 81 #[v,.func (.func 90) #[] #[]] w fun e w' => e = .returned (.int .i64 (idxV p l)) ∧ Below w.heap.size w w':=by
 obtain ⟨A,C,rfl,hll⟩:=h.is
 have HV:=Lib.hid h
 have HP:=Lib.hid hp
 have HG:=Lib.hid hG
 have HW:=Lib.hid hw
 obtain ⟨z,hz⟩ : ∃ z,z = idxV p l:=⟨_,rfl⟩
 rw [← hz]
 have HZ:=Lib.hid hz
 clear h hp hG hw hz
 go_enter Tryz.func81,Tryz.ntmps81
 go_wp2_with fail
 go_loopg [8] l.length (fun k s8 wr => ∃ t : Nat,k + t = l.length ∧ s8 = .int .i64 t ∧ Hid (∀ i,i < t → p (vg l i) = false) ∧ w.heap.size ≤ wr.heap.size ∧ Below w.heap.size w wr)
 case atStart => exact ⟨0,by omega,rfl,Lib.hid (fun i hi => absurd hi (Nat.not_lt_zero _)),by omega,by (repeat' first|(with_reducible first|exact blR _ _|assumption|refine blD ?_|refine blN ?_ _)|((with_reducible first|refine blA ?_ ?_ _|refine blS ?_ ?_ _|refine blT (by assumption) ?_ ?_);focus (go_size;done)))⟩
 case round =>
  obtain ⟨t,hk,rfl,HA,hsz,hbel⟩:=hrel
  have HK:=Lib.hid hk
  have htl : t ≤ l.length:=by omega
  clear hk
  by_cases hlt : t < l.length
  ·obtain ⟨b,o,B1,D1,B2,D2,rfl,hat,hx⟩:=(HV.out.kept hbel).at hlt
   obtain ⟨a0,a1,a2,a3,a4,a5,a6,a7,a8,a9⟩:=hat.val
   have lb:=vcell_lt a0
   have htc : (t : Int) < (l.length : Int):=by omega
   obtain ⟨x,hxx⟩ : ∃ x,x = vg l t:=⟨_,rfl⟩
   rw [← hxx] at hx a0 a1 a2 a3 a4 a5 a6 a7 a8 a9
   have HXX:=Lib.hid hxx
   have HC:=Lib.hid (HP.out x B1 D1 B2 D2 wr (HG.out _ _ HW.out hbel) hx)
   obtain ⟨e,he⟩ : ∃ e,e = p x:=⟨_,rfl⟩
   rw [← he] at HC
   have HE:=Lib.hid he
   unfold vargs at HC
   obtain ⟨n1',hn1⟩ : ∃ n1',n1' = x.list.length:=⟨_,rfl⟩
   obtain ⟨n2',hn2⟩ : ∃ n2',n2' = x.names.length:=⟨_,rfl⟩
   rw [← hn1] at a8 HC
   rw [← hn2] at a9 HC
   clear hat hx hxx he hn1 hn2
   cases e with
   | true =>
    have hz : z = (t : Int):=by
     rw [HZ.out]
     exact idxV_hit hlt (by rw [← HXX.out,← HE.out]) HA.out
    subst hz
    go_wp2_with ((go_at_call 90;with_reducible refine (HC.out).mono ?_);rintro _ w2 ⟨rfl,hb2⟩;have hb2s:=hb2.size;(try simp only [wsA,wsS,wsD,wsN] at hb2s);obtain ⟨hb2c,hb2f⟩:=bcell hb2;(try have : w.heap.size < w2.heap.size:=by omega);(try have : w.heap.size + 1 < w2.heap.size:=by omega);(try have : w.heap.size + 1 + 1 < w2.heap.size:=by omega);(try have : w.heap.size + 1 + 1 + 1 < w2.heap.size:=by omega))
    go_ret
    exact ⟨rfl,by (repeat' first|(with_reducible first|exact blR _ _|assumption|refine blD ?_|refine blN ?_ _)|((with_reducible first|refine blA ?_ ?_ _|refine blS ?_ ?_ _|refine blT (by assumption) ?_ ?_);focus (go_size;done)))⟩
   | false =>
    go_wp2_with ((go_at_call 90;with_reducible refine (HC.out).mono ?_);rintro _ w2 ⟨rfl,hb2⟩;have hb2s:=hb2.size;(try simp only [wsA,wsS,wsD,wsN] at hb2s);obtain ⟨hb2c,hb2f⟩:=bcell hb2;(try have : w.heap.size < w2.heap.size:=by omega);(try have : w.heap.size + 1 < w2.heap.size:=by omega);(try have : w.heap.size + 1 + 1 < w2.heap.size:=by omega);(try have : w.heap.size + 1 + 1 + 1 < w2.heap.size:=by omega))
    go_roundg (gk - 1)
    case measure => have:=HK.out;omega
    case rel => exact ⟨t + 1,by have:=HK.out;omega,by go_num,Lib.hid (fun i hi => by
     by_cases q : i = t
     ·subst q;rw [← HXX.out,← HE.out]
     ·exact HA.out i (by omega)),by omega,by (repeat' first|(with_reducible first|exact blR _ _|assumption|refine blD ?_|refine blN ?_ _)|((with_reducible first|refine blA ?_ ?_ _|refine blS ?_ ?_ _|refine blT (by assumption) ?_ ?_);focus (go_size;done)))⟩
  ·obtain rfl : t = l.length:=by omega
   have hz : z = -1:=by rw [HZ.out];exact idxV_none HA.out
   subst hz
   clear hlt
   go_wp2_with fail
   go_ret
   exact ⟨rfl,by (repeat' first|(with_reducible first|exact blR _ _|assumption|refine blD ?_|refine blN ?_ _)|((with_reducible first|refine blA ?_ ?_ _|refine blS ?_ ?_ _|refine blT (by assumption) ?_ ?_);focus (go_size;done)))⟩
set_option maxRecDepth 100000 in
theorem clos_reckon (x : VD) (A : Option Addr) (C : Nat) (A2 : Option Addr) (C2 : Nat) (w : World) : Calls Tryz.prog 90 #[vargs x A C A2 C2] w fun e w' => e = .returned (.bool (decide (x.s.kind ≠ 2))) ∧ Below w.heap.size w w':=by
 obtain ⟨s,l,nm⟩:=x
 obtain ⟨kind,yes,neg,coef,sc,text,day⟩:=s
 unfold vargs vagg
 dsimp only [VD.s,VD.list,VD.names]
 go_enter Tryz.func90,Tryz.ntmps90
 go_wp2_with fail
 go_ret
 refine ⟨ret_bool ?_,by (repeat' first|(with_reducible first|exact blR _ _|assumption|refine blD ?_|refine blN ?_ _)|((with_reducible first|refine blA ?_ ?_ _|refine blS ?_ ?_ _|refine blT (by assumption) ?_ ?_);focus (go_size;done)))⟩
 by_cases hk : kind = 2
 ·subst hk;rfl
 ·exact (bne_iff_ne.2 hk).trans (decide_eq_true hk).symm
set_option maxHeartbeats 400000 in
theorem hasodd_any (l : List VD) (v : Value) (w : World) (h : Vls (RV w) w v l) :
  Calls Tryz.prog 79 #[v,.func (.func 90) #[] #[]] w fun e w' => e = .returned (.bool (!allNum l)) ∧ Below w.heap.size w w':=by
 have hi:=fun (W : World) (hW : Below w.heap.size w W) => idx_reckon #[] (fun x => decide (x.s.kind ≠ 2)) (fun _ => True) (fun _ _ h _ => h) (fun x A C A2 C2 W _ _ => clos_reckon x A C A2 C2 W) l v W (h.kept hW) trivial
 have hz : (!allNum l) = decide (0 ≤ idxV (fun x => decide (x.s.kind ≠ 2)) l):=by
  rw [Bool.eq_iff_iff,Bool.not_eq_true',Bool.eq_false_iff,ne_eq,allNum_iff,decide_eq_true_eq,idxV_neg]
  constructor
  ·intro h
   by_cases q : ∃ t,t < l.length ∧ decide ((vg l t).s.kind ≠ 2) = true
   ·exact q
   ·refine absurd (fun t ht => ?_) h
    by_cases q2 : (vg l t).s.kind = 2
    ·exact q2
    ·exact absurd ⟨t,ht,decide_eq_true q2⟩ q
  ·rintro ⟨t,ht,hp⟩ h
   exact of_decide_eq_true hp (h t ht)
 obtain ⟨i,hi'⟩ : ∃ i,i = idxV (fun x => decide (x.s.kind ≠ 2)) l:=⟨_,rfl⟩
 rw [← hi'] at hz
 simp only [← hi'] at hi
 rw [hz]
 have HI:=Lib.hid hi
 clear hi h hz hi'
 go_enter Tryz.func79,Tryz.ntmps79
 go_wp2_with ((go_at_call 81;with_reducible refine (HI.out _ (by (repeat' first|(with_reducible first|exact blR _ _|assumption|refine blD ?_|refine blN ?_ _)|((with_reducible first|refine blA ?_ ?_ _|refine blS ?_ ?_ _|refine blT (by assumption) ?_ ?_);focus (go_size;done))))).mono ?_);rintro _ w2 ⟨rfl,hb2⟩;have hb2s:=hb2.size;(try simp only [wsA,wsS,wsD,wsN] at hb2s);obtain ⟨hb2c,hb2f⟩:=bcell hb2;(try have : w.heap.size < w2.heap.size:=by omega);(try have : w.heap.size + 1 < w2.heap.size:=by omega);(try have : w.heap.size + 1 + 1 < w2.heap.size:=by omega);(try have : w.heap.size + 1 + 1 + 1 < w2.heap.size:=by omega))
 all_goals (go_ret;exact ⟨ret_bool (by simp),by (repeat' first|(with_reducible first|exact blR _ _|assumption|refine blD ?_|refine blN ?_ _)|((with_reducible first|refine blA ?_ ?_ _|refine blS ?_ ?_ _|refine blT (by assumption) ?_ ?_);focus (go_size;done)))⟩)
end Go.Proofs.YtkjecoanlppeaaaGreatDoor



namespace Go.Proofs.YtkjecoanlppeaaaGreatDoor
open Go.RowKit

theorem numD_all {p : Int} {l : List VD} (h : allNum l = true) : numD p l = numGo p (decN (vg l 0).s) (l.drop 1):=if_pos h
theorem numD_odd {p : Int} {l : List VD} (h : allNum l = false) : numD p l = (VD.zero,0):=by
 unfold numD
 rw [if_neg]
 intro h2
 have : allNum l = true:=h2
 rw [h] at this;cases this
theorem step_ok {l : List VD} {x : VD} (hx : dform x.s.neg x.s.coef x.s.sc = true) : ∃ (c s : Nat),x.s.coef = c ∧ x.s.sc = (s : Int) ∧ c < B34 ∧ s ≤ 18 ∧ DForm x.s.neg c s:=by
 obtain ⟨t,e,h⟩:=(dform_iff _ _ _).1 hx
 exact ⟨x.s.coef,t,rfl,e,h.1,h.2.1,h⟩
theorem dform_of {b : Bool} {c s : Nat} (h : DForm b c s) : dform b c s = true:=(dform_iff _ _ _).2 ⟨s,rfl,h⟩
theorem tail_run (b o n C m D : Nat) (h1 : n = m + 1) (h2 : C = D + 1) (h3 : m ≤ D) : ∃ q,(0 < m → q = o + 10) ∧ ∀ W : World,(Instr.slice 24 (.slice (some ⟨b,o,none⟩) n C) (some (.int .i64 1)) none none).run Tryz.prog W = .ok (.slice (some ⟨b,q,none⟩) m D) W:=by
 subst h1 h2
 refine ⟨if D + 1 = 1 then o else o + 10,fun h => if_neg (by omega),fun W => ?_⟩
 have hn : (1 : Int) ≤ ((m + 1 : Nat) : Int):=by omega
 by_cases hC : D + 1 = 1
 ·obtain rfl : D = 0:=by omega
  obtain rfl : m = 0:=by omega
  go_simp
 ·rw [if_neg hC]
  go_simp
  rw [if_pos (by omega),if_neg (by omega)]
set_option maxRecDepth 100000 in
set_option maxHeartbeats 8000000 in
theorem reckon18_any (p : Int) (l : List VD) (v : Value) (w : World) (hp : p = 8 ∨ p = 9 ∨ p = 10) (h : Vls (RV w) w v l) (hpos : 0 < l.length) (hl : l.length ≤ 1000000) (hc : ∀ t,t < l.length → chkV (vg l t) = 0) :
  Calls Tryz.prog 67 #[.int .i64 p,v] w (RetP (numD p l) w):=by
 have HB:=Lib.hid (fun (W : World) (hW : Below w.heap.size w W) => hasodd_any l v W (h.kept hW))
 obtain ⟨A,C,rfl,q1⟩:=h.is
 have hcap:=h.caps
 have HV:=Lib.hid h
 have HC:=Lib.hid hc
 have hlc : (l.length : Int) ≤ 1000000:=by omega
 have hl0 : (0 : Int) < (l.length : Int):=by omega
 have hl1 : (1 : Int) ≤ (l.length : Int):=by omega
 have hcc : (l.length : Int) ≤ (C : Int):=by omega
 have hcm : (C : Int) ≤ 9223372036854775807:=by omega
 obtain ⟨R,hR⟩ : ∃ R,R = numD p l:=⟨_,rfl⟩
 rw [← hR]
 by_cases ha : allNum l = true
 ·have HA:=Lib.hid (allNum_iff.1 ha)
  rw [ha] at HB
  rw [numD_all ha] at hR
  have HR:=Lib.hid hR
  obtain ⟨b,o,A1,C1,A2,C2,rfl,hat,hy⟩:=h.at hpos
  rw [Nat.zero_mul,Nat.add_zero] at hat
  obtain ⟨a0,a1,a2,a3,a4,a5,a6,a7,a8,a9⟩:=hat.val
  have lb:=vcell_lt a0
  obtain ⟨c,s,e1,e2,hc34,hs18,hdf⟩:=step_ok (l:=l) (chk_num (hc 0 hpos) (HA.out 0 hpos))
  have HD0 : Hid (decN (vg l 0).s = ((vg l 0).s.neg,c,s)):=Lib.hid (by unfold decN;rw [e1,e2,Int.toNat_natCast])
  rw [e1] at a3 a4
  rw [e2] at a5
  obtain ⟨n0,hn0⟩ : ∃ n,n = (vg l 0).s.neg:=⟨_,rfl⟩
  rw [← hn0] at a2 HD0 hdf
  have HDF:=Lib.hid hdf
  obtain ⟨m,hm⟩ : ∃ m,l.length = m + 1:=⟨l.length - 1,by omega⟩
  obtain ⟨D,hD⟩ : ∃ D,C = D + 1:=⟨C - 1,by omega⟩
  obtain ⟨q,hq,hsl⟩:=tail_run b o l.length C m D hm hD (by omega)
  have HM:=Lib.hid hm
  have HQ:=Lib.hid hq
  have HDD:=Lib.hid hD
  clear h hc hat hy hR ha e1 e2 hn0 a0 a1 a6 a7 a8 a9 hc34 hs18 hdf hm hq hD
  go_enter Tryz.func67,Tryz.ntmps67
  go_wp2_with ((go_at_call 79;with_reducible refine (HB.out _ (by (repeat' first|(with_reducible first|exact blR _ _|assumption|refine blD ?_|refine blN ?_ _)|((with_reducible first|refine blA ?_ ?_ _|refine blS ?_ ?_ _|refine blT (by assumption) ?_ ?_);focus (go_size;done))))).mono ?_);rintro _ w2 ⟨rfl,hb2⟩;have hb2s:=hb2.size;(try simp only [wsA,wsS,wsD,wsN] at hb2s);obtain ⟨hb2c,hb2f⟩:=bcell hb2;(try have : w.heap.size < w2.heap.size:=by omega);(try have : w.heap.size + 1 < w2.heap.size:=by omega);(try have : w.heap.size + 1 + 1 < w2.heap.size:=by omega);(try have : w.heap.size + 1 + 1 + 1 < w2.heap.size:=by omega))
  clear hsl
  obtain ⟨g6,hg6⟩ : ∃ g,g = w2.heap.size:=⟨_,rfl⟩
  have k4 : Bk (w2.alloc (.cells #[.bool n0,.int .u64 (wd c 1),.int .u64 (wd c 0),.int .i64 s] 32)) w.heap.size 34 zc10:=by
   unfold zc10
   (repeat (first|(with_reducible assumption)|((with_reducible refine bkW ?_);(first|rfl|(simp only [wsA,wsS,wsD,wsN];done)))|(with_reducible first|refine bkA ?_ _|refine bkD ?_|refine bkN ?_ _)|((with_reducible refine bkF ?_ ?_ _);focus (simp only [];omega))|((with_reducible refine bkB (by assumption) ?_ ?_);focus (go_size;done))))
  have k6 : Bk (w2.alloc (.cells #[.bool n0,.int .u64 (wd c 1),.int .u64 (wd c 0),.int .i64 s] 32)) g6 32 [.bool n0,.int .u64 (wd c 1),.int .u64 (wd c 0),.int .i64 s]:=Bk.new_ hg6
  have hb0 : Below w.heap.size w (w2.alloc (.cells #[.bool n0,.int .u64 (wd c 1),.int .u64 (wd c 0),.int .i64 s] 32)):=by (repeat' first|(with_reducible first|exact blR _ _|assumption|refine blD ?_|refine blN ?_ _)|((with_reducible first|refine blA ?_ ?_ _|refine blS ?_ ?_ _|refine blT (by assumption) ?_ ?_);focus (go_size;done)))
  have hl6:=k6.lt
  have hw6 : w.heap.size < g6:=by omega
  rw [← hg6]
  generalize w2.alloc (.cells #[.bool n0,.int .u64 (wd c 1),.int .u64 (wd c 0),.int .i64 s] 32) = wx at *
  clear hb2 hb2c hb2f hg6
  go_loopg [21] m (fun k s21 wr => ∃ (i : Nat) (db : Bool) (dc ds : Nat),k + i = m ∧ s21 = .int .i64 i ∧ Hid (numGo p (db,dc,ds) (l.drop (i + 1)) = R) ∧ Hid (DForm db dc ds) ∧ Hid (Bk wr w.heap.size 34 zc10) ∧ Hid (Bk wr g6 32 [.bool db,.int .u64 (wd dc 1),.int .u64 (wd dc 0),.int .i64 ds]) ∧ g6 < wr.heap.size ∧ Below w.heap.size w wr)
  case atStart => exact ⟨0,n0,c,s,by omega,rfl,Lib.hid (by rw [← HD0.out];exact HR.out.symm),HDF,Lib.hid k4,Lib.hid k6,hl6,hb0⟩
  case round =>
   obtain ⟨i,db,dc,ds,hk,rfl,HGO,HDF2,K4,K6,hsz,hbel⟩:=hrel
   have HK:=Lib.hid hk
   have him : i ≤ m:=by omega
   clear hk
   by_cases hlt : i < m
   ·have hil : i + 1 < l.length:=by have:=HM.out;omega
    obtain ⟨b',o',A1',C1',A2',C2',hA,hat,_⟩:=(HV.out.kept hbel).at hil
    injection hA with hA
    injection hA with e1 e2 _
    subst e1 e2
    have hqo : o + (i + 1) * 10 = q + i * 10:=by rw [HQ.out (by omega)];omega
    rw [hqo] at hat
    obtain ⟨a0,a1,a2,a3,a4,a5,a6,a7,a8,a9⟩:=hat.val
    have lb:=vcell_lt a0
    obtain ⟨xc,xs,e1,e2,hxc,hxs,hxf⟩:=step_ok (l:=l) (chk_num (HC.out (i + 1) hil) (HA.out (i + 1) hil))
    have hnx:=numGo_next (p:=p) (d:=(db,dc,ds)) hil
    rw [HGO.out] at hnx
    have hno : numO (db,dc,ds) (vg l (i + 1)).s = ordD (vg l (i + 1)).s.neg (unit xc xs) db (unit dc ds):=by unfold numO;rw [e1,e2,Int.toNat_natCast]
    have hnu : sumU (db,dc,ds) (vg l (i + 1)).s = sab db (unit dc ds) (vg l (i + 1)).s.neg (unit xc xs):=by unfold sumU;rw [e1,e2,Int.toNat_natCast]
    have hnb : sumB (db,dc,ds) (vg l (i + 1)).s = sgn db (unit dc ds) (vg l (i + 1)).s.neg (unit xc xs):=by unfold sumB;rw [e1,e2,Int.toNat_natCast]
    have hnn : decN (vg l (i + 1)).s = ((vg l (i + 1)).s.neg,xc,xs):=by unfold decN;rw [e1,e2,Int.toNat_natCast]
    unfold decN at hnn
    rw [e1] at a3 a4
    rw [e2] at a5
    obtain ⟨x,hx⟩ : ∃ x,x = (vg l (i + 1)).s:=⟨_,rfl⟩
    obtain ⟨nx1,hnx1⟩ : ∃ n,n = (vg l (i + 1)).list.length:=⟨_,rfl⟩
    obtain ⟨nx2,hnx2⟩ : ∃ n,n = (vg l (i + 1)).names.length:=⟨_,rfl⟩
    rw [← hx] at a0 a1 a2 a6 a7 hxf hnx hno hnu hnb hnn
    rw [← hnx1] at a8
    rw [← hnx2] at a9
    have HCM:=Lib.hid (fun W => dcmp_ok x.neg xc xs db dc ds (dform_of hxf) (dform_of HDF2.out) hxc HDF2.out.1 hxs HDF2.out.2.1 W)
    have HAD:=Lib.hid (fun W => add_ok db dc ds x.neg xc xs (dform_of HDF2.out) (dform_of hxf) HDF2.out.1 hxc HDF2.out.2.1 hxs W)
    obtain ⟨O,hO⟩ : ∃ O,O = ordD x.neg (unit xc xs) db (unit dc ds):=⟨_,rfl⟩
    rw [← hO] at hno
    simp only [← hO] at HCM
    obtain ⟨U,hU⟩ : ∃ U,U = sab db (unit dc ds) x.neg (unit xc xs):=⟨_,rfl⟩
    rw [← hU] at hnu
    simp only [← hU] at HAD
    obtain ⟨Bs,hBs⟩ : ∃ Bs,Bs = sgn db (unit dc ds) x.neg (unit xc xs):=⟨_,rfl⟩
    rw [← hBs] at hnb
    simp only [← hBs] at HAD
    obtain ⟨fc,hfc⟩ : ∃ y,y = FitC U (10 ^ 18):=⟨_,rfl⟩
    obtain ⟨fs,hfs⟩ : ∃ y,y = FitS U (10 ^ 18):=⟨_,rfl⟩
    obtain ⟨fe,hfe⟩ : ∃ y,y = FitE U (10 ^ 18):=⟨_,rfl⟩
    obtain ⟨fb,hfb⟩ : ∃ y,y = sg Bs fc:=⟨_,rfl⟩
    simp only [← hfc,← hfs,← hfe] at HAD
    simp only [← hfb] at HAD
    have HFE:=Lib.hid (fit_err U (10 ^ 18))
    rw [← hfe] at HFE
    have HFF:=Lib.hid (fit_form Bs U (10 ^ 18))
    rw [← hfc,← hfs,← hfb] at HFF
    have H8 : Hid (p = 8 → numStep p (db,dc,ds) x = ((fb,fc,fs),fe)):=Lib.hid (fun h => by unfold numStep;rw [if_pos h,hnu,hnb,← hfc,← hfs,← hfe,← hfb])
    have H9 : Hid (p ≠ 8 → numStep p (db,dc,ds) x = if p = 9 ∧ O < 0 ∨ p = 10 ∧ 0 < O then ((x.neg,xc,xs),0) else ((db,dc,ds),0)):=Lib.hid (fun h => by unfold numStep;rw [if_neg h,hno,hnn])
    have HNX:=Lib.hid hnx
    have d0:=K6.out.cell 0 rfl
    have d1:=K6.out.cell 1 rfl
    have d2:=K6.out.cell 2 rfl
    have d3:=K6.out.cell 3 rfl
    have df0:=K6.out.frozen 0
    have df1:=K6.out.frozen 1
    have df2:=K6.out.frozen 2
    have df3:=K6.out.frozen 3
    have lwr : w.heap.size < wr.heap.size:=by omega
    obtain ⟨xk,hxk⟩ : ∃ y,y = x.kind:=⟨_,rfl⟩
    obtain ⟨xy,hxy⟩ : ∃ y,y = x.yes:=⟨_,rfl⟩
    obtain ⟨xn,hxn⟩ : ∃ y,y = x.neg:=⟨_,rfl⟩
    obtain ⟨xt,hxt⟩ : ∃ y : Value,y = .string ⟨x.text.toArray⟩:=⟨_,rfl⟩
    obtain ⟨xd,hxd⟩ : ∃ y,y = x.day:=⟨_,rfl⟩
    have HXF:=Lib.hid hxf
    rw [← hxk] at a0
    rw [← hxy] at a1
    rw [← hxn] at a2 HXF
    simp only [← hxn] at HCM HAD H9
    rw [← hxd] at a7
    clear hat hnx hno hnu hnb hnn hx hnx1 hnx2 hO hU hBs hfc hfs hfe hfb hxk hxy hxn hxd hxc hxs hxf hqo e1 e2 hxt
    rcases hp with h8 | h9 | h10
    ·have HE:=H8.out h8
     have HE2:=Lib.hid HE
     clear HE
     subst h8
     rcases HFE.out with f0 | ⟨f0,_,_⟩
     ·subst f0
      have HG2 : Hid (numGo 8 (fb,fc,fs) (l.drop (i + 1 + 1)) = R):=Lib.hid (by have e:=HNX.out;rw [HE2.out,if_neg (by simp)] at e;exact e.symm)
      go_wp2_with (first | ((go_at_call 36;with_reducible refine (HCM.out _).mono ?_);rintro _ w3 ⟨rfl,hb3⟩;have hb3s:=hb3.size;(try simp only [wsA,wsS,wsD,wsN] at hb3s);obtain ⟨hb3c,hb3f⟩:=bcell hb3;(try have : w.heap.size < w3.heap.size:=by omega);(try have : w.heap.size + 1 < w3.heap.size:=by omega);(try have : w.heap.size + 1 + 1 < w3.heap.size:=by omega);(try have : w.heap.size + 1 + 1 + 1 < w3.heap.size:=by omega);(have : g6 < w3.heap.size:=by omega)) | ((go_at_call 91;with_reducible refine (HAD.out _).mono ?_);rintro _ w4 ⟨rfl,hb4⟩;have hb4s:=hb4.size;(try simp only [wsA,wsS,wsD,wsN] at hb4s);obtain ⟨hb4c,hb4f⟩:=bcell hb4;(try have : w.heap.size < w4.heap.size:=by omega);(try have : w.heap.size + 1 < w4.heap.size:=by omega);(try have : w.heap.size + 1 + 1 < w4.heap.size:=by omega);(try have : w.heap.size + 1 + 1 + 1 < w4.heap.size:=by omega);(have : g6 < w4.heap.size:=by omega);(try have : w3.heap.size < w4.heap.size:=by omega);(try have : w3.heap.size + 1 < w4.heap.size:=by omega);(try have : w3.heap.size + 1 + 1 < w4.heap.size:=by omega);(try have : w3.heap.size + 1 + 1 + 1 < w4.heap.size:=by omega)))
      go_roundg (gk - 1)
      case measure => have:=HK.out;omega
      case rel =>
       refine ⟨i + 1,fb,fc,fs,by have:=HK.out;omega,by go_num,HG2,HFF,Lib.hid ?_,Lib.hid ?_,by go_size,by (repeat' first|(with_reducible first|exact blR _ _|assumption|refine blD ?_|refine blN ?_ _)|((with_reducible first|refine blA ?_ ?_ _|refine blS ?_ ?_ _|refine blT (by assumption) ?_ ?_);focus (go_size;done)))⟩
       ·have k4:=K4.out
        (repeat (first|(with_reducible assumption)|((with_reducible refine bkW ?_);(first|rfl|(simp only [wsA,wsS,wsD,wsN];done)))|(with_reducible first|refine bkA ?_ _|refine bkD ?_|refine bkN ?_ _)|((with_reducible refine bkF ?_ ?_ _);focus (simp only [];omega))|((with_reducible refine bkB (by assumption) ?_ ?_);focus (go_size;done))))
       ·refine ((((?_ : Bk w4 g6 32 [.bool db,.int .u64 (wd dc 1),.int .u64 (wd dc 0),.int .i64 ds]).set_ 0 _).set_ 1 _).set_ 2 _).set_ 3 _
        have k6:=K6.out
        (repeat (first|(with_reducible assumption)|((with_reducible refine bkW ?_);(first|rfl|(simp only [wsA,wsS,wsD,wsN];done)))|(with_reducible first|refine bkA ?_ _|refine bkD ?_|refine bkN ?_ _)|((with_reducible refine bkF ?_ ?_ _);focus (simp only [];omega))|((with_reducible refine bkB (by assumption) ?_ ?_);focus (go_size;done))))
     ·subst f0
      have HG2 : Hid (R = (VD.zero,3)):=Lib.hid (by have e:=HNX.out;rw [HE2.out,if_pos (by simp)] at e;exact e)
      go_upto_if 58 with (first | ((go_at_call 36;with_reducible refine (HCM.out _).mono ?_);rintro _ w3 ⟨rfl,hb3⟩;have hb3s:=hb3.size;(try simp only [wsA,wsS,wsD,wsN] at hb3s);obtain ⟨hb3c,hb3f⟩:=bcell hb3;(try have : w.heap.size < w3.heap.size:=by omega);(try have : w.heap.size + 1 < w3.heap.size:=by omega);(try have : w.heap.size + 1 + 1 < w3.heap.size:=by omega);(try have : w.heap.size + 1 + 1 + 1 < w3.heap.size:=by omega);(have : g6 < w3.heap.size:=by omega)) | ((go_at_call 91;with_reducible refine (HAD.out _).mono ?_);rintro _ w4 ⟨rfl,hb4⟩;have hb4s:=hb4.size;(try simp only [wsA,wsS,wsD,wsN] at hb4s);obtain ⟨hb4c,hb4f⟩:=bcell hb4;(try have : w.heap.size < w4.heap.size:=by omega);(try have : w.heap.size + 1 < w4.heap.size:=by omega);(try have : w.heap.size + 1 + 1 < w4.heap.size:=by omega);(try have : w.heap.size + 1 + 1 + 1 < w4.heap.size:=by omega);(have : g6 < w4.heap.size:=by omega);(try have : w3.heap.size < w4.heap.size:=by omega);(try have : w3.heap.size + 1 < w4.heap.size:=by omega);(try have : w3.heap.size + 1 + 1 < w4.heap.size:=by omega);(try have : w3.heap.size + 1 + 1 + 1 < w4.heap.size:=by omega)))
      have k4:=K4.out
      have kk : Bk ((((w4.setCell ⟨g6,0,none⟩ (.bool fb)).setCell ⟨g6,1,none⟩ (.int .u64 (wd fc 1))).setCell ⟨g6,2,none⟩ (.int .u64 (wd fc 0))).setCell ⟨g6,3,none⟩ (.int .i64 fs)) w.heap.size 34 zc10:=by (repeat (first|(with_reducible assumption)|((with_reducible refine bkW ?_);(first|rfl|(simp only [wsA,wsS,wsD,wsN];done)))|(with_reducible first|refine bkA ?_ _|refine bkD ?_|refine bkN ?_ _)|((with_reducible refine bkF ?_ ?_ _);focus (simp only [];omega))|((with_reducible refine bkB (by assumption) ?_ ?_);focus (go_size;done))))
      have mb : Below w.heap.size w ((((w4.setCell ⟨g6,0,none⟩ (.bool fb)).setCell ⟨g6,1,none⟩ (.int .u64 (wd fc 1))).setCell ⟨g6,2,none⟩ (.int .u64 (wd fc 0))).setCell ⟨g6,3,none⟩ (.int .i64 fs)):=by (repeat' first|(with_reducible first|exact blR _ _|assumption|refine blD ?_|refine blN ?_ _)|((with_reducible first|refine blA ?_ ?_ _|refine blS ?_ ?_ _|refine blT (by assumption) ?_ ?_);focus (go_size;done)))
      generalize (((w4.setCell ⟨g6,0,none⟩ (.bool fb)).setCell ⟨g6,1,none⟩ (.int .u64 (wd fc 1))).setCell ⟨g6,2,none⟩ (.int .u64 (wd fc 0))).setCell ⟨g6,3,none⟩ (.int .i64 fs) = W at *
      have KK:=Lib.hid kk
      clear hb3 hb3c hb3f hb4 hb4c hb4f kk k4
      have z0:=KK.out.cell 0 rfl
      have z1:=KK.out.cell 1 rfl
      have z2:=KK.out.cell 2 rfl
      have z3:=KK.out.cell 3 rfl
      have z4:=KK.out.cell 4 rfl
      have z5:=KK.out.cell 5 rfl
      have z6:=KK.out.cell 6 rfl
      have z7:=KK.out.cell 7 rfl
      have z8:=KK.out.cell 8 rfl
      have z9:=KK.out.cell 9 rfl
      have zf0:=KK.out.frozen 0
      have zf1:=KK.out.frozen 1
      have zf2:=KK.out.frozen 2
      have zf3:=KK.out.frozen 3
      have zf4:=KK.out.frozen 4
      have zf5:=KK.out.frozen 5
      have zf6:=KK.out.frozen 6
      have zf7:=KK.out.frozen 7
      have zf8:=KK.out.frozen 8
      have zf9:=KK.out.frozen 9
      go_wp2_with fail
      refine bodyPost_ret (by simp [results,Tryz.results67,go_sem, *];try rfl) rfl ?_
      rw [HG2.out]
      exact ⟨none,0,none,0,by rw [zero_vargs],va_flat VS.zero_ok,by (repeat' first|(with_reducible first|exact blR _ _|assumption|refine blD ?_|refine blN ?_ _)|((with_reducible first|refine blA ?_ ?_ _|refine blS ?_ ?_ _|refine blT (by assumption) ?_ ?_);focus (go_size;done)))⟩
    ·have HE2:=Lib.hid (H9.out (by omega))
     subst h9
     by_cases hO : O < 0
     ·have HG2 : Hid (numGo 9 (xn,xc,xs) (l.drop (i + 1 + 1)) = R):=Lib.hid (by have e:=HNX.out;have e2:=HE2.out;rw [if_pos (.inl ⟨rfl,hO⟩)] at e2;rw [e2,if_neg (by simp)] at e;exact e.symm)
      go_wp2_with ((go_at_call 36;with_reducible refine (HCM.out _).mono ?_);rintro _ w3 ⟨rfl,hb3⟩;have hb3s:=hb3.size;(try simp only [wsA,wsS,wsD,wsN] at hb3s);obtain ⟨hb3c,hb3f⟩:=bcell hb3;(try have : w.heap.size < w3.heap.size:=by omega);(try have : w.heap.size + 1 < w3.heap.size:=by omega);(try have : w.heap.size + 1 + 1 < w3.heap.size:=by omega);(try have : w.heap.size + 1 + 1 + 1 < w3.heap.size:=by omega);(have : g6 < w3.heap.size:=by omega))
      go_roundg (gk - 1)
      case measure => have:=HK.out;omega
      case rel =>
       refine ⟨i + 1,xn,xc,xs,by have:=HK.out;omega,by go_num,HG2,HXF,Lib.hid ?_,Lib.hid ?_,by go_size,by (repeat' first|(with_reducible first|exact blR _ _|assumption|refine blD ?_|refine blN ?_ _)|((with_reducible first|refine blA ?_ ?_ _|refine blS ?_ ?_ _|refine blT (by assumption) ?_ ?_);focus (go_size;done)))⟩
       ·have k4:=K4.out
        (repeat (first|(with_reducible assumption)|((with_reducible refine bkW ?_);(first|rfl|(simp only [wsA,wsS,wsD,wsN];done)))|(with_reducible first|refine bkA ?_ _|refine bkD ?_|refine bkN ?_ _)|((with_reducible refine bkF ?_ ?_ _);focus (simp only [];omega))|((with_reducible refine bkB (by assumption) ?_ ?_);focus (go_size;done))))
       ·refine ((((?_ : Bk w3 g6 32 [.bool db,.int .u64 (wd dc 1),.int .u64 (wd dc 0),.int .i64 ds]).set_ 0 _).set_ 1 _).set_ 2 _).set_ 3 _
        have k6:=K6.out
        (repeat (first|(with_reducible assumption)|((with_reducible refine bkW ?_);(first|rfl|(simp only [wsA,wsS,wsD,wsN];done)))|(with_reducible first|refine bkA ?_ _|refine bkD ?_|refine bkN ?_ _)|((with_reducible refine bkF ?_ ?_ _);focus (simp only [];omega))|((with_reducible refine bkB (by assumption) ?_ ?_);focus (go_size;done))))
     ·have HG2 : Hid (numGo 9 (db,dc,ds) (l.drop (i + 1 + 1)) = R):=Lib.hid (by have e:=HNX.out;have e2:=HE2.out;rw [if_neg (by rintro (⟨h1,h2⟩ | ⟨h1,h2⟩) <;> omega)] at e2;rw [e2,if_neg (by simp)] at e;exact e.symm)
      go_wp2_with ((go_at_call 36;with_reducible refine (HCM.out _).mono ?_);rintro _ w3 ⟨rfl,hb3⟩;have hb3s:=hb3.size;(try simp only [wsA,wsS,wsD,wsN] at hb3s);obtain ⟨hb3c,hb3f⟩:=bcell hb3;(try have : w.heap.size < w3.heap.size:=by omega);(try have : w.heap.size + 1 < w3.heap.size:=by omega);(try have : w.heap.size + 1 + 1 < w3.heap.size:=by omega);(try have : w.heap.size + 1 + 1 + 1 < w3.heap.size:=by omega);(have : g6 < w3.heap.size:=by omega))
      go_roundg (gk - 1)
      case measure => have:=HK.out;omega
      case rel =>
       refine ⟨i + 1,db,dc,ds,by have:=HK.out;omega,by go_num,HG2,HDF2,Lib.hid ?_,Lib.hid ?_,by go_size,by (repeat' first|(with_reducible first|exact blR _ _|assumption|refine blD ?_|refine blN ?_ _)|((with_reducible first|refine blA ?_ ?_ _|refine blS ?_ ?_ _|refine blT (by assumption) ?_ ?_);focus (go_size;done)))⟩
       ·have k4:=K4.out
        (repeat (first|(with_reducible assumption)|((with_reducible refine bkW ?_);(first|rfl|(simp only [wsA,wsS,wsD,wsN];done)))|(with_reducible first|refine bkA ?_ _|refine bkD ?_|refine bkN ?_ _)|((with_reducible refine bkF ?_ ?_ _);focus (simp only [];omega))|((with_reducible refine bkB (by assumption) ?_ ?_);focus (go_size;done))))
       ·have k6:=K6.out
        (repeat (first|(with_reducible assumption)|((with_reducible refine bkW ?_);(first|rfl|(simp only [wsA,wsS,wsD,wsN];done)))|(with_reducible first|refine bkA ?_ _|refine bkD ?_|refine bkN ?_ _)|((with_reducible refine bkF ?_ ?_ _);focus (simp only [];omega))|((with_reducible refine bkB (by assumption) ?_ ?_);focus (go_size;done))))
    ·have HE2:=Lib.hid (H9.out (by omega))
     subst h10
     by_cases hO : 0 < O
     ·have HG2 : Hid (numGo 10 (xn,xc,xs) (l.drop (i + 1 + 1)) = R):=Lib.hid (by have e:=HNX.out;have e2:=HE2.out;rw [if_pos (.inr ⟨rfl,hO⟩)] at e2;rw [e2,if_neg (by simp)] at e;exact e.symm)
      go_wp2_with ((go_at_call 36;with_reducible refine (HCM.out _).mono ?_);rintro _ w3 ⟨rfl,hb3⟩;have hb3s:=hb3.size;(try simp only [wsA,wsS,wsD,wsN] at hb3s);obtain ⟨hb3c,hb3f⟩:=bcell hb3;(try have : w.heap.size < w3.heap.size:=by omega);(try have : w.heap.size + 1 < w3.heap.size:=by omega);(try have : w.heap.size + 1 + 1 < w3.heap.size:=by omega);(try have : w.heap.size + 1 + 1 + 1 < w3.heap.size:=by omega);(have : g6 < w3.heap.size:=by omega))
      go_roundg (gk - 1)
      case measure => have:=HK.out;omega
      case rel =>
       refine ⟨i + 1,xn,xc,xs,by have:=HK.out;omega,by go_num,HG2,HXF,Lib.hid ?_,Lib.hid ?_,by go_size,by (repeat' first|(with_reducible first|exact blR _ _|assumption|refine blD ?_|refine blN ?_ _)|((with_reducible first|refine blA ?_ ?_ _|refine blS ?_ ?_ _|refine blT (by assumption) ?_ ?_);focus (go_size;done)))⟩
       ·have k4:=K4.out
        (repeat (first|(with_reducible assumption)|((with_reducible refine bkW ?_);(first|rfl|(simp only [wsA,wsS,wsD,wsN];done)))|(with_reducible first|refine bkA ?_ _|refine bkD ?_|refine bkN ?_ _)|((with_reducible refine bkF ?_ ?_ _);focus (simp only [];omega))|((with_reducible refine bkB (by assumption) ?_ ?_);focus (go_size;done))))
       ·refine ((((?_ : Bk w3 g6 32 [.bool db,.int .u64 (wd dc 1),.int .u64 (wd dc 0),.int .i64 ds]).set_ 0 _).set_ 1 _).set_ 2 _).set_ 3 _
        have k6:=K6.out
        (repeat (first|(with_reducible assumption)|((with_reducible refine bkW ?_);(first|rfl|(simp only [wsA,wsS,wsD,wsN];done)))|(with_reducible first|refine bkA ?_ _|refine bkD ?_|refine bkN ?_ _)|((with_reducible refine bkF ?_ ?_ _);focus (simp only [];omega))|((with_reducible refine bkB (by assumption) ?_ ?_);focus (go_size;done))))
     ·have HG2 : Hid (numGo 10 (db,dc,ds) (l.drop (i + 1 + 1)) = R):=Lib.hid (by have e:=HNX.out;have e2:=HE2.out;rw [if_neg (by rintro (⟨h1,h2⟩ | ⟨h1,h2⟩) <;> omega)] at e2;rw [e2,if_neg (by simp)] at e;exact e.symm)
      go_wp2_with ((go_at_call 36;with_reducible refine (HCM.out _).mono ?_);rintro _ w3 ⟨rfl,hb3⟩;have hb3s:=hb3.size;(try simp only [wsA,wsS,wsD,wsN] at hb3s);obtain ⟨hb3c,hb3f⟩:=bcell hb3;(try have : w.heap.size < w3.heap.size:=by omega);(try have : w.heap.size + 1 < w3.heap.size:=by omega);(try have : w.heap.size + 1 + 1 < w3.heap.size:=by omega);(try have : w.heap.size + 1 + 1 + 1 < w3.heap.size:=by omega);(have : g6 < w3.heap.size:=by omega))
      go_roundg (gk - 1)
      case measure => have:=HK.out;omega
      case rel =>
       refine ⟨i + 1,db,dc,ds,by have:=HK.out;omega,by go_num,HG2,HDF2,Lib.hid ?_,Lib.hid ?_,by go_size,by (repeat' first|(with_reducible first|exact blR _ _|assumption|refine blD ?_|refine blN ?_ _)|((with_reducible first|refine blA ?_ ?_ _|refine blS ?_ ?_ _|refine blT (by assumption) ?_ ?_);focus (go_size;done)))⟩
       ·have k4:=K4.out
        (repeat (first|(with_reducible assumption)|((with_reducible refine bkW ?_);(first|rfl|(simp only [wsA,wsS,wsD,wsN];done)))|(with_reducible first|refine bkA ?_ _|refine bkD ?_|refine bkN ?_ _)|((with_reducible refine bkF ?_ ?_ _);focus (simp only [];omega))|((with_reducible refine bkB (by assumption) ?_ ?_);focus (go_size;done))))
       ·have k6:=K6.out
        (repeat (first|(with_reducible assumption)|((with_reducible refine bkW ?_);(first|rfl|(simp only [wsA,wsS,wsD,wsN];done)))|(with_reducible first|refine bkA ?_ _|refine bkD ?_|refine bkN ?_ _)|((with_reducible refine bkF ?_ ?_ _);focus (simp only [];omega))|((with_reducible refine bkB (by assumption) ?_ ?_);focus (go_size;done))))
   ·obtain rfl : i = m:=by omega
    clear hlt
    have d0:=K6.out.cell 0 rfl
    have d1:=K6.out.cell 1 rfl
    have d2:=K6.out.cell 2 rfl
    have d3:=K6.out.cell 3 rfl
    have z0:=K4.out.cell 0 rfl
    have z1:=K4.out.cell 1 rfl
    have z2:=K4.out.cell 2 rfl
    have z3:=K4.out.cell 3 rfl
    have z4:=K4.out.cell 4 rfl
    have z5:=K4.out.cell 5 rfl
    have z6:=K4.out.cell 6 rfl
    have z7:=K4.out.cell 7 rfl
    have z8:=K4.out.cell 8 rfl
    have z9:=K4.out.cell 9 rfl
    have zf0:=K4.out.frozen 0
    have zf1:=K4.out.frozen 1
    have zf2:=K4.out.frozen 2
    have zf3:=K4.out.frozen 3
    have zf4:=K4.out.frozen 4
    have zf5:=K4.out.frozen 5
    have zf6:=K4.out.frozen 6
    have zf7:=K4.out.frozen 7
    have zf8:=K4.out.frozen 8
    have zf9:=K4.out.frozen 9
    go_wp2_with fail
    refine bodyPost_ret (by simp [results,Tryz.results67,go_sem, *];try rfl) rfl ?_
    have e:=HGO.out
    rw [numGo_end (by have:=HM.out;omega)] at e
    rw [← e]
    exact ⟨none,0,none,0,by rw [num_vargs],va_flat (numS_ok (Nat.lt_trans HDF2.out.1 B34_lt)),by (repeat' first|(with_reducible first|exact blR _ _|assumption|refine blD ?_|refine blN ?_ _)|((with_reducible first|refine blA ?_ ?_ _|refine blS ?_ ?_ _|refine blT (by assumption) ?_ ?_);focus (go_size;done)))⟩
 ·rw [numD_odd (by simpa using ha)] at hR
  have hz : allNum l = false:=by simpa using ha
  rw [hz] at HB
  clear h hc ha hz
  subst hR
  go_enter Tryz.func67,Tryz.ntmps67
  go_wp2_with ((go_at_call 79;with_reducible refine (HB.out _ (by (repeat' first|(with_reducible first|exact blR _ _|assumption|refine blD ?_|refine blN ?_ _)|((with_reducible first|refine blA ?_ ?_ _|refine blS ?_ ?_ _|refine blT (by assumption) ?_ ?_);focus (go_size;done))))).mono ?_);rintro _ w2 ⟨rfl,hb2⟩;have hb2s:=hb2.size;(try simp only [wsA,wsS,wsD,wsN] at hb2s);obtain ⟨hb2c,hb2f⟩:=bcell hb2;(try have : w.heap.size < w2.heap.size:=by omega);(try have : w.heap.size + 1 < w2.heap.size:=by omega);(try have : w.heap.size + 1 + 1 < w2.heap.size:=by omega);(try have : w.heap.size + 1 + 1 + 1 < w2.heap.size:=by omega))
  refine bodyPost_ret (by simp [results,Tryz.results67,go_sem, *];try rfl) rfl ?_
  exact ⟨none,0,none,0,by rw [zero_vargs],va_flat VS.zero_ok,by (repeat' first|(with_reducible first|exact blR _ _|assumption|refine blD ?_|refine blN ?_ _)|((with_reducible first|refine blA ?_ ?_ _|refine blS ?_ ?_ _|refine blT (by assumption) ?_ ?_);focus (go_size;done)))⟩
end Go.Proofs.YtkjecoanlppeaaaGreatDoor



namespace Go.Proofs.YtkjecoanlppeaaaGreatDoor
open Go.RowKit

/-- the size of a plain number -/
def absN (n : Int) : Nat:=n.natAbs
def OfV (n : Int) : Value:=.agg #[.bool (decide (n < 0)),.int .u64 (wd (absN n) 1),.int .u64 (wd (absN n) 0),.int .i64 0]
theorem absN_lt {n : Int} (h : -9223372036854775808 ≤ n ∧ n ≤ 9223372036854775807) : absN n ≤ 9223372036854775808:=by unfold absN;omega
theorem absN_wd {n : Int} (h : -9223372036854775808 ≤ n ∧ n ≤ 9223372036854775807) : wd (absN n) 1 = 0 ∧ wd (absN n) 0 = (absN n : Int):=by
 have:=absN_lt h
 constructor
 ·rw [wd1,Nat.div_eq_of_lt (by omega)];rfl
 ·rw [wd0,Nat.mod_eq_of_lt (by omega)]
set_option maxHeartbeats 2000000 in
theorem of2_any (n : Int) (h : -9223372036854775808 ≤ n ∧ n ≤ 9223372036854775807) (w : World) : Calls Tryz.prog 66 #[.int .i64 n] w fun e w' => e = .returned (OfV n) ∧ Below w.heap.size w w':=by
 obtain ⟨e1,e0⟩:=absN_wd h
 have ha:=absN_lt h
 unfold OfV
 rw [e1,e0]
 by_cases hn : n < 0
 ·have e : (absN n : Int) = -n:=by unfold absN;omega
  rw [decide_eq_true hn,e]
  have g1 : IntKind.u64.wrap n = n + 18446744073709551616:=by rw [IntKind.wrap_u64];omega
  have g2 : IntKind.u64.wrap (-(n + 18446744073709551616)) = -n:=by rw [IntKind.wrap_u64];omega
  clear e1 e0 ha e
  go_enter Tryz.func66,Tryz.ntmps66
  go_wp2_with fail
  refine bodyPost_ret (by simp [results,Tryz.results66,go_sem, *];try rfl) rfl ?_
  exact ⟨rfl,by (repeat' first|(with_reducible first|exact blR _ _|assumption|refine blD ?_|refine blN ?_ _)|((with_reducible first|refine blA ?_ ?_ _|refine blS ?_ ?_ _|refine blT (by assumption) ?_ ?_);focus (go_size;done)))⟩
 ·have e : (absN n : Int) = n:=by unfold absN;omega
  rw [decide_eq_false hn,e]
  have hn0 : 0 ≤ n:=by omega
  have g1 : IntKind.u64.wrap n = n:=by rw [IntKind.wrap_u64];omega
  clear e1 e0 ha e
  go_enter Tryz.func66,Tryz.ntmps66
  go_wp2_with fail
  refine bodyPost_ret (by simp [results,Tryz.results66,go_sem, *];try rfl) rfl ?_
  exact ⟨rfl,by (repeat' first|(with_reducible first|exact blR _ _|assumption|refine blD ?_|refine blN ?_ _)|((with_reducible first|refine blA ?_ ?_ _|refine blS ?_ ?_ _|refine blT (by assumption) ?_ ?_);focus (go_size;done)))⟩
end Go.Proofs.YtkjecoanlppeaaaGreatDoor



namespace Go.Proofs.YtkjecoanlppeaaaGreatDoor
open Go.RowKit

/-- a copy of names is handed back -/
def RetN (l : List (List UInt8)) (w : World) (e : Ending) (w' : World) : Prop:=∃ A C,e = .returned (.slice A l.length C) ∧ (∀ W,Agr 0 w.heap.size w'.heap.size w' W → Nms W (.slice A l.length C) l) ∧ Below w.heap.size w w'
/-- a copy is handed back: it reads as it reads whatever becomes of what was there -/
def RetC (d : VD) (w : World) (e : Ending) (w' : World) : Prop:=∃ A C A2 C2,e = .returned (vargs d A C A2 C2) ∧ VB 0 w.heap.size w'.heap.size w' d A C A2 C2 ∧ Below w.heap.size w w'
def bas (l : List (List UInt8)) : List ByteArray:=l.map fun s => ⟨s.toArray⟩
theorem nms_own {w : World} {B : Nat} {v : Value} {l : List (List UInt8)} (h : w.ownsRow B 9 1 v l.length (l.map fun s => Value.string ⟨s.toArray⟩)) (hb : ∀ r,r < l.length → (ng l r).length ≤ 1048576) (hl : l.length ≤ 1048576) :
  ∃ A C,v = .slice A l.length C ∧ ∀ W,Agr 0 B w.heap.size w W → Nms W (.slice A l.length C) l:=by
 rcases h.2 with ⟨rfl,h0⟩ | ⟨g,cap,cur,rfl,hB,hg,h1,h2,h3,h4⟩
 ·rw [List.eq_nil_of_length_eq_zero h0]
  exact ⟨none,0,rfl,fun W _ => ⟨none,0,rfl,⟨by simp,by simp,by decide⟩,fun r hr => absurd hr (Nat.not_lt_zero _)⟩⟩
 ·refine ⟨_,_,rfl,fun W hag => ⟨_,_,rfl,⟨hl,h1,h2⟩,fun r hr => ⟨g,0,rfl, ?_,hb r hr⟩⟩⟩
  have hgl : g < w.heap.size:=(Array.getElem?_eq_some_iff.1 hg).1
  have hg' : W.heap[g]? = some (.cells cur 9 (0,0)):=(hag g (.inr ⟨hB,hgl⟩)).trans hg
  have e : cur.toList[r]? = some (.string ⟨(ng l r).toArray⟩):=by
   rw [Nat.mul_one] at h4
   have e1 : (cur.toList.take l.length)[r]? = cur.toList[r]?:=List.getElem?_take_of_lt hr
   rw [← e1,h4,List.getElem?_map,List.getElem?_eq_getElem hr,ng_get hr];rfl
  rw [Nat.zero_add,cell_of_row W g r cur _ (0,0) hg',← e];simp
theorem clone_any (l : List (List UInt8)) (N : Value) (w : World) (h : Nms w N l) : Calls Tryz.prog 71 #[N] w (RetN l w):=by
 obtain ⟨A,C,rfl,hb,hr⟩:=id h
 by_cases h0 : l.length = 0
 ·have hl : l = []:=List.eq_nil_of_length_eq_zero h0
  subst hl
  cases A with
  | none =>
   refine (Tryz.slices_Clone_string_nil 0 C w).mono ?_
   rintro _ _ ⟨rfl,rfl⟩
   exact ⟨none,0,rfl,fun W _ => ⟨none,0,rfl,⟨by simp,by simp,by decide⟩,fun r hr => absurd hr (Nat.not_lt_zero _)⟩,Below.refl _ _⟩
  | some a =>
   refine (Tryz.slices_Clone_string_zero a C w).mono ?_
   rintro _ w' ⟨v',rfl,hown,_,hbel⟩
   obtain ⟨A',C',rfl,hN⟩:=nms_own (l:=[]) hown (fun r hr => absurd hr (Nat.not_lt_zero _)) (by simp)
   exact ⟨A',C',rfl,hN,hbel⟩
 ·obtain ⟨b,o,rfl,_,_⟩:=hr 0 (by omega)
  have hlb : (bas l).length = l.length:=by unfold bas;rw [List.length_map]
  have hbs : ∀ r,r < l.length → (ng l r).length ≤ 1048576:=fun r hr' => by
   obtain ⟨_,_,_,_,q⟩:=hr r hr'
   exact q
  refine (Tryz.slices_Clone_string b o l.length C (bas l) w (by omega) (by omega) (fun j hj => ?_)).mono ?_
  ·obtain ⟨b',o',e',hc,_⟩:=hr j (by omega)
   injection e' with e'
   injection e' with e1 e2 _
   subst e1 e2
   rw [hc]
   unfold bas
   rw [List.getD_eq_getElem?_getD,List.getElem?_map,List.getElem?_eq_getElem (by omega),ng_get (by omega)];rfl
  ·rintro _ w' ⟨v',rfl,hown,_,hbel⟩
   have e : ((bas l).take l.length).map Value.string = l.map fun s => Value.string ⟨s.toArray⟩:=by
    rw [List.take_of_length_le (by omega)]
    unfold bas
    rw [List.map_map];rfl
   rw [e] at hown
   obtain ⟨A',C',rfl,hN⟩:=nms_own hown hbs hb.1
   exact ⟨A',C',rfl,hN,hbel⟩
end Go.Proofs.YtkjecoanlppeaaaGreatDoor

