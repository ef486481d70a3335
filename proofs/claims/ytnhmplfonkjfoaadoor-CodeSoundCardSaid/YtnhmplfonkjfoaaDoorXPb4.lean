/- What this law reaches beyond the common contracts, part 4. -/
import Derived.Deep.Upon
import Derived.OwnWalk
import Derived.BigQuiet
import Derived.BigRegion
import Derived.Deep.DeepCutAuto
import Derived.Test.YtnhmplfonkjfoaaDoorM2
import Derived.Test.YtnhmplfonkjfoaaDoorXPb3
set_option linter.unusedSimpArgs false
set_option linter.unusedVariables false


namespace Go.Proofs.YtnhmplfonkjfoaaDoor
open Go.RowKit

theorem compile_any (is : List InsD) (v : Value) (b : Bool) (w : World) (h : Cod w v is) (hg : ∀ r,r < is.length → GoodI (ig is r)) (hT : Tabs w) : Calls Tryd.prog 11 #[v,.bool b] w (CmpPost is b w):=by
 have hc : Calls Tryd.prog 21 #[v,.bool b] w fun e w'=>e = .returned (.int .i64 (chkP is b)) ∧ Below w.heap.size w w':=by
  by_cases hl : 300 < is.length
  ·exact check_long is v b w h hl
  ·exact check_in is v b w h hg hT (by omega)
 by_cases h0 : chkP is b = 0
 ·exact compile_good is v b w h hc h0
 ·exact compile_bad is v b w hc h0
theorem Ro.cod {w : World} {o : Nat → Nat} {l n : Nat} {t : TypeId} {v : Value} {p : List InsD} (h : Ro w o l t 8 v n (ics p)) (hn : p.length = n) : Cod w v p:=by
 subst hn
 obtain ⟨A,C,rfl,hm⟩:=h.sl.is
 refine ⟨A,C,rfl,hm,fun r hr=>?_⟩
 obtain ⟨g,e,-,hat⟩:=h.ins rfl hr
 exact ⟨g,0,e,by rw [Nat.zero_add];exact hat⟩
theorem bk_cod {w : World} {g C : Nat} {t : TypeId} {p : List InsD} (h : Bk w g t (ics p)) (hm : p.length ≤ maxLen) : Cod w (.slice (some ⟨g,0,none⟩) p.length C) p :=
 ⟨_,C,rfl,hm,fun r hr=>⟨g,0,rfl,fun j hj=>by
  rw [cs_len] at hj
  rw [Nat.zero_add,← ics_get p r j hr hj]
  have hl : r * 8 + j < (ics p).length:=by rw [ics_length];omega
  rw [List.getElem?_eq_getElem hl]
  exact h.cell _ (List.getElem?_eq_getElem hl)⟩⟩
def chIs : List InsD:=[insO 2 0,insO 1 0,insO 3 0,insO 21 3]
def knIs : List InsD:=[insO 2 0,insO 102 4,insO 1 0,insO 101 5,insO 3 0]
set_option maxHeartbeats 1000000 in
theorem choice14_any (w : World) : Calls Tryd.prog 19 #[] w fun e w'=>∃ v,e = .returned v ∧ Cod w' v chIs ∧ Below w.heap.size w w':=by
 go_enter Tryd.func19,Tryd.ntmps19
 go_wp2_with fail
 go_ret
 exact ⟨_,rfl,bk_cod (p:=chIs) (C:=4) (Bk.new w 45 (ics chIs)) (by unfold maxLen;decide),by (repeat' first|(with_reducible first|exact blR _ _|assumption|refine blD ?_|refine blN ?_ _)|((with_reducible first|refine blA ?_ ?_ _|refine blS ?_ ?_ _|refine blT (by assumption) ?_ ?_);focus (go_size;done)))⟩
theorem comp_ch : compD chIs = knIs:=by rfl
theorem node_zero {is : List InsD} {i : InsD} {st : List Th} (h1 : fldI i = true) (h2 : kidsB i.op 0 = true) (ha : i.a = 0) (h27 : i.op ≠ 27) : nodeP is i st :=
 ⟨h1,by rw [ha];exact h2,by rw [ha];exact Int.natCast_nonneg _,fun k hk=>by rw [ha] at hk;exact absurd hk (Nat.not_lt_zero _),fun h=>h27 h.1⟩
theorem chk_ch : chkP chIs false = 0:=by
 unfold chkP
 rw [if_neg (by decide)]
 have n0 : nodeP chIs (ig chIs 0) []:=node_zero (by decide) (by decide) rfl (by decide)
 show endC false (cGo chIs 4 0 [] 0) = 0
 rw [cGo_yes n0]
 have s0 : stepT (ig chIs 0) 0 [] = [(1,1,0)]:=by decide
 rw [s0]
 have n1 : nodeP chIs (ig chIs 1) [(1,1,0)]:=node_zero (by decide) (by decide) rfl (by decide)
 rw [cGo_yes n1]
 have s1 : stepT (ig chIs 1) 1 [(1,1,0)] = [(1,1,0),(1,1,1)]:=by decide
 rw [s1]
 have n2 : nodeP chIs (ig chIs 2) [(1,1,0),(1,1,1)]:=node_zero (by decide) (by decide) rfl (by decide)
 rw [cGo_yes n2]
 have s2 : stepT (ig chIs 2) 2 [(1,1,0),(1,1,1)] = [(1,1,0),(1,1,1),(1,1,2)]:=by decide
 rw [s2]
 have n3 : nodeP chIs (ig chIs 3) [(1,1,0),(1,1,1),(1,1,2)]:=by
  refine ⟨by decide,by decide,by decide,fun k hk=>?_,fun h=>absurd h.1 (by decide)⟩
  have hk : k < 3:=hk
  match k,hk with
  | 0,_=>decide
  | 1,_=>decide
  | 2,_=>decide
  | k + 3,hk=>omega
 rw [cGo_yes n3]
 have s3 : stepT (ig chIs 3) 3 [(1,1,0),(1,1,1),(1,1,2)] = [(1,2,3)]:=by decide
 rw [s3]
 decide
theorem cmp_ch : cmpD chIs false = knIs:=by
 unfold cmpD
 rw [if_pos chk_ch,comp_ch]
theorem good_ch : ∀ r,r < chIs.length → GoodI (ig chIs r):=fun r hr=>by
 have hr : r < 4:=hr
 have u0 : U64 0:=⟨by decide,by decide⟩
 match r,hr with
 | 0,_=>exact ⟨u0,u0,by decide⟩
 | 1,_=>exact ⟨u0,u0,by decide⟩
 | 2,_=>exact ⟨u0,u0,by decide⟩
 | 3,_=>exact ⟨u0,u0,by decide⟩
 | k + 4,hk=>omega
set_option maxHeartbeats 1500000 in
theorem known14_any (w : World) (hT : Tabs w) : Calls Tryd.prog 9 #[] w fun e w'=>e = .returned (.bool true) ∧ Below w.heap.size w w':=by
 have HT:=Lib.hid hT
 clear hT
 go_enter Tryd.func9,Tryd.ntmps9
 go_upto_region 2 with (first | (go_at_call 19;(with_reducible refine (choice14_any _).mono ?_);rintro _ w1 ⟨v1,rfl,hc1,hb1⟩) | (go_at_call 11;(with_reducible refine (compile_any chIs _ false _ hc1 good_ch (tabs_below HT.out hb1)).mono ?_);rintro _ w2 ⟨r,o,rfl,ht2,hr2⟩))
 rw [chk_ch]
 rw [cmp_ch] at hr2
 have hcr : Cod w2 r knIs:=hr2.cod rfl
 have hb3 : Below w.heap.size w w2:=hb1.trans ((ht2.below (B:=w1.heap.size) (fun _ _=>by simp) (Nat.le_refl _)).mono hb1.size)
 have HCR:=Lib.hid hcr
 obtain ⟨Ar,Cr,rfl,-,-⟩:=hcr
 clear hr2 ht2 hb1 hc1
 have HSM:=Lib.hid (fun (X : Obj) (hX : X = .cells (ics knIs).toArray 43)=>same_ins knIs knIs (.slice Ar knIs.length Cr) (.slice (some ⟨w2.heap.size,0,none⟩) 5 5) (w2.alloc X) (HCR.out.below (Below.alloc (Below.refl _ _) (Nat.le_refl _) _)) (by subst hX;exact bk_cod (p:=knIs) (C:=5) (Bk.new w2 43 (ics knIs)) (by unfold maxLen;decide)))
 have hsm:=sameB_yes (rfl : knIs = knIs)
 simp only [hsm] at HSM
 clear hsm
 go_wp2_with (go_at_call 12;(refine (HSM.out _ rfl).mono ?_);rintro _ w3 ⟨rfl,hb4⟩)
 go_ret
 exact ⟨rfl,(hb3.alloc hb3.size _).trans (hb4.mono (Nat.le_trans hb3.size (by rw [World.size_alloc];exact Nat.le_succ _)))⟩
end Go.Proofs.YtnhmplfonkjfoaaDoor



namespace Go.Proofs.YtnhmplfonkjfoaaDoor
open Go.RowKit

abbrev Pts:=List (List Nat)
def stOk (i : InsD) (hv : List Nat) : Bool:=kidsB i.op i.a && decide (i.a ≤ hv.length)
def stPart (i : InsD) (hv : List Nat) : List Nat:=hv.drop (hv.length - i.a.toNat)
def stStep (i : InsD) (t : Nat) (hv : List Nat) : List Nat:=hv.take (hv.length - i.a.toNat) ++ [t]
def stGo (is : List InsD) : Nat → Nat → Pts → List Nat → Option (Pts × List Nat)
 | 0,_,ps,hv=>some (ps,hv)
 | n + 1,t,ps,hv=>if stOk (ig is t) hv = true then stGo is n (t + 1) (ps ++ [stPart (ig is t) hv]) (stStep (ig is t) t hv) else none
def ng (p : List Nat) (k : Nat) : Nat:=p.getD k 0
def ndOk (is : List InsD) (p : List Nat) (i : InsD) : Prop :=
 fldI i = true ∧ (∀ k,k < p.length → sortR (ig is (ng p k)).op = wantD i.op k) ∧ ¬ (i.op = 27 ∧ twF (fun r=>(ig is (ng p r)).tx) p.length = true)
def dpOf (ds : List Int) (p : List Nat) : Nat → Int
 | 0=>0
 | k + 1=>max (dpOf ds p k) (ds.getD (ng p k) 0)
def pgN (ps : Pts) (t : Nat) : List Nat:=ps.getD t []
open Classical in
noncomputable def rGo (is : List InsD) (ps : Pts) : Nat → Nat → List Int → Int → Option Int
 | 0,_,_,d=>some d
 | n + 1,t,ds,d=>if ndOk is (pgN ps t) (ig is t) then rGo is ps n (t + 1) (ds.set t (dpOf ds (pgN ps t) (pgN ps t).length + 1)) (max d (dpOf ds (pgN ps t) (pgN ps t).length + 1)) else none
def endR (b : Bool) (s d : Int) : Int:=if (b = true ∧ s ≠ 4 ∧ s ≠ 5) ∨ (b = false ∧ s ≠ 1) then 2 else if 40 < d then 7 else 0
noncomputable def chkR (is : List InsD) (b : Bool) : Int :=
 if 300 < is.length then 6
 else match stGo is is.length 0 [] [] with
 | none=>2
 | some (ps,hv)=>if hv.length ≠ 1 then 2 else
  match rGo is ps is.length 0 (List.replicate is.length 0) 0 with
  | none=>2
  | some d=>endR b (sortR (ig is (is.length - 1)).op) d
theorem rGo_no {is : List InsD} {ps : Pts} {n t : Nat} {ds : List Int} {d : Int} (h : ¬ ndOk is (pgN ps t) (ig is t)) : rGo is ps (n + 1) t ds d = none:=by
 unfold rGo;exact if_neg h
theorem rGo_yes {is : List InsD} {ps : Pts} {n t : Nat} {ds : List Int} {d : Int} (h : ndOk is (pgN ps t) (ig is t)) : rGo is ps (n + 1) t ds d = rGo is ps n (t + 1) (ds.set t (dpOf ds (pgN ps t) (pgN ps t).length + 1)) (max d (dpOf ds (pgN ps t) (pgN ps t).length + 1)):=by
 rw [rGo];exact if_pos h
theorem stGo_no {is : List InsD} {n t : Nat} {ps : Pts} {hv : List Nat} (h : stOk (ig is t) hv = false) : stGo is (n + 1) t ps hv = none:=by
 unfold stGo;rw [h];rfl
theorem stGo_yes {is : List InsD} {n t : Nat} {ps : Pts} {hv : List Nat} (h : stOk (ig is t) hv = true) : stGo is (n + 1) t ps hv = stGo is n (t + 1) (ps ++ [stPart (ig is t) hv]) (stStep (ig is t) t hv):=by
 rw [stGo];exact if_pos h
theorem stGo_ext {is : List InsD} : ∀ (n t : Nat) (ps : Pts) (hv : List Nat) (PS : Pts) (HV : List Nat),stGo is n t ps hv = some (PS,HV) → ∃ q,PS = ps ++ q
 | 0,t,ps,hv,PS,HV,h=>by
  injection h with h
  injection h with h1 h2
  exact ⟨[],by rw [List.append_nil,h1]⟩
 | n + 1,t,ps,hv,PS,HV,h=>by
  cases hc : stOk (ig is t) hv with
  | false=>rw [stGo_no hc] at h;cases h
  | true =>
   rw [stGo_yes hc] at h
   obtain ⟨q,hq⟩:=stGo_ext n _ _ _ _ _ h
   exact ⟨[stPart (ig is t) hv] ++ q,by rw [hq,List.append_assoc]⟩
def stOf (is : List InsD) (ds : List Int) (hv : List Nat) : List Th:=hv.map fun i=>(sortD (ig is i).op,ds.getD i 0,i)
theorem tg_of {is : List InsD} {ds : List Int} {hv : List Nat} {j : Nat} (h : j < hv.length) : tg (stOf is ds hv) j = (sortD (ig is (ng hv j)).op,ds.getD (ng hv j) 0,ng hv j):=by
 unfold tg stOf ng
 rw [List.getD_eq_getElem?_getD,List.getElem?_map,List.getD_eq_getElem?_getD,List.getElem?_eq_getElem h]
 rfl
theorem stOf_length {is : List InsD} {ds : List Int} {hv : List Nat} : (stOf is ds hv).length = hv.length:=List.length_map _
theorem ng_drop (hv : List Nat) (n k : Nat) : ng (hv.drop n) k = ng hv (n + k):=by
 unfold ng;rw [List.getD_eq_getElem?_getD,List.getD_eq_getElem?_getD,List.getElem?_drop]
structure Along (is : List InsD) (t : Nat) (ds : List Int) (hv : List Nat) : Prop where
 lt : ∀ x ∈ hv,x < t
 ks : ∀ x ∈ hv,kidsB (ig is x).op (ig is x).a = true
 last : 0 < t → 0 < hv.length ∧ ng hv (hv.length - 1) = t - 1
 len : ds.length = is.length
theorem ng_mem {hv : List Nat} {k : Nat} (h : k < hv.length) : ng hv k ∈ hv:=by
 unfold ng
 rw [List.getD_eq_getElem?_getD,List.getElem?_eq_getElem h]
 exact List.getElem_mem h
theorem part_len {i : InsD} {hv : List Nat} (h1 : 0 ≤ i.a) (h2 : i.a ≤ hv.length) : (stPart i hv).length = i.a.toNat:=by
 unfold stPart;rw [List.length_drop];omega
theorem dp_same {is : List InsD} {ds : List Int} {hv : List Nat} {i : InsD} (h1 : 0 ≤ i.a) (h2 : i.a ≤ hv.length) : ∀ k,k ≤ i.a.toNat → thDep (partF i (stOf is ds hv)) k = dpOf ds (stPart i hv) k
 | 0,_=>rfl
 | k + 1,hk=>by
  show max _ _ = max _ _
  rw [dp_same h1 h2 k (by omega)]
  unfold partF cutN
  rw [stOf_length,tg_of (by omega)]
  unfold stPart
  rw [ng_drop]
theorem node_same {is : List InsD} {t : Nat} {ds : List Int} {hv : List Nat} {i : InsD} (h : Along is t ds hv) : nodeP is i (stOf is ds hv) ↔ stOk i hv = true ∧ ndOk is (stPart i hv) i:=by
 unfold nodeP stOk ndOk
 rw [Bool.and_eq_true,decide_eq_true_eq,stOf_length]
 by_cases hk : kidsB i.op i.a = true
 ·by_cases ha : i.a ≤ hv.length
  ·have h1:=kids_pos hk
   have hl:=part_len h1 ha
   have e1 : ∀ k,k < i.a.toNat → partF i (stOf is ds hv) k = (sortD (ig is (ng (stPart i hv) k)).op,ds.getD (ng (stPart i hv) k) 0,ng (stPart i hv) k):=fun k hk'=>by
    unfold partF cutN stPart
    rw [stOf_length,tg_of (by omega),ng_drop]
   have e2 : sortsP i.op (partF i (stOf is ds hv)) i.a.toNat ↔ ∀ k,k < (stPart i hv).length → sortR (ig is (ng (stPart i hv) k)).op = wantD i.op k:=by
    rw [hl]
    unfold sortsP
    refine forall_congr' fun k=>forall_congr' fun hk'=>?_
    rw [e1 k hk',sortR_kids (h.ks _ (by
     have : ng (stPart i hv) k = ng hv (hv.length - i.a.toNat + k):=by unfold stPart;rw [ng_drop]
     rw [this]
     exact ng_mem (by omega)))]
   have e3 : twF (fun r=>(ig is (partF i (stOf is ds hv) r).2.2).tx) i.a.toNat = twF (fun r=>(ig is (ng (stPart i hv) r)).tx) (stPart i hv).length:=by
    rw [hl]
    unfold twF
    congr 1
    refine propext ?_
    unfold twP
    constructor
    ·rintro ⟨x,hx,y,hy,e⟩
     refine ⟨x,hx,y,hy, ?_⟩
     have e' : (ig is (partF i (stOf is ds hv) x).2.2).tx = (ig is (partF i (stOf is ds hv) y).2.2).tx:=e
     rw [e1 x hx,e1 y (by omega)] at e'
     exact e'
    ·rintro ⟨x,hx,y,hy,e⟩
     refine ⟨x,hx,y,hy, ?_⟩
     show (ig is (partF i (stOf is ds hv) x).2.2).tx = (ig is (partF i (stOf is ds hv) y).2.2).tx
     rw [e1 x hx,e1 y (by omega)]
     exact e
   rw [e2,e3]
   exact ⟨fun ⟨a,b,c,d,e⟩=>⟨⟨b,c⟩,a,d,e⟩,fun ⟨⟨b,c⟩,a,d,e⟩=>⟨a,b,c,d,e⟩⟩
  ·exact ⟨fun ⟨_,_,c,_⟩=>absurd c ha,fun ⟨⟨_,c⟩,_⟩=>absurd c ha⟩
 ·exact ⟨fun ⟨_,b,_⟩=>absurd b hk,fun ⟨⟨b,_⟩,_⟩=>absurd b hk⟩
theorem along_step {is : List InsD} {t : Nat} {ds : List Int} {hv : List Nat} (h : Along is t ds hv) (v : Int) (hk : stOk (ig is t) hv = true) : Along is (t + 1) (ds.set t v) (stStep (ig is t) t hv):=by
 unfold stOk at hk
 rw [Bool.and_eq_true] at hk
 have hs : (stStep (ig is t) t hv).length = (hv.take (hv.length - (ig is t).a.toNat)).length + 1:=by unfold stStep;rw [List.length_append];rfl
 refine ⟨fun x hx=>?_,fun x hx=>?_,fun _=>⟨by omega, ?_⟩,by rw [List.length_set];exact h.len⟩
 ·unfold stStep at hx
  rcases List.mem_append.1 hx with hx | hx
  ·have:=h.lt x (List.mem_of_mem_take hx);omega
  ·rw [List.mem_singleton.1 hx];omega
 ·unfold stStep at hx
  rcases List.mem_append.1 hx with hx | hx
  ·exact h.ks x (List.mem_of_mem_take hx)
  ·rw [List.mem_singleton.1 hx];exact hk.1
 ·rw [hs]
  unfold stStep ng
  rw [List.getD_eq_getElem?_getD,List.getElem?_append_right (by omega)]
  simp
theorem step_same {is : List InsD} {t : Nat} {ds : List Int} {hv : List Nat} (h : Along is t ds hv) (ht : t < is.length) (hk : stOk (ig is t) hv = true) :
  stepT (ig is t) t (stOf is ds hv) = stOf is (ds.set t (dpOf ds (stPart (ig is t) hv) (stPart (ig is t) hv).length + 1)) (stStep (ig is t) t hv):=by
 unfold stOk at hk
 rw [Bool.and_eq_true,decide_eq_true_eq] at hk
 have h1:=kids_pos hk.1
 have hl:=part_len h1 hk.2
 unfold stepT stStep
 rw [hl,dp_same h1 hk.2 _ (Nat.le_refl _)]
 unfold stOf cutN
 rw [List.map_append,List.map_take,List.length_map]
 congr 1
 ·congr 1
  refine List.map_congr_left fun x hx=>?_
  have:=h.lt x hx
  rw [List.getD_eq_getElem?_getD,List.getD_eq_getElem?_getD,List.getElem?_set,if_neg (by omega)]
 ·have hd : (ds.set t (dpOf ds (stPart (ig is t) hv) (ig is t).a.toNat + 1)).getD t 0 = dpOf ds (stPart (ig is t) hv) (ig is t).a.toNat + 1:=by
   rw [List.getD_eq_getElem?_getD,List.getElem?_set,if_pos rfl,if_pos (by rw [h.len];exact ht)];rfl
  show [(sortD (ig is t).op,_,t)] = [(sortD (ig is t).op,(ds.set t (dpOf ds (stPart (ig is t) hv) (ig is t).a.toNat + 1)).getD t 0,t)]
  rw [hd]
theorem go_same {is : List InsD} : ∀ (n t : Nat) (ps : Pts) (hv : List Nat) (ds : List Int) (d : Int),n + t = is.length → ps.length = t → Along is t ds hv →
  (stGo is n t ps hv = none → cGo is n t (stOf is ds hv) d = none) ∧
  ∀ PS HV,stGo is n t ps hv = some (PS,HV) → (rGo is PS n t ds d = none → cGo is n t (stOf is ds hv) d = none) ∧ ∀ D,rGo is PS n t ds d = some D → ∃ DS,cGo is n t (stOf is ds hv) d = some (stOf is DS HV,D) ∧ Along is is.length DS HV
 | 0,t,ps,hv,ds,d,hn,hp,ha=>by
  refine ⟨fun h=>(by cases h),fun PS HV h=>⟨fun h2=>(by (unfold rGo at h2;cases h2)),fun D h2=>?_⟩⟩
  injection h with h
  injection h with h3 h4
  unfold rGo at h2
  injection h2 with h2
  subst h4 h2
  exact ⟨ds,rfl,by rw [show is.length = t by omega];exact ha⟩
 | n + 1,t,ps,hv,ds,d,hn,hp,ha=>by
  have ht : t < is.length:=by omega
  cases hc : stOk (ig is t) hv with
  | false =>
   have hno : cGo is (n + 1) t (stOf is ds hv) d = none:=cGo_no (fun h=>by
    have:=((node_same ha).1 h).1
    rw [hc] at this;cases this)
   rw [stGo_no hc]
   exact ⟨fun _=>hno,fun PS HV h=>(by cases h)⟩
  | true =>
   rw [stGo_yes hc]
   by_cases hnd : ndOk is (stPart (ig is t) hv) (ig is t)
   ·have hN:=(node_same (i:=ig is t) ha).2 ⟨hc,hnd⟩
    have hkk:=hc
    unfold stOk at hkk
    rw [Bool.and_eq_true,decide_eq_true_eq] at hkk
    have hl:=part_len (kids_pos hkk.1) hkk.2
    have hdp:=dp_same (is:=is) (ds:=ds) (kids_pos hkk.1) hkk.2 _ (Nat.le_refl _)
    rw [cGo_yes hN,step_same ha ht hc,hdp,← hl]
    have ih:=go_same n (t + 1) (ps ++ [stPart (ig is t) hv]) (stStep (ig is t) t hv) (ds.set t (dpOf ds (stPart (ig is t) hv) (stPart (ig is t) hv).length + 1)) (max d (dpOf ds (stPart (ig is t) hv) (stPart (ig is t) hv).length + 1)) (by omega) (by rw [List.length_append,hp];rfl) (along_step ha _ hc)
    refine ⟨ih.1,fun PS HV h=>?_⟩
    obtain ⟨q,hq⟩:=stGo_ext _ _ _ _ _ _ h
    have e : pgN PS t = stPart (ig is t) hv:=by
     unfold pgN
     rw [hq,List.append_assoc,List.getD_eq_getElem?_getD,List.getElem?_append_right (by omega),hp,Nat.sub_self]
     rfl
    have ih2:=ih.2 PS HV h
    rw [rGo_yes (by rw [e];exact hnd),e]
    exact ih2
   ·have hno : cGo is (n + 1) t (stOf is ds hv) d = none:=cGo_no (fun h=>hnd ((node_same ha).1 h).2)
    rw [hno]
    refine ⟨fun _=>rfl,fun PS HV h=>⟨fun _=>rfl,fun D h2=>?_⟩⟩
    obtain ⟨q,hq⟩:=stGo_ext _ _ _ _ _ _ h
    have e : pgN PS t = stPart (ig is t) hv:=by
     unfold pgN
     rw [hq,List.append_assoc,List.getD_eq_getElem?_getD,List.getElem?_append_right (by omega),hp,Nat.sub_self]
     rfl
    rw [rGo_no (by rw [e];exact hnd)] at h2
    cases h2
theorem chk_same (is : List InsD) (b : Bool) : chkR is b = chkP is b:=by
 unfold chkR chkP
 by_cases hl : 300 < is.length
 ·rw [if_pos hl,if_pos hl]
 ·rw [if_neg hl,if_neg hl]
  have h:=go_same is.length 0 [] [] (List.replicate is.length 0) 0 rfl rfl (is:=is) ⟨fun x hx=>(by cases hx),fun x hx=>(by cases hx),fun h=>absurd h (by omega),List.length_replicate⟩
  have hz : stOf is (List.replicate is.length 0) [] = []:=rfl
  rw [hz] at h
  cases hs : stGo is is.length 0 [] [] with
  | none=>rw [h.1 hs];rfl
  | some x =>
   obtain ⟨PS,HV⟩:=x
   have h2:=h.2 PS HV hs
   dsimp only
   cases hr : rGo is PS is.length 0 (List.replicate is.length 0) 0 with
   | none =>
    rw [h2.1 hr]
    show (if _ then _ else _) = (2 : Int)
    split <;> rfl
   | some D =>
    obtain ⟨DS,e1,al⟩:=h2.2 D hr
    rw [e1]
    unfold endC endR
    dsimp only
    rw [stOf_length]
    by_cases h1 : HV.length = 1
    ·rw [if_neg (fun h=>h h1)]
     have e0 : (tg (stOf is DS HV) 0).1 = sortR (ig is (is.length - 1)).op:=by
      have hpos : 0 < is.length:=by
       rcases Nat.eq_zero_or_pos is.length with h | h
       ·rw [h] at hs
        injection hs with hs
        injection hs with _ hs
        rw [← hs] at h1;cases h1
       ·exact h
      have hlast:=(al.last hpos).2
      rw [h1] at hlast
      rw [tg_of (by omega)]
      have hm:=al.ks (ng HV 0) (ng_mem (by omega))
      show sortD _ = _
      rw [← sortR_kids hm,hlast]
     rw [e0]
     by_cases hc : (b = true ∧ sortR (ig is (is.length - 1)).op ≠ 4 ∧ sortR (ig is (is.length - 1)).op ≠ 5) ∨ (b = false ∧ sortR (ig is (is.length - 1)).op ≠ 1)
     ·rw [if_pos hc,if_pos (.inr hc)]
     ·rw [if_neg hc,if_neg (show ¬ (HV.length ≠ 1 ∨ _ ∨ _) from fun h=>h.elim (fun h=>h h1) hc)]
    ·rw [if_pos h1,if_pos (.inl h1)]
end Go.Proofs.YtnhmplfonkjfoaaDoor



namespace Go.Proofs.YtnhmplfonkjfoaaDoor
open Go.RowKit

def rowD (op : Int) (g : Nat → Nat → List InsD) (p : List Nat) (fr : Nat) : Nat → List InsD
 | 0=>[]
 | k + 1=>rowD op g p fr k ++ g (ng p k) (fr + (rowD op g p fr k).length) ++ (if op = 23 ∧ k = 0 then [insO 103 0] else [])
def bodyD (i : InsD) (g : Nat → Nat → List InsD) (p : List Nat) (fr : Nat) : List InsD :=
 if i.op = 21 then
  g (ng p 0) fr ++ [insO 102 ((fr : Int) + (g (ng p 0) fr).length + (g (ng p 1) (fr + (g (ng p 0) fr).length + 1)).length + 2)] ++ g (ng p 1) (fr + (g (ng p 0) fr).length + 1) ++
   [insO 101 ((fr : Int) + (g (ng p 0) fr).length + (g (ng p 1) (fr + (g (ng p 0) fr).length + 1)).length + (g (ng p 2) (fr + (g (ng p 0) fr).length + (g (ng p 1) (fr + (g (ng p 0) fr).length + 1)).length + 2)).length + 2)] ++
   g (ng p 2) (fr + (g (ng p 0) fr).length + (g (ng p 1) (fr + (g (ng p 0) fr).length + 1)).length + 2)
 else rowD i.op g p fr p.length ++ [if i.op = 23 then insO 104 0 else lastI i]
def ofF (is : List InsD) (ps : Pts) : Nat → Nat → Nat → List InsD
 | 0,_,_=>[]
 | f + 1,a,fr=>bodyD (ig is a) (ofF is ps f) (pgN ps a) fr
def ofD (is : List InsD) (ps : Pts) (a fr : Nat) : List InsD:=ofF is ps (a + 1) a fr
structure Wf (is : List InsD) (ps : Pts) : Prop where
 lt : ∀ a,a < is.length → ∀ x ∈ pgN ps a,x < a
 three : ∀ a,a < is.length → (ig is a).op = 21 → (pgN ps a).length = 3
 two : ∀ a,a < is.length → (ig is a).op = 23 → (pgN ps a).length = 2
 jmp : ∀ a,a < is.length → ¬ jmpP (ig is a).op
theorem rowD_congr {op : Int} {g g' : Nat → Nat → List InsD} {p : List Nat} {fr : Nat} (h : ∀ x ∈ p,∀ f,g x f = g' x f) : ∀ k,k ≤ p.length → rowD op g p fr k = rowD op g' p fr k
 | 0,_=>rfl
 | k + 1,hk=>by
  show rowD op g p fr k ++ g (ng p k) _ ++ _ = rowD op g' p fr k ++ g' (ng p k) _ ++ _
  rw [rowD_congr h k (by omega),h _ (ng_mem (by omega))]
theorem bodyD_congr {i : InsD} {g g' : Nat → Nat → List InsD} {p : List Nat} {fr : Nat} (h : ∀ x ∈ p,∀ f,g x f = g' x f) (h3 : i.op = 21 → p.length = 3) : bodyD i g p fr = bodyD i g' p fr:=by
 unfold bodyD
 by_cases c : i.op = 21
 ·have hl:=h3 c
  rw [if_pos c,if_pos c]
  simp only [h _ (ng_mem (show 0 < p.length by omega)),h _ (ng_mem (show 1 < p.length by omega)),h _ (ng_mem (show 2 < p.length by omega))]
 ·rw [if_neg c,if_neg c,rowD_congr h _ (Nat.le_refl _)]
theorem ofF_fuel {is : List InsD} {ps : Pts} (hw : Wf is ps) : ∀ (f f' a fr : Nat),a < f → a < f' → a < is.length → ofF is ps f a fr = ofF is ps f' a fr
 | 0,_,_,_,h,_,_=>absurd h (Nat.not_lt_zero _)
 | _ + 1,0,_,_,_,h,_=>absurd h (Nat.not_lt_zero _)
 | f + 1,f' + 1,a,fr,h1,h2,h3=>by
  refine bodyD_congr (fun x hx k=>?_) (hw.three a h3)
  have:=hw.lt a h3 x hx
  exact ofF_fuel hw f f' x k (by omega) (by omega) (by omega)
theorem ofD_eq {is : List InsD} {ps : Pts} (hw : Wf is ps) {a : Nat} (ha : a < is.length) (fr : Nat) : ofD is ps a fr = bodyD (ig is a) (ofD is ps) (pgN ps a) fr:=by
 show bodyD (ig is a) (ofF is ps a) (pgN ps a) fr = _
 refine bodyD_congr (fun x hx k=>?_) (hw.three a ha)
 have:=hw.lt a ha x hx
 exact ofF_fuel hw _ _ _ _ (by omega) (by omega) (by omega)
def shI (n : Int) (i : InsD) : InsD:=if jmpP i.op then { i with a:=i.a + n } else i
def shL (n : Int) (p : List InsD) : List InsD:=p.map (shI n)
theorem shL_length (n : Int) (p : List InsD) : (shL n p).length = p.length:=List.length_map _
theorem shL_append (n : Int) (p q : List InsD) : shL n (p ++ q) = shL n p ++ shL n q:=List.map_append
theorem shL_one {n : Int} {i : InsD} (h : ¬ jmpP i.op) : shL n [i] = [i]:=by
 show [shI n i] = [i]
 unfold shI
 rw [if_neg h]
theorem shL_jmp {n : Int} {op a : Int} (h : jmpP op) : shL n [insO op a] = [insO op (a + n)]:=by
 show [shI n (insO op a)] = _
 unfold shI
 rw [if_pos (show jmpP (insO op a).op from h)]
 rfl
theorem lastI_op (i : InsD) : (lastI i).op = i.op:=by unfold lastI;split <;> rfl
theorem nj {op : Int} (h : op ≠ 101 ∧ op ≠ 102) : ¬ jmpP op:=fun hh=>by unfold jmpP at hh;omega
theorem rowD_sh {op : Int} {g : Nat → Nat → List InsD} {p : List Nat} (h : ∀ x ∈ p,∀ f n : Nat,g x (f + n) = shL n (g x f)) (fr n : Nat) : ∀ k,k ≤ p.length → rowD op g p (fr + n) k = shL n (rowD op g p fr k)
 | 0,_=>rfl
 | k + 1,hk=>by
  have ih:=rowD_sh (op:=op) h fr n k (by omega)
  show rowD op g p (fr + n) k ++ g (ng p k) _ ++ _ = shL n (rowD op g p fr k ++ g (ng p k) _ ++ _)
  rw [ih,shL_length,shL_append,shL_append,show fr + n + (rowD op g p fr k).length = fr + (rowD op g p fr k).length + n by omega,h _ (ng_mem (by omega))]
  congr 1
  split
  ·exact (shL_one (nj ⟨by decide,by decide⟩)).symm
  ·rfl
theorem bodyD_sh {i : InsD} {g : Nat → Nat → List InsD} {p : List Nat} (h : ∀ x ∈ p,∀ f n : Nat,g x (f + n) = shL n (g x f)) (h3 : i.op = 21 → p.length = 3) (hj : ¬ jmpP i.op) (fr n : Nat) : bodyD i g p (fr + n) = shL n (bodyD i g p fr):=by
 unfold bodyD
 by_cases c : i.op = 21
 ·have hl:=h3 c
  rw [if_pos c,if_pos c]
  have e0 : g (ng p 0) (fr + n) = shL n (g (ng p 0) fr):=h _ (ng_mem (by omega)) _ _
  rw [e0,shL_length]
  have e1 : g (ng p 1) (fr + n + (g (ng p 0) fr).length + 1) = shL n (g (ng p 1) (fr + (g (ng p 0) fr).length + 1)):=by
   rw [show fr + n + (g (ng p 0) fr).length + 1 = fr + (g (ng p 0) fr).length + 1 + n by omega]
   exact h _ (ng_mem (by omega)) _ _
  rw [e1,shL_length]
  have e2 : g (ng p 2) (fr + n + (g (ng p 0) fr).length + (g (ng p 1) (fr + (g (ng p 0) fr).length + 1)).length + 2) = shL n (g (ng p 2) (fr + (g (ng p 0) fr).length + (g (ng p 1) (fr + (g (ng p 0) fr).length + 1)).length + 2)):=by
   rw [show fr + n + (g (ng p 0) fr).length + (g (ng p 1) (fr + (g (ng p 0) fr).length + 1)).length + 2 = fr + (g (ng p 0) fr).length + (g (ng p 1) (fr + (g (ng p 0) fr).length + 1)).length + 2 + n by omega]
   exact h _ (ng_mem (by omega)) _ _
  rw [e2,shL_length,shL_append,shL_append,shL_append,shL_append,shL_jmp (.inr rfl),shL_jmp (.inl rfl)]
  congr 1
  congr 1
  ·congr 1
   congr 1
   congr 1
   congr 1
   push_cast
   omega
  ·congr 1
   congr 1
   push_cast
   omega
 ·rw [if_neg c,if_neg c,shL_append,rowD_sh h fr n _ (Nat.le_refl _)]
  congr 1
  split
  ·exact (shL_one (nj ⟨by decide,by decide⟩)).symm
  ·exact (shL_one (by rw [lastI_op];exact hj)).symm
theorem ofF_sh {is : List InsD} {ps : Pts} (hw : Wf is ps) : ∀ (f a fr n : Nat),a < f → a < is.length → ofF is ps f a (fr + n) = shL n (ofF is ps f a fr)
 | 0,_,_,_,h,_=>absurd h (Nat.not_lt_zero _)
 | f + 1,a,fr,n,h1,h2=>by
  refine bodyD_sh (fun x hx k m=>?_) (hw.three a h2) (hw.jmp a h2) fr n
  have:=hw.lt a h2 x hx
  exact ofF_sh hw f x k m (by omega) (by omega)
theorem ofD_sh {is : List InsD} {ps : Pts} (hw : Wf is ps) {a : Nat} (ha : a < is.length) (fr : Nat) : ofD is ps a fr = shL fr (ofD is ps a 0):=by
 have:=ofF_sh hw (a + 1) a 0 fr (by omega) ha
 rw [Nat.zero_add] at this
 exact this
end Go.Proofs.YtnhmplfonkjfoaaDoor



namespace Go.Proofs.YtnhmplfonkjfoaaDoor
open Go.RowKit

theorem wpList_pushM {w : World} {ops : Array Oper} {rest : List Oper} {o : Oper} {a : Act} {Q : Exit → Act → World → Prop} (hgd : o.guard = none) (s x : Operand) (t e : TypeId) (k : Nat) (bytes : Nat) (z : Value)
  (ho : o.op = .call { callee:=.builtin .append,args:=#[s,x],argTypes:=#[t,t] }) (ht : Tryd.prog.underlying t = some (.slice e))
  (hi : (Tryd.prog.info? e).map (fun i=>(i.zero,i.size,i.bytes)) = some (some z,k,bytes)) (hzk : z.cells.size = k) (hk : 0 < k)
  (own : Nat → Nat) (l : Nat) (v : Value) (n : Nat) (ds : List Value) (hs : a.eval s = v) (hrow : Ro w own l e k v n ds)
  (A : Option Addr) (m c : Nat) (news : List Value) (hx : a.eval x = .slice A m c) (hl : news.length = m * k) (hnews : 0 < m → ∃ ad,A = some ad ∧ ∀ j u,news[j]? = some u → w.cell? (ad.add j) = some u) (h1 : ∀ u ∈ news,u.oneCell' = true) (hlen : (n + m) * bytes ≤ 140737488355328) (h63 : n + m ≤ maxLen)
  (h : ∀ A' C' w',Ro w' (relabel own w.heap.size l) l e k (.slice A' (n + m) C') (n + m) (ds ++ news) → Turn (· = l) w own w' (relabel own w.heap.size l) → wpList Tryd.prog ops Q rest (a.put o.dst (.slice A' (n + m) C')) w') :
  wpList Tryd.prog ops Q (o :: rest) a w:=by
 rcases Nat.eq_zero_or_pos m with rfl | hm
 ·have hn : news = []:=List.eq_nil_of_length_eq_zero (by rw [hl,Nat.zero_mul])
  subst hn
  obtain ⟨i0,hi0,hz0,hz1,hz2⟩:=info_parts hi
  have hsrc : Src Tryd.prog i0.size t (.slice A 0 c) 0 [] w:=by
   cases A with
   | none=>exact Src.ofNil w ht c
   | some ad=>exact Src.ofSlice w ht ad 0 c [] (by simp) (fun j u hu=>by simp at hu) (fun u hu=>by cases hu)
  obtain ⟨A',C',rfl,hc⟩:=hrow.sl.is
  have hcap:=Ro.cap hrow
  have hr:=run_append_nothing (P:=Tryd.prog) w t t o.type e i0 ht hi0 A' n C' hcap.1 (.slice A 0 c) hsrc
  refine wpList_plain hgd fun K hK=>?_
  unfold Oper.wp execOp
  simp only [ho,resolve,invoke,builtin,Sem.run_bind,Sem.run_pure,Result.andThen_ok,List.map_toArray,List.map_cons,List.map_nil,hs,hx,hr]
  refine hK _ _ (h A' C' w ?_ ?_)
  ·rw [List.append_nil]
   exact ⟨hrow.1,fun g hg=>by rw [relabel_old (hrow.1.lt g hg).2];exact hrow.2 g hg⟩
  ·exact (Turn.refl _ _ _).relabel (Nat.le_refl _) _
 ·obtain ⟨ad,rfl,hn⟩:=hnews hm
  exact wpList_pushR hgd s x t e k bytes z ho ht hi hzk hk own l v n ds hs hrow ad m c news hx hl hn h1 hm hlen h63 (fun g cap w' h1 h2 _=>h _ _ w' h1 h2)
def ob (B : Nat) : Nat → Nat:=fun k=>if k < B then 0 else 1
theorem ob_low {B k : Nat} (h : k < B) : ob B k = 0:=if_pos h
theorem ob_up {B k : Nat} (h : B ≤ k) : ob B k = 1:=if_neg (by omega)
theorem ob_re {B n : Nat} (h : B ≤ n) : relabel (ob B) n 1 = ob B:=by
 funext k
 by_cases hk : k < n
 ·exact relabel_old hk
 ·rw [relabel_new (by omega),ob_up (by omega)]
theorem ob_below {w0 w w' : World} (h : Turn (· = 1) w (ob w0.heap.size) w' (ob w0.heap.size)) (hb : Below w0.heap.size w0 w) : Below w0.heap.size w0 w' :=
 hb.trans (h.below (fun k hk=>by rw [ob_low hk];decide) hb.size)
theorem ob_nil (w : World) (t : TypeId) (k : Nat) (B : Nat) (hB : B ≤ w.heap.size) : Ro (w.alloc (.cells #[] t)) (ob B) 1 t k (.slice (some ⟨w.heap.size,0,none⟩) 0 0) 0 [] :=
 Ro.of_block (cur:=[]) (cap:=0) ⟨Bk.new w t [],ob_up hB⟩ (Nat.le_refl _) (by unfold maxLen;omega) (by simp) (by simp)
theorem wpList_copyM {w0 : World} {ops : Array Oper} {rest : List Oper} {o : Oper} {a : Act} {Q : Exit → Act → World → Prop} (hgd : o.guard = none) (s x : Operand) (t e : TypeId) (k : Nat) (bytes : Nat) (z : Value)
  (ho : o.op = .call { callee:=.builtin .append,args:=#[s,x],argTypes:=#[t,t] }) (ht : Tryd.prog.underlying t = some (.slice e))
  (hi : (Tryd.prog.info? e).map (fun i=>(i.zero,i.size,i.bytes)) = some (some z,k,bytes)) (hzk : z.cells.size = k) (hk : 0 < k)
  (hs : a.eval s = .slice (some ⟨w0.heap.size,0,none⟩) 0 0)
  (A : Option Addr) (m c : Nat) (news : List Value) (hx : a.eval x = .slice A m c) (hl : news.length = m * k) (hnews : 0 < m → ∃ ad,A = some ad ∧ ∀ j u,news[j]? = some u → w0.cell? (ad.add j) = some u) (h1 : ∀ u ∈ news,u.oneCell' = true) (hlen : m * bytes ≤ 140737488355328) (h63 : m ≤ maxLen)
  (h : ∀ A' C' w',Ro w' (ob w0.heap.size) 1 e k (.slice A' m C') m news → Below w0.heap.size w0 w' → wpList Tryd.prog ops Q rest (a.put o.dst (.slice A' m C')) w') :
  wpList Tryd.prog ops Q (o :: rest) a (w0.alloc (.cells #[] e)):=by
 refine wpList_pushM hgd s x t e k bytes z ho ht hi hzk hk (ob w0.heap.size) 1 _ 0 [] hs (ob_nil w0 e k w0.heap.size (Nat.le_refl _)) A m c news hx hl (fun hm=>?_) h1 (by rw [Nat.zero_add];exact hlen) (by rw [Nat.zero_add];exact h63) (fun A' C' w' h2 h3=>?_)
 ·obtain ⟨ad,e1,h2⟩:=hnews hm
  exact ⟨ad,e1,fun j u hj=>(World.cell?_alloc_some _ _ _ (Option.isSome_iff_exists.2 ⟨u,h2 j u hj⟩)).trans (h2 j u hj)⟩
 ·rw [ob_re (by rw [World.size_alloc];exact Nat.le_succ _)] at h2 h3
  rw [List.nil_append,Nat.zero_add] at h2
  rw [Nat.zero_add]
  exact h A' C' w' h2 (ob_below (w0:=w0) h3 (Below.alloc (Below.refl _ _) (Nat.le_refl _) _))
def nts (l : List Nat) : List Value:=l.map fun (i : Nat)=>Value.int .i64 (i : Int)
theorem nts_get {l : List Nat} {r : Nat} (h : r < l.length) : (nts l)[r]? = some (.int .i64 (l.getD r 0 : Nat)):=by
 unfold nts
 rw [List.getElem?_map,List.getD_eq_getElem?_getD,List.getElem?_eq_getElem h];rfl
end Go.Proofs.YtnhmplfonkjfoaaDoor



namespace Go.Proofs.YtnhmplfonkjfoaaDoor
open Go.RowKit

def Nts (w : World) (v : Value) (l : List Nat) : Prop:=Lsn 1 (fun r=>[.int .i64 (ng l r)]) w v l.length
def Prd (w : World) (v : Value) (ps : Pts) : Prop:=∃ A C,v = .slice A ps.length C ∧ ps.length ≤ maxLen ∧ ∀ r,r < ps.length → ∃ b q u,A = some ⟨b,q,none⟩ ∧ w.cell? ⟨b,q + r,none⟩ = some u ∧ Nts w u (pgN ps r)
theorem Prd.below {w w' : World} {v : Value} {ps : Pts} (h : Prd w v ps) (hb : Below w.heap.size w w') : Prd w' v ps:=by
 obtain ⟨A,C,e,hm,h4⟩:=h
 refine ⟨A,C,e,hm,fun r hr=>?_⟩
 obtain ⟨b,q,u,e1,h5,h6⟩:=h4 r hr
 exact ⟨b,q,u,e1,(hb.cell (p:=⟨b,q + r,none⟩) (cell_lt2 h5)).trans h5,Lsn.below h6 hb⟩
theorem Nts.below {w w' : World} {v : Value} {l : List Nat} (h : Nts w v l) (hb : Below w.heap.size w w') : Nts w' v l:=Lsn.below h hb
theorem ro_nts {w : World} {o : Nat → Nat} {l n : Nat} {t : TypeId} {v : Value} {hv : List Nat} (h : Ro w o l t 1 v n (nts hv)) (hn : hv.length = n) : Nts w v hv:=by
 subst hn
 obtain ⟨A,C,rfl,hm,-,h4⟩:=h.sl
 refine ⟨A,C,rfl,hm,fun r hr=>?_⟩
 obtain ⟨b,q,e,h5⟩:=h4 r (by omega)
 refine ⟨b,q,e,fun j hj=>?_⟩
 have hj : j < 1:=hj
 obtain rfl : j = 0:=by omega
 rw [Nat.mul_one,Nat.add_zero,h5,nts_get hr]
 rfl
structure Skm (w0 : World) (o : Nat → Nat) (wr : World) (vP vH : Value) (vs : List Value) (ps : Pts) (hv : List Nat) : Prop where
 row : Ro wr o 1 74 1 vP ps.length vs
 len : vs.length = ps.length
 rows : ∀ r,r < ps.length → Ro wr o 2 3 1 (vs.getD r undef) (pgN ps r).length (nts (pgN ps r))
 hav : Ro wr o 3 3 1 vH hv.length (nts hv)
 turn : Turn (fun l=>l ≠ 0) w0 (fun _=>0) wr o
section
variable {w0 wr w' : World} {o : Nat → Nat} {vP vH : Value} {vs : List Value} {ps : Pts} {hv : List Nat}
theorem Skm.below (h : Skm w0 o wr vP vH vs ps hv) : Below w0.heap.size w0 wr:=h.turn.below (fun _ _=>by simp) (Nat.le_refl _)
theorem Skm.kept (h : Skm w0 o wr vP vH vs ps hv) (hb : Below wr.heap.size wr w') (l : Nat) : Skm w0 (relabel o wr.heap.size l) w' vP vH vs ps hv:=by
 have t : Turn (fun _=>False) wr o w' (relabel o wr.heap.size l):=⟨hb.os,hb.tape,hb.output,hb.size,fun k hk=>relabel_old hk,fun k hk _=>hb.block k hk⟩
 exact ⟨h.row.turn t (fun hh=>hh),h.len,fun r hr=>(h.rows r hr).turn t (fun hh=>hh),h.hav.turn t (fun hh=>hh),h.turn.trans (t.mono fun l hl=>hl.elim)⟩
theorem Skm.nts (h : Skm w0 o wr vP vH vs ps hv) : Nts wr vH hv:=ro_nts h.hav rfl
theorem Skm.push {w2 w3 : World} {A' : Option Addr} {C' n : Nat} {p : List Nat} {g : Nat} {C3 : Nat} {o1 o3 : Nat → Nat} (hpn : p.length = n) (h : Skm w0 o wr vP vH vs ps hv) (hb : Below wr.heap.size wr w2) (ho1 : o1 = relabel o wr.heap.size 2) (hn : Ro w2 o1 2 3 1 (.slice A' n C') n (Go.Proofs.YtnhmplfonkjfoaaDoor.nts p))
  (ht : Turn (· = 1) w2 o1 w3 o3) (hr : Ro w3 o3 1 74 1 (.slice (some ⟨g,0,none⟩) (ps.length + 1) C3) (ps.length + 1) (vs ++ [.slice A' n C'])) : Skm w0 o3 w3 (.slice (some ⟨g,0,none⟩) (ps.length + 1) C3) vH (vs ++ [.slice A' n C']) (ps ++ [p]) hv:=by
 subst hpn
 have h1:=h.kept hb 2
 rw [← ho1] at h1
 have hl : (ps ++ [p]).length = ps.length + 1:=by rw [List.length_append];rfl
 refine ⟨by rw [hl];exact hr,by rw [List.length_append,List.length_append,h.len];rfl,fun r hr=>?_,h1.hav.turn ht (by decide),h1.turn.trans (ht.mono fun l hl=>by have hl' : l = 1:=hl;omega)⟩
 rw [hl] at hr
 by_cases e : r < ps.length
 ·have:=(h1.rows r e).turn ht (by decide)
  unfold pgN at *
  rw [getD_left _ _ _ (by rw [h.len];exact e),getD_left _ _ _ e]
  exact this
 ·obtain rfl : r = ps.length:=by omega
  unfold pgN
  rw [getD_last _ _ _ h.len,getD_last _ _ _ rfl]
  exact hn.turn ht (by decide)
end
end Go.Proofs.YtnhmplfonkjfoaaDoor



namespace Go.Proofs.YtnhmplfonkjfoaaDoor
open Go.RowKit

def GoodJ (i : InsD) : Prop:=U64 i.hi ∧ U64 i.lo ∧ (txI i).length ≤ 1048576
theorem Prd.at {w : World} {A : Option Addr} {n C : Nat} {ps : Pts} (h : Prd w (.slice A n C) ps) {r : Nat} (hr : r < ps.length) : ∃ b q u,A = some ⟨b,q,none⟩ ∧ w.cell? ⟨b,q + r,none⟩ = some u ∧ Nts w u (pgN ps r):=by
 obtain ⟨A',C',e,_,h3⟩:=h
 injection e with e1 e2 e3
 subst e1
 exact h3 r hr
theorem Nts.at {w : World} {A : Option Addr} {n C : Nat} {l : List Nat} (h : Nts w (.slice A n C) l) {r : Nat} (hr : r < l.length) : ∃ b q,A = some ⟨b,q,none⟩ ∧ w.cell? ⟨b,q + r,none⟩ = some (.int .i64 (ng l r)):=by
 obtain ⟨b,q,e,hat⟩:=Lsn.at h hr
 have h0:=hat 0 (by show 0 < 1;decide)
 rw [Nat.mul_one,Nat.add_zero] at h0
 exact ⟨b,q,e,h0⟩
theorem stGo_len {is : List InsD} : ∀ (n t : Nat) (ps : Pts) (hv : List Nat) (PS : Pts) (HV : List Nat),stGo is n t ps hv = some (PS,HV) → PS.length = ps.length + n
 | 0,t,ps,hv,PS,HV,h=>by
  injection h with h
  injection h with h1 h2
  rw [h1];rfl
 | n + 1,t,ps,hv,PS,HV,h=>by
  cases hc : stOk (ig is t) hv with
  | false=>rw [stGo_no hc] at h;cases h
  | true =>
   rw [stGo_yes hc] at h
   have:=stGo_len n _ _ _ _ _ h
   rw [List.length_append] at this
   rw [this]
   show ps.length + 1 + n = _
   omega
theorem stGo_lt {is : List InsD} : ∀ (n t : Nat) (ps : Pts) (hv : List Nat) (PS : Pts) (HV : List Nat),stGo is n t ps hv = some (PS,HV) → ps.length = t → (∀ x ∈ hv,x < t) → (∀ j,j < ps.length → ∀ x ∈ pgN ps j,x < j) → ∀ j,j < PS.length → ∀ x ∈ pgN PS j,x < j
 | 0,t,ps,hv,PS,HV,h,_,_,hp=>by
  injection h with h
  injection h with h1 h2
  rw [← h1];exact hp
 | n + 1,t,ps,hv,PS,HV,h,hl,hh,hp=>by
  cases hc : stOk (ig is t) hv with
  | false=>rw [stGo_no hc] at h;cases h
  | true =>
   rw [stGo_yes hc] at h
   refine stGo_lt n _ _ _ _ _ h (by rw [List.length_append,hl];rfl) (fun x hx=>?_) (fun j hj x hx=>?_)
   ·unfold stStep at hx
    rcases List.mem_append.1 hx with hx | hx
    ·have:=hh x (List.mem_of_mem_take hx);omega
    ·rw [List.mem_singleton.1 hx];omega
   ·rw [List.length_append] at hj
    have hj : j < ps.length + 1:=hj
    unfold pgN at hx hp
    by_cases e : j < ps.length
    ·rw [getD_left _ _ _ e] at hx
     exact hp j e x hx
    ·obtain rfl : j = ps.length:=by omega
     rw [getD_last _ _ _ rfl] at hx
     unfold stPart at hx
     have:=hh x (List.mem_of_mem_drop hx)
     omega
end Go.Proofs.YtnhmplfonkjfoaaDoor



namespace Go.Proofs.YtnhmplfonkjfoaaDoor
open Go.RowKit

theorem stGo_kids {is : List InsD} : ∀ (n t : Nat) (ps : Pts) (hv : List Nat) (PS : Pts) (HV : List Nat),stGo is n t ps hv = some (PS,HV) → ps.length = t →
  (∀ j,j < ps.length → kidsB (ig is j).op (ig is j).a = true ∧ (pgN ps j).length = (ig is j).a.toNat) → ∀ j,j < PS.length → kidsB (ig is j).op (ig is j).a = true ∧ (pgN PS j).length = (ig is j).a.toNat
 | 0,t,ps,hv,PS,HV,h,_,hp=>by
  injection h with h
  injection h with h1 h2
  rw [← h1];exact hp
 | n + 1,t,ps,hv,PS,HV,h,hl,hp=>by
  cases hc : stOk (ig is t) hv with
  | false=>rw [stGo_no hc] at h;cases h
  | true =>
   rw [stGo_yes hc] at h
   refine stGo_kids n _ _ _ _ _ h (by rw [List.length_append,hl];rfl) (fun j hj=>?_)
   rw [List.length_append] at hj
   have hj : j < ps.length + 1:=hj
   unfold pgN at hp ⊢
   by_cases e : j < ps.length
   ·rw [getD_left _ _ _ e]
    exact hp j e
   ·obtain rfl : j = ps.length:=by omega
    rw [getD_last _ _ _ rfl]
    subst hl
    unfold stOk at hc
    rw [Bool.and_eq_true,decide_eq_true_eq] at hc
    exact ⟨hc.1,part_len (kids_pos hc.1) hc.2⟩
theorem kids_nj {op a : Int} (h : kidsB op a = true) : ¬ jmpP op:=fun hj=>by
 have h:=(of_decide_eq_true h).1
 rcases hj with rfl | rfl
 ·exact h (by decide)
 ·exact h (by decide)
theorem wf_of {is : List InsD} {PS : Pts} {HV : List Nat} (h : stGo is is.length 0 [] [] = some (PS,HV)) : Wf is PS:=by
 have hl:=stGo_len _ _ _ _ _ _ h
 have hl : PS.length = is.length:=by rw [hl];exact Nat.zero_add _
 have hk:=stGo_kids _ _ _ _ _ _ h rfl (fun j hj=>absurd hj (Nat.not_lt_zero _))
 refine ⟨fun a ha=>stGo_lt _ _ _ _ _ _ h rfl (fun x hx=>by cases hx) (fun j hj=>absurd hj (Nat.not_lt_zero _)) a (by omega),fun a ha e=>?_,fun a ha e=>?_,fun a ha=>kids_nj (hk a (by omega)).1⟩
 ·obtain ⟨k1,k2⟩:=hk a (by omega)
  have:=(kids_if k1).1 e
  omega
 ·obtain ⟨k1,k2⟩:=hk a (by omega)
  have:=(kids_if k1).2 e
  omega
def jf (fr : Nat) (p : List InsD) : Prop:=∀ i ∈ p,jmpP i.op → (fr : Int) ≤ i.a ∧ i.a ≤ (fr : Int) + p.length
theorem jf_wide {fr fr' : Nat} {p : List InsD} {n : Nat} (h : jf fr p) (h1 : fr' ≤ fr) (h2 : fr + p.length ≤ fr' + n) : ∀ i ∈ p,jmpP i.op → (fr' : Int) ≤ i.a ∧ i.a ≤ (fr' : Int) + n:=fun i hi hj=>by
 have:=h i hi hj
 omega
theorem rowD_jf {op : Int} {g : Nat → Nat → List InsD} {p : List Nat} (h : ∀ x ∈ p,∀ f,jf f (g x f)) (fr : Nat) : ∀ k,k ≤ p.length → jf fr (rowD op g p fr k)
 | 0,_=>fun i hi=>by cases hi
 | k + 1,hk=>by
  have ih:=rowD_jf (op:=op) h fr k (by omega)
  have hx:=h _ (ng_mem (show k < p.length by omega)) (fr + (rowD op g p fr k).length)
  intro i hi hj
  have hi : i ∈ rowD op g p fr k ++ g (ng p k) (fr + (rowD op g p fr k).length) ++ (if op = 23 ∧ k = 0 then [insO 103 0] else []):=hi
  have hlen : (rowD op g p fr (k + 1)).length = (rowD op g p fr k).length + (g (ng p k) (fr + (rowD op g p fr k).length)).length + (if op = 23 ∧ k = 0 then [insO 103 0] else [] : List InsD).length:=by
   show (rowD op g p fr k ++ g (ng p k) (fr + (rowD op g p fr k).length) ++ (if op = 23 ∧ k = 0 then [insO 103 0] else [])).length = _
   rw [List.length_append,List.length_append]
  rw [hlen]
  rcases List.mem_append.1 hi with hi | hi
  ·rcases List.mem_append.1 hi with hi | hi
   ·exact jf_wide ih (Nat.le_refl _) (by omega) i hi hj
   ·exact jf_wide hx (by omega) (by omega) i hi hj
  ·split at hi
   ·rw [List.mem_singleton.1 hi] at hj
    exact absurd hj (nj ⟨by decide,by decide⟩)
   ·cases hi
theorem bodyD_jf {i : InsD} {g : Nat → Nat → List InsD} {p : List Nat} (h : ∀ x ∈ p,∀ f,jf f (g x f)) (h3 : i.op = 21 → p.length = 3) (hj : ¬ jmpP i.op) (fr : Nat) : jf fr (bodyD i g p fr):=by
 unfold bodyD
 by_cases c : i.op = 21
 ·have hl:=h3 c
  rw [if_pos c]
  have h0:=h _ (ng_mem (show 0 < p.length by omega)) fr
  generalize g (ng p 0) fr = A at h0 ⊢
  have h1:=h _ (ng_mem (show 1 < p.length by omega)) (fr + A.length + 1)
  generalize g (ng p 1) (fr + A.length + 1) = B at h1 ⊢
  have h2:=h _ (ng_mem (show 2 < p.length by omega)) (fr + A.length + B.length + 2)
  generalize g (ng p 2) (fr + A.length + B.length + 2) = C at h2 ⊢
  intro x hx hjx
  have hlen : (A ++ [insO 102 ((fr : Int) + A.length + B.length + 2)] ++ B ++ [insO 101 ((fr : Int) + A.length + B.length + C.length + 2)] ++ C).length = A.length + B.length + C.length + 2:=by
   simp only [List.length_append,List.length_cons,List.length_nil]
   omega
  rw [hlen]
  simp only [List.mem_append,List.mem_singleton] at hx
  rcases hx with (((hx | hx) | hx) | hx) | hx
  ·exact jf_wide h0 (Nat.le_refl _) (by omega) x hx hjx
  ·subst hx
   show (fr : Int) ≤ (fr : Int) + A.length + B.length + 2 ∧ (fr : Int) + A.length + B.length + 2 ≤ _
   push_cast
   omega
  ·exact jf_wide h1 (by omega) (by omega) x hx hjx
  ·subst hx
   show (fr : Int) ≤ (fr : Int) + A.length + B.length + C.length + 2 ∧ (fr : Int) + A.length + B.length + C.length + 2 ≤ _
   push_cast
   omega
  ·exact jf_wide h2 (by omega) (by omega) x hx hjx
 ·rw [if_neg c]
  have ih:=rowD_jf (op:=i.op) h fr _ (Nat.le_refl _)
  intro x hx hjx
  rw [List.length_append]
  rcases List.mem_append.1 hx with hx | hx
  ·exact jf_wide ih (Nat.le_refl _) (by omega) x hx hjx
  ·rw [List.mem_singleton.1 hx] at hjx
   split at hjx
   ·exact absurd hjx (nj ⟨by decide,by decide⟩)
   ·rw [lastI_op] at hjx
    exact absurd hjx hj
theorem ofF_jf {is : List InsD} {ps : Pts} (hw : Wf is ps) : ∀ (f a fr : Nat),a < f → a < is.length → jf fr (ofF is ps f a fr)
 | 0,_,_,h,_=>absurd h (Nat.not_lt_zero _)
 | f + 1,a,fr,h1,h2=>by
  refine bodyD_jf (fun x hx k=>?_) (hw.three a h2) (hw.jmp a h2) fr
  have:=hw.lt a h2 x hx
  exact ofF_jf hw f x k (by omega) (by omega)
theorem mvL_sh {n : Nat} {p : List InsD} (h : jf 0 p) (hb : p.length + n ≤ 1000000) : mvL n p = shL n p:=by
 unfold mvL shL
 refine List.map_congr_left fun i hi=>?_
 unfold mvI shI
 by_cases hj : jmpP i.op
 ·rw [if_pos hj,if_pos hj]
  have:=h i hi hj
  have e : wrap64 (i.a + n) = i.a + n:=by unfold wrap64;omega
  rw [e]
 ·rw [if_neg hj,if_neg hj]
theorem mvL_one {n : Nat} {i : InsD} (h : ¬ jmpP i.op) : mvL n [i] = [i]:=by
 show [mvI n i] = [i]
 rw [mvI_no h]
theorem pg_map {is : List InsD} {PS : Pts} (_hw : Wf is PS) {p : List Nat} {k : Nat} (hk : k < p.length) : pg (p.map fun x=>ofD is PS x 0) k = ofD is PS (ng p k) 0:=by
 unfold pg ng
 rw [List.getD_eq_getElem?_getD,List.getElem?_map,List.getD_eq_getElem?_getD,List.getElem?_eq_getElem hk]
 rfl
section
variable {is : List InsD} {PS : Pts} (hw : Wf is PS)
include hw
theorem ofD_mv {x n : Nat} (hx : x < is.length) (hb : (ofD is PS x 0).length + n ≤ 1000000) : mvL n (ofD is PS x 0) = ofD is PS x n:=by
 have hj : jf 0 (ofD is PS x 0):=ofF_jf hw _ _ _ (Nat.lt_succ_self _) hx
 rw [mvL_sh hj hb,ofD_sh hw hx n]
theorem ofD_len {x n : Nat} (hx : x < is.length) : (ofD is PS x n).length = (ofD is PS x 0).length:=by
 rw [ofD_sh hw hx n,shL_length]
theorem row_join {op : Int} {p : List Nat} (hp : ∀ x ∈ p,x < is.length) (h23 : op ≠ 23) (hb : sumL (p.map fun x=>ofD is PS x 0) ≤ 1000000) : ∀ k,k ≤ p.length → joinD [] ((p.take k).map fun x=>ofD is PS x 0) = rowD op (ofD is PS) p 0 k
 | 0,_=>rfl
 | k + 1,hk=>by
  have ih:=row_join hp h23 hb k (by omega)
  have hlt : k < p.length:=by omega
  have e3 : p.take (k + 1) = p.take k ++ [ng p k]:=by
   rw [List.take_add_one,List.getElem?_eq_getElem hlt]
   congr 1
   unfold ng
   rw [List.getD_eq_getElem?_getD,List.getElem?_eq_getElem hlt];rfl
  have hs:=sumL_take (p.map fun x=>ofD is PS x 0) k
  rw [← List.map_take,← List.map_drop,List.drop_eq_getElem_cons hlt] at hs
  have eg : p[k] = ng p k:=by unfold ng;rw [List.getD_eq_getElem?_getD,List.getElem?_eq_getElem hlt];rfl
  rw [eg] at hs
  have hs : sumL (p.map fun x=>ofD is PS x 0) = sumL ((p.take k).map fun x=>ofD is PS x 0) + ((ofD is PS (ng p k) 0).length + sumL ((p.drop (k + 1)).map fun x=>ofD is PS x 0)):=hs
  have hjl:=joinD_length ((p.take k).map fun x=>ofD is PS x 0) []
  have hjl : (joinD [] ((p.take k).map fun x=>ofD is PS x 0)).length = 0 + sumL ((p.take k).map fun x=>ofD is PS x 0):=hjl
  rw [e3,List.map_append]
  show joinD [] (((p.take k).map fun x=>ofD is PS x 0) ++ [ofD is PS (ng p k) 0]) = rowD op (ofD is PS) p 0 k ++ ofD is PS (ng p k) (0 + (rowD op (ofD is PS) p 0 k).length) ++ (if op = 23 ∧ k = 0 then [insO 103 0] else [])
  rw [joinD_push,ih,if_neg (fun h=>h23 h.1),List.append_nil,Nat.zero_add]
  rw [ih] at hjl
  rw [ofD_mv hw (hp _ (ng_mem hlt)) (by omega)]
theorem tell_same {t : Nat} (ht : t < is.length) (hb : sumL ((pgN PS t).map fun x=>ofD is PS x 0) ≤ 900000) : tellD (ig is t) ((pgN PS t).map fun x=>ofD is PS x 0) = ofD is PS t 0:=by
 rw [ofD_eq hw ht]
 have hlt:=hw.lt t ht
 have h3:=hw.three t ht
 have h2:=hw.two t ht
 obtain ⟨p,hp⟩ : ∃ p,p = pgN PS t:=⟨_,rfl⟩
 rw [← hp] at hb hlt h3 h2 ⊢
 have hpl : ∀ x ∈ p,x < is.length:=fun x hx=>by have:=hlt x hx;omega
 unfold tellD bodyD
 by_cases c1 : (ig is t).op = 21
 ·have hl:=h3 c1
  rw [if_pos c1,if_pos c1,pg_map hw (by omega),pg_map hw (by omega),pg_map hw (by omega)]
  have hs:=sumL_three (p.map fun x=>ofD is PS x 0) (by rw [List.length_map];omega)
  rw [pg_map hw (by omega),pg_map hw (by omega),pg_map hw (by omega)] at hs
  have l0:=hpl _ (ng_mem (show 0 < p.length by omega))
  have l1:=hpl _ (ng_mem (show 1 < p.length by omega))
  have l2:=hpl _ (ng_mem (show 2 < p.length by omega))
  unfold choiceD
  rw [ofD_mv hw l1 (by omega),ofD_mv hw l2 (by omega)]
  simp only [Nat.zero_add,Int.natCast_zero,Int.zero_add]
  have e1 : (ofD is PS (ng p 1) ((ofD is PS (ng p 0) 0).length + 1)).length = (ofD is PS (ng p 1) 0).length:=ofD_len hw l1
  rw [e1]
  have e2 : (ofD is PS (ng p 2) ((ofD is PS (ng p 0) 0).length + (ofD is PS (ng p 1) 0).length + 2)).length = (ofD is PS (ng p 2) 0).length:=ofD_len hw l2
  rw [e2]
 ·rw [if_neg c1,if_neg c1]
  by_cases c2 : (ig is t).op = 23
  ·have hl:=h2 c2
   rw [if_pos c2,if_pos c2,pg_map hw (by omega),pg_map hw (by omega),hl]
   have hs:=sumL_two (p.map fun x=>ofD is PS x 0) (by rw [List.length_map];omega)
   rw [pg_map hw (by omega),pg_map hw (by omega)] at hs
   have l0:=hpl _ (ng_mem (show 0 < p.length by omega))
   have l1:=hpl _ (ng_mem (show 1 < p.length by omega))
   have n1 : ¬ jmpP (insO 103 0).op:=nj ⟨by decide,by decide⟩
   have n2 : ¬ jmpP (insO 104 0).op:=nj ⟨by decide,by decide⟩
   show ((([] ++ mvL 0 (ofD is PS (ng p 0) 0)) ++ mvL _ [insO 103 0]) ++ mvL ((([] ++ mvL 0 (ofD is PS (ng p 0) 0)) ++ mvL _ [insO 103 0])).length (ofD is PS (ng p 1) 0)) ++ mvL _ [insO 104 0] = ((([] ++ ofD is PS (ng p 0) (0 + 0) ++ (if (ig is t).op = 23 ∧ 0 = 0 then [insO 103 0] else [])) ++ ofD is PS (ng p 1) (0 + ([] ++ ofD is PS (ng p 0) (0 + 0) ++ (if (ig is t).op = 23 ∧ 0 = 0 then [insO 103 0] else [])).length) ++ (if (ig is t).op = 23 ∧ 1 = 0 then [insO 103 0] else []))) ++ [insO 104 0]
   rw [mvL_one n1,mvL_one n2,if_pos ⟨c2,rfl⟩,if_neg (fun h=>absurd h.2 (by decide)),List.append_nil,List.nil_append,List.nil_append,ofD_mv hw l0 (by omega),Nat.zero_add,Nat.zero_add,ofD_mv hw l1 (by rw [List.length_append];show _ + (_ + 1) ≤ _;omega)]
  ·rw [if_neg c2,if_neg c2]
   have h:=row_join hw (op:=(ig is t).op) hpl c2 (by omega) p.length (Nat.le_refl _)
   rw [List.take_length] at h
   rw [h]
theorem comp_same : ∀ (n t : Nat) (ps : Pts) (hv HV : List Nat),n + t = is.length → is.length ≤ 1000 → ps.length = t → stGo is n t ps hv = some (PS,HV) → (∀ x ∈ hv,x < t) → sumL (hv.map fun x=>ofD is PS x 0) ≤ 2 * t →
  compGo is n t (hv.map fun x=>ofD is PS x 0) = HV.map (fun x=>ofD is PS x 0) ∧ sumL (HV.map fun x=>ofD is PS x 0) ≤ 2 * is.length
 | 0,t,ps,hv,HV,hn,_,hl,h,_,hs=>by
  injection h with h
  injection h with h1 h2
  subst h2
  exact ⟨rfl,by rw [← hn,Nat.zero_add];exact hs⟩
 | n + 1,t,ps,hv,HV,hn,hlen,hl,h,hlt,hs=>by
  cases hc : stOk (ig is t) hv with
  | false=>rw [stGo_no hc] at h;cases h
  | true =>
   rw [stGo_yes hc] at h
   obtain ⟨q,hq⟩:=stGo_ext _ _ _ _ _ _ h
   have e : pgN PS t = stPart (ig is t) hv:=by
    unfold pgN
    rw [hq,List.append_assoc,List.getD_eq_getElem?_getD,List.getElem?_append_right (by omega),hl,Nat.sub_self]
    rfl
   have htl : t < is.length:=by omega
   have hsp:=sumL_take (hv.map fun x=>ofD is PS x 0) (hv.length - (ig is t).a.toNat)
   rw [← List.map_take,← List.map_drop] at hsp
   have hpart : sumL ((pgN PS t).map fun x=>ofD is PS x 0) ≤ 2 * t:=by
    rw [e]
    unfold stPart
    omega
   have hT:=tell_same hw htl (by omega)
   have hstep : stepP (ig is t) (hv.map fun x=>ofD is PS x 0) = (stStep (ig is t) t hv).map fun x=>ofD is PS x 0:=by
    unfold stepP cutP stStep
    rw [List.length_map,← List.map_take,← List.map_drop,List.map_append]
    congr 1
    show [_] = [_]
    congr 1
    show _ = ofD is PS t 0
    rw [← hT,e]
    rfl
   show compGo is n (t + 1) (stepP (ig is t) (hv.map fun x=>ofD is PS x 0)) = _ ∧ _
   rw [hstep]
   refine comp_same n (t + 1) _ _ _ (by omega) hlen (by rw [List.length_append,hl];rfl) h (fun x hx=>?_) ?_
   ·unfold stStep at hx
    rcases List.mem_append.1 hx with hx | hx
    ·have:=hlt x (List.mem_of_mem_take hx);omega
    ·rw [List.mem_singleton.1 hx];omega
   ·unfold stStep
    rw [List.map_append,sumL_append]
    show _ + ((ofD is PS t 0).length + 0) ≤ _
    rw [← hT]
    have h9:=tellD_length (i:=ig is t) (P:=(pgN PS t).map fun x=>ofD is PS x 0) (fun c=>by rw [List.length_map,hw.three t htl c];exact Nat.le_refl _) (fun c=>by rw [List.length_map,hw.two t htl c];exact Nat.le_refl _)
    rw [e] at h9 ⊢
    unfold stPart at h9 ⊢
    omega
end
end Go.Proofs.YtnhmplfonkjfoaaDoor



namespace Go.Proofs.YtnhmplfonkjfoaaDoor
open Go.RowKit

theorem cod_news {w : World} {A : Option Addr} {m C : Nat} {q : List InsD} (h : Cod w (.slice A m C) q) (hm : q.length = m) : 0 < m → ∃ ad,A = some ad ∧ ∀ j u,(ics q)[j]? = some u → w.cell? (ad.add j) = some u:=fun hpos=>by
 obtain ⟨b,o,rfl,-⟩:=h.at (r:=0) (by omega)
 refine ⟨_,rfl,fun j u hj=>?_⟩
 have hl : j < (ics q).length:=by
  rcases Nat.lt_or_ge j (ics q).length with h' | h'
  ·exact h'
  ·rw [List.getElem?_eq_none h'] at hj;cases hj
 rw [ics_length] at hl
 obtain ⟨b',o',e,hat⟩:=h.at (r:=j / 8) (by omega)
 injection e with e
 injection e with e1 e2
 subst e1 e2
 have hc:=hat (j % 8) (by rw [cs_len];omega)
 rw [← ics_get q (j / 8) (j % 8) (by omega) (by omega)] at hc
 have e1 : j / 8 * 8 + j % 8 = j:=by omega
 have e2 : o + j / 8 * 8 + j % 8 = o + j:=by omega
 rw [e1,e2,hj] at hc
 have hadd : (⟨b,o,none⟩ : Addr).add j = ⟨b,o + j,none⟩:=by unfold Addr.add;split <;> simp_all
 rw [hadd]
 exact hc
section
variable {is : List InsD} {ps : Pts}
end
end Go.Proofs.YtnhmplfonkjfoaaDoor



namespace Go.Proofs.YtnhmplfonkjfoaaDoor
open Go.RowKit

def nodeB (c : InsD) : Bool:=(tk c.op c.a).2.2.2.2 && !(decide (101 ≤ c.op)) && !(c.op == 21) && !(c.op == 23)
def nodeD (c : InsD) : InsD:={ c with a:=(tk c.op c.a).1 }
def ifP (is : List InsD) (i e : Nat) (a : Int) : Prop:=(i : Int) + 1 < a ∧ a ≤ e ∧ (ig is (a.toNat - 1)).op = 101 ∧ a ≤ (ig is (a.toNat - 1)).a ∧ (ig is (a.toNat - 1)).a ≤ e
instance (is : List InsD) (i e : Nat) (a : Int) : Decidable (ifP is i e a):=by unfold ifP;infer_instance
def unD (is : List InsD) : Nat → Nat → Nat → Option (List InsD)
 | 0,_,_=>none
 | f + 1,i,e =>
  if e ≤ i then some []
  else if (ig is i).op = 103 then unD is f (i + 1) e
  else if (ig is i).op = 104 then (unD is f (i + 1) e).map fun r=>insO 23 2 :: r
  else if (ig is i).op = 102 then
   if ifP is i e (ig is i).a then
    match unD is f (i + 1) ((ig is i).a.toNat - 1),unD is f (ig is i).a.toNat (ig is ((ig is i).a.toNat - 1)).a.toNat with
    | some b,some d=>(unD is f (ig is ((ig is i).a.toNat - 1)).a.toNat e).map fun r=>b ++ d ++ [insO 21 3] ++ r
    | _,_=>none
   else none
  else if nodeB (ig is i) = true then (unD is f (i + 1) e).map fun r=>nodeD (ig is i) :: r
  else none
section
variable {is : List InsD} {f i e : Nat}
theorem unD_end (h : e ≤ i) : unD is (f + 1) i e = some []:=by unfold unD;rw [if_pos h]
theorem unD_enter (h : i < e) (ho : (ig is i).op = 103) : unD is (f + 1) i e = unD is f (i + 1) e:=by rw [unD,if_neg (by omega),if_pos ho]
theorem unD_leave (h : i < e) (ho : (ig is i).op = 104) : unD is (f + 1) i e = (unD is f (i + 1) e).map fun r=>insO 23 2 :: r:=by rw [unD,if_neg (by omega),if_neg (by omega),if_pos ho]
theorem unD_if (h : i < e) (ho : (ig is i).op = 102) (hp : ifP is i e (ig is i).a) : unD is (f + 1) i e = match unD is f (i + 1) ((ig is i).a.toNat - 1),unD is f (ig is i).a.toNat (ig is ((ig is i).a.toNat - 1)).a.toNat with
  | some b,some d=>(unD is f (ig is ((ig is i).a.toNat - 1)).a.toNat e).map fun r=>b ++ d ++ [insO 21 3] ++ r
  | _,_=>none:=by rw [unD,if_neg (by omega),if_neg (by omega),if_neg (by omega),if_pos ho,if_pos hp]
theorem unD_ifno (h : i < e) (ho : (ig is i).op = 102) (hp : ¬ ifP is i e (ig is i).a) : unD is (f + 1) i e = none:=by rw [unD,if_neg (by omega),if_neg (by omega),if_neg (by omega),if_pos ho,if_neg hp]
theorem unD_node (h : i < e) (h1 : (ig is i).op ≠ 103) (h2 : (ig is i).op ≠ 104) (h3 : (ig is i).op ≠ 102) (hn : nodeB (ig is i) = true) : unD is (f + 1) i e = (unD is f (i + 1) e).map fun r=>nodeD (ig is i) :: r:=by rw [unD,if_neg (by omega),if_neg h1,if_neg h2,if_neg h3,if_pos hn]
theorem unD_no (h : i < e) (h1 : (ig is i).op ≠ 103) (h2 : (ig is i).op ≠ 104) (h3 : (ig is i).op ≠ 102) (hn : nodeB (ig is i) = false) : unD is (f + 1) i e = none:=by rw [unD,if_neg (by omega),if_neg h1,if_neg h2,if_neg h3,if_neg (by rw [hn];decide)]
end
theorem unD_fuel {is : List InsD} : ∀ (f f' i e : Nat),e - i < f → e - i < f' → unD is f i e = unD is f' i e
 | 0,_,_,_,h,_=>absurd h (Nat.not_lt_zero _)
 | _ + 1,0,_,_,_,h=>absurd h (Nat.not_lt_zero _)
 | f + 1,f' + 1,i,e,h1,h2=>by
  by_cases hlt : i < e
  ·have ih:=fun (i' e' : Nat) (ha : i < i') (hb : e' ≤ e)=>unD_fuel (is:=is) f f' i' e' (by omega) (by omega)
   by_cases c1 : (ig is i).op = 103
   ·rw [unD_enter hlt c1,unD_enter hlt c1,ih _ _ (by omega) (by omega)]
   ·by_cases c2 : (ig is i).op = 104
    ·rw [unD_leave hlt c2,unD_leave hlt c2,ih _ _ (by omega) (by omega)]
    ·by_cases c3 : (ig is i).op = 102
     ·by_cases hp : ifP is i e (ig is i).a
      ·rw [unD_if hlt c3 hp,unD_if hlt c3 hp]
       obtain ⟨p1,p2,p3,p4,p5⟩:=hp
       rw [ih _ _ (by omega) (by omega),ih (ig is i).a.toNat _ (by omega) (by omega),ih _ e (by omega) (by omega)]
      ·rw [unD_ifno hlt c3 hp,unD_ifno hlt c3 hp]
     ·cases hn : nodeB (ig is i) with
      | true=>rw [unD_node hlt c1 c2 c3 hn,unD_node hlt c1 c2 c3 hn,ih _ _ (by omega) (by omega)]
      | false=>rw [unD_no hlt c1 c2 c3 hn,unD_no hlt c1 c2 c3 hn]
  ·rw [unD_end (by omega),unD_end (by omega)]
theorem unD_len {is : List InsD} : ∀ (f i e : Nat) (L : List InsD),unD is f i e = some L → L.length ≤ e - i
 | 0,_,_,_,h=>by cases h
 | f + 1,i,e,L,h=>by
  by_cases hlt : i < e
  ·by_cases c1 : (ig is i).op = 103
   ·rw [unD_enter hlt c1] at h
    have:=unD_len f _ _ _ h
    omega
   ·by_cases c2 : (ig is i).op = 104
    ·rw [unD_leave hlt c2] at h
     obtain ⟨r,hr,rfl⟩:=Option.map_eq_some_iff.1 h
     have:=unD_len f _ _ _ hr
     show r.length + 1 ≤ _
     omega
    ·by_cases c3 : (ig is i).op = 102
     ·by_cases hp : ifP is i e (ig is i).a
      ·rw [unD_if hlt c3 hp] at h
       obtain ⟨p1,p2,p3,p4,p5⟩:=hp
       cases hb : unD is f (i + 1) ((ig is i).a.toNat - 1) with
       | none=>rw [hb] at h;cases h
       | some b =>
        cases hd : unD is f (ig is i).a.toNat (ig is ((ig is i).a.toNat - 1)).a.toNat with
        | none=>rw [hb,hd] at h;cases h
        | some d =>
         rw [hb,hd] at h
         obtain ⟨r,hr,rfl⟩:=Option.map_eq_some_iff.1 h
         have h1:=unD_len f _ _ _ hb
         have h2:=unD_len f _ _ _ hd
         have h3:=unD_len f _ _ _ hr
         simp only [List.length_append,List.length_cons,List.length_nil]
         omega
      ·rw [unD_ifno hlt c3 hp] at h;cases h
     ·cases hn : nodeB (ig is i) with
      | true =>
       rw [unD_node hlt c1 c2 c3 hn] at h
       obtain ⟨r,hr,rfl⟩:=Option.map_eq_some_iff.1 h
       have:=unD_len f _ _ _ hr
       show r.length + 1 ≤ _
       omega
      | false=>rw [unD_no hlt c1 c2 c3 hn] at h;cases h
  ·rw [unD_end (by omega)] at h
   injection h with h
   rw [← h]
   exact Nat.zero_le _
end Go.Proofs.YtnhmplfonkjfoaaDoor

