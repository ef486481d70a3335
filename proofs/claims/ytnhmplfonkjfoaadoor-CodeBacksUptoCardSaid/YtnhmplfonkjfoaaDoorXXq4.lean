/- What this law reaches beyond the common contracts, part 4. -/
import Derived.Test.YtnhmplfonkjfoaaDoorM2
import Derived.Test.YtnhmplfonkjfoaaDoorXXq3
set_option linter.unusedSimpArgs false
set_option linter.unusedVariables false


namespace Go.Proofs.YtnhmplfonkjfoaaDoor
open Go.RowKit

theorem of_bound {is : List InsD} {PS : Pts} {HV : List Nat} (hw : Wf is PS) (hlen : is.length ≤ 1000) : ∀ (n t : Nat) (ps : Pts) (hv : List Nat),n + t = is.length → ps.length = t → stGo is n t ps hv = some (PS,HV) → (∀ x ∈ hv,x < t) → sumL (hv.map fun x=>ofD is PS x 0) ≤ 2 * t →
  ∀ x,t ≤ x → x < is.length → (ofD is PS x 0).length ≤ 2000
 | 0,t,ps,hv,hn,hl,h,_,hs=>fun x h1 h2=>by omega
 | n + 1,t,ps,hv,hn,hl,h,hlt,hs=>fun x h1 h2=>by
  cases hc : stOk (ig is t) hv with
  | false=>rw [stGo_no hc] at h;cases h
  | true =>
   rw [stGo_yes hc] at h
   obtain ⟨q,hq⟩:=stGo_ext _ _ _ _ _ _ h
   have e : pgN PS t = stPart (ig is t) hv:=by
    unfold pgN
    rw [hq,List.append_assoc,List.getD_eq_getElem?_getD,List.getElem?_append_right (by omega),hl,Nat.sub_self]
    rfl
   have htl : t < is.length:=by omega
   have hsp:=sumL_take (hv.map fun x=>ofD is PS x 0) (hv.length - (ig is t).a.toNat)
   rw [← List.map_take,← List.map_drop] at hsp
   have hpart : sumL ((pgN PS t).map fun x=>ofD is PS x 0) ≤ 2 * t:=by
    rw [e]
    unfold stPart
    omega
   have hT:=tell_same hw htl (by omega)
   have h9:=tellD_length (i:=ig is t) (P:=(pgN PS t).map fun x=>ofD is PS x 0) (fun c=>by rw [List.length_map,hw.three t htl c];exact Nat.le_refl _) (fun c=>by rw [List.length_map,hw.two t htl c];exact Nat.le_refl _)
   rw [hT] at h9
   by_cases ex : x = t
   ·subst ex
    omega
   ·refine of_bound hw hlen n (t + 1) _ _ (by omega) (by rw [List.length_append,hl];rfl) h (fun x hx=>?_) ?_ x (by omega) h2
    ·unfold stStep at hx
     rcases List.mem_append.1 hx with hx | hx
     ·have:=hlt x (List.mem_of_mem_take hx);omega
     ·rw [List.mem_singleton.1 hx];omega
    ·unfold stStep
     rw [List.map_append,sumL_append]
     show _ + ((ofD is PS t 0).length + 0) ≤ _
     rw [e] at h9
     unfold stPart at h9
     omega
theorem chk_parts {is : List InsD} {b : Bool} (h : chkP is b = 0) : is.length ≤ 300 ∧ 0 < is.length ∧ ∃ PS HV,stGo is is.length 0 [] [] = some (PS,HV) ∧ Wf is PS ∧ PS.length = is.length ∧ compD is = ofD is PS (is.length - 1) 0 ∧ ∀ x,x < is.length → (ofD is PS x 0).length ≤ 2000:=by
 have h3:=(chk_zero h).1
 rw [← chk_same] at h
 unfold chkR at h
 rw [if_neg (by omega)] at h
 cases hs : stGo is is.length 0 [] [] with
 | none=>rw [hs] at h;cases h
 | some x =>
  obtain ⟨PS,HV⟩:=x
  rw [hs] at h
  dsimp only at h
  by_cases h1 : HV.length = 1
  ·rw [if_neg (fun hh=>hh h1)] at h
   cases hr : rGo is PS is.length 0 (List.replicate is.length 0) 0 with
   | none=>rw [hr] at h;cases h
   | some D =>
    have hg:=(go_same is.length 0 [] [] (List.replicate is.length 0) 0 rfl rfl (is:=is) ⟨fun x hx=>(by cases hx),fun x hx=>(by cases hx),fun h=>absurd h (by omega),List.length_replicate⟩).2 PS HV hs
    obtain ⟨DS,_,al⟩:=hg.2 D hr
    have hpos : 0 < is.length:=by
     rcases Nat.eq_zero_or_pos is.length with h | h
     ·rw [h] at hs
      injection hs with hs
      injection hs with _ hs
      rw [← hs] at h1;cases h1
     ·exact h
    have hlast:=(al.last hpos).2
    rw [h1] at hlast
    have hw:=wf_of hs
    have hc:=(comp_same hw is.length 0 [] [] HV rfl (by omega) rfl hs (fun x hx=>by cases hx) (Nat.le_refl _)).1
    have hb:=of_bound hw (by omega) is.length 0 [] [] rfl rfl hs (fun x hx=>by cases hx) (Nat.le_refl _)
    have hPL:=stGo_len _ _ _ _ _ _ hs
    refine ⟨h3,hpos,PS,HV,rfl,hw,by rw [hPL];exact Nat.zero_add _, ?_,fun x hx=>hb x (Nat.zero_le _) hx⟩
    unfold compD
    have hc : compGo is is.length 0 [] = HV.map (fun x=>ofD is PS x 0):=hc
    rw [hc,pg_map hw (by omega),show ng HV 0 = is.length - 1 from hlast]
  ·rw [if_pos h1] at h;cases h
set_option maxHeartbeats 1000000 in
theorem places_any (is : List InsD) (v : Value) (w : World) (PS : Pts) (HV : List Nat) (h : Cod w v is) (hl : is.length ≤ 300) (hs : stGo is is.length 0 [] [] = some (PS,HV)) : Calls Tryd.prog 36 #[v] w fun e w'=>∃ vP,e = .returned vP ∧ Prd w' vP PS ∧ Below w.heap.size w w':=by
 have HS:=Lib.hid (stack10_any is v w h (by omega))
 unfold StkPost at HS
 rw [hs] at HS
 dsimp only at HS
 obtain ⟨A,C,rfl,-,-⟩:=h
 have hl2 : (is.length : Int) ≤ 300:=by omega
 have hw1 : IntKind.i64.wrap ((is.length : Int) - 1) = (is.length : Int) - 1:=by rw [IntKind.wrap_i64];omega
 clear hs
 go_enter Tryd.func36,Tryd.ntmps36
 go_wp2_with (go_at_call 30;(with_reducible refine HS.out.mono ?_);rintro _ w2 ⟨vP,vH,rfl,hp2,hn2,hb2⟩)
 go_ret
 exact ⟨_,rfl,hp2,hb2⟩
set_option maxHeartbeats 1000000 in
theorem code14_any (is : List InsD) (v : Value) (b : Bool) (w : World) (h : Cod w v is) (hk : chkP is b = 0) : Calls Tryd.prog 20 #[v] w (OfPost (compD is) w):=by
 obtain ⟨hl,hpos,PS,HV,hs,hw,hpl,hcd,hb⟩:=chk_parts hk
 have HP:=Lib.hid (places_any is v w PS HV h hl hs)
 have hof : ∀ (W : World) (vP : Value),Below w.heap.size w W → Prd W vP PS → Calls Tryd.prog 35 #[v,vP,.int .i64 ((is.length - 1 : Nat) : Int),.int .i64 0] W (OfPost (compD is) W):=fun W vP hW hP=>by
  have q:=docof_any hw hpl hl hb is.length (is.length - 1) 0 W v vP (by omega) (by omega) (by omega) (h.below hW) hP
  rw [hcd]
  exact q
 obtain ⟨m,hm⟩ : ∃ m,m = is.length - 1:=⟨_,rfl⟩
 rw [← hm] at hof
 have hm2 : (is.length : Int) - 1 = (m : Int):=by omega
 have hw1 : IntKind.i64.wrap ((is.length : Int) - 1) = (m : Int):=by rw [IntKind.wrap_i64];omega
 have HOF:=Lib.hid hof
 obtain ⟨L,hL⟩ : ∃ L,L = compD is:=⟨_,rfl⟩
 rw [← hL] at HOF ⊢
 unfold OfPost at HOF
 obtain ⟨A,C,rfl,-,-⟩:=h
 clear hof hcd hb hw hs hk hpl hm hL
 go_enter Tryd.func20,Tryd.ntmps20
 go_wp2_with (first | (go_at_call 36;(with_reducible refine HP.out.mono ?_);rintro _ w2 ⟨vP,rfl,hp2,hb2⟩;(try rw [hm2])) | (go_at_call 35;(with_reducible refine (HOF.out _ _ hb2 hp2).mono ?_);rintro _ w3 ⟨r,rfl,hb3,hr3⟩))
 go_ret
 exact ⟨_,rfl,hb2.trans (hb3.mono hb2.size),ob_mono hr3 hb2.size⟩
end Go.Proofs.YtnhmplfonkjfoaaDoor



namespace Go.Proofs.YtnhmplfonkjfoaaDoor
open Go.RowKit

theorem undo_any (is : List InsD) (hl : is.length ≤ 600) : ∀ f,UndoOk is f
 | 0=>fun i e w v hf=>absurd hf (Nat.not_lt_zero _)
 | f + 1=>undo_step is hl f (undo_any is hl f)
noncomputable def unbD (is : List InsD) (b : Bool) : List InsD × Int :=
 if 600 < is.length then ([],6)
 else match unD is (is.length + 1) 0 is.length with
 | none=>([],2)
 | some L=>if chkP L b = 0 ∧ sameB (compD L) is = true then (L,0) else ([],2)
theorem good_o (op a : Int) : GoodJ (insO op a):=⟨⟨by show (0 : Int) ≤ 0;decide,by show (0 : Int) < _;decide⟩,⟨by show (0 : Int) ≤ 0;decide,by show (0 : Int) < _;decide⟩,by show 0 ≤ 1048576;decide⟩
theorem unD_good {is : List InsD} (hg : ∀ r,r < is.length → GoodJ (ig is r)) : ∀ (f i e : Nat) (L : List InsD),e ≤ is.length → unD is f i e = some L → ∀ x ∈ L,GoodJ x
 | 0,_,_,_,_,h=>by cases h
 | f + 1,i,e,L,hel,h=>by
  by_cases hlt : i < e
  ·by_cases c1 : (ig is i).op = 103
   ·rw [unD_enter hlt c1] at h
    exact unD_good hg f _ _ _ hel h
   ·by_cases c2 : (ig is i).op = 104
    ·rw [unD_leave hlt c2] at h
     obtain ⟨r,hr,rfl⟩:=Option.map_eq_some_iff.1 h
     have ih:=unD_good hg f _ _ _ hel hr
     intro x hx
     rcases List.mem_cons.1 hx with rfl | hx
     ·exact good_o _ _
     ·exact ih x hx
    ·by_cases c3 : (ig is i).op = 102
     ·by_cases hp : ifP is i e (ig is i).a
      ·rw [unD_if hlt c3 hp] at h
       obtain ⟨p1,p2,p3,p4,p5⟩:=hp
       cases hb : unD is f (i + 1) ((ig is i).a.toNat - 1) with
       | none=>rw [hb] at h;cases h
       | some b =>
        cases hd : unD is f (ig is i).a.toNat (ig is ((ig is i).a.toNat - 1)).a.toNat with
        | none=>rw [hb,hd] at h;cases h
        | some d =>
         rw [hb,hd] at h
         obtain ⟨r,hr,rfl⟩:=Option.map_eq_some_iff.1 h
         have h1:=unD_good hg f _ _ _ (by omega) hb
         have h2:=unD_good hg f _ _ _ (by omega) hd
         have h3:=unD_good hg f _ _ _ hel hr
         intro x hx
         simp only [List.mem_append,List.mem_singleton] at hx
         rcases hx with ((hx | hx) | rfl) | hx
         ·exact h1 x hx
         ·exact h2 x hx
         ·exact good_o _ _
         ·exact h3 x hx
      ·rw [unD_ifno hlt c3 hp] at h;cases h
     ·cases hn : nodeB (ig is i) with
      | true =>
       rw [unD_node hlt c1 c2 c3 hn] at h
       obtain ⟨r,hr,rfl⟩:=Option.map_eq_some_iff.1 h
       have ih:=unD_good hg f _ _ _ hel hr
       intro x hx
       rcases List.mem_cons.1 hx with rfl | hx
       ·exact hg i (by omega)
       ·exact ih x hx
      | false=>rw [unD_no hlt c1 c2 c3 hn] at h;cases h
  ·rw [unD_end (by omega)] at h
   injection h with h
   rw [← h]
   exact fun x hx=>by cases hx
theorem ig_mem {L : List InsD} {r : Nat} (h : r < L.length) : ig L r ∈ L:=by
 unfold ig
 rw [List.getD_eq_getElem?_getD,List.getElem?_eq_getElem h]
 exact List.getElem_mem h
set_option maxRecDepth 100000 in
set_option maxHeartbeats 1500000 in
theorem equal_ins (is js : List InsD) (v u : Value) (w : World) (h : Cod w v is) (h2 : Cod w u js) : Calls Tryd.prog 29 #[v,u] w fun e w'=>e = .returned (.bool (sameB is js)) ∧ Below w.heap.size w w':=by
 have HI:=Lib.hid h
 have HJ:=Lib.hid h2
 obtain ⟨A,C,rfl,ha,_⟩:=h
 obtain ⟨A2,C2,rfl,hb,_⟩:=h2
 unfold maxLen at ha hb
 obtain ⟨R,hR⟩ : ∃ R,R = sameB is js:=⟨_,rfl⟩
 have HR:=Lib.hid hR
 rw [← hR]
 clear hR
 by_cases hl : is.length = js.length
 ·rw [← hl] at HJ hb ⊢
  have HL:=Lib.hid hl
  clear hl
  go_enter Tryd.func29,Tryd.ntmps29
  go_wp2_with fail
  go_loopg [13] is.length (fun k i wr=>∃ t : Nat,k + t = is.length ∧ i = .int .i64 t ∧ Hid (∀ r,r < t → ig is r = ig js r) ∧ Hid (Below w.heap.size w wr))
  case atStart=>exact ⟨0,by omega,rfl,Lib.hid (fun r hr=>absurd hr (Nat.not_lt_zero _)),Lib.hid (Below.refl _ _)⟩
  case round =>
   obtain ⟨t,hk,rfl,HU,HB⟩:=hrel
   have HK:=Lib.hid hk
   have htn : t ≤ is.length:=by omega
   clear hk
   by_cases hlt : t < is.length
   ·obtain ⟨b1,p1,rfl,a1⟩:=(HI.out.below HB.out).at hlt
    obtain ⟨b2,p2,rfl,a2⟩:=(HJ.out.below HB.out).at (by rw [← HL.out];exact hlt)
    obtain ⟨I,hI⟩ : ∃ I,I = ig is t:=⟨_,rfl⟩
    obtain ⟨J,hJ⟩ : ∃ J,J = ig js t:=⟨_,rfl⟩
    rw [← hI] at a1
    rw [← hJ] at a2
    have HE:=Lib.hid (And.intro hI hJ)
    have hq:=neq_ins I J
    obtain ⟨x0,x1,x2,x3,x4,x5,x6,x7⟩:=a1.ins
    obtain ⟨y0,y1,y2,y3,y4,y5,y6,y7⟩:=a2.ins
    clear a1 a2 hI hJ
    cases he : insE I J with
    | true =>
     have HIJ : Hid (ig is t = ig js t):=Lib.hid (by rw [← HE.out.1,← HE.out.2];exact insE_true he)
     rw [he] at hq
     go_wp2_with fail
     go_quiet (fail)
     go_wp2_with fail
     go_roundg (gk - 1)
     case measure=>have:=HK.out;omega
     case rel=>exact ⟨t + 1,by have:=HK.out;omega,by go_num,Lib.hid (fun r hr=>by
       by_cases e : r = t
       ·subst e;exact HIJ.out
       ·exact HU.out r (by omega)),Lib.hid (below_drewN HB.out _)⟩
    | false =>
     have hr : R = false:=by
      rw [HR.out]
      refine sameB_no (fun e=>?_)
      have h9 : I = J:=by rw [HE.out.1,HE.out.2,e]
      rw [h9,insE_self] at he
      cases he
     rw [he] at hq
     go_wp2_with fail
     go_quiet (fail)
     go_wp2_with fail
     go_ret
     exact ⟨by first | rfl | (rw [hr];rfl),below_drewN HB.out _⟩
   ·obtain rfl : t = is.length:=by omega
    have hr : R = true:=by
     rw [HR.out]
     exact sameB_yes (same_ext HL.out HU.out)
    go_wp2_with fail
    go_ret
    exact ⟨by first | rfl | (rw [hr];rfl),HB.out⟩
 ·have hr : R = false:=by
   rw [HR.out]
   exact sameB_no (fun e=>hl (by rw [e]))
  have hne : ((is.length : Int) != (js.length : Int)) = true:=by rw [bne_iff_ne];omega
  go_enter Tryd.func29,Tryd.ntmps29
  go_wp2_with fail
  go_ret
  exact ⟨by first | rfl | (rw [hr];rfl),Below.refl _ _⟩
def DbPost (R : List InsD × Int) (w : World) (e : Ending) (w' : World) : Prop:=∃ r,e = .returned (.tuple #[r,.int .i64 R.2]) ∧ Below w.heap.size w w' ∧ Ro w' (ob w.heap.size) 1 45 8 r R.1.length (ics R.1)
set_option maxRecDepth 100000 in
set_option maxHeartbeats 2000000 in
theorem docback_any (is : List InsD) (v : Value) (b : Bool) (w : World) (h : Cod w v is) (hg : ∀ r,r < is.length → GoodJ (ig is r)) : Calls Tryd.prog 15 #[v,.bool b] w (DbPost (unbD is b) w):=by
 unfold DbPost
 by_cases hl : 600 < is.length
 ·have hD : unbD is b = ([],6):=by unfold unbD;rw [if_pos hl]
  rw [hD]
  obtain ⟨A,C,rfl,-,-⟩:=h
  have hl2 : (600 : Int) < (is.length : Int):=by omega
  clear hD
  go_enter Tryd.func15,Tryd.ntmps15
  go_wp2_with fail
  refine bodyPost_ret (by simp [results,Tryd.results15,go_sem, *];try rfl) rfl ?_
  exact ⟨.slice none 0 0,rfl,Below.refl _ _,Ro.nil _ _ _ _ _⟩
 ·have hl2 : (is.length : Int) ≤ 600:=by omega
  have HU:=Lib.hid (show Calls Tryd.prog 27 #[v,.int .i64 0,.int .i64 (is.length : Int)] w _ from undo_any is (by omega) (is.length + 1) 0 is.length w v (by omega) (Nat.zero_le _) (Nat.le_refl _) h)
  have hD : unbD is b = match unD is (is.length + 1) 0 is.length with
   | none=>([],2)
   | some L=>if chkP L b = 0 ∧ sameB (compD L) is = true then (L,0) else ([],2):=by unfold unbD;rw [if_neg hl]
  unfold UnPost at HU
  have HC:=Lib.hid h
  obtain ⟨A,C,rfl,-,-⟩:=h
  cases hX : unD is (is.length + 1) 0 is.length with
  | none =>
   rw [hX] at hD HU
   dsimp only at hD HU
   rw [hD]
   clear hD hX hl
   go_enter Tryd.func15,Tryd.ntmps15
   go_wp2_with (go_at_call 27;(with_reducible refine HU.out.mono ?_);rintro _ w2 ⟨rfl,hb2⟩)
   refine bodyPost_ret (by simp [results,Tryd.results15,go_sem, *];try rfl) rfl ?_
   exact ⟨.slice none 0 0,rfl,hb2,Ro.nil _ _ _ _ _⟩
  | some L =>
   rw [hX] at hD HU
   dsimp only at hD HU
   have hgL:=unD_good hg _ _ _ _ (Nat.le_refl _) hX
   have HCK:=Lib.hid (fun (W : World) (r : Value) (hr : Cod W r L)=>check10_any L r b W hr (fun k hk=>hgL _ (ig_mem hk)))
   obtain ⟨z,hz⟩ : ∃ z,z = chkP L b:=⟨_,rfl⟩
   by_cases h0 : chkP L b = 0
   ·have HCO:=Lib.hid (fun (W : World) (r : Value) (hr : Cod W r L)=>code14_any L r b W hr h0)
    have HSM:=Lib.hid (fun (W : World) (r1 : Value) (hr : Cod W r1 (compD L)) (hW : Below w.heap.size w W)=>same_ins (compD L) is r1 _ W hr (HC.out.below hW))
    unfold OfPost at HCO
    rw [h0] at HCK
    cases hs : sameB (compD L) is with
    | true =>
     rw [if_pos ⟨h0,hs⟩] at hD
     rw [hs] at HSM
     rw [hD]
     clear hD hX hl h0 hz hs hgL
     go_enter Tryd.func15,Tryd.ntmps15
     go_upto_region 4 with (go_at_call 27;(with_reducible refine HU.out.mono ?_);rintro _ w2 ⟨r,rfl,hb2,hr2⟩)
     have hcL:=hr2.cod rfl
     have HR2:=Lib.hid hr2
     have HCL:=Lib.hid hcL
     have HB2:=Lib.hid hb2
     obtain ⟨Ar,Cr,rfl,-⟩:=hr2.sl.is
     have HCOB:=Lib.hid (fun (W : World) (hW : Below w2.heap.size w2 W)=>HCO.out W _ (HCL.out.below hW))
     clear hr2 hcL
     go_wp2_with (first | (go_at_call 18;(with_reducible refine (HCK.out _ _ HCL.out).mono ?_);rintro _ w3 ⟨rfl,hb3⟩) | (go_at_call 20;(with_reducible refine (HCOB.out _ hb3).mono ?_);rintro _ w4 ⟨r4,rfl,hb4,hr4⟩;have hb34:=hb3.trans (hb4.mono hb3.size);have hc4:=hr4.cod rfl;have hbw4:=HB2.out.trans (hb34.mono HB2.out.size)) | (go_at_call 12;(with_reducible refine (HSM.out _ _ hc4 hbw4).mono ?_);rintro _ w5 ⟨rfl,hb5⟩;have hb35:=hb34.trans (hb5.mono hb34.size)))
     refine bodyPost_ret (by simp [results,Tryd.results15,go_sem, *];try rfl) rfl ?_
     exact ⟨_,rfl,HB2.out.trans (hb35.mono HB2.out.size),ob_kept HR2.out hb35⟩
    | false =>
     rw [if_neg (fun hh=>by rw [hs] at hh;cases hh.2)] at hD
     rw [hs] at HSM
     rw [hD]
     clear hD hX hl h0 hz hs hgL
     go_enter Tryd.func15,Tryd.ntmps15
     go_upto_region 4 with (go_at_call 27;(with_reducible refine HU.out.mono ?_);rintro _ w2 ⟨r,rfl,hb2,hr2⟩)
     have hcL:=hr2.cod rfl
     have HCL:=Lib.hid hcL
     have HB2:=Lib.hid hb2
     obtain ⟨Ar,Cr,rfl,-⟩:=hr2.sl.is
     have HCOB:=Lib.hid (fun (W : World) (hW : Below w2.heap.size w2 W)=>HCO.out W _ (HCL.out.below hW))
     clear hr2 hcL
     go_wp2_with (first | (go_at_call 18;(with_reducible refine (HCK.out _ _ HCL.out).mono ?_);rintro _ w3 ⟨rfl,hb3⟩) | (go_at_call 20;(with_reducible refine (HCOB.out _ hb3).mono ?_);rintro _ w4 ⟨r4,rfl,hb4,hr4⟩;have hb34:=hb3.trans (hb4.mono hb3.size);have hc4:=hr4.cod rfl;have hbw4:=HB2.out.trans (hb34.mono HB2.out.size)) | (go_at_call 12;(with_reducible refine (HSM.out _ _ hc4 hbw4).mono ?_);rintro _ w5 ⟨rfl,hb5⟩;have hb35:=hb34.trans (hb5.mono hb34.size)))
     refine bodyPost_ret (by simp [results,Tryd.results15,go_sem, *];try rfl) rfl ?_
     exact ⟨.slice none 0 0,rfl,HB2.out.trans (hb35.mono HB2.out.size),Ro.nil _ _ _ _ _⟩
   ·rw [if_neg (fun hh=>h0 hh.1)] at hD
    rw [hD]
    rw [← hz] at HCK h0
    have hne : (z != 0) = true:=by rw [bne_iff_ne];exact h0
    clear hD hX hl hz h0 hgL
    go_enter Tryd.func15,Tryd.ntmps15
    go_upto_region 4 with (go_at_call 27;(with_reducible refine HU.out.mono ?_);rintro _ w2 ⟨r,rfl,hb2,hr2⟩)
    have hcL:=hr2.cod rfl
    have HCL:=Lib.hid hcL
    have HB2:=Lib.hid hb2
    obtain ⟨Ar,Cr,rfl,-⟩:=hr2.sl.is
    clear hr2 hcL
    go_wp2_with (go_at_call 18;(with_reducible refine (HCK.out _ _ HCL.out).mono ?_);rintro _ w3 ⟨rfl,hb3⟩)
    refine bodyPost_ret (by simp [results,Tryd.results15,go_sem, *];try rfl) rfl ?_
    exact ⟨.slice none 0 0,rfl,HB2.out.trans (hb3.mono HB2.out.size),Ro.nil _ _ _ _ _⟩
end Go.Proofs.YtnhmplfonkjfoaaDoor

