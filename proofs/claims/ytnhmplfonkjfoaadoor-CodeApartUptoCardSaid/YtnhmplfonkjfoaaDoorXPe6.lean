/- What this law reaches beyond the common contracts, part 6. -/
import Derived.Test.YtnhmplfonkjfoaaDoorM2
import Derived.Test.YtnhmplfonkjfoaaDoorXPe5
set_option linter.unusedSimpArgs false
set_option linter.unusedVariables false


namespace Go.Proofs.YtnhmplfonkjfoaaDoor
open Go.RowKit

theorem of_bound {is : List InsD} {PS : Pts} {HV : List Nat} (hw : Wf is PS) (hlen : is.length ≤ 1000) : ∀ (n t : Nat) (ps : Pts) (hv : List Nat),n + t = is.length → ps.length = t → stGo is n t ps hv = some (PS,HV) → (∀ x ∈ hv,x < t) → sumL (hv.map fun x=>ofD is PS x 0) ≤ 2 * t →
  ∀ x,t ≤ x → x < is.length → (ofD is PS x 0).length ≤ 2000
 | 0,t,ps,hv,hn,hl,h,_,hs=>fun x h1 h2=>by omega
 | n + 1,t,ps,hv,hn,hl,h,hlt,hs=>fun x h1 h2=>by
  cases hc : stOk (ig is t) hv with
  | false=>rw [stGo_no hc] at h;cases h
  | true =>
   rw [stGo_yes hc] at h
   obtain ⟨q,hq⟩:=stGo_ext _ _ _ _ _ _ h
   have e : pgN PS t = stPart (ig is t) hv:=by
    unfold pgN
    rw [hq,List.append_assoc,List.getD_eq_getElem?_getD,List.getElem?_append_right (by omega),hl,Nat.sub_self]
    rfl
   have htl : t < is.length:=by omega
   have hsp:=sumL_take (hv.map fun x=>ofD is PS x 0) (hv.length - (ig is t).a.toNat)
   rw [← List.map_take,← List.map_drop] at hsp
   have hpart : sumL ((pgN PS t).map fun x=>ofD is PS x 0) ≤ 2 * t:=by
    rw [e]
    unfold stPart
    omega
   have hT:=tell_same hw htl (by omega)
   have h9:=tellD_length (i:=ig is t) (P:=(pgN PS t).map fun x=>ofD is PS x 0) (fun c=>by rw [List.length_map,hw.three t htl c];exact Nat.le_refl _) (fun c=>by rw [List.length_map,hw.two t htl c];exact Nat.le_refl _)
   rw [hT] at h9
   by_cases ex : x = t
   ·subst ex
    omega
   ·refine of_bound hw hlen n (t + 1) _ _ (by omega) (by rw [List.length_append,hl];rfl) h (fun x hx=>?_) ?_ x (by omega) h2
    ·unfold stStep at hx
     rcases List.mem_append.1 hx with hx | hx
     ·have:=hlt x (List.mem_of_mem_take hx);omega
     ·rw [List.mem_singleton.1 hx];omega
    ·unfold stStep
     rw [List.map_append,sumL_append]
     show _ + ((ofD is PS t 0).length + 0) ≤ _
     rw [e] at h9
     unfold stPart at h9
     omega
theorem chk_parts {is : List InsD} {b : Bool} (h : chkP is b = 0) : is.length ≤ 300 ∧ 0 < is.length ∧ ∃ PS HV,stGo is is.length 0 [] [] = some (PS,HV) ∧ Wf is PS ∧ PS.length = is.length ∧ compD is = ofD is PS (is.length - 1) 0 ∧ ∀ x,x < is.length → (ofD is PS x 0).length ≤ 2000:=by
 have h3:=(chk_zero h).1
 rw [← chk_same] at h
 unfold chkR at h
 rw [if_neg (by omega)] at h
 cases hs : stGo is is.length 0 [] [] with
 | none=>rw [hs] at h;cases h
 | some x =>
  obtain ⟨PS,HV⟩:=x
  rw [hs] at h
  dsimp only at h
  by_cases h1 : HV.length = 1
  ·rw [if_neg (fun hh=>hh h1)] at h
   cases hr : rGo is PS is.length 0 (List.replicate is.length 0) 0 with
   | none=>rw [hr] at h;cases h
   | some D =>
    have hg:=(go_same is.length 0 [] [] (List.replicate is.length 0) 0 rfl rfl (is:=is) ⟨fun x hx=>(by cases hx),fun x hx=>(by cases hx),fun h=>absurd h (by omega),List.length_replicate⟩).2 PS HV hs
    obtain ⟨DS,_,al⟩:=hg.2 D hr
    have hpos : 0 < is.length:=by
     rcases Nat.eq_zero_or_pos is.length with h | h
     ·rw [h] at hs
      injection hs with hs
      injection hs with _ hs
      rw [← hs] at h1;cases h1
     ·exact h
    have hlast:=(al.last hpos).2
    rw [h1] at hlast
    have hw:=wf_of hs
    have hc:=(comp_same hw is.length 0 [] [] HV rfl (by omega) rfl hs (fun x hx=>by cases hx) (Nat.le_refl _)).1
    have hb:=of_bound hw (by omega) is.length 0 [] [] rfl rfl hs (fun x hx=>by cases hx) (Nat.le_refl _)
    have hPL:=stGo_len _ _ _ _ _ _ hs
    refine ⟨h3,hpos,PS,HV,rfl,hw,by rw [hPL];exact Nat.zero_add _, ?_,fun x hx=>hb x (Nat.zero_le _) hx⟩
    unfold compD
    have hc : compGo is is.length 0 [] = HV.map (fun x=>ofD is PS x 0):=hc
    rw [hc,pg_map hw (by omega),show ng HV 0 = is.length - 1 from hlast]
  ·rw [if_pos h1] at h;cases h
set_option maxHeartbeats 1000000 in
theorem places_any (is : List InsD) (v : Value) (w : World) (PS : Pts) (HV : List Nat) (h : Cod w v is) (hl : is.length ≤ 300) (hs : stGo is is.length 0 [] [] = some (PS,HV)) : Calls Tryd.prog 36 #[v] w fun e w'=>∃ vP,e = .returned vP ∧ Prd w' vP PS ∧ Below w.heap.size w w':=by
 have HS:=Lib.hid (stack10_any is v w h (by omega))
 unfold StkPost at HS
 rw [hs] at HS
 dsimp only at HS
 obtain ⟨A,C,rfl,-,-⟩:=h
 have hl2 : (is.length : Int) ≤ 300:=by omega
 have hw1 : IntKind.i64.wrap ((is.length : Int) - 1) = (is.length : Int) - 1:=by rw [IntKind.wrap_i64];omega
 clear hs
 go_enter Tryd.func36,Tryd.ntmps36
 go_wp2_with (go_at_call 30;(with_reducible refine HS.out.mono ?_);rintro _ w2 ⟨vP,vH,rfl,hp2,hn2,hb2⟩)
 go_ret
 exact ⟨_,rfl,hp2,hb2⟩
set_option maxHeartbeats 1000000 in
theorem code14_any (is : List InsD) (v : Value) (b : Bool) (w : World) (h : Cod w v is) (hk : chkP is b = 0) : Calls Tryd.prog 20 #[v] w (OfPost (compD is) w):=by
 obtain ⟨hl,hpos,PS,HV,hs,hw,hpl,hcd,hb⟩:=chk_parts hk
 have HP:=Lib.hid (places_any is v w PS HV h hl hs)
 have hof : ∀ (W : World) (vP : Value),Below w.heap.size w W → Prd W vP PS → Calls Tryd.prog 35 #[v,vP,.int .i64 ((is.length - 1 : Nat) : Int),.int .i64 0] W (OfPost (compD is) W):=fun W vP hW hP=>by
  have q:=docof_any hw hpl hl hb is.length (is.length - 1) 0 W v vP (by omega) (by omega) (by omega) (h.below hW) hP
  rw [hcd]
  exact q
 obtain ⟨m,hm⟩ : ∃ m,m = is.length - 1:=⟨_,rfl⟩
 rw [← hm] at hof
 have hm2 : (is.length : Int) - 1 = (m : Int):=by omega
 have hw1 : IntKind.i64.wrap ((is.length : Int) - 1) = (m : Int):=by rw [IntKind.wrap_i64];omega
 have HOF:=Lib.hid hof
 obtain ⟨L,hL⟩ : ∃ L,L = compD is:=⟨_,rfl⟩
 rw [← hL] at HOF ⊢
 unfold OfPost at HOF
 obtain ⟨A,C,rfl,-,-⟩:=h
 clear hof hcd hb hw hs hk hpl hm hL
 go_enter Tryd.func20,Tryd.ntmps20
 go_wp2_with (first | (go_at_call 36;(with_reducible refine HP.out.mono ?_);rintro _ w2 ⟨vP,rfl,hp2,hb2⟩;(try rw [hm2])) | (go_at_call 35;(with_reducible refine (HOF.out _ _ hb2 hp2).mono ?_);rintro _ w3 ⟨r,rfl,hb3,hr3⟩))
 go_ret
 exact ⟨_,rfl,hb2.trans (hb3.mono hb2.size),ob_mono hr3 hb2.size⟩
def DcPost (is : List InsD) (b : Bool) (w : World) (e : Ending) (w' : World) : Prop:=∃ r,e = .returned (.tuple #[r,.int .i64 (chkP is b)]) ∧ Below w.heap.size w w' ∧ Ro w' (ob w.heap.size) 1 43 8 r (cmpD is b).length (ics (cmpD is b))
set_option maxHeartbeats 1000000 in
theorem doccompile_any (is : List InsD) (v : Value) (b : Bool) (w : World) (h : Cod w v is) (hg : ∀ r,r < is.length → GoodJ (ig is r)) : Calls Tryd.prog 10 #[v,.bool b] w (DcPost is b w):=by
 have HC:=Lib.hid (check10_any is v b w h hg)
 unfold DcPost
 by_cases h0 : chkP is b = 0
 ·have HO:=Lib.hid (fun (W : World) (hW : Below w.heap.size w W)=>code14_any is v b W (h.below hW) h0)
  unfold OfPost at HO
  have hD : cmpD is b = compD is:=if_pos h0
  rw [hD,h0]
  rw [h0] at HC
  obtain ⟨L,hL⟩ : ∃ L,L = compD is:=⟨_,rfl⟩
  rw [← hL] at HO ⊢
  obtain ⟨A,C,rfl,-,-⟩:=h
  clear h0 hD hL
  go_enter Tryd.func10,Tryd.ntmps10
  go_wp2_with (first | (go_at_call 18;(with_reducible refine HC.out.mono ?_);rintro _ w2 ⟨rfl,hb2⟩) | (go_at_call 20;(with_reducible refine (HO.out _ hb2).mono ?_);rintro _ w3 ⟨r,rfl,hb3,hr3⟩))
  refine bodyPost_ret (by simp [results,Tryd.results10,go_sem, *];try rfl) rfl ?_
  exact ⟨_,rfl,hb2.trans (hb3.mono hb2.size),ob_mono hr3 hb2.size⟩
 ·have hD : cmpD is b = []:=if_neg h0
  rw [hD]
  obtain ⟨z,hz⟩ : ∃ z,z = chkP is b:=⟨_,rfl⟩
  rw [← hz] at HC h0 ⊢
  have hne : (z != 0) = true:=by rw [bne_iff_ne];exact h0
  obtain ⟨A,C,rfl,-,-⟩:=h
  clear hz hD h0
  go_enter Tryd.func10,Tryd.ntmps10
  go_wp2_with (go_at_call 18;(with_reducible refine HC.out.mono ?_);rintro _ w2 ⟨rfl,hb2⟩)
  refine bodyPost_ret (by simp [results,Tryd.results10,go_sem, *];try rfl) rfl ?_
  exact ⟨.slice none 0 0,rfl,hb2,Ro.nil _ _ _ _ _⟩
end Go.Proofs.YtnhmplfonkjfoaaDoor



namespace Go.Proofs.YtnhmplfonkjfoaaDoor
open Go.RowKit

theorem undo_any (is : List InsD) (hl : is.length ≤ 600) : ∀ f,UndoOk is f
 | 0=>fun i e w v hf=>absurd hf (Nat.not_lt_zero _)
 | f + 1=>undo_step is hl f (undo_any is hl f)
noncomputable def unbD (is : List InsD) (b : Bool) : List InsD × Int :=
 if 600 < is.length then ([],6)
 else match unD is (is.length + 1) 0 is.length with
 | none=>([],2)
 | some L=>if chkP L b = 0 ∧ sameB (compD L) is = true then (L,0) else ([],2)
theorem good_o (op a : Int) : GoodJ (insO op a):=⟨⟨by show (0 : Int) ≤ 0;decide,by show (0 : Int) < _;decide⟩,⟨by show (0 : Int) ≤ 0;decide,by show (0 : Int) < _;decide⟩,by show 0 ≤ 1048576;decide⟩
theorem unD_good {is : List InsD} (hg : ∀ r,r < is.length → GoodJ (ig is r)) : ∀ (f i e : Nat) (L : List InsD),e ≤ is.length → unD is f i e = some L → ∀ x ∈ L,GoodJ x
 | 0,_,_,_,_,h=>by cases h
 | f + 1,i,e,L,hel,h=>by
  by_cases hlt : i < e
  ·by_cases c1 : (ig is i).op = 103
   ·rw [unD_enter hlt c1] at h
    exact unD_good hg f _ _ _ hel h
   ·by_cases c2 : (ig is i).op = 104
    ·rw [unD_leave hlt c2] at h
     obtain ⟨r,hr,rfl⟩:=Option.map_eq_some_iff.1 h
     have ih:=unD_good hg f _ _ _ hel hr
     intro x hx
     rcases List.mem_cons.1 hx with rfl | hx
     ·exact good_o _ _
     ·exact ih x hx
    ·by_cases c3 : (ig is i).op = 102
     ·by_cases hp : ifP is i e (ig is i).a
      ·rw [unD_if hlt c3 hp] at h
       obtain ⟨p1,p2,p3,p4,p5⟩:=hp
       cases hb : unD is f (i + 1) ((ig is i).a.toNat - 1) with
       | none=>rw [hb] at h;cases h
       | some b =>
        cases hd : unD is f (ig is i).a.toNat (ig is ((ig is i).a.toNat - 1)).a.toNat with
        | none=>rw [hb,hd] at h;cases h
        | some d =>
         rw [hb,hd] at h
         obtain ⟨r,hr,rfl⟩:=Option.map_eq_some_iff.1 h
         have h1:=unD_good hg f _ _ _ (by omega) hb
         have h2:=unD_good hg f _ _ _ (by omega) hd
         have h3:=unD_good hg f _ _ _ hel hr
         intro x hx
         simp only [List.mem_append,List.mem_singleton] at hx
         rcases hx with ((hx | hx) | rfl) | hx
         ·exact h1 x hx
         ·exact h2 x hx
         ·exact good_o _ _
         ·exact h3 x hx
      ·rw [unD_ifno hlt c3 hp] at h;cases h
     ·cases hn : nodeB (ig is i) with
      | true =>
       rw [unD_node hlt c1 c2 c3 hn] at h
       obtain ⟨r,hr,rfl⟩:=Option.map_eq_some_iff.1 h
       have ih:=unD_good hg f _ _ _ hel hr
       intro x hx
       rcases List.mem_cons.1 hx with rfl | hx
       ·exact hg i (by omega)
       ·exact ih x hx
      | false=>rw [unD_no hlt c1 c2 c3 hn] at h;cases h
  ·rw [unD_end (by omega)] at h
   injection h with h
   rw [← h]
   exact fun x hx=>by cases hx
theorem ig_mem {L : List InsD} {r : Nat} (h : r < L.length) : ig L r ∈ L:=by
 unfold ig
 rw [List.getD_eq_getElem?_getD,List.getElem?_eq_getElem h]
 exact List.getElem_mem h
set_option maxRecDepth 100000 in
set_option maxHeartbeats 1500000 in
theorem equal_ins (is js : List InsD) (v u : Value) (w : World) (h : Cod w v is) (h2 : Cod w u js) : Calls Tryd.prog 29 #[v,u] w fun e w'=>e = .returned (.bool (sameB is js)) ∧ Below w.heap.size w w':=by
 have HI:=Lib.hid h
 have HJ:=Lib.hid h2
 obtain ⟨A,C,rfl,ha,_⟩:=h
 obtain ⟨A2,C2,rfl,hb,_⟩:=h2
 unfold maxLen at ha hb
 obtain ⟨R,hR⟩ : ∃ R,R = sameB is js:=⟨_,rfl⟩
 have HR:=Lib.hid hR
 rw [← hR]
 clear hR
 by_cases hl : is.length = js.length
 ·rw [← hl] at HJ hb ⊢
  have HL:=Lib.hid hl
  clear hl
  go_enter Tryd.func29,Tryd.ntmps29
  go_wp2_with fail
  go_loopg [13] is.length (fun k i wr=>∃ t : Nat,k + t = is.length ∧ i = .int .i64 t ∧ Hid (∀ r,r < t → ig is r = ig js r) ∧ Hid (Below w.heap.size w wr))
  case atStart=>exact ⟨0,by omega,rfl,Lib.hid (fun r hr=>absurd hr (Nat.not_lt_zero _)),Lib.hid (Below.refl _ _)⟩
  case round =>
   obtain ⟨t,hk,rfl,HU,HB⟩:=hrel
   have HK:=Lib.hid hk
   have htn : t ≤ is.length:=by omega
   clear hk
   by_cases hlt : t < is.length
   ·obtain ⟨b1,p1,rfl,a1⟩:=(HI.out.below HB.out).at hlt
    obtain ⟨b2,p2,rfl,a2⟩:=(HJ.out.below HB.out).at (by rw [← HL.out];exact hlt)
    obtain ⟨I,hI⟩ : ∃ I,I = ig is t:=⟨_,rfl⟩
    obtain ⟨J,hJ⟩ : ∃ J,J = ig js t:=⟨_,rfl⟩
    rw [← hI] at a1
    rw [← hJ] at a2
    have HE:=Lib.hid (And.intro hI hJ)
    have hq:=neq_ins I J
    obtain ⟨x0,x1,x2,x3,x4,x5,x6,x7⟩:=a1.ins
    obtain ⟨y0,y1,y2,y3,y4,y5,y6,y7⟩:=a2.ins
    clear a1 a2 hI hJ
    cases he : insE I J with
    | true =>
     have HIJ : Hid (ig is t = ig js t):=Lib.hid (by rw [← HE.out.1,← HE.out.2];exact insE_true he)
     rw [he] at hq
     go_wp2_with fail
     go_quiet (fail)
     go_wp2_with fail
     go_roundg (gk - 1)
     case measure=>have:=HK.out;omega
     case rel=>exact ⟨t + 1,by have:=HK.out;omega,by go_num,Lib.hid (fun r hr=>by
       by_cases e : r = t
       ·subst e;exact HIJ.out
       ·exact HU.out r (by omega)),Lib.hid (below_drewN HB.out _)⟩
    | false =>
     have hr : R = false:=by
      rw [HR.out]
      refine sameB_no (fun e=>?_)
      have h9 : I = J:=by rw [HE.out.1,HE.out.2,e]
      rw [h9,insE_self] at he
      cases he
     rw [he] at hq
     go_wp2_with fail
     go_quiet (fail)
     go_wp2_with fail
     go_ret
     exact ⟨by first | rfl | (rw [hr];rfl),below_drewN HB.out _⟩
   ·obtain rfl : t = is.length:=by omega
    have hr : R = true:=by
     rw [HR.out]
     exact sameB_yes (same_ext HL.out HU.out)
    go_wp2_with fail
    go_ret
    exact ⟨by first | rfl | (rw [hr];rfl),HB.out⟩
 ·have hr : R = false:=by
   rw [HR.out]
   exact sameB_no (fun e=>hl (by rw [e]))
  have hne : ((is.length : Int) != (js.length : Int)) = true:=by rw [bne_iff_ne];omega
  go_enter Tryd.func29,Tryd.ntmps29
  go_wp2_with fail
  go_ret
  exact ⟨by first | rfl | (rw [hr];rfl),Below.refl _ _⟩
def DbPost (R : List InsD × Int) (w : World) (e : Ending) (w' : World) : Prop:=∃ r,e = .returned (.tuple #[r,.int .i64 R.2]) ∧ Below w.heap.size w w' ∧ Ro w' (ob w.heap.size) 1 45 8 r R.1.length (ics R.1)
set_option maxRecDepth 100000 in
set_option maxHeartbeats 2000000 in
theorem docback_any (is : List InsD) (v : Value) (b : Bool) (w : World) (h : Cod w v is) (hg : ∀ r,r < is.length → GoodJ (ig is r)) : Calls Tryd.prog 15 #[v,.bool b] w (DbPost (unbD is b) w):=by
 unfold DbPost
 by_cases hl : 600 < is.length
 ·have hD : unbD is b = ([],6):=by unfold unbD;rw [if_pos hl]
  rw [hD]
  obtain ⟨A,C,rfl,-,-⟩:=h
  have hl2 : (600 : Int) < (is.length : Int):=by omega
  clear hD
  go_enter Tryd.func15,Tryd.ntmps15
  go_wp2_with fail
  refine bodyPost_ret (by simp [results,Tryd.results15,go_sem, *];try rfl) rfl ?_
  exact ⟨.slice none 0 0,rfl,Below.refl _ _,Ro.nil _ _ _ _ _⟩
 ·have hl2 : (is.length : Int) ≤ 600:=by omega
  have HU:=Lib.hid (show Calls Tryd.prog 27 #[v,.int .i64 0,.int .i64 (is.length : Int)] w _ from undo_any is (by omega) (is.length + 1) 0 is.length w v (by omega) (Nat.zero_le _) (Nat.le_refl _) h)
  have hD : unbD is b = match unD is (is.length + 1) 0 is.length with
   | none=>([],2)
   | some L=>if chkP L b = 0 ∧ sameB (compD L) is = true then (L,0) else ([],2):=by unfold unbD;rw [if_neg hl]
  unfold UnPost at HU
  have HC:=Lib.hid h
  obtain ⟨A,C,rfl,-,-⟩:=h
  cases hX : unD is (is.length + 1) 0 is.length with
  | none =>
   rw [hX] at hD HU
   dsimp only at hD HU
   rw [hD]
   clear hD hX hl
   go_enter Tryd.func15,Tryd.ntmps15
   go_wp2_with (go_at_call 27;(with_reducible refine HU.out.mono ?_);rintro _ w2 ⟨rfl,hb2⟩)
   refine bodyPost_ret (by simp [results,Tryd.results15,go_sem, *];try rfl) rfl ?_
   exact ⟨.slice none 0 0,rfl,hb2,Ro.nil _ _ _ _ _⟩
  | some L =>
   rw [hX] at hD HU
   dsimp only at hD HU
   have hgL:=unD_good hg _ _ _ _ (Nat.le_refl _) hX
   have HCK:=Lib.hid (fun (W : World) (r : Value) (hr : Cod W r L)=>check10_any L r b W hr (fun k hk=>hgL _ (ig_mem hk)))
   obtain ⟨z,hz⟩ : ∃ z,z = chkP L b:=⟨_,rfl⟩
   by_cases h0 : chkP L b = 0
   ·have HCO:=Lib.hid (fun (W : World) (r : Value) (hr : Cod W r L)=>code14_any L r b W hr h0)
    have HSM:=Lib.hid (fun (W : World) (r1 : Value) (hr : Cod W r1 (compD L)) (hW : Below w.heap.size w W)=>same_ins (compD L) is r1 _ W hr (HC.out.below hW))
    unfold OfPost at HCO
    rw [h0] at HCK
    cases hs : sameB (compD L) is with
    | true =>
     rw [if_pos ⟨h0,hs⟩] at hD
     rw [hs] at HSM
     rw [hD]
     clear hD hX hl h0 hz hs hgL
     go_enter Tryd.func15,Tryd.ntmps15
     go_upto_region 4 with (go_at_call 27;(with_reducible refine HU.out.mono ?_);rintro _ w2 ⟨r,rfl,hb2,hr2⟩)
     have hcL:=hr2.cod rfl
     have HR2:=Lib.hid hr2
     have HCL:=Lib.hid hcL
     have HB2:=Lib.hid hb2
     obtain ⟨Ar,Cr,rfl,-⟩:=hr2.sl.is
     have HCOB:=Lib.hid (fun (W : World) (hW : Below w2.heap.size w2 W)=>HCO.out W _ (HCL.out.below hW))
     clear hr2 hcL
     go_wp2_with (first | (go_at_call 18;(with_reducible refine (HCK.out _ _ HCL.out).mono ?_);rintro _ w3 ⟨rfl,hb3⟩) | (go_at_call 20;(with_reducible refine (HCOB.out _ hb3).mono ?_);rintro _ w4 ⟨r4,rfl,hb4,hr4⟩;have hb34:=hb3.trans (hb4.mono hb3.size);have hc4:=hr4.cod rfl;have hbw4:=HB2.out.trans (hb34.mono HB2.out.size)) | (go_at_call 12;(with_reducible refine (HSM.out _ _ hc4 hbw4).mono ?_);rintro _ w5 ⟨rfl,hb5⟩;have hb35:=hb34.trans (hb5.mono hb34.size)))
     refine bodyPost_ret (by simp [results,Tryd.results15,go_sem, *];try rfl) rfl ?_
     exact ⟨_,rfl,HB2.out.trans (hb35.mono HB2.out.size),ob_kept HR2.out hb35⟩
    | false =>
     rw [if_neg (fun hh=>by rw [hs] at hh;cases hh.2)] at hD
     rw [hs] at HSM
     rw [hD]
     clear hD hX hl h0 hz hs hgL
     go_enter Tryd.func15,Tryd.ntmps15
     go_upto_region 4 with (go_at_call 27;(with_reducible refine HU.out.mono ?_);rintro _ w2 ⟨r,rfl,hb2,hr2⟩)
     have hcL:=hr2.cod rfl
     have HCL:=Lib.hid hcL
     have HB2:=Lib.hid hb2
     obtain ⟨Ar,Cr,rfl,-⟩:=hr2.sl.is
     have HCOB:=Lib.hid (fun (W : World) (hW : Below w2.heap.size w2 W)=>HCO.out W _ (HCL.out.below hW))
     clear hr2 hcL
     go_wp2_with (first | (go_at_call 18;(with_reducible refine (HCK.out _ _ HCL.out).mono ?_);rintro _ w3 ⟨rfl,hb3⟩) | (go_at_call 20;(with_reducible refine (HCOB.out _ hb3).mono ?_);rintro _ w4 ⟨r4,rfl,hb4,hr4⟩;have hb34:=hb3.trans (hb4.mono hb3.size);have hc4:=hr4.cod rfl;have hbw4:=HB2.out.trans (hb34.mono HB2.out.size)) | (go_at_call 12;(with_reducible refine (HSM.out _ _ hc4 hbw4).mono ?_);rintro _ w5 ⟨rfl,hb5⟩;have hb35:=hb34.trans (hb5.mono hb34.size)))
     refine bodyPost_ret (by simp [results,Tryd.results15,go_sem, *];try rfl) rfl ?_
     exact ⟨.slice none 0 0,rfl,HB2.out.trans (hb35.mono HB2.out.size),Ro.nil _ _ _ _ _⟩
   ·rw [if_neg (fun hh=>h0 hh.1)] at hD
    rw [hD]
    rw [← hz] at HCK h0
    have hne : (z != 0) = true:=by rw [bne_iff_ne];exact h0
    clear hD hX hl hz h0 hgL
    go_enter Tryd.func15,Tryd.ntmps15
    go_upto_region 4 with (go_at_call 27;(with_reducible refine HU.out.mono ?_);rintro _ w2 ⟨r,rfl,hb2,hr2⟩)
    have hcL:=hr2.cod rfl
    have HCL:=Lib.hid hcL
    have HB2:=Lib.hid hb2
    obtain ⟨Ar,Cr,rfl,-⟩:=hr2.sl.is
    clear hr2 hcL
    go_wp2_with (go_at_call 18;(with_reducible refine (HCK.out _ _ HCL.out).mono ?_);rintro _ w3 ⟨rfl,hb3⟩)
    refine bodyPost_ret (by simp [results,Tryd.results15,go_sem, *];try rfl) rfl ?_
    exact ⟨.slice none 0 0,rfl,HB2.out.trans (hb3.mono HB2.out.size),Ro.nil _ _ _ _ _⟩
end Go.Proofs.YtnhmplfonkjfoaaDoor



namespace Go.Proofs.YtnhmplfonkjfoaaDoor
open Go.RowKit

def poF (is : List InsD) (ps : Pts) : Nat → Nat → List InsD
 | 0,_=>[]
 | f + 1,a=>(pgN ps a).flatMap (poF is ps f) ++ [ig is a]
def poD (is : List InsD) (ps : Pts) (a : Nat) : List InsD:=poF is ps (a + 1) a
theorem flat_congr {α : Type} {g g' : Nat → List α} : ∀ {p : List Nat},(∀ x ∈ p,g x = g' x) → p.flatMap g = p.flatMap g'
 | [],_=>rfl
 | x :: r,h=>by
  rw [List.flatMap_cons,List.flatMap_cons,h x (List.mem_cons_self ..),flat_congr (fun y hy=>h y (List.mem_cons_of_mem _ hy))]
theorem poF_fuel {is : List InsD} {ps : Pts} (hw : Wf is ps) : ∀ (f f' a : Nat),a < f → a < f' → a < is.length → poF is ps f a = poF is ps f' a
 | 0,_,_,h,_,_=>absurd h (Nat.not_lt_zero _)
 | _ + 1,0,_,_,h,_=>absurd h (Nat.not_lt_zero _)
 | f + 1,f' + 1,a,h1,h2,h3=>by
  show (pgN ps a).flatMap _ ++ _ = (pgN ps a).flatMap _ ++ _
  rw [flat_congr (fun x hx=>poF_fuel hw f f' x (by have:=hw.lt a h3 x hx;omega) (by have:=hw.lt a h3 x hx;omega) (by have:=hw.lt a h3 x hx;omega))]
theorem poD_eq {is : List InsD} {ps : Pts} (hw : Wf is ps) {a : Nat} (ha : a < is.length) : poD is ps a = (pgN ps a).flatMap (poD is ps) ++ [ig is a]:=by
 show (pgN ps a).flatMap (poF is ps a) ++ _ = _
 rw [flat_congr (fun x hx=>poF_fuel hw a (x + 1) x (by have:=hw.lt a ha x hx;omega) (by omega) (by have:=hw.lt a ha x hx;omega))]
 rfl
theorem take_one (is : List InsD) {t : Nat} (h : t < is.length) : is.take (t + 1) = is.take t ++ [ig is t]:=by
 rw [List.take_add_one,ig_cell h];rfl
theorem po_all {is : List InsD} {PS : Pts} (hw : Wf is PS) : ∀ (n t : Nat) (ps : Pts) (hv HV : List Nat),n + t = is.length → ps.length = t → stGo is n t ps hv = some (PS,HV) → hv.flatMap (poD is PS) = is.take t → HV.flatMap (poD is PS) = is
 | 0,t,ps,hv,HV,hn,_,h,hs=>by
  injection h with h
  injection h with h1 h2
  subst h2
  rw [hs,show t = is.length by omega,List.take_length]
 | n + 1,t,ps,hv,HV,hn,hl,h,hs=>by
  cases hc : stOk (ig is t) hv with
  | false=>rw [stGo_no hc] at h;cases h
  | true =>
   rw [stGo_yes hc] at h
   obtain ⟨q,hq⟩:=stGo_ext _ _ _ _ _ _ h
   have e : pgN PS t = stPart (ig is t) hv:=by
    unfold pgN
    rw [hq,List.append_assoc,List.getD_eq_getElem?_getD,List.getElem?_append_right (by omega),hl,Nat.sub_self]
    rfl
   have htl : t < is.length:=by omega
   refine po_all hw n (t + 1) _ _ _ (by omega) (by rw [List.length_append,hl];rfl) h ?_
   unfold stStep
   rw [List.flatMap_append,take_one is htl,← hs]
   show _ ++ (poD is PS t ++ []) = _
   rw [List.append_nil,poD_eq hw htl,e]
   unfold stPart
   rw [← List.append_assoc,← List.flatMap_append,List.take_append_drop]
def seg (X : List InsD) (fr : Nat) (L : List InsD) : Prop:=∀ k,k < L.length → ig X (fr + k) = ig L k
theorem seg_left {X A B : List InsD} {fr : Nat} (h : seg X fr (A ++ B)) : seg X fr A:=fun k hk=>by
 rw [h k (by rw [List.length_append];omega)]
 unfold ig
 rw [List.getD_eq_getElem?_getD,List.getD_eq_getElem?_getD,List.getElem?_append_left hk]
theorem seg_right {X A B : List InsD} {fr : Nat} (h : seg X fr (A ++ B)) : seg X (fr + A.length) B:=fun k hk=>by
 have:=h (A.length + k) (by rw [List.length_append];omega)
 rw [← Nat.add_assoc] at this
 rw [this]
 unfold ig
 rw [List.getD_eq_getElem?_getD,List.getD_eq_getElem?_getD,List.getElem?_append_right (by omega),Nat.add_sub_cancel_left]
theorem seg_one {X : List InsD} {fr : Nat} {i : InsD} (h : seg X fr [i]) : ig X fr = i:=h 0 (by show 0 < 1;decide)
def nbOk (op : Int) : Bool:=(op == 21) || (op == 23) || ((arD op).2 == -2) || cnt op || (((tk op 0).1 == (arD op).1) && ((arD op).1 == (arD op).2) && ((arD op).2 != -1) && (tk op 0).2.2.2.2)
theorem nb_all : ∀ n : Nat,n < 38 → nbOk (n : Int) = true:=by decide
theorem op_range {op a : Int} (h : kidsB op a = true) : 1 ≤ op ∧ op ≤ 37:=by
 have h:=(of_decide_eq_true h).1
 unfold arD at h
 repeat' split at h
 all_goals (first | exact absurd rfl h | omega)
theorem node_back {i : InsD} (hk : kidsB i.op i.a = true) (h1 : i.op ≠ 21) (h2 : i.op ≠ 23) : nodeB (lastI i) = true ∧ nodeD (lastI i) = i:=by
 obtain ⟨op,a,tx,ng,hi,lo,sc,dy⟩:=i
 dsimp only at hk h1 h2
 have hr:=op_range hk
 have hk:=of_decide_eq_true hk
 have hb1 : (decide (101 ≤ op)) = false:=decide_eq_false (by omega)
 have hb2 : (op == 21) = false:=by rw [beq_eq_false_iff_ne];exact h1
 have hb3 : (op == 23) = false:=by rw [beq_eq_false_iff_ne];exact h2
 by_cases hc : op = 25 ∨ op = 26 ∨ op = 27 ∨ op = 36
 ·have hd : cnt op = true:=decide_eq_true hc
  have e : tk op a = (a,1,0,0,true):=by
   have ea : a < 0 ∨ (op = 36 ∧ a < 1) ∨ (op = 25 ∧ 8 < a) → False:=by
    rcases hc with rfl | rfl | rfl | rfl
    ·rw [show arD 25 = (0,8) by decide] at hk;dsimp only at hk;omega
    ·rw [show arD 26 = (0,-1) by decide] at hk;dsimp only at hk;omega
    ·rw [show arD 27 = (0,-1) by decide] at hk;dsimp only at hk;omega
    ·rw [show arD 36 = (1,-1) by decide] at hk;dsimp only at hk;omega
   unfold tk
   rw [if_neg ea,if_neg (fun h=>h.1 hc),if_pos hc]
  unfold nodeB nodeD lastI
  dsimp only
  rw [hd,if_pos rfl]
  dsimp only
  rw [e,hb1,hb2,hb3]
  exact ⟨rfl,rfl⟩
 ·have hd : cnt op = false:=decide_eq_false hc
  have hn:=nb_all op.toNat (by omega)
  rw [show ((op.toNat : Nat) : Int) = op by omega] at hn
  unfold nbOk at hn
  have hb4 : ((arD op).2 == -2) = false:=by rw [beq_eq_false_iff_ne];exact hk.1
  rw [hb2,hb3,hb4,hd] at hn
  simp only [Bool.false_or,Bool.and_eq_true,beq_iff_eq,bne_iff_ne] at hn
  unfold nodeB nodeD lastI
  dsimp only
  rw [hd,if_neg (by decide)]
  dsimp only
  rw [hn.2,hb1,hb2,hb3]
  refine ⟨rfl, ?_⟩
  rw [show (tk op 0).1 = a by omega]
end Go.Proofs.YtnhmplfonkjfoaaDoor



namespace Go.Proofs.YtnhmplfonkjfoaaDoor
open Go.RowKit

def uu (X : List InsD) (i e : Nat) : Option (List InsD):=unD X (X.length + 1) i e
section
variable {X : List InsD} {i e : Nat}
theorem uu_end (h : e ≤ i) : uu X i e = some []:=unD_end h
theorem uu_enter (h : i < e) (he : e ≤ X.length) (ho : (ig X i).op = 103) : uu X i e = uu X (i + 1) e:=by
 unfold uu
 rw [unD_enter h ho]
 exact unD_fuel _ _ _ _ (by omega) (by omega)
theorem uu_leave (h : i < e) (he : e ≤ X.length) (ho : (ig X i).op = 104) : uu X i e = (uu X (i + 1) e).map fun r=>insO 23 2 :: r:=by
 unfold uu
 rw [unD_leave h ho,unD_fuel X.length (X.length + 1) (i + 1) e (by omega) (by omega)]
theorem uu_node (h : i < e) (he : e ≤ X.length) (h1 : (ig X i).op ≠ 103) (h2 : (ig X i).op ≠ 104) (h3 : (ig X i).op ≠ 102) (hn : nodeB (ig X i) = true) : uu X i e = (uu X (i + 1) e).map fun r=>nodeD (ig X i) :: r:=by
 unfold uu
 rw [unD_node h h1 h2 h3 hn,unD_fuel X.length (X.length + 1) (i + 1) e (by omega) (by omega)]
theorem uu_if {a b : Nat} (h : i < e) (he : e ≤ X.length) (ho : ig X i = insO 102 (a : Int)) (hy : ig X (a - 1) = insO 101 (b : Int)) (h1 : i + 1 < a) (h2 : a ≤ b) (h3 : b ≤ e) {U V : List InsD} (hU : uu X (i + 1) (a - 1) = some U) (hV : uu X a b = some V) :
  uu X i e = (uu X b e).map fun r=>U ++ V ++ [insO 21 3] ++ r:=by
 have ha : (ig X i).a = (a : Int):=by rw [ho];rfl
 have hb : (ig X (a - 1)).a = (b : Int):=by rw [hy];rfl
 have hob : (ig X (a - 1)).op = 101:=by rw [hy];rfl
 have hp : ifP X i e (ig X i).a:=by
  rw [ha]
  unfold ifP
  rw [show ((a : Int).toNat - 1) = a - 1 by omega,hob,hb]
  exact ⟨by omega,by omega,rfl,by omega,by omega⟩
 unfold uu at hU hV ⊢
 rw [unD_if h (by rw [ho];rfl) hp,ha,show (a : Int).toNat = a by omega,hb,show (b : Int).toNat = b by omega,unD_fuel X.length (X.length + 1) (i + 1) (a - 1) (by omega) (by omega),hU,unD_fuel X.length (X.length + 1) a b (by omega) (by omega),hV,
  unD_fuel X.length (X.length + 1) b e (by omega) (by omega)]
end
def Un (X : List InsD) (fr e : Nat) (A P : List InsD) : Prop:=seg X fr A → fr + A.length ≤ e → e ≤ X.length → uu X fr e = (uu X (fr + A.length) e).map (P ++ ·)
section
variable {X : List InsD} {fr e : Nat}
theorem un_nil : Un X fr e [] []:=fun _ _ _=>by
 show uu X fr e = (uu X fr e).map _
 cases uu X fr e <;> rfl
theorem un_app {A B P Q : List InsD} (h1 : Un X fr e A P) (h2 : Un X (fr + A.length) e B Q) : Un X fr e (A ++ B) (P ++ Q):=fun hs hl he=>by
 rw [List.length_append] at hl ⊢
 rw [h1 (seg_left hs) (by omega) he,h2 (seg_right hs) (by omega) he,← Nat.add_assoc]
 cases uu X (fr + A.length + B.length) e with
 | none=>rfl
 | some r=>show some (P ++ (Q ++ r)) = some (P ++ Q ++ r);rw [List.append_assoc]
theorem un_103 : Un X fr e [insO 103 0] []:=fun hs hl he=>by
 have hl : fr + 1 ≤ e:=hl
 rw [uu_enter (by omega) he (by rw [seg_one hs];rfl)]
 show uu X (fr + 1) e = (uu X (fr + 1) e).map _
 cases uu X (fr + 1) e <;> rfl
theorem un_104 : Un X fr e [insO 104 0] [insO 23 2]:=fun hs hl he=>by
 have hl : fr + 1 ≤ e:=hl
 rw [uu_leave (by omega) he (by rw [seg_one hs];rfl)]
 rfl
theorem un_node {i : InsD} (hk : kidsB i.op i.a = true) (h1 : i.op ≠ 21) (h2 : i.op ≠ 23) : Un X fr e [lastI i] [i]:=fun hs hl he=>by
 have hl : fr + 1 ≤ e:=hl
 have hg:=seg_one hs
 have hr:=op_range hk
 have ho : (ig X fr).op = i.op:=by rw [hg,lastI_op]
 obtain ⟨n1,n2⟩:=node_back hk h1 h2
 rw [uu_node (by omega) he (by omega) (by omega) (by omega) (by rw [hg];exact n1),hg,n2]
 rfl
theorem un_row {op : Int} {g : Nat → Nat → List InsD} {po : Nat → List InsD} {p : List Nat} (hx : ∀ x ∈ p,∀ f,Un X f e (g x f) (po x)) : ∀ k,k ≤ p.length → Un X fr e (rowD op g p fr k) ((p.take k).flatMap po)
 | 0,_=>un_nil
 | k + 1,hk=>by
  have hlt : k < p.length:=by omega
  have e3 : p.take (k + 1) = p.take k ++ [ng p k]:=by
   rw [List.take_add_one,List.getElem?_eq_getElem hlt]
   congr 1
   unfold ng
   rw [List.getD_eq_getElem?_getD,List.getElem?_eq_getElem hlt];rfl
  rw [e3,List.flatMap_append]
  show Un X fr e (rowD op g p fr k ++ g (ng p k) (fr + (rowD op g p fr k).length) ++ (if op = 23 ∧ k = 0 then [insO 103 0] else [])) (_ ++ (po (ng p k) ++ []))
  rw [← List.append_assoc]
  refine un_app (un_app (un_row hx k (by omega)) (hx _ (ng_mem hlt) _)) ?_
  split
  ·exact un_103
  ·exact un_nil
end
theorem un_choice {X : List InsD} {fr : Nat} {A B C P Q R : List InsD} {e : Nat} (hA : ∀ e,Un X fr e A P) (hB : ∀ e,Un X (fr + A.length + 1) e B Q) (hC : ∀ e,Un X (fr + A.length + B.length + 2) e C R) :
  Un X fr e (A ++ [insO 102 ((fr : Int) + A.length + B.length + 2)] ++ B ++ [insO 101 ((fr : Int) + A.length + B.length + C.length + 2)] ++ C) (P ++ (Q ++ (R ++ [insO 21 3]))):=fun hs hl he=>by
 have sC:=seg_right hs
 have s1:=seg_left hs
 have sY:=seg_one (seg_right s1)
 have s2:=seg_left s1
 have sB:=seg_right s2
 have s3:=seg_left s2
 have sX:=seg_one (seg_right s3)
 have sA:=seg_left s3
 simp only [List.length_append,List.length_cons,List.length_nil,Nat.zero_add] at sC sY sB hl ⊢
 have e1 : (fr : Int) + A.length + B.length + 2 = ((fr + A.length + B.length + 2 : Nat) : Int):=by push_cast;rfl
 have e2 : (fr : Int) + A.length + B.length + C.length + 2 = ((fr + A.length + B.length + C.length + 2 : Nat) : Int):=by push_cast;rfl
 rw [e1] at sX
 rw [e2] at sY
 have sB : seg X (fr + A.length + 1) B:=sB
 have sC : seg X (fr + A.length + B.length + 2) C:=by rw [show fr + A.length + B.length + 2 = fr + (A.length + 1 + B.length + 1) by omega];exact sC
 have sY : ig X (fr + A.length + B.length + 2 - 1) = insO 101 ((fr + A.length + B.length + C.length + 2 : Nat) : Int):=by rw [show fr + A.length + B.length + 2 - 1 = fr + (A.length + 1 + B.length) by omega];exact sY
 rw [hA e sA (by omega) he]
 have hU : uu X (fr + A.length + 1) (fr + A.length + B.length + 2 - 1) = some (Q ++ []):=by
  rw [hB _ sB (by omega) (by omega),uu_end (by omega)];rfl
 have hV : uu X (fr + A.length + B.length + 2) (fr + A.length + B.length + C.length + 2) = some (R ++ []):=by
  rw [hC _ sC (by omega) (by omega),uu_end (by omega)];rfl
 rw [uu_if (by omega) he sX sY (by omega) (by omega) (by omega) hU hV,List.append_nil,List.append_nil,show fr + (A.length + 1 + B.length + 1 + C.length) = fr + A.length + B.length + C.length + 2 by omega]
 cases uu X (fr + A.length + B.length + C.length + 2) e with
 | none=>rfl
 | some r =>
  show some (P ++ (Q ++ R ++ [insO 21 3] ++ r)) = some (P ++ (Q ++ (R ++ [insO 21 3])) ++ r)
  simp only [List.append_assoc]
theorem un_body {X : List InsD} {fr e : Nat} {i : InsD} {g : Nat → Nat → List InsD} {po : Nat → List InsD} {p : List Nat} (hk : kidsB i.op i.a = true) (h21 : i.op = 21 → i = insO 21 3 ∧ p.length = 3) (h23 : i.op = 23 → i = insO 23 2)
  (hx : ∀ x ∈ p,∀ f e,Un X f e (g x f) (po x)) : Un X fr e (bodyD i g p fr) (p.flatMap po ++ [i]):=by
 unfold bodyD
 by_cases c : i.op = 21
 ·obtain ⟨hi,hl⟩:=h21 c
  rw [if_pos c,hi]
  have h0:=hx _ (ng_mem (show 0 < p.length by omega)) fr
  have ep : p.flatMap po ++ [insO 21 3] = po (ng p 0) ++ (po (ng p 1) ++ (po (ng p 2) ++ [insO 21 3])):=by
   match p,hl with
   | [x,y,z],_ =>
    show po x ++ (po y ++ (po z ++ [])) ++ [insO 21 3] = po x ++ (po y ++ (po z ++ [insO 21 3]))
    simp only [List.append_assoc,List.nil_append]
  rw [ep]
  generalize g (ng p 0) fr = A at h0 ⊢
  have h1:=hx _ (ng_mem (show 1 < p.length by omega)) (fr + A.length + 1)
  generalize g (ng p 1) (fr + A.length + 1) = B at h1 ⊢
  have h2:=hx _ (ng_mem (show 2 < p.length by omega)) (fr + A.length + B.length + 2)
  generalize g (ng p 2) (fr + A.length + B.length + 2) = C at h2 ⊢
  exact un_choice h0 h1 h2
 ·rw [if_neg c]
  have hr:=un_row (X:=X) (fr:=fr) (e:=e) (op:=i.op) (fun x hxx f=>hx x hxx f e) p.length (Nat.le_refl _)
  rw [List.take_length] at hr
  refine un_app hr ?_
  by_cases d : i.op = 23
  ·rw [if_pos d,h23 d]
   exact un_104
  ·rw [if_neg d]
   exact un_node hk c d
structure Nod (is : List InsD) (PS : Pts) : Prop where
 wf : Wf is PS
 kid : ∀ a,a < is.length → kidsB (ig is a).op (ig is a).a = true ∧ (pgN PS a).length = (ig is a).a.toNat
 ok : ∀ a,a < is.length → ndOk is (pgN PS a) (ig is a)
theorem fld_zero {i : InsD} (h : fldI i = true) (ho : i.op = 21 ∨ i.op = 23) : i = insO i.op i.a:=by
 obtain ⟨op,a,tx,ng,hi,lo,sc,dy⟩:=i
 dsimp only at ho
 unfold fldI fldB nilP txI at h
 dsimp only at h
 simp only [Bool.and_eq_true,Bool.or_eq_true,decide_eq_true_eq,beq_iff_eq,Bool.not_eq_true'] at h
 obtain ⟨_,⟨h1,h2⟩,h3⟩:=h
 have h1 : tx.data.toList = []:=h1.resolve_left (by omega)
 obtain ⟨⟨⟨h4,h5⟩,h6⟩,h7⟩:=h2.resolve_left (by omega)
 have h3:=h3.resolve_left (by omega)
 have ht : tx = ⟨#[]⟩:=by
  obtain ⟨d⟩:=tx
  have : d = #[]:=Array.toList_inj.1 h1
  rw [this]
 subst h4 h5 h6 h7 h3 ht
 rfl
theorem un_of {X : List InsD} {is : List InsD} {PS : Pts} (hn : Nod is PS) : ∀ (f a fr e : Nat),a < f → a < is.length → Un X fr e (ofF is PS f a fr) (poF is PS f a)
 | 0,_,_,_,h,_=>absurd h (Nat.not_lt_zero _)
 | f + 1,a,fr,e,h1,h2=>by
  have hz:=(hn.ok a h2).1
  have hk:=(hn.kid a h2).1
  have hif:=kids_if hk
  refine un_body hk (fun c=>?_) (fun c=>?_) (fun x hx k e'=>?_)
  ·have:=fld_zero hz (Or.inl c)
   rw [c,hif.1 c] at this
   exact ⟨this,hn.wf.three a h2 c⟩
  ·have:=fld_zero hz (Or.inr c)
   rw [c,hif.2 c] at this
   exact this
  ·have:=hn.wf.lt a h2 x hx
   exact un_of hn f x k e' (by omega) (by omega)
theorem rGo_all {is : List InsD} {PS : Pts} : ∀ (n t : Nat) (ds : List Int) (d D : Int),rGo is PS n t ds d = some D → ∀ j,t ≤ j → j < t + n → ndOk is (pgN PS j) (ig is j)
 | 0,t,ds,d,D,_,j,h1,h2=>by omega
 | n + 1,t,ds,d,D,h,j,h1,h2=>by
  rcases Classical.em (ndOk is (pgN PS t) (ig is t)) with hh | hh
  ·rw [rGo_yes hh] at h
   by_cases e : j = t
   ·rw [e];exact hh
   ·exact rGo_all n (t + 1) _ _ D h j (by omega) (by omega)
  ·rw [rGo_no hh] at h;cases h
theorem chk_nod {is : List InsD} {b : Bool} (h : chkP is b = 0) : is.length ≤ 300 ∧ 0 < is.length ∧ ∃ PS,Nod is PS ∧ stGo is is.length 0 [] [] = some (PS,[is.length - 1]) ∧ compD is = ofD is PS (is.length - 1) 0 ∧ (compD is).length ≤ 2 * is.length ∧
  (b = true → sortR (ig is (is.length - 1)).op = 4 ∨ sortR (ig is (is.length - 1)).op = 5) ∧ (b = false → sortR (ig is (is.length - 1)).op = 1):=by
 have h3:=(chk_zero h).1
 rw [← chk_same] at h
 unfold chkR at h
 rw [if_neg (by omega)] at h
 cases hs : stGo is is.length 0 [] [] with
 | none=>rw [hs] at h;cases h
 | some x =>
  obtain ⟨PS,HV⟩:=x
  rw [hs] at h
  dsimp only at h
  by_cases h1 : HV.length = 1
  ·rw [if_neg (fun hh=>hh h1)] at h
   cases hr : rGo is PS is.length 0 (List.replicate is.length 0) 0 with
   | none=>rw [hr] at h;cases h
   | some D =>
    rw [hr] at h
    dsimp only at h
    have hg:=(go_same is.length 0 [] [] (List.replicate is.length 0) 0 rfl rfl (is:=is) ⟨fun x hx=>(by cases hx),fun x hx=>(by cases hx),fun h=>absurd h (by omega),List.length_replicate⟩).2 PS HV hs
    obtain ⟨DS,_,al⟩:=hg.2 D hr
    have hpos : 0 < is.length:=by
     rcases Nat.eq_zero_or_pos is.length with h | h
     ·rw [h] at hs
      injection hs with hs
      injection hs with _ hs
      rw [← hs] at h1;cases h1
     ·exact h
    have hlast:=(al.last hpos).2
    rw [h1] at hlast
    have hHV : HV = [is.length - 1]:=by
     match HV,h1,hlast with
     | [x],_,hl=>rw [show x = is.length - 1 from hl]
    have hw:=wf_of hs
    obtain ⟨hc,hm⟩:=comp_same hw is.length 0 [] [] HV rfl (by omega) rfl hs (fun x hx=>by cases hx) (Nat.le_refl _)
    have hPL:=stGo_len _ _ _ _ _ _ hs
    have hc : compGo is is.length 0 [] = HV.map (fun x=>ofD is PS x 0):=hc
    have hcd : compD is = ofD is PS (is.length - 1) 0:=by
     unfold compD
     rw [hc,pg_map hw (by omega),show ng HV 0 = is.length - 1 from hlast]
    subst hHV
    have hkd:=stGo_kids _ _ _ _ _ _ hs rfl (fun j hj=>absurd hj (Nat.not_lt_zero _))
    refine ⟨h3,hpos,PS,⟨hw,fun a ha=>hkd a (by rw [hPL];omega),fun a ha=>rGo_all _ _ _ _ _ hr a (Nat.zero_le _) (by omega)⟩,rfl,hcd, ?_, ?_, ?_⟩
    ·rw [hcd]
     have hm : (ofD is PS (is.length - 1) 0).length + 0 ≤ 2 * is.length:=hm
     omega
    ·rintro rfl
     unfold endR at h
     rw [Classical.or_iff_not_imp_left]
     intro h4
     rcases Classical.em (sortR (ig is (is.length - 1)).op = 5) with h5 | h5
     ·exact h5
     ·rw [if_pos (Or.inl ⟨rfl,h4,h5⟩)] at h;cases h
    ·rintro rfl
     unfold endR at h
     rcases Classical.em (sortR (ig is (is.length - 1)).op = 1) with h5 | h5
     ·exact h5
     ·rw [if_pos (Or.inr ⟨rfl,h5⟩)] at h;cases h
  ·rw [if_pos h1] at h;cases h
theorem back_comp {is : List InsD} {b : Bool} (h : chkP is b = 0) : unbD (compD is) b = (is,0):=by
 obtain ⟨h3,hpos,PS,hn,hs,hcd,hl,_,_⟩:=chk_nod h
 have hall:=po_all hn.wf is.length 0 [] [] _ rfl rfl hs rfl
 have hall : poD is PS (is.length - 1) ++ [] = is:=hall
 rw [List.append_nil] at hall
 have hu : unD (compD is) ((compD is).length + 1) 0 (compD is).length = some is:=by
  have hh:=un_of (X:=compD is) hn (is.length - 1 + 1) (is.length - 1) 0 (compD is).length (Nat.lt_succ_self _) (by omega)
  have hh:=hh (fun k hk=>by rw [Nat.zero_add,hcd];rfl) (by rw [Nat.zero_add,hcd];exact Nat.le_refl _) (Nat.le_refl _)
  have he : uu (compD is) (0 + (ofF is PS (is.length - 1 + 1) (is.length - 1) 0).length) (compD is).length = some []:=uu_end (by rw [Nat.zero_add,hcd];exact Nat.le_refl _)
  rw [he] at hh
  have hh : unD (compD is) ((compD is).length + 1) 0 (compD is).length = some (poD is PS (is.length - 1) ++ []):=hh
  rw [hh,List.append_nil,hall]
 unfold unbD
 rw [if_neg (by omega),hu]
 exact if_pos ⟨h,sameB_yes rfl⟩
end Go.Proofs.YtnhmplfonkjfoaaDoor



namespace Go.Proofs.YtnhmplfonkjfoaaDoor
open Go.RowKit

def vr (X : List InsD) (f : Int) (i : Nat) (S : St) (m : Int) : Int × Int:=vGo X.length f ((pairs X).drop i) i S m
theorem pairs_at {X : List InsD} {i : Nat} (h : i < X.length) : (pairs X).drop i = ((ig X i).op,(ig X i).a) :: (pairs X).drop (i + 1):=by
 unfold pairs
 rw [← List.map_drop,← List.map_drop,List.drop_eq_getElem_cons h,List.map_cons]
 congr 1
 unfold ig
 rw [List.getD_eq_getElem?_getD,List.getElem?_eq_getElem h]
 rfl
theorem note_new {S : St} {k : Nat} {x : Way} (hk : k < S.length) (h : S.getD k none = none ∨ S.getD k none = some x) : ∃ S',note S k x = some S' ∧ S'.length = S.length ∧ S'.getD k none = some x ∧ ∀ j,j ≠ k → S'.getD j none = S.getD j none:=by
 unfold note
 rcases h with h | h
 ·rw [h]
  refine ⟨_,rfl,by rw [List.length_set], ?_,fun j hj=>?_⟩
  ·rw [getD_setO _ _ _ _ hk,if_pos rfl]
  ·rw [getD_setO _ _ _ _ hk,if_neg hj]
 ·rw [h]
  exact ⟨S,if_pos rfl,rfl,h,fun _ _=>rfl⟩
def Vn (X : List InsD) (f : Int) (fr : Nat) (A : List InsD) (x y : Way) (c : Int) : Prop :=
 seg X fr A → fr + A.length ≤ X.length → ∀ (S : St) (m : Int),S.length = X.length + 1 → S.getD fr none = some x → (∀ k,fr < k → k < fr + A.length → S.getD k none = none) → (A ≠ [] → S.getD (fr + A.length) none = none ∨ S.getD (fr + A.length) none = some y) →
  ∃ S' m',vr X f fr S m = vr X f (fr + A.length) S' m' ∧ S'.length = X.length + 1 ∧ S'.getD (fr + A.length) none = some y ∧ (∀ k,fr + A.length < k → S'.getD k none = S.getD k none) ∧ m ≤ m' ∧ m' ≤ max m c
section
variable {X : List InsD} {f : Int} {fr : Nat}
theorem vn_mono {A : List InsD} {x y : Way} {c c' : Int} (h : Vn X f fr A x y c) (hc : c ≤ c') : Vn X f fr A x y c':=fun h1 h2 S m h3 h4 h5 h6=>by
 obtain ⟨S',m',q1,q2,q3,q4,q5,q6⟩:=h h1 h2 S m h3 h4 h5 h6
 exact ⟨S',m',q1,q2,q3,q4,q5,by omega⟩
theorem vn_nil {x : Way} {c : Int} : Vn X f fr [] x x c:=fun _ _ S m h3 h4 _ _=>⟨S,m,rfl,h3,h4,fun _ _=>rfl,Int.le_refl _,by omega⟩
theorem vn_app {A B : List InsD} {x y z : Way} {c : Int} (hB : B ≠ []) (h1 : Vn X f fr A x y c) (h2 : Vn X f (fr + A.length) B y z c) : Vn X f fr (A ++ B) x z c:=fun hs hl S m h3 h4 h5 h6=>by
 have hbl : 0 < B.length:=List.length_pos_iff.2 hB
 rw [List.length_append] at hl h5 h6 ⊢
 obtain ⟨S1,m1,q1,q2,q3,q4,q5,q6⟩:=h1 (seg_left hs) (by omega) S m h3 h4 (fun k a b=>h5 k a (by omega)) (fun hA=>Or.inl (h5 _ (by have:=List.length_pos_iff.2 hA;omega) (by omega)))
 obtain ⟨S2,m2,p1,p2,p3,p4,p5,p6⟩:=h2 (seg_right hs) (by omega) S1 m1 q2 q3 (fun k a b=>by rw [q4 k a];exact h5 k (by omega) (by omega)) (fun _=>by
  rw [q4 _ (by omega),Nat.add_assoc]
  exact h6 (by intro e;rw [List.append_eq_nil_iff] at e;exact hB e.2))
 rw [Nat.add_assoc] at p1 p3 p4
 exact ⟨S2,m2,q1.trans p1,p2,p3,fun k hk=>by rw [p4 k hk,q4 k (by omega)],by omega,by omega⟩
theorem vn_one {i : InsD} {x y : Way} (ht : (tk i.op i.a).2.2.2.2 = true) (h1 : (tk i.op i.a).1 ≤ x.1) (h2 : (tk i.op i.a).2.2.2.1 ≤ x.2) (hj : isJ i.op = false) (hy : after i.op i.a x = y) : Vn X f fr [i] x y x.1:=fun hs hl S m h3 h4 h5 h6=>by
 have hl : fr + 1 ≤ X.length:=hl
 have hg:=seg_one hs
 have h6 : S.getD (fr + 1) none = none ∨ S.getD (fr + 1) none = some y:=h6 (by simp)
 obtain ⟨S',n1,n2,n3,n4⟩:=note_new (by omega) h6
 have ho : i.op ≠ 101:=by
  intro e;rw [e] at hj;revert hj;decide
 refine ⟨S',max m x.1, ?_,by omega,n3,fun k hk=>n4 k (by show k ≠ fr + 1;have : fr + 1 < k:=hk;omega),by omega,by omega⟩
 show vr X f fr S m = vr X f (fr + 1) S' (max m x.1)
 unfold vr
 rw [pairs_at (by omega),hg,vGo_plain h4 ⟨ht,h1,h2⟩ hj,vTail_go ho (by rw [hy];exact n1)]
end
theorem vn_choice {X : List InsD} {f : Int} {fr : Nat} {A B C : List InsD} {h en c : Int} (hBn : B ≠ []) (hCn : C ≠ []) (hh : 0 ≤ h) (he : 0 ≤ en) (hc : h + 1 ≤ c) (hA : Vn X f fr A (h,en) (h + 1,en) c) (hB : Vn X f (fr + A.length + 1) B (h,en) (h + 1,en) c)
  (hC : Vn X f (fr + A.length + B.length + 2) C (h,en) (h + 1,en) c) :
  Vn X f fr (A ++ [insO 102 ((fr : Int) + A.length + B.length + 2)] ++ B ++ [insO 101 ((fr : Int) + A.length + B.length + C.length + 2)] ++ C) (h,en) (h + 1,en) c:=fun hs hl S m h3 h4 h5 h6=>by
 have hbl : 0 < B.length:=List.length_pos_iff.2 hBn
 have hcl : 0 < C.length:=List.length_pos_iff.2 hCn
 have sC:=seg_right hs
 have s1:=seg_left hs
 have sY:=seg_one (seg_right s1)
 have s2:=seg_left s1
 have sB:=seg_right s2
 have s3:=seg_left s2
 have sX:=seg_one (seg_right s3)
 have sA:=seg_left s3
 have h6:=h6 (by simp)
 simp only [List.length_append,List.length_cons,List.length_nil,Nat.zero_add] at sC sY sB hl h5 h6 ⊢
 have e1 : (fr : Int) + A.length + B.length + 2 = ((fr + A.length + B.length + 2 : Nat) : Int):=by push_cast;rfl
 have e2 : (fr : Int) + A.length + B.length + C.length + 2 = ((fr + A.length + B.length + C.length + 2 : Nat) : Int):=by push_cast;rfl
 rw [e1] at sX
 rw [e2] at sY
 obtain ⟨a,ha⟩ : ∃ a,a = A.length:=⟨_,rfl⟩
 obtain ⟨b,hb⟩ : ∃ b,b = B.length:=⟨_,rfl⟩
 obtain ⟨d,hd⟩ : ∃ d,d = C.length:=⟨_,rfl⟩
 simp only [← ha,← hb,← hd] at sX sY sB sC hl h5 h6 hbl hcl hB hC ⊢
 have sB : seg X (fr + a + 1) B:=sB
 have sC : seg X (fr + a + b + 2) C:=by rw [show fr + a + b + 2 = fr + (a + 1 + b + 1) by omega];exact sC
 have sY : ig X (fr + a + 1 + b) = insO 101 ((fr + a + b + d + 2 : Nat) : Int):=by rw [show fr + a + 1 + b = fr + (a + 1 + b) by omega];exact sY
 have eE : fr + (a + 1 + b + 1 + d) = fr + a + b + 2 + d:=by omega
 rw [eE] at hl h5 h6 ⊢
 obtain ⟨S1,m1,q1,q2,q3,q4,q5,q6⟩:=hA sA (by omega) S m h3 h4 (fun k u v=>h5 k u (by omega)) (fun hA=>Or.inl (h5 _ (by have:=List.length_pos_iff.2 hA;omega) (by omega)))
 rw [← ha] at q1 q3 q4
 obtain ⟨S2,n1,n2,n3,n4⟩:=note_new (S:=S1) (k:=fr + a + b + 2) (x:=(h,en)) (by omega) (Or.inl (by rw [q4 _ (by omega)];exact h5 _ (by omega) (by omega)))
 obtain ⟨S3,o1,o2,o3,o4⟩:=note_new (S:=S2) (k:=fr + a + 1) (x:=(h,en)) (by omega) (Or.inl (by rw [n4 _ (by omega),q4 _ (by omega)];exact h5 _ (by omega) (by omega)))
 have t102 : tk 102 ((fr + a + b + 2 : Nat) : Int) = (1,0,0,0,true):=by
  unfold tk
  rw [if_neg (by omega),if_neg (by omega),if_neg (by omega),if_neg (by omega),if_neg (by omega),if_neg (by omega),if_neg (by omega),if_neg (by omega),if_neg (by omega),if_neg (by omega),if_pos rfl]
 have a102 : after 102 ((fr + a + b + 2 : Nat) : Int) (h + 1,en) = (h,en):=by
  unfold after
  rw [t102]
  show (h + 1 - 1 + 0,en + 0) = (h,en)
  rw [show h + 1 - 1 + 0 = h by omega,Int.add_zero]
 have r1 : vr X f (fr + a) S1 m1 = vr X f (fr + a + 1) S3 (max m1 (h + 1)):=by
  unfold vr
  rw [pairs_at (by omega),sX]
  show vGo X.length f ((102,((fr + a + b + 2 : Nat) : Int)) :: _) _ _ _ = _
  rw [vGo_jump q3 (by rw [t102];exact ⟨rfl,by show (1 : Int) ≤ h + 1;omega,he⟩) (by decide) ⟨by omega,by omega⟩ (S1:=S2) (by rw [a102,show ((fr + a + b + 2 : Nat) : Int).toNat = fr + a + b + 2 by omega];exact n1),
   vTail_go (by decide) (S2:=S3) (by rw [a102];exact o1)]
 obtain ⟨S4,m4,u1,u2,u3,u4,u5,u6⟩:=hB sB (by omega) S3 (max m1 (h + 1)) (by omega) o3 (fun k u v=>by rw [← hb] at v;rw [o4 k (by omega),n4 k (by omega),q4 k (by omega)];exact h5 k (by omega) (by omega)) (fun _=>Or.inl (by
  rw [← hb,o4 _ (by omega),n4 _ (by omega),q4 _ (by omega)];exact h5 _ (by omega) (by omega)))
 rw [← hb] at u1 u3 u4
 have g6 : S4.getD (fr + a + b + 2 + d) none = none ∨ S4.getD (fr + a + b + 2 + d) none = some (h + 1,en):=by
  rw [u4 _ (by omega),o4 _ (by omega),n4 _ (by omega),q4 _ (by omega)];exact h6
 obtain ⟨S5,w1,w2,w3,w4⟩:=note_new (S:=S4) (k:=fr + a + b + 2 + d) (x:=(h + 1,en)) (by omega) g6
 have t101 : tk 101 ((fr + a + b + d + 2 : Nat) : Int) = (0,0,0,0,true):=by
  unfold tk
  rw [if_neg (by omega),if_neg (by omega),if_neg (by omega),if_neg (by omega),if_neg (by omega),if_neg (by omega),if_neg (by omega),if_neg (by omega),if_neg (by omega),if_pos rfl]
 have a101 : after 101 ((fr + a + b + d + 2 : Nat) : Int) (h + 1,en) = (h + 1,en):=by
  unfold after
  rw [t101]
  show (h + 1 - 0 + 0,en + 0) = (h + 1,en)
  rw [show h + 1 - 0 + 0 = h + 1 by omega,Int.add_zero]
 have r2 : vr X f (fr + a + 1 + b) S4 m4 = vr X f (fr + a + b + 2) S5 (max m4 (h + 1)):=by
  unfold vr
  rw [pairs_at (by omega),sY]
  show vGo X.length f ((101,((fr + a + b + d + 2 : Nat) : Int)) :: _) _ _ _ = _
  rw [vGo_jump u3 (by rw [t101];exact ⟨rfl,by show (0 : Int) ≤ h + 1;omega,he⟩) (by decide) ⟨by omega,by omega⟩ (S1:=S5) (by rw [a101,show ((fr + a + b + d + 2 : Nat) : Int).toNat = fr + a + b + 2 + d by omega];exact w1),vTail_101,
   show fr + a + 1 + b + 1 = fr + a + b + 2 by omega]
 obtain ⟨S6,m6,v1,v2,v3,v4,v5,v6⟩:=hC sC (by omega) S5 (max m4 (h + 1)) (by omega) (by rw [w4 _ (by omega),u4 _ (by omega),o4 _ (by omega)];exact n3)
  (fun k u v=>by rw [← hd] at v;rw [w4 k (by omega),u4 k (by omega),o4 k (by omega),n4 k (by omega),q4 k (by omega)];exact h5 k (by omega) (by omega)) (fun _=>Or.inr (by rw [← hd];exact w3))
 rw [← hd] at v1 v3 v4
 refine ⟨S6,m6, ?_,v2,v3,fun k hk=>by rw [v4 k hk,w4 k (by omega),u4 k (by omega),o4 k (by omega),n4 k (by omega),q4 k (by omega)],by omega,by omega⟩
 rw [q1,r1,u1,r2,v1]
def ntOk (op : Int) : Bool:=(op == 21) || (op == 23) || ((arD op).2 == -2) || cnt op || ((tk op 0) == ((arD op).1,1,0,(if 30 ≤ op ∧ op ≤ 35 then 1 else 0),true) && ((arD op).1 == (arD op).2))
theorem nt_all : ∀ n : Nat,n < 38 → ntOk (n : Int) = true:=by decide
theorem node_tk {i : InsD} (hk : kidsB i.op i.a = true) (h1 : i.op ≠ 21) (h2 : i.op ≠ 23) : tk (lastI i).op (lastI i).a = (i.a,1,0,(if 30 ≤ i.op ∧ i.op ≤ 35 then 1 else 0),true):=by
 obtain ⟨op,a,tx,ng,hi,lo,sc,dy⟩:=i
 dsimp only at hk h1 h2
 have hr:=op_range hk
 have hk:=of_decide_eq_true hk
 by_cases hc : op = 25 ∨ op = 26 ∨ op = 27 ∨ op = 36
 ·have hd : cnt op = true:=decide_eq_true hc
  have ea : a < 0 ∨ (op = 36 ∧ a < 1) ∨ (op = 25 ∧ 8 < a) → False:=by
   rcases hc with rfl | rfl | rfl | rfl
   ·rw [show arD 25 = (0,8) by decide] at hk;dsimp only at hk;omega
   ·rw [show arD 26 = (0,-1) by decide] at hk;dsimp only at hk;omega
   ·rw [show arD 27 = (0,-1) by decide] at hk;dsimp only at hk;omega
   ·rw [show arD 36 = (1,-1) by decide] at hk;dsimp only at hk;omega
  unfold lastI
  dsimp only
  rw [hd,if_pos rfl]
  dsimp only
  rw [if_neg (show ¬ (30 ≤ op ∧ op ≤ 35) by omega)]
  unfold tk
  rw [if_neg ea,if_neg (fun h=>h.1 hc),if_pos hc]
 ·have hd : cnt op = false:=decide_eq_false hc
  have hn:=nt_all op.toNat (by omega)
  rw [show ((op.toNat : Nat) : Int) = op by omega] at hn
  unfold ntOk at hn
  have hb2 : (op == 21) = false:=by rw [beq_eq_false_iff_ne];exact h1
  have hb3 : (op == 23) = false:=by rw [beq_eq_false_iff_ne];exact h2
  have hb4 : ((arD op).2 == -2) = false:=by rw [beq_eq_false_iff_ne];exact hk.1
  rw [hb2,hb3,hb4,hd] at hn
  simp only [Bool.false_or,Bool.and_eq_true,beq_iff_eq] at hn
  unfold lastI
  dsimp only
  rw [hd,if_neg (by decide)]
  dsimp only
  rw [hn.1]
  have e1 : (arD op).2 ≠ -1:=by
   have e:=hn.2
   intro hh
   have : 0 ≤ (arD op).1:=by
    unfold arD
    repeat' split
    all_goals decide
   omega
  rw [show (arD op).1 = a by omega]
theorem body_ne {i : InsD} {g : Nat → Nat → List InsD} {p : List Nat} {fr : Nat} : bodyD i g p fr ≠ []:=by
 unfold bodyD
 split <;> simp
theorem vn_row {X : List InsD} {f : Int} {fr : Nat} {op : Int} {g : Nat → Nat → List InsD} {po : Nat → List InsD} {p : List Nat} {h en : Int} (h23 : op ≠ 23) (hg : ∀ x ∈ p,∀ k,g x k ≠ []) (hp : ∀ x ∈ p,po x ≠ [])
  (hx : ∀ x ∈ p,∀ k (h' : Int),h ≤ h' → Vn X f k (g x k) (h',en) (h' + 1,en) (h' + (po x).length)) : ∀ k,k ≤ p.length → k ≤ ((p.take k).flatMap po).length ∧ Vn X f fr (rowD op g p fr k) (h,en) (h + k,en) (h + ((p.take k).flatMap po).length)
 | 0,_=>⟨Nat.zero_le _,by
  rw [show h + ((0 : Nat) : Int) = h by omega]
  exact vn_nil⟩
 | k + 1,hk=>by
  have hlt : k < p.length:=by omega
  have e3 : p.take (k + 1) = p.take k ++ [ng p k]:=by
   rw [List.take_add_one,List.getElem?_eq_getElem hlt]
   congr 1
   unfold ng
   rw [List.getD_eq_getElem?_getD,List.getElem?_eq_getElem hlt];rfl
  obtain ⟨ih1,ih2⟩:=vn_row (fr:=fr) h23 hg hp hx k (by omega)
  have hpl : 0 < (po (ng p k)).length:=List.length_pos_iff.2 (hp _ (ng_mem hlt))
  have el : ((p.take (k + 1)).flatMap po).length = ((p.take k).flatMap po).length + (po (ng p k)).length:=by
   rw [e3,List.flatMap_append,List.length_append]
   show _ + (po (ng p k) ++ []).length = _
   rw [List.append_nil]
  rw [el]
  refine ⟨by omega, ?_⟩
  show Vn X f fr (rowD op g p fr k ++ g (ng p k) (fr + (rowD op g p fr k).length) ++ (if op = 23 ∧ k = 0 then [insO 103 0] else [])) _ _ _
  rw [if_neg (fun hh=>h23 hh.1),List.append_nil]
  have hv:=hx _ (ng_mem hlt) (fr + (rowD op g p fr k).length) (h + k) (by omega)
  rw [show h + (k : Int) + 1 = h + ((k + 1 : Nat) : Int) by omega] at hv
  exact vn_app (hg _ (ng_mem hlt) _) (vn_mono ih2 (by omega)) (vn_mono hv (by omega))
end Go.Proofs.YtnhmplfonkjfoaaDoor



namespace Go.Proofs.YtnhmplfonkjfoaaDoor
open Go.RowKit

theorem after_node {i : InsD} (hk : kidsB i.op i.a = true) (h1 : i.op ≠ 21) (h2 : i.op ≠ 23) (h en : Int) : after (lastI i).op (lastI i).a (h + i.a,en) = (h + 1,en):=by
 unfold after
 rw [node_tk hk h1 h2]
 show (h + i.a - i.a + 1,en + 0) = (h + 1,en)
 rw [show h + i.a - i.a + 1 = h + 1 by omega,Int.add_zero]
theorem isJ_no {op : Int} (h : op ≠ 101 ∧ op ≠ 102) : isJ op = false:=decide_eq_false (by omega)
theorem want_kid {op : Int} (k : Int) (h23 : op ≠ 23) (h : 3 ≤ wantD op k) : op = 36 ∨ op = 37:=by
 unfold wantD at h
 repeat' split at h
 all_goals omega
theorem sort_3 {op : Int} (h : 30 ≤ op ∧ op ≤ 37) : 3 ≤ sortR op:=by
 unfold sortR
 repeat' split
 all_goals omega
theorem poF_pos {is : List InsD} {PS : Pts} {f a : Nat} : poF is PS (f + 1) a ≠ []:=by
 show (pgN PS a).flatMap (poF is PS f) ++ [ig is a] ≠ []
 simp
theorem ofF_ne {is : List InsD} {PS : Pts} {f a fr : Nat} : ofF is PS (f + 1) a fr ≠ []:=body_ne
theorem ng_of {p : List Nat} {x : Nat} (h : x ∈ p) : ∃ k,k < p.length ∧ ng p k = x:=by
 obtain ⟨k,hk,e⟩:=List.mem_iff_getElem.1 h
 refine ⟨k,hk, ?_⟩
 unfold ng
 rw [List.getD_eq_getElem?_getD,List.getElem?_eq_getElem hk]
 exact e
theorem vn_of {X : List InsD} {ff : Int} {is : List InsD} {PS : Pts} (hn : Nod is PS) : ∀ (f a fr : Nat) (h en : Int),a < f → a < is.length → 0 ≤ h → 0 ≤ en → (3 ≤ sortR (ig is a).op → 1 ≤ en) → Vn X ff fr (ofF is PS f a fr) (h,en) (h + 1,en) (h + (poF is PS f a).length)
 | 0,_,_,_,_,h,_,_,_,_=>absurd h (Nat.not_lt_zero _)
 | f + 1,a,fr,h,en,h1,h2,h3,h4,h5=>by
  obtain ⟨hk,hkl⟩:=hn.kid a h2
  obtain ⟨hz,hsrt,-⟩:=hn.ok a h2
  have hif:=kids_if hk
  have hr:=op_range hk
  have hlt:=hn.wf.lt a h2
  have hkp:=kids_pos hk
  have hf : ∀ x ∈ pgN PS a,∃ f',f = f' + 1:=fun x hx=>by
   have:=hlt x hx
   exact ⟨f - 1,by omega⟩
  have ih : ∀ x ∈ pgN PS a,∀ (k : Nat) (h' en' : Int),0 ≤ h' → 0 ≤ en' → (3 ≤ sortR (ig is x).op → 1 ≤ en') → Vn X ff k (ofF is PS f x k) (h',en') (h' + 1,en') (h' + (poF is PS f x).length):=fun x hx k h' en' a1 a2 a3=>by
   have:=hlt x hx
   exact vn_of hn f x k h' en' (by omega) (by omega) a1 a2 a3
  have hne : ∀ x ∈ pgN PS a,∀ k,ofF is PS f x k ≠ []:=fun x hx k=>by
   obtain ⟨f',rfl⟩:=hf x hx
   exact ofF_ne
  have hpo : ∀ x ∈ pgN PS a,poF is PS f x ≠ []:=fun x hx=>by
   obtain ⟨f',rfl⟩:=hf x hx
   exact poF_pos
  have hplen : (poF is PS (f + 1) a).length = ((pgN PS a).flatMap (poF is PS f)).length + 1:=by
   show ((pgN PS a).flatMap (poF is PS f) ++ [ig is a]).length = _
   rw [List.length_append];rfl
  rw [hplen]
  show Vn X ff fr (bodyD (ig is a) (ofF is PS f) (pgN PS a) fr) _ _ _
  have hthree:=hn.wf.three a h2
  have htwo:=hn.wf.two a h2
  clear hplen
  generalize hp : pgN PS a = p at hkl hsrt hlt hf ih hne hpo hthree htwo ⊢
  generalize hi : ig is a = i at hk hkl hz hsrt h5 hif hr hkp hthree htwo ⊢
  unfold bodyD
  by_cases c : i.op = 21
  ·have hl:=hthree c
   rw [if_pos c]
   have hs : ∀ k,k < p.length → ¬ 3 ≤ sortR (ig is (ng p k)).op:=fun k hk'=>by
    rw [hsrt k hk',c]
    intro hh
    rcases want_kid (op:=21) k (by decide) hh with e | e <;> exact absurd e (by decide)
   have ep : (p.flatMap (poF is PS f)).length = (poF is PS f (ng p 0)).length + (poF is PS f (ng p 1)).length + (poF is PS f (ng p 2)).length:=by
    match p,hl with
    | [x,y,z],_ =>
     show (poF is PS f x ++ (poF is PS f y ++ (poF is PS f z ++ []))).length = (poF is PS f x).length + (poF is PS f y).length + (poF is PS f z).length
     simp only [List.length_append,List.length_nil]
     omega
   have m0:=ng_mem (show 0 < p.length by omega)
   have m1:=ng_mem (show 1 < p.length by omega)
   have m2:=ng_mem (show 2 < p.length by omega)
   have v0:=ih _ m0 fr h en h3 h4 (fun hh=>absurd hh (hs 0 (by omega)))
   generalize hA : ofF is PS f (ng p 0) fr = A at v0 ⊢
   have v1:=ih _ m1 (fr + A.length + 1) h en h3 h4 (fun hh=>absurd hh (hs 1 (by omega)))
   have n1:=hne _ m1 (fr + A.length + 1)
   generalize hB : ofF is PS f (ng p 1) (fr + A.length + 1) = B at v1 n1 ⊢
   have v2:=ih _ m2 (fr + A.length + B.length + 2) h en h3 h4 (fun hh=>absurd hh (hs 2 (by omega)))
   have n2:=hne _ m2 (fr + A.length + B.length + 2)
   generalize hC : ofF is PS f (ng p 2) (fr + A.length + B.length + 2) = C at v2 n2 ⊢
   exact vn_choice n1 n2 h3 h4 (by omega) (vn_mono v0 (by omega)) (vn_mono v1 (by omega)) (vn_mono v2 (by omega))
  ·rw [if_neg c]
   by_cases d : i.op = 23
   ·have hl:=htwo d
    rw [if_pos d]
    have m0:=ng_mem (show 0 < p.length by omega)
    have m1:=ng_mem (show 1 < p.length by omega)
    have ep : (p.flatMap (poF is PS f)).length = (poF is PS f (ng p 0)).length + (poF is PS f (ng p 1)).length:=by
     match p,hl with
     | [x,y],_ =>
      show (poF is PS f x ++ (poF is PS f y ++ [])).length = (poF is PS f x).length + (poF is PS f y).length
      simp only [List.length_append,List.length_nil]
      omega
    have hs0 : ¬ 3 ≤ sortR (ig is (ng p 0)).op:=by
     rw [hsrt 0 (by omega),d]
     decide
    have er : rowD i.op (ofF is PS f) p fr p.length = ofF is PS f (ng p 0) fr ++ [insO 103 0] ++ ofF is PS f (ng p 1) (fr + (ofF is PS f (ng p 0) fr ++ [insO 103 0]).length):=by
     rw [hl,d]
     show ((([] ++ ofF is PS f (ng p 0) (fr + 0) ++ [insO 103 0]) ++ ofF is PS f (ng p 1) (fr + ([] ++ ofF is PS f (ng p 0) (fr + 0) ++ [insO 103 0]).length)) ++ []) = _
     rw [List.append_nil,List.nil_append,Nat.add_zero]
    rw [er]
    have v0:=ih _ m0 fr h en h3 h4 (fun hh=>absurd hh hs0)
    generalize hA : ofF is PS f (ng p 0) fr = A at v0 ⊢
    have ve : Vn X ff (fr + A.length) [insO 103 0] (h + 1,en) (h,en + 1) (h + 1):=vn_one (i:=insO 103 0) (x:=(h + 1,en)) (by decide) (by show (1 : Int) ≤ h + 1;omega) (by show (0 : Int) ≤ en;exact h4) (by decide) (by
     show (h + 1 - 1 + 0,en + 1) = _
     rw [show h + 1 - 1 + 0 = h by omega])
    have v1:=ih _ m1 (fr + (A ++ [insO 103 0]).length) h (en + 1) h3 (by omega) (fun _=>by omega)
    have n1:=hne _ m1 (fr + (A ++ [insO 103 0]).length)
    generalize hB : ofF is PS f (ng p 1) (fr + (A ++ [insO 103 0]).length) = B at v1 n1 ⊢
    have vl : Vn X ff (fr + (A ++ [insO 103 0] ++ B).length) [insO 104 0] (h + 1,en + 1) (h + 1,en) (h + 1):=vn_one (i:=insO 104 0) (x:=(h + 1,en + 1)) (by decide) (by show (0 : Int) ≤ h + 1;omega) (by show (1 : Int) ≤ en + 1;omega) (by decide) (by
     show (h + 1 - 0 + 0,en + 1 + -1) = _
     rw [show h + 1 - 0 + 0 = h + 1 by omega,show en + 1 + -1 = en by omega])
    refine vn_app (by simp) (vn_app n1 (vn_app (by simp) (vn_mono v0 (by omega)) (vn_mono ve (by omega))) (vn_mono v1 (by omega))) (vn_mono vl (by omega))
   ·rw [if_neg d]
    obtain ⟨r1,r2⟩:=vn_row (X:=X) (f:=ff) (fr:=fr) (op:=i.op) (g:=ofF is PS f) (po:=poF is PS f) (p:=p) (h:=h) (en:=en) d hne hpo (fun x hx k h' hh=>by
     refine ih x hx k h' en (by omega) h4 (fun h3=>?_)
     obtain ⟨q,hq,rfl⟩:=ng_of hx
     rw [hsrt q hq] at h3
     exact h5 (sort_3 (by rcases want_kid q d h3 with e | e <;> omega))) p.length (Nat.le_refl _)
    rw [List.take_length] at r1 r2
    have eo : (lastI i).op = i.op:=lastI_op i
    have ht:=node_tk hk c d
    have vl : Vn X ff (fr + (rowD i.op (ofF is PS f) p fr p.length).length) [lastI i] (h + i.a,en) (h + 1,en) (h + i.a):=vn_one (i:=lastI i) (x:=(h + i.a,en)) (by rw [ht]) (by rw [ht];show i.a ≤ h + i.a;omega) (by
      rw [ht]
      show (if 30 ≤ i.op ∧ i.op ≤ 35 then (1 : Int) else 0) ≤ en
      split
      ·exact h5 (sort_3 (by omega))
      ·exact h4) (by rw [eo];exact isJ_no ⟨by omega,by omega⟩) (after_node hk c d h en)
    rw [show ((p.length : Nat) : Int) = i.a by omega] at r2
    exact vn_app (by simp) (vn_mono r2 (by omega)) (vn_mono vl (by omega))
theorem ver_comp {is : List InsD} {b : Bool} (h : chkP is b = 0) : ∃ z : Int,verS (pairs (compD is)) (fB b) = (z,0) ∧ 1 ≤ z ∧ z ≤ is.length ∧ (compD is).length ≤ 2 * is.length:=by
 obtain ⟨h3,hpos,PS,hn,hs,hcd,hl,hb1,hb2⟩:=chk_nod h
 have hall:=po_all hn.wf is.length 0 [] [] _ rfl rfl hs rfl
 have hall : poD is PS (is.length - 1) ++ [] = is:=hall
 rw [List.append_nil] at hall
 have hv:=vn_of (X:=compD is) (ff:=fB b) hn (is.length - 1 + 1) (is.length - 1) 0 0 (fB b) (Nat.lt_succ_self _) (by omega) (Int.le_refl _) (by cases b <;> decide) (fun hh=>by
  cases b with
  | true=>decide
  | false=>rw [hb2 rfl] at hh;exact absurd hh (by decide))
 have hcd' : ofF is PS (is.length - 1 + 1) (is.length - 1) 0 = compD is:=hcd.symm
 have hall' : poF is PS (is.length - 1 + 1) (is.length - 1) = is:=hall
 rw [hcd',hall'] at hv
 have hcl : 0 < (compD is).length:=List.length_pos_iff.2 (by rw [← hcd'];exact ofF_ne)
 obtain ⟨c,hc⟩ : ∃ c,c = compD is:=⟨_,rfl⟩
 rw [← hc] at hv hcl hl ⊢
 obtain ⟨S',m',q1,q2,q3,-,q5,q6⟩:=hv (fun k _=>by rw [Nat.zero_add]) (by omega) (some (0,fB b) :: List.replicate c.length none) 0 (by rw [List.length_cons,List.length_replicate]) rfl (fun k hk1 hk2=>by
  obtain ⟨k',rfl⟩ : ∃ k',k = k' + 1:=⟨k - 1,by omega⟩
  show (List.replicate c.length none).getD k' none = none
  rw [List.getD_eq_getElem?_getD,List.getElem?_replicate]
  split <;> rfl) (fun _=>Or.inl (by
  obtain ⟨k',hk'⟩ : ∃ k',0 + c.length = k' + 1:=⟨c.length - 1,by omega⟩
  rw [hk']
  show (List.replicate c.length none).getD k' none = none
  rw [List.getD_eq_getElem?_getD,List.getElem?_replicate]
  split <;> rfl))
 rw [Nat.zero_add] at q1 q3
 have hend : vr c (fB b) c.length S' m' = (max m' 1,0):=by
  unfold vr
  rw [List.drop_of_length_le (by rw [pairs_length];exact Nat.le_refl _)]
  show (if S'.getD c.length none = some (1,fB b) then (max m' 1,(0 : Int)) else (0,2)) = _
  exact if_pos q3
 refine ⟨max m' 1, ?_,by omega,by omega,hl⟩
 unfold verS
 rw [if_neg (by rw [pairs_length];omega),pairs_length]
 have hst : vGo c.length (fB b) ((pairs c).drop 0) 0 (some (0,fB b) :: List.replicate c.length none) 0 = _:=q1.trans hend
 exact hst
end Go.Proofs.YtnhmplfonkjfoaaDoor



namespace Go.Proofs.YtnhmplfonkjfoaaDoor
open Go.RowKit

theorem good_ji {i : InsD} (h : GoodJ i) : GoodI i:=⟨h.1,h.2.1,by have:=h.2.2;omega⟩
end Go.Proofs.YtnhmplfonkjfoaaDoor

