/- What this law reaches beyond the common contracts, part 3. -/
import Derived.Test.YtnhmplfonkjfoaaDoorM1
import Derived.Test.YtnhmplfonkjfoaaDoorXOu2
set_option linter.unusedSimpArgs false
set_option linter.unusedVariables false


namespace Go.Proofs.YtnhmplfonkjfoaaDoor
open Go.RowKit

set_option maxRecDepth 100000
set_option maxHeartbeats 20000000 in
theorem doc_in_false (is : List InsD) (v : Value) (w : World) (h : Cod w v is) (hl : is.length ≤ 600) : Calls Tryd.prog 13 #[v,.bool false] w (DocPost is false w):=by
 obtain ⟨R,hR⟩ : ∃ R,R = docS (pairs is) (fB false):=⟨_,rfl⟩
 have HV : Hid (dGo is.length (fB false) (pairs is) 0 ([(0,fB false)] :: List.replicate is.length []) 0 = R):=Lib.hid (by
  rw [hR];unfold docS;rw [if_neg (by rw [pairs_length];omega),pairs_length])
 unfold DocPost
 rw [← hR]
 clear hR
 have HC:=Lib.hid h
 obtain ⟨A,C,rfl,h2,h3⟩:=h
 have hl2 : ((is.length : Int)) ≤ 600:=by omega
 clear h3 h2
 have tokd : fB false = 0:=rfl
 clear tokd
 have esz : (w.alloc (.cells #[.int .i64 0,.int .i64 0] 52)).heap.size = w.heap.size + 1:=World.size_alloc _ _
 go_enter Tryd.func13,Tryd.ntmps13
 go_wp2_with (at_make;refine wpList_makeL rfl _ _ 53 54 rfl (.slice none 0 0) rfl 24 Tryd.underlying53 (by kernel_rfl) (relabel (fun _=>0) w.heap.size 2) 1 (is.length + 1) rfl rfl (by omega) (by unfold maxLen;omega) ?_;intro w1 lw t1;have lf:=(Lb.new (w:=w) (fun _=>0) 2 52 [.int .i64 0,.int .i64 0] (Nat.le_refl _)).turn t1 (fun h=>h);rw [esz] at lw lf t1;have cf0:=lf.1.cell 0 rfl;have cf1:=lf.1.cell 1 rfl;have cg0:=lw.1.cell 0 rfl;have fg0:=lw.1.frozen 0;have ltg:=lw.1.lt)
 generalize relabel (relabel (fun _=>0) w.heap.size 2) (w.heap.size + 1) 1 = oq at lw lf t1
 have hM0 : Wym w (w.heap.size + 1) w.heap.size 0 oq w1 (List.replicate (is.length + 1) (.slice none 0 0)) (List.replicate (is.length + 1) []):=by
  refine ⟨lw,lf,fun n hn=>?_,by simp, ?_⟩
  ·rw [List.length_replicate] at hn
   rw [List.getD_eq_getElem?_getD,List.getElem?_replicate,if_pos hn,List.getD_eq_getElem?_getD,List.getElem?_replicate,if_pos hn]
   exact Ro.nil _ _ _ _ _
  ·have t0 : Turn (fun l=>l ≠ 0) w (fun _=>0) (w.alloc (.cells #[.int .i64 0,.int .i64 0] 52)) (relabel (fun _=>0) w.heap.size 2):=((Turn.refl _ _ _).alloc _).relabel (Nat.le_refl _) 2
   exact t0.trans (t1.mono fun _ h=>h.elim)
 have hM1:=hM0.push (k:=0) (x:=(0,0)) (by simp) (((Turn.refl (· = 3 + 0) w1 _).alloc (.cells #[.int .i64 0,.int .i64 0] 52)).relabel (Nat.le_refl _) 3) (Ro.of_block (n:=1) (cap:=1) (k:=2) (Lb.new (w:=w1) _ 3 52 [.int .i64 0,.int .i64 0] (Nat.le_refl _)) (Nat.le_refl _) (by decide) rfl rfl)
 rw [World.setCell_alloc_past _ _ _ _ ltg] at hM1
 have HM1:=Lib.hid hM1
 have HV0:=HV
 clear hM0 hM1 lw lf t1 cf0 cf1 cg0 fg0 esz
 obtain ⟨g,hg⟩ : ∃ g,g = w.heap.size + 1:=⟨_,rfl⟩
 have hgF : w.heap.size < g:=by omega
 rw [← hg] at HM1 ltg
 rw [← hg]
 clear hg
 go_loopg [8,9] is.length (fun k s8 s9 wr=>∃ (t : Nat) (m : Int) (o : Nat → Nat) (vs : List Value) (W : Wy),k + t = is.length ∧ s9 = .int .i64 t ∧ s8 = .int .i64 m ∧ Hid (Wym w g w.heap.size 0 o wr vs W) ∧ Hid (W.length = is.length + 1) ∧ Hid (∀ k x,x ∈ W.getD k [] → InB t x) ∧ Hid (∀ k,(W.getD k []).length ≤ 2 * t + 1) ∧ Hid (0 ≤ m ∧ m ≤ 600) ∧ Hid (dGo is.length 0 ((pairs is).drop t) t W m = R))
 case atStart =>
  have ep : put (List.replicate (is.length + 1) []) 0 (0,0) = [(0,0)] :: List.replicate is.length []:=rfl
  rw [ep] at HM1
  have e2 : ∀ k,(([(0,0)] : List Way) :: List.replicate is.length []).getD k [] = if k = 0 then [(0,0)] else []:=fun k=>by
   cases k with
   | zero=>rfl
   | succ k=>rw [List.getD_eq_getElem?_getD,List.getElem?_cons_succ,List.getElem?_replicate];split <;> rfl
  refine ⟨0,0,_,_,[(0,0)] :: List.replicate is.length [],by omega,rfl,rfl,HM1,Lib.hid (by simp),Lib.hid (fun k x hx=>?_),Lib.hid (fun k=>?_),Lib.hid ⟨by omega,by omega⟩,HV0⟩
  ·rw [e2] at hx
   split at hx
   ·obtain rfl:=List.mem_singleton.1 hx
    exact ⟨by simp,by simp,by simp,by simp⟩
   ·cases hx
  ·rw [e2];split <;> simp
 case round =>
  obtain ⟨t,m,o,vs,W,hk,rfl,rfl,HMM,HLN,HBD,HLW,HMB,HVG⟩:=hrel
  have HK:=Lib.hid hk
  have htn : t ≤ is.length:=by omega
  clear hk HM1 HV0
  by_cases hlt : t < is.length
  ·obtain ⟨b1,p1,rfl,hat⟩:=(HC.out.below HMM.out.below).at hlt
   obtain ⟨I,hI⟩ : ∃ I,I = ig is t:=⟨_,rfl⟩
   have HD:=pairs_drop hlt
   rw [← hI] at hat HD
   obtain ⟨op,a,tx,ng,hi,lo,sc,dy⟩:=I
   have HVG2:=HVG.out
   rw [HD] at HVG2
   have HVG3:=Lib.hid HVG2
   clear hI HD HVG2 HVG
   have HAT:=Lib.hid hat
   obtain ⟨a0,a1,a2,a3,a4,a5,a6,a7⟩:=hat.ins
   dsimp only at a0 a1 a2 a3 a4 a5 a6 a7
   clear hat
   have HE:=Lib.hid (takes_any op a tx ng hi lo sc dy)
   go_wp2_with fail
   refine (HE.out _).mono ?_
   rintro _ w2 ⟨rfl,hb2⟩
   have hs2:=hb2.size
   have HMK:=Lib.hid (HMM.out.kept hb2)
   have HAT2:=HAT.out.below hb2
   obtain ⟨e0,e1,-⟩:=HAT2.ins
   dsimp only at e0 e1
   have HA2:=Lib.hid HAT2
   clear HAT2 HAT a0 a1 a2 a3 a4 a5 a6 a7 HE HMM hb2
   generalize relabel o wr.heap.size 2 = o2 at HMK
   clear hs2
   obtain ⟨T,hT⟩ : ∃ T,T = tk op a:=⟨_,rfl⟩
   have HTB:=tk_TB op a
   rw [← hT] at HTB
   rw [← hT]
   obtain ⟨off,on,tu,ak,ok⟩:=T
   have HT:=Lib.hid hT
   have HTB2:=Lib.hid HTB
   dsimp only
   clear hT HTB
   have htW : t < W.length:=by have:=HLN.out;omega
   have ct:=HMK.out.cell htW
   have HAL:=Lib.hid (alike_any _ _ _ (HMK.out.wyl htW))
   have HYL:=Lib.hid (HMK.out.wyl htW)
   have hbl:=HMK.out.below
   have hle:=hbl.size
   obtain ⟨u,hu⟩ : ∃ u,u = vs.getD t undef:=⟨_,rfl⟩
   rw [← hu] at ct HAL HYL
   have HU:=Lib.hid hu
   clear hu
   cases ok with
   | false =>
    have hr : (0,2) = R:=by
     rw [← HVG3.out,dGo_no (by rw [← HT.out])]
    subst hr
    go_wp2_with fail
    go_ret2
    exact ⟨rfl,by (repeat' first|(with_reducible first|exact blR _ _|assumption|refine blD ?_|refine blN ?_ _)|((with_reducible first|refine blA ?_ ?_ _|refine blS ?_ ?_ _|refine blT (by assumption) ?_ ?_);focus (go_size;done)))⟩
   | true =>
    cases hz : alikeB (W.getD t []) with
    | false =>
     have hr : (0,2) = R:=by rw [← HVG3.out,dGo_off hz]
     subst hr
     rw [hz] at HAL
     clear hz
     go_wp2_with fail
     refine HAL.out.mono ?_
     rintro _ w3 ⟨rfl,hb3⟩
     have hs3:=hb3.size
     go_wp2_with fail
     go_ret2
     exact ⟨rfl,by (repeat' first|(with_reducible first|exact blR _ _|assumption|refine blD ?_|refine blN ?_ _)|((with_reducible first|refine blA ?_ ?_ _|refine blS ?_ ?_ _|refine blT (by assumption) ?_ ?_);focus (go_size;done)))⟩
    | true =>
     rw [hz] at HAL
     have HZ:=Lib.hid hz
     obtain ⟨hpos,_⟩:=alike_iff.1 hz
     have HH:=Lib.hid (head_wg hpos)
     obtain ⟨A2,C2,hu2,hl2m⟩ : ∃ A2 C2,u = .slice A2 (W.getD t []).length C2 ∧ (W.getD t []).length ≤ maxLen:=by
      obtain ⟨A2,C2,q1,q2,_⟩:=HYL.out
      exact ⟨A2,C2,q1,q2⟩
     subst hu2
     obtain ⟨b2,p2,rfl,ay⟩:=HYL.out.at hpos
     rw [Nat.zero_mul,Nat.add_zero] at ay
     have HAY:=Lib.hid ay
     have HXB:=HBD.out t (wg (W.getD t []) 0) (by
      have:=HH.out
      exact List.mem_of_mem_head? this)
     obtain ⟨x,hx⟩ : ∃ x,x = wg (W.getD t []) 0:=⟨_,rfl⟩
     rw [← hx] at HH HAY HXB
     clear hx ay hz
     obtain ⟨x1,x2⟩:=x
     obtain ⟨lt,hlt2⟩ : ∃ lt,lt = (W.getD t []).length:=⟨_,rfl⟩
     rw [← hlt2] at hpos HAL ct hl2m HU
     clear hlt2 HYL
     unfold maxLen at hl2m
     go_wp2_with fail
     refine HAL.out.mono ?_
     rintro _ w3 ⟨rfl,hb3⟩
     have hs3:=hb3.size
     have HM3:=Lib.hid (HMK.out.kept hb3)
     have hAY:=HAY.out.below hb3
     obtain ⟨y1,y2⟩:=hAY.way
     obtain ⟨e0',e1',-⟩:=(HA2.out.below hb3).ins
     dsimp only at e0' e1' y1 y2
     have HAX:=Lib.hid (HA2.out.below hb3)
     have ct3:=HM3.out.cell htW
     rw [← HU.out] at ct3
     have hbl3:=HM3.out.below
     clear e0 e1 hb3 HAL ct HMK hbl hAY HAY HA2 hle hs3
     have hle:=hbl3.size
     generalize relabel o2 w2.heap.size 2 = o3 at HM3
     by_cases hc : off ≤ x1 ∧ ak ≤ x2
     ·obtain ⟨h1,h2⟩:=hc
      obtain ⟨f1,f2,f3,f4,f5,f6,f7,_⟩:=HTB2.out rfl
      obtain ⟨c1,c2,c3,c4⟩:=id HXB
      dsimp only at f1 f2 f3 f4 f5 f6 f7 c1 c2 c3 c4
      have l1 : b1 < w3.heap.size:=cell_lt2 e0'
      have l2 : b2 < w3.heap.size:=cell_lt2 y1
      have l3 : g < w3.heap.size:=cell_lt2 ct3
      have HBW : Hid (b1 < w.heap.size):=Lib.hid (by
       obtain ⟨b9,p9,q9,a9⟩:=HC.out.at hlt
       injection q9 with q9
       injection q9 with q8 q9
       subst q8
       exact cell_lt2 (a9.ins).1)
      have haf : Hid (after op a (x1,x2) = (x1 - off + on,x2 + tu)):=Lib.hid (by unfold after;rw [← HT.out])
      have hcc : Hid ((tk op a).2.2.2.2 = true ∧ (tk op a).1 ≤ (x1,x2).1 ∧ (tk op a).2.2.2.1 ≤ (x1,x2).2):=Lib.hid (by rw [← HT.out];exact ⟨rfl,h1,h2⟩)
      have HIN:=Lib.hid (InB.next HXB hcc.out.1 hcc.out.2.1)
      rw [haf.out] at HIN
      go_upto_region 15 with fail
      go_cut [8] (fun s8 wx=>s8 = .int .i64 (max m x1) ∧ wx = w3)
      case first =>
       rcases Int.lt_or_le m x1 with hmx | hmx
       ·have e : max m x1 = x1:=by omega
        go_wp2_with fail
        go_meet
        case rel=>exact ⟨by rw [e],rfl⟩
       ·have e : max m x1 = m:=by omega
        go_wp2_with fail
        go_meet
        case rel=>exact ⟨by rw [e],rfl⟩
      case rest =>
       obtain ⟨rfl,rfl⟩:=hcut
       obtain ⟨w3,rfl⟩ : ∃ w3 : World,w3 = wc:=⟨_,rfl⟩
       have HMX : Hid (0 ≤ max m x1 ∧ max m x1 ≤ 600):=Lib.hid (by have:=HMB.out;omega)
       obtain ⟨m2,hm2⟩ : ∃ m2,m2 = max m x1:=⟨_,rfl⟩
       rw [← hm2] at HMX
       have HM2:=Lib.hid hm2
       rw [← hm2]
       clear hm2
       go_upto_region 16 with fail
       go_cut [15] (fun s15 wx=>∃ (o4 : Nat → Nat) (bw : Nat),s15 = .pointer (some ⟨bw,0,none⟩) ∧ Hid (Wym w g w.heap.size 0 o4 wx vs W) ∧ Hid (Lb wx o4 2 bw 52 [.int .i64 (x1 - off + on),.int .i64 (x2 + tu)]) ∧ Hid (At wx b1 (p1 + t * 8) (InsD.cs ⟨op,a,tx,ng,hi,lo,sc,dy⟩)))
       case first =>
        have hw1 : IntKind.i64.wrap (x1 - off) = x1 - off:=by rw [IntKind.wrap_i64];omega
        have hw2 : IntKind.i64.wrap (x1 - off + on) = x1 - off + on:=by rw [IntKind.wrap_i64];omega
        have hw3 : IntKind.i64.wrap (x2 + tu) = x2 + tu:=by rw [IntKind.wrap_i64];omega
        go_region_held3 (fun w'=>w'.cell? ⟨g,t,none⟩ = some (.slice (some ⟨b2,p2,none⟩) lt C2) ∧ w'.cell? ⟨b2,p2,none⟩ = some (.int .i64 x1) ∧ w'.cell? ⟨b2,p2 + 1,none⟩ = some (.int .i64 x2)) (first | (first | (go_keep;done) | (simp [go_sem];done) | ((try dsimp only);(repeat' apply And.intro) <;> (first | (with_reducible assumption) | ((rw [World.cell?_alloc_lt _ _ _ (by show _ < _;omega)]);go_split_ands;(first | with_reducible assumption | (refine (World.cell?_alloc_lt _ _ _ (by show _ < _;omega)).symm.trans ?_;with_reducible assumption))) | ((rw [World.cell?_setCell_other _ _ _ _ (by intro e;injection e;omega)]);with_reducible assumption) | (go_keep;done) | (simp [go_sem];done) | (simp (disch:=go_size) [*,World.cell?_alloc_some,World.cell?_setCell_far];done))))) (fail)
        go_wp2_with fail
        go_meet
        case rel =>
         refine ⟨relabel o3 w3.heap.size 2,w3.heap.size,rfl, ?_, ?_, ?_⟩
         ·exact Lib.hid ((HM3.out.kept (Below.alloc (Below.refl _ _) (Nat.le_refl _) (.cells #[.int .i64 (x1 - off + on),.int .i64 (x2 + tu)] 52))).drew)
         ·exact Lib.hid ((Lb.new (w:=w3) o3 2 52 [.int .i64 (x1 - off + on),.int .i64 (x2 + tu)] (Nat.le_refl _)).drew)
         ·exact Lib.hid (HAX.out.below (Below.drew (Below.alloc (Below.refl w3.heap.size _) (Nat.le_refl _) (.cells #[.int .i64 (x1 - off + on),.int .i64 (x2 + tu)] 52))))
       case rest =>
        obtain ⟨o4,bw,rfl,HM4,LW4,HA4⟩:=hcut
        obtain ⟨w4,rfl⟩ : ∃ w4 : World,w4 = wc:=⟨_,rfl⟩
        clear y1 y2 e0' e1' ct3 hbl3 hle l1 l2 l3 HAX HM3 h1 h2 f1 f2 f3 f4 f5 f6 f7 c1 c2 c3 c4 HXB HTB2
        obtain ⟨z1,hz1⟩ : ∃ z1,z1 = x1 - off + on:=⟨_,rfl⟩
        obtain ⟨z2,hz2⟩ : ∃ z2,z2 = x2 + tu:=⟨_,rfl⟩
        rw [← hz1,← hz2] at LW4 haf HIN
        clear hz1 hz2
        obtain ⟨e0,e1,-⟩:=HA4.out.ins
        dsimp only at e0 e1
        have l1 : b1 < w4.heap.size:=cell_lt2 e0
        have hbl:=HM4.out.below
        have hle:=hbl.size
        have l3 : g < w4.heap.size:=HM4.out.lw.1.lt
        go_upto_region 17 with fail
        go_cut [123] (fun s123 wx=>s123 = .bool (isJ op) ∧ wx = w4)
        case first =>
         by_cases q1 : op = 101
         ·subst q1
          go_wp2_with fail
          go_meet
          case rel=>exact ⟨rfl,rfl⟩
         ·by_cases q2 : op = 102
          ·subst q2
           go_wp2_with fail
           go_meet
           case rel=>exact ⟨rfl,rfl⟩
          ·have q3 : (op == 101) = false:=by rw [beq_eq_false_iff_ne];exact q1
           have q4 : (op == 102) = false:=by rw [beq_eq_false_iff_ne];exact q2
           have q5 : isJ op = false:=by unfold isJ;rw [decide_eq_false_iff_not];omega
           go_wp2_with fail
           go_meet
           case rel=>exact ⟨by rw [q5],rfl⟩
        case rest =>
         obtain ⟨rfl,rfl⟩:=hcut
         obtain ⟨w4,rfl⟩ : ∃ w4 : World,w4 = wc:=⟨_,rfl⟩
         go_upto_if 123 with fail
         go_cut [15] (fun s15 wx=>∃ (o5 : Nat → Nat) (vs1 : List Value) (W1 : Wy),s15 = .pointer (some ⟨bw,0,none⟩) ∧ Hid (Wym w g w.heap.size 0 o5 wx vs1 W1) ∧ Hid (W1 = if isJ op = true then put W a.toNat (z1,z2) else W) ∧ Hid (isJ op = true → (t : Int) < a ∧ a ≤ is.length) ∧ Hid (Lb wx o5 2 bw 52 [.int .i64 z1,.int .i64 z2]) ∧ Hid (At wx b1 (p1 + t * 8) (InsD.cs ⟨op,a,tx,ng,hi,lo,sc,dy⟩)))
         case first =>
          cases hj : isJ op with
          | false =>
           go_wp2_with fail
           go_meet
           case rel=>exact ⟨o4,vs,W,rfl,HM4,Lib.hid (by rw [hj];rfl),Lib.hid (fun h=>absurd (hj.symm.trans h) (by decide)),LW4,HA4⟩
          | true =>
           by_cases hb : (t : Int) < a ∧ a ≤ is.length
           ·have tokg : (0 : Int) = 0:=rfl
            clear tokg
            obtain ⟨an,ha⟩ : ∃ an : Nat,a = (an : Int):=⟨a.toNat,by omega⟩
            subst ha
            have HB:=Lib.hid hb
            obtain ⟨hb1,hb2⟩:=hb
            have hta : t < an:=by omega
            have han : an ≤ is.length:=by omega
            have ht1 : an < W.length:=by have:=HLN.out;omega
            have hd0 : (0 : Int) ≤ (an : Int):=by omega
            have hd1 : (an : Int) < (is.length : Int) + 1:=by omega
            have hat : Int.toNat (an : Int) = an:=Int.toNat_natCast an
            have c9:=(HM4.out).cell ht1
            have hrow:=(HM4.out).rows an ht1
            have hval:=(HM4.out).val ht1
            have hlen : ((W).getD an []).length ≤ 2000:=by have:=HLW.out an;omega
            obtain ⟨u2,hu2⟩ : ∃ u2,u2 = (vs).getD an undef:=⟨_,rfl⟩
            rw [← hu2] at c9 hrow hval
            obtain ⟨ln,hln⟩ : ∃ ln,ln = ((W).getD an []).length:=⟨_,rfl⟩
            rw [← hln] at hrow hlen
            have HLNE:=Lib.hid hln
            have HVAL:=Lib.hid hval
            have cw0:=(LW4.out).1.cell 0 rfl
            have cw1:=(LW4.out).1.cell 1 rfl
            have lw2:=(LW4.out).1.lt
            clear hu2 hln hval
            have hno : ¬ (o4 b1 = 3 + an):=by have:=HM4.out.turn.num b1 HBW.out;omega
            have hg1 : g ≠ b1:=by
             rintro rfl
             have q1:=HM4.out.turn.num g HBW.out
             have q2:=HM4.out.lw.2
             omega
            have hg2 : g ≠ bw:=by
             rintro rfl
             have q1:=LW4.out.2
             have q2:=HM4.out.lw.2
             omega
            go_wp2_with fail
            refine wp_region_held_drew (S:=fun w'=>w'.cell? ⟨b1,p1 + t * 8 + 1,none⟩ = some (.int .i64 (an : Int)) ∧ w'.cell? ⟨bw,0,none⟩ = some (.int .i64 z1) ∧ w'.cell? ⟨bw,1,none⟩ = some (.int .i64 z2)) (by kernel_rfl) ⟨e1,cw0,cw1⟩ (fun hHeld=>?_)
            refine wpAnyH_take (i:=0) (v:=?_) rfl (by kernel_rfl) (by kernel_rfl) (by kernel_rfl) (fun _ _ _ h=>h) (Or.inl ⟨by rfl, ?_⟩) (by assumption) ?_
            rotate_left
            (focus (intro w hSw;(try dsimp only at hSw);go_simp;(try with_reducible rfl)))
            (try simp only [Act.put,List.setIfInBounds_toArray,List.set_cons_zero,List.set_cons_succ])
            refine wpAnyH_take (i:=1) (v:=?_) rfl (by kernel_rfl) (by kernel_rfl) (by kernel_rfl) (fun _ _ _ h=>h) (Or.inl ⟨by rfl, ?_⟩) (by assumption) ?_
            rotate_left
            (focus (intro w hSw;(try dsimp only at hSw);go_simp;(try with_reducible rfl)))
            (try simp only [Act.put,List.setIfInBounds_toArray,List.set_cons_zero,List.set_cons_succ])
            refine wpAnyH_take (i:=2) (v:=?_) rfl (by kernel_rfl) (by kernel_rfl) (by kernel_rfl) (fun _ _ _ h=>h) (Or.inl ⟨by rfl, ?_⟩) (by assumption) ?_
            rotate_left
            (focus (intro w hSw;(try dsimp only at hSw);go_simp;(try with_reducible rfl)))
            (try simp only [Act.put,List.setIfInBounds_toArray,List.set_cons_zero,List.set_cons_succ])
            refine wpAnyH_take (i:=3) (v:=?_) rfl (by kernel_rfl) (by kernel_rfl) (by kernel_rfl) (fun _ _ _ h=>h) (Or.inl ⟨by rfl, ?_⟩) (by assumption) ?_
            rotate_left
            (focus (intro w hSw;(try dsimp only at hSw);go_simp;(try with_reducible rfl)))
            (try simp only [Act.put,List.setIfInBounds_toArray,List.set_cons_zero,List.set_cons_succ])
            refine wpAnyH_take (i:=4) (v:=?_) rfl (by kernel_rfl) (by kernel_rfl) (by kernel_rfl) (fun _ _ _ h=>h) (Or.inl ⟨by rfl, ?_⟩) (by assumption) ?_
            rotate_left
            (focus (intro w hSw;(try dsimp only at hSw);go_simp;(try with_reducible rfl)))
            (try simp only [Act.put,List.setIfInBounds_toArray,List.set_cons_zero,List.set_cons_succ])
            refine wpAnyH_take (i:=5) (v:=?_) rfl (by kernel_rfl) (by kernel_rfl) (by kernel_rfl) (fun _ _ _ h=>h) (Or.inl ⟨by rfl, ?_⟩) (by assumption) ?_
            rotate_left
            (focus (intro w hSw;(try dsimp only at hSw);go_simp;(try with_reducible rfl)))
            (try simp only [Act.put,List.setIfInBounds_toArray,List.set_cons_zero,List.set_cons_succ])
            refine wpAnyH_take (i:=6) (v:=?_) rfl (by kernel_rfl) (by kernel_rfl) (by kernel_rfl) (fun _ _ _ h=>h) (Or.inl ⟨by rfl, ?_⟩) (by assumption) ?_
            rotate_left
            (focus (intro w hSw;(try dsimp only at hSw);go_simp;(try with_reducible rfl)))
            (try simp only [Act.put,List.setIfInBounds_toArray,List.set_cons_zero,List.set_cons_succ])
            refine wpAnyH_take (i:=7) (v:=?_) rfl (by kernel_rfl) (by kernel_rfl) (by kernel_rfl) (fun _ _ _ h=>h) (Or.inl ⟨by rfl, ?_⟩) (by assumption) ?_
            rotate_left
            (focus (intro w hSw;(try dsimp only at hSw);go_simp;(try with_reducible rfl)))
            (try simp only [Act.put,List.setIfInBounds_toArray,List.set_cons_zero,List.set_cons_succ])
            refine wpAnyH_take (i:=8) (v:=?_) rfl (by kernel_rfl) (by kernel_rfl) (by kernel_rfl) (fun _ _ _ h=>h) (Or.inl ⟨by rfl, ?_⟩) (by assumption) ?_
            rotate_left
            (focus (intro w hSw;(try dsimp only at hSw);go_simp;(try with_reducible rfl)))
            (try simp only [Act.put,List.setIfInBounds_toArray,List.set_cons_zero,List.set_cons_succ])
            refine wpAnyH_take (i:=9) (v:=?_) rfl (by kernel_rfl) (by kernel_rfl) (by kernel_rfl) (fun _ _ _ h=>h) (Or.inl ⟨by rfl, ?_⟩) (by assumption) ?_
            rotate_left
            (focus (intro w hSw;(try dsimp only at hSw);go_simp;(try with_reducible rfl)))
            (try simp only [Act.put,List.setIfInBounds_toArray,List.set_cons_zero,List.set_cons_succ])
            refine wpAnyH_take (i:=10) (v:=?_) rfl (by kernel_rfl) (by kernel_rfl) (by kernel_rfl) (fun _ _ _ h=>h) (Or.inl ⟨by rfl, ?_⟩) (by assumption) ?_
            rotate_left
            (focus (intro w hSw;(try dsimp only at hSw);go_simp;(try with_reducible rfl)))
            (try simp only [Act.put,List.setIfInBounds_toArray,List.set_cons_zero,List.set_cons_succ])
            refine wpAnyH_take (i:=11) (v:=?_) rfl (by kernel_rfl) (by kernel_rfl) (by kernel_rfl) (fun _ _ _ h=>h) (Or.inl ⟨by rfl, ?_⟩) (by assumption) ?_
            rotate_left
            (focus (intro w hSw;(try dsimp only at hSw);go_simp;(try with_reducible rfl)))
            (try simp only [Act.put,List.setIfInBounds_toArray,List.set_cons_zero,List.set_cons_succ])
            refine wpAnyH_take (i:=12) (v:=?_) rfl (by kernel_rfl) (by kernel_rfl) (by kernel_rfl) (fun _ _ _ h=>h) (Or.inl ⟨by rfl, ?_⟩) (by assumption) ?_
            rotate_left
            (focus (intro w hSw;(try dsimp only at hSw);go_simp;(try with_reducible rfl)))
            (try simp only [Act.put,List.setIfInBounds_toArray,List.set_cons_zero,List.set_cons_succ])
            refine wpAnyH_take (i:=14) (v:=?_) rfl (by kernel_rfl) (by kernel_rfl) (by kernel_rfl) (fun _ _ _ h=>h) (Or.inl ⟨by rfl, ?_⟩) (by assumption) ?_
            rotate_left
            (focus (intro w hSw;(try dsimp only at hSw);go_simp;(try with_reducible rfl)))
            (try simp only [Act.put,List.setIfInBounds_toArray,List.set_cons_zero,List.set_cons_succ])
            refine wpAnyH_ready (rs:=[13,15]) (by kernel_rfl) (by simp) ?_
            refine AllReadyH.cons rfl (fun K hK=>?_) (AllReadyH.cons rfl (fun K hK=>?_) AllReadyH.nil)
            ·(have tok13 : True:=trivial;clear tok13;go_simp)
             refine hK.out _ _ ⟨e1,cw0,cw1⟩ (fun hHeld=>?_)
             clear hK K
             (try simp only [Act.put,List.setIfInBounds_toArray,List.set_cons_zero,List.set_cons_succ])
             refine wpAnyH_ready (rs:=[15]) (by kernel_rfl) (by simp) ?_
             refine AllReadyH.cons (by rw [List.getElem?_toArray];exact rfl) (fun K hK=>?_) AllReadyH.nil
             (have tok15 : True:=trivial;clear tok15;go_simp)
             refine hK.out _ _ ?_ (fun hHeld=>?_)
             (focus (first | (first | (go_keep;done) | (simp [go_sem];done) | ((try dsimp only);(repeat' apply And.intro) <;> (first | (with_reducible assumption) | ((rw [World.cell?_alloc_lt _ _ _ (by show _ < _;omega)]);go_split_ands;(first | with_reducible assumption | (refine (World.cell?_alloc_lt _ _ _ (by show _ < _;omega)).symm.trans ?_;with_reducible assumption))) | ((rw [World.cell?_setCell_other _ _ _ _ (by intro e;injection e;omega)]);with_reducible assumption) | (go_keep;done) | (simp [go_sem];done) | (simp (disch:=go_size) [*,World.cell?_alloc_some,World.cell?_setCell_far];done))))))
             clear hK K
             (try simp only [Act.put,List.setIfInBounds_toArray,List.set_cons_zero,List.set_cons_succ])
             refine wpAnyH_ready (rs:=[16]) (by kernel_rfl) (by simp) ?_
             refine AllReadyH.cons (by rw [List.getElem?_toArray];exact rfl) (fun K hK=>?_) AllReadyH.nil
             (refine step_pushR rfl _ _ 54 52 2 16 (.agg #[.int .i64 0,.int .i64 0]) rfl Tryd.underlying54 info_way rfl (by decide) _ (3 + an) u2 ln (wcs ((W).getD an [])) rfl (by first | with_reducible exact (hrow.alloc _).drew | with_reducible exact hrow.alloc _ | with_reducible exact hrow.drew.alloc _) ⟨_,0,none⟩ 1 1 [.int .i64 z1,.int .i64 z2] rfl rfl (by first | with_reducible exact news_newd _ _ _ _ | with_reducible exact news_new _ _ _ _) (two_cells _ _) (by decide) (by omega) (by unfold maxLen;omega) ?_;intro g5 cap5 w9 hr5 ht5 hlt5;have hh5:=Lb.turn (l:=1) (g:=g) (t:=54) (by first | with_reducible exact ((HM4.out).lw.alloc _).drew | with_reducible exact (HM4.out).lw.alloc _ | with_reducible exact (HM4.out).lw.drew.alloc _) ht5 (by show ¬ (1 = _);omega);have c5:=hh5.1.cell an HVAL.out;have f5:=hh5.1.frozen an;(have AT9:=At.turn (S:=(· = 3 + an)) (by first | with_reducible exact (HA4.out.alloc _).drew | with_reducible exact HA4.out.alloc _ | with_reducible exact HA4.out.drew.alloc _ : At _ b1 (p1 + t * 8) (InsD.cs ⟨op,(an : Int),tx,ng,hi,lo,sc,dy⟩)) ht5 hno;have e91 : w9.cell? ⟨b1,p1 + t * 8 + 1,none⟩ = some (.int .i64 (an : Int)):=AT9.ins.2.1;have hw9:=Lb.turn (l:=2) (g:=bw) (t:=52) (by first | with_reducible exact (LW4.out.alloc _).drew | with_reducible exact LW4.out.alloc _ | with_reducible exact LW4.out.drew.alloc _) ht5 (by show ¬ (2 = _);omega);have cw90:=hw9.1.cell 0 rfl;have cw91:=hw9.1.cell 1 rfl))
             refine hK.out _ _ ⟨e91,cw90,cw91⟩ (fun hHeld=>?_)
             clear hK K
             (try simp only [Act.put,List.setIfInBounds_toArray,List.set_cons_zero,List.set_cons_succ])
             refine wpAnyH_take (i:=17) (v:=?_) rfl (by kernel_rfl) (by kernel_rfl) (by kernel_rfl) (fun _ _ _ h=>h) (Or.inl ⟨by rfl, ?_⟩) (by assumption) ?_
             rotate_left
             (focus (intro w hSw;(try dsimp only at hSw);go_simp;(try with_reducible rfl)))
             (try simp only [Act.put,List.setIfInBounds_toArray,List.set_cons_zero,List.set_cons_succ])
             refine wpAnyH_ready (rs:=[18]) (by kernel_rfl) (by simp) ?_
             refine AllReadyH.cons (by rw [List.getElem?_toArray];exact rfl) (fun K hK=>?_) AllReadyH.nil
             (have tok18 : True:=trivial;clear tok18;go_simp)
             refine hK.out _ _ ⟨(World.cell?_setCell_far _ _ _ _ hg1).trans e91,(World.cell?_setCell_far _ _ _ _ hg2).trans cw90,(World.cell?_setCell_far _ _ _ _ hg2).trans cw91⟩ (fun hHeld=>?_)
             clear hK K
             (try simp only [Act.put,List.setIfInBounds_toArray,List.set_cons_zero,List.set_cons_succ])
             refine wpAnyH_done (by kernel_rfl) ?_ _
             go_wp2_with fail
             go_meet
             case rel =>
              rw [HLNE.out] at hr5
              (first | (have hpush:=Wym.push (x:=(z1,z2)) ((HM4.out.alloc _).drew) ht1 ht5 hr5) | (have hpush:=Wym.push (x:=(z1,z2)) (HM4.out.alloc _) ht1 ht5 hr5) | (have hpush:=Wym.push (x:=(z1,z2)) (HM4.out.drew.alloc _) ht1 ht5 hr5))
              rw [← HLNE.out] at hpush
              have HPU:=Lib.hid hpush
              have HW9:=Lib.hid (hw9.far (p:=⟨g,an,none⟩) (by show _ ≠ 2;rw [hh5.2];decide) (.slice (some ⟨g5,0,none⟩) (ln + 1) cap5))
              have HA9:=Lib.hid (AT9.far (p:=⟨g,an,none⟩) (Ne.symm hg1) (.slice (some ⟨g5,0,none⟩) (ln + 1) cap5))
              have HWE : Hid (put W an (z1,z2) = if isJ op = true then put W ((an : Int).toNat) (z1,z2) else W):=Lib.hid (by rw [hat,hj];rfl)
              have HBE : Hid (isJ op = true → (t : Int) < (an : Int) ∧ (an : Int) ≤ is.length):=Lib.hid (fun _=>⟨hb1,hb2⟩)
              exact ⟨_,_,_,rfl,HPU,HWE,HBE,HW9,HA9⟩
            ·(have tok15 : True:=trivial;clear tok15;go_simp)
             refine hK.out _ _ ?_ (fun hHeld=>?_)
             (focus (first | (first | (go_keep;done) | (simp [go_sem];done) | ((try dsimp only);(repeat' apply And.intro) <;> (first | (with_reducible assumption) | ((rw [World.cell?_alloc_lt _ _ _ (by show _ < _;omega)]);go_split_ands;(first | with_reducible assumption | (refine (World.cell?_alloc_lt _ _ _ (by show _ < _;omega)).symm.trans ?_;with_reducible assumption))) | ((rw [World.cell?_setCell_other _ _ _ _ (by intro e;injection e;omega)]);with_reducible assumption) | (go_keep;done) | (simp [go_sem];done) | (simp (disch:=go_size) [*,World.cell?_alloc_some,World.cell?_setCell_far];done))))))
             clear hK K
             (try simp only [Act.put,List.setIfInBounds_toArray,List.set_cons_zero,List.set_cons_succ])
             refine wpAnyH_ready (rs:=[13]) (by kernel_rfl) (by simp) ?_
             refine AllReadyH.cons (by rw [List.getElem?_toArray];exact rfl) (fun K hK=>?_) AllReadyH.nil
             (have tok13 : True:=trivial;clear tok13;go_simp)
             refine hK.out _ _ ?_ (fun hHeld=>?_)
             (focus (first | (first | (go_keep;done) | (simp [go_sem];done) | ((try dsimp only);(repeat' apply And.intro) <;> (first | (with_reducible assumption) | ((rw [World.cell?_alloc_lt _ _ _ (by show _ < _;omega)]);go_split_ands;(first | with_reducible assumption | (refine (World.cell?_alloc_lt _ _ _ (by show _ < _;omega)).symm.trans ?_;with_reducible assumption))) | ((rw [World.cell?_setCell_other _ _ _ _ (by intro e;injection e;omega)]);with_reducible assumption) | (go_keep;done) | (simp [go_sem];done) | (simp (disch:=go_size) [*,World.cell?_alloc_some,World.cell?_setCell_far];done))))))
             clear hK K
             (try simp only [Act.put,List.setIfInBounds_toArray,List.set_cons_zero,List.set_cons_succ])
             refine wpAnyH_ready (rs:=[16]) (by kernel_rfl) (by simp) ?_
             refine AllReadyH.cons (by rw [List.getElem?_toArray];exact rfl) (fun K hK=>?_) AllReadyH.nil
             (refine step_pushR rfl _ _ 54 52 2 16 (.agg #[.int .i64 0,.int .i64 0]) rfl Tryd.underlying54 info_way rfl (by decide) _ (3 + an) u2 ln (wcs ((W).getD an [])) rfl (by first | with_reducible exact (hrow.alloc _).drew | with_reducible exact hrow.alloc _ | with_reducible exact hrow.drew.alloc _) ⟨_,0,none⟩ 1 1 [.int .i64 z1,.int .i64 z2] rfl rfl (by first | with_reducible exact news_newd _ _ _ _ | with_reducible exact news_new _ _ _ _) (two_cells _ _) (by decide) (by omega) (by unfold maxLen;omega) ?_;intro g5 cap5 w9 hr5 ht5 hlt5;have hh5:=Lb.turn (l:=1) (g:=g) (t:=54) (by first | with_reducible exact ((HM4.out).lw.alloc _).drew | with_reducible exact (HM4.out).lw.alloc _ | with_reducible exact (HM4.out).lw.drew.alloc _) ht5 (by show ¬ (1 = _);omega);have c5:=hh5.1.cell an HVAL.out;have f5:=hh5.1.frozen an;(have AT9:=At.turn (S:=(· = 3 + an)) (by first | with_reducible exact (HA4.out.alloc _).drew | with_reducible exact HA4.out.alloc _ | with_reducible exact HA4.out.drew.alloc _ : At _ b1 (p1 + t * 8) (InsD.cs ⟨op,(an : Int),tx,ng,hi,lo,sc,dy⟩)) ht5 hno;have e91 : w9.cell? ⟨b1,p1 + t * 8 + 1,none⟩ = some (.int .i64 (an : Int)):=AT9.ins.2.1;have hw9:=Lb.turn (l:=2) (g:=bw) (t:=52) (by first | with_reducible exact (LW4.out.alloc _).drew | with_reducible exact LW4.out.alloc _ | with_reducible exact LW4.out.drew.alloc _) ht5 (by show ¬ (2 = _);omega);have cw90:=hw9.1.cell 0 rfl;have cw91:=hw9.1.cell 1 rfl))
             refine hK.out _ _ ⟨e91,cw90,cw91⟩ (fun hHeld=>?_)
             clear hK K
             (try simp only [Act.put,List.setIfInBounds_toArray,List.set_cons_zero,List.set_cons_succ])
             refine wpAnyH_take (i:=17) (v:=?_) rfl (by kernel_rfl) (by kernel_rfl) (by kernel_rfl) (fun _ _ _ h=>h) (Or.inl ⟨by rfl, ?_⟩) (by assumption) ?_
             rotate_left
             (focus (intro w hSw;(try dsimp only at hSw);go_simp;(try with_reducible rfl)))
             (try simp only [Act.put,List.setIfInBounds_toArray,List.set_cons_zero,List.set_cons_succ])
             refine wpAnyH_ready (rs:=[18]) (by kernel_rfl) (by simp) ?_
             refine AllReadyH.cons (by rw [List.getElem?_toArray];exact rfl) (fun K hK=>?_) AllReadyH.nil
             (have tok18 : True:=trivial;clear tok18;go_simp)
             refine hK.out _ _ ⟨(World.cell?_setCell_far _ _ _ _ hg1).trans e91,(World.cell?_setCell_far _ _ _ _ hg2).trans cw90,(World.cell?_setCell_far _ _ _ _ hg2).trans cw91⟩ (fun hHeld=>?_)
             clear hK K
             (try simp only [Act.put,List.setIfInBounds_toArray,List.set_cons_zero,List.set_cons_succ])
             refine wpAnyH_done (by kernel_rfl) ?_ _
             go_wp2_with fail
             go_meet
             case rel =>
              rw [HLNE.out] at hr5
              (first | (have hpush:=Wym.push (x:=(z1,z2)) ((HM4.out.alloc _).drew) ht1 ht5 hr5) | (have hpush:=Wym.push (x:=(z1,z2)) (HM4.out.alloc _) ht1 ht5 hr5) | (have hpush:=Wym.push (x:=(z1,z2)) (HM4.out.drew.alloc _) ht1 ht5 hr5))
              rw [← HLNE.out] at hpush
              have HPU:=Lib.hid hpush
              have HW9:=Lib.hid (hw9.far (p:=⟨g,an,none⟩) (by show _ ≠ 2;rw [hh5.2];decide) (.slice (some ⟨g5,0,none⟩) (ln + 1) cap5))
              have HA9:=Lib.hid (AT9.far (p:=⟨g,an,none⟩) (Ne.symm hg1) (.slice (some ⟨g5,0,none⟩) (ln + 1) cap5))
              have HWE : Hid (put W an (z1,z2) = if isJ op = true then put W ((an : Int).toNat) (z1,z2) else W):=Lib.hid (by rw [hat,hj];rfl)
              have HBE : Hid (isJ op = true → (t : Int) < (an : Int) ∧ (an : Int) ≤ is.length):=Lib.hid (fun _=>⟨hb1,hb2⟩)
              exact ⟨_,_,_,rfl,HPU,HWE,HBE,HW9,HA9⟩
           ·have hr : (0,2) = R:=by rw [← HVG3.out,dGo_out HH.out hj hb]
            subst hr
            have hb2 : a ≤ t ∨ (is.length : Int) < a:=by omega
            clear hb
            rcases hb2 with hb2 | hb2
            ·go_wp2_with fail
             go_ret2
             exact ⟨rfl,by (repeat' first|(with_reducible first|exact blR _ _|assumption|refine blD ?_|refine blN ?_ _)|((with_reducible first|refine blA ?_ ?_ _|refine blS ?_ ?_ _|refine blT (by assumption) ?_ ?_);focus (go_size;done)))⟩
            ·have hb3 : ¬ a ≤ t:=by omega
             go_wp2_with fail
             go_ret2
             exact ⟨rfl,by (repeat' first|(with_reducible first|exact blR _ _|assumption|refine blD ?_|refine blN ?_ _)|((with_reducible first|refine blA ?_ ?_ _|refine blS ?_ ?_ _|refine blT (by assumption) ?_ ?_);focus (go_size;done)))⟩
         case rest =>
          obtain ⟨o5,vs1,W1,rfl,HM5,HW1,HJB,LW5,HA5⟩:=hcut
          obtain ⟨w5,rfl⟩ : ∃ w5 : World,w5 = wc:=⟨_,rfl⟩
          have hgo:=dGo_go (n:=is.length) (f:=0) (m:=m) (r:=(pairs is).drop (t + 1)) HH.out HZ.out hcc.out HJB.out
          rw [HVG3.out] at hgo
          unfold wStep at hgo
          dsimp only at hgo
          rw [haf.out,← HW1.out,← HM2.out] at hgo
          have HGO:=Lib.hid hgo
          have HLN1 : Hid (List.length W1 = is.length + 1):=Lib.hid (by rw [HW1.out];have:=HLN.out;split <;> simp [put_length,this])
          have HBD1 : Hid (∀ k x,x ∈ W1.getD k [] → InB (t + 1) x):=Lib.hid (fun k x hx=>by
           rw [HW1.out] at hx
           split at hx
           ·rename_i hj
            have:=HJB.out hj
            rcases put_mem (by have:=HLN.out;omega) hx with rfl | hx
            ·exact HIN.out
            ·exact (HBD.out k x hx).up
           ·exact (HBD.out k x hx).up)
          have HLW1 : Hid (∀ k,(W1.getD k []).length ≤ 2 * t + 2):=Lib.hid (fun k=>by
           rw [HW1.out]
           split
           ·rename_i hj
            have:=HJB.out hj
            exact put_len (by have:=HLN.out;omega) (HLW.out k)
           ·have:=HLW.out k;omega)
          obtain ⟨e0,e1,-⟩:=HA5.out.ins
          dsimp only at e0 e1
          have l1 : b1 < w5.heap.size:=cell_lt2 e0
          have hbl:=HM5.out.below
          have hle:=hbl.size
          have l3 : g < w5.heap.size:=HM5.out.lw.1.lt
          clear hgo HVG3 HH HZ hcc haf HW1 HJB HM2 HM4 LW4 HA4 HBD HLW HLN HT HMB
          by_cases q1 : op = 101
          ·have q2 : (op != 101) = false:=by rw [bne_eq_false_iff_eq];exact q1
           have hgo:=HGO.out
           rw [if_pos q1] at hgo
           have HG2:=Lib.hid hgo.symm
           clear hgo HGO q1
           go_wp2_with fail
           go_roundg (gk - 1)
           case measure=>have:=HK.out;omega
           case rel=>exact ⟨t + 1,m2,o5,vs1,W1,by have:=HK.out;omega,by go_num,rfl,HM5,HLN1,HBD1,Lib.hid (fun k=>by have:=HLW1.out k;omega),HMX,HG2⟩
          ·have q2 : (op != 101) = true:=by rw [bne_iff_ne];exact q1
           have hgo:=HGO.out
           rw [if_neg q1] at hgo
           have HG2:=Lib.hid hgo.symm
           clear hgo HGO q1
           obtain ⟨t1,htt⟩ : ∃ t1,t1 = t + 1:=⟨_,rfl⟩
           have ht1 : t1 < W1.length:=by have:=HLN1.out;omega
           have hwt : IntKind.i64.wrap ((t : Int) + 1) = (t1 : Int):=by rw [IntKind.wrap_i64];omega
           have hd0 : (0 : Int) ≤ (t1 : Int):=by omega
           have hd1 : (t1 : Int) < (is.length : Int) + 1:=by omega
           have HTT:=Lib.hid htt
           have tokh : (0 : Int) = 0:=rfl
           clear tokh htt
           have c9:=(HM5.out).cell ht1
           have hrow:=(HM5.out).rows t1 ht1
           have hval:=(HM5.out).val ht1
           have hlen : ((W1).getD t1 []).length ≤ 2000:=by have:=HLW1.out t1;omega
           obtain ⟨u2,hu2⟩ : ∃ u2,u2 = (vs1).getD t1 undef:=⟨_,rfl⟩
           rw [← hu2] at c9 hrow hval
           obtain ⟨ln,hln⟩ : ∃ ln,ln = ((W1).getD t1 []).length:=⟨_,rfl⟩
           rw [← hln] at hrow hlen
           have HLNE:=Lib.hid hln
           have HVAL:=Lib.hid hval
           have cw0:=(LW5.out).1.cell 0 rfl
           have cw1:=(LW5.out).1.cell 1 rfl
           have lw2:=(LW5.out).1.lt
           clear hu2 hln hval
           have hg2 : g ≠ bw:=by
            rintro rfl
            have q1:=LW5.out.2
            have q2:=HM5.out.lw.2
            omega
           go_wp2_with fail
           refine wp_region_held_drew (S:=fun w'=>w'.cell? ⟨bw,0,none⟩ = some (.int .i64 z1) ∧ w'.cell? ⟨bw,1,none⟩ = some (.int .i64 z2)) (by kernel_rfl) ⟨cw0,cw1⟩ (fun hHeld=>?_)
           refine wpAnyH_take (i:=0) (v:=?_) rfl (by kernel_rfl) (by kernel_rfl) (by kernel_rfl) (fun _ _ _ h=>h) (Or.inl ⟨by rfl, ?_⟩) (by assumption) ?_
           rotate_left
           (focus (intro w hSw;(try dsimp only at hSw);go_simp;(try with_reducible rfl)))
           (try simp only [Act.put,List.setIfInBounds_toArray,List.set_cons_zero,List.set_cons_succ])
           refine wpAnyH_take (i:=1) (v:=?_) rfl (by kernel_rfl) (by kernel_rfl) (by kernel_rfl) (fun _ _ _ h=>h) (Or.inl ⟨by rfl, ?_⟩) (by assumption) ?_
           rotate_left
           (focus (intro w hSw;(try dsimp only at hSw);go_simp;(try with_reducible rfl)))
           (try simp only [Act.put,List.setIfInBounds_toArray,List.set_cons_zero,List.set_cons_succ])
           refine wpAnyH_take (i:=2) (v:=?_) rfl (by kernel_rfl) (by kernel_rfl) (by kernel_rfl) (fun _ _ _ h=>h) (Or.inl ⟨by rfl, ?_⟩) (by assumption) ?_
           rotate_left
           (focus (intro w hSw;(try dsimp only at hSw);go_simp;(try with_reducible rfl)))
           (try simp only [Act.put,List.setIfInBounds_toArray,List.set_cons_zero,List.set_cons_succ])
           refine wpAnyH_take (i:=3) (v:=?_) rfl (by kernel_rfl) (by kernel_rfl) (by kernel_rfl) (fun _ _ _ h=>h) (Or.inl ⟨by rfl, ?_⟩) (by assumption) ?_
           rotate_left
           (focus (intro w hSw;(try dsimp only at hSw);go_simp;(try with_reducible rfl)))
           (try simp only [Act.put,List.setIfInBounds_toArray,List.set_cons_zero,List.set_cons_succ])
           refine wpAnyH_take (i:=4) (v:=?_) rfl (by kernel_rfl) (by kernel_rfl) (by kernel_rfl) (fun _ _ _ h=>h) (Or.inl ⟨by rfl, ?_⟩) (by assumption) ?_
           rotate_left
           (focus (intro w hSw;(try dsimp only at hSw);go_simp;(try with_reducible rfl)))
           (try simp only [Act.put,List.setIfInBounds_toArray,List.set_cons_zero,List.set_cons_succ])
           refine wpAnyH_take (i:=5) (v:=?_) rfl (by kernel_rfl) (by kernel_rfl) (by kernel_rfl) (fun _ _ _ h=>h) (Or.inl ⟨by rfl, ?_⟩) (by assumption) ?_
           rotate_left
           (focus (intro w hSw;(try dsimp only at hSw);go_simp;(try with_reducible rfl)))
           (try simp only [Act.put,List.setIfInBounds_toArray,List.set_cons_zero,List.set_cons_succ])
           refine wpAnyH_take (i:=6) (v:=?_) rfl (by kernel_rfl) (by kernel_rfl) (by kernel_rfl) (fun _ _ _ h=>h) (Or.inl ⟨by rfl, ?_⟩) (by assumption) ?_
           rotate_left
           (focus (intro w hSw;(try dsimp only at hSw);go_simp;(try with_reducible rfl)))
           (try simp only [Act.put,List.setIfInBounds_toArray,List.set_cons_zero,List.set_cons_succ])
           refine wpAnyH_take (i:=8) (v:=?_) rfl (by kernel_rfl) (by kernel_rfl) (by kernel_rfl) (fun _ _ _ h=>h) (Or.inl ⟨by rfl, ?_⟩) (by assumption) ?_
           rotate_left
           (focus (intro w hSw;(try dsimp only at hSw);go_simp;(try with_reducible rfl)))
           (try simp only [Act.put,List.setIfInBounds_toArray,List.set_cons_zero,List.set_cons_succ])
           refine wpAnyH_ready (rs:=[7,9]) (by kernel_rfl) (by simp) ?_
           refine AllReadyH.cons rfl (fun K hK=>?_) (AllReadyH.cons rfl (fun K hK=>?_) AllReadyH.nil)
           ·(have tok7 : True:=trivial;clear tok7;go_simp)
            refine hK.out _ _ ⟨cw0,cw1⟩ (fun hHeld=>?_)
            clear hK K
            (try simp only [Act.put,List.setIfInBounds_toArray,List.set_cons_zero,List.set_cons_succ])
            refine wpAnyH_ready (rs:=[9]) (by kernel_rfl) (by simp) ?_
            refine AllReadyH.cons (by rw [List.getElem?_toArray];exact rfl) (fun K hK=>?_) AllReadyH.nil
            (have tok9 : True:=trivial;clear tok9;go_simp)
            refine hK.out _ _ ?_ (fun hHeld=>?_)
            (focus (first | (first | (go_keep;done) | (simp [go_sem];done) | ((try dsimp only);(repeat' apply And.intro) <;> (first | (with_reducible assumption) | ((rw [World.cell?_alloc_lt _ _ _ (by show _ < _;omega)]);go_split_ands;(first | with_reducible assumption | (refine (World.cell?_alloc_lt _ _ _ (by show _ < _;omega)).symm.trans ?_;with_reducible assumption))) | ((rw [World.cell?_setCell_other _ _ _ _ (by intro e;injection e;omega)]);with_reducible assumption) | (go_keep;done) | (simp [go_sem];done) | (simp (disch:=go_size) [*,World.cell?_alloc_some,World.cell?_setCell_far];done))))))
            clear hK K
            (try simp only [Act.put,List.setIfInBounds_toArray,List.set_cons_zero,List.set_cons_succ])
            refine wpAnyH_ready (rs:=[10]) (by kernel_rfl) (by simp) ?_
            refine AllReadyH.cons (by rw [List.getElem?_toArray];exact rfl) (fun K hK=>?_) AllReadyH.nil
            (refine step_pushR rfl _ _ 54 52 2 16 (.agg #[.int .i64 0,.int .i64 0]) rfl Tryd.underlying54 info_way rfl (by decide) _ (3 + t1) u2 ln (wcs ((W1).getD t1 [])) rfl (by first | with_reducible exact (hrow.alloc _).drew | with_reducible exact hrow.alloc _ | with_reducible exact hrow.drew.alloc _) ⟨_,0,none⟩ 1 1 [.int .i64 z1,.int .i64 z2] rfl rfl (by first | with_reducible exact news_newd _ _ _ _ | with_reducible exact news_new _ _ _ _) (two_cells _ _) (by decide) (by omega) (by unfold maxLen;omega) ?_;intro g5 cap5 w9 hr5 ht5 hlt5;have hh5:=Lb.turn (l:=1) (g:=g) (t:=54) (by first | with_reducible exact ((HM5.out).lw.alloc _).drew | with_reducible exact (HM5.out).lw.alloc _ | with_reducible exact (HM5.out).lw.drew.alloc _) ht5 (by show ¬ (1 = _);omega);have c5:=hh5.1.cell t1 HVAL.out;have f5:=hh5.1.frozen t1;(have hw9:=Lb.turn (l:=2) (g:=bw) (t:=52) (by first | with_reducible exact (LW5.out.alloc _).drew | with_reducible exact LW5.out.alloc _ | with_reducible exact LW5.out.drew.alloc _) ht5 (by show ¬ (2 = _);omega);have cw90:=hw9.1.cell 0 rfl;have cw91:=hw9.1.cell 1 rfl))
            refine hK.out _ _ ⟨cw90,cw91⟩ (fun hHeld=>?_)
            clear hK K
            (try simp only [Act.put,List.setIfInBounds_toArray,List.set_cons_zero,List.set_cons_succ])
            refine wpAnyH_take (i:=11) (v:=?_) rfl (by kernel_rfl) (by kernel_rfl) (by kernel_rfl) (fun _ _ _ h=>h) (Or.inl ⟨by rfl, ?_⟩) (by assumption) ?_
            rotate_left
            (focus (intro w hSw;(try dsimp only at hSw);go_simp;(try with_reducible rfl)))
            (try simp only [Act.put,List.setIfInBounds_toArray,List.set_cons_zero,List.set_cons_succ])
            refine wpAnyH_ready (rs:=[12]) (by kernel_rfl) (by simp) ?_
            refine AllReadyH.cons (by rw [List.getElem?_toArray];exact rfl) (fun K hK=>?_) AllReadyH.nil
            (have tok12 : True:=trivial;clear tok12;go_simp)
            refine hK.out _ _ ⟨(World.cell?_setCell_far _ _ _ _ hg2).trans cw90,(World.cell?_setCell_far _ _ _ _ hg2).trans cw91⟩ (fun hHeld=>?_)
            clear hK K
            (try simp only [Act.put,List.setIfInBounds_toArray,List.set_cons_zero,List.set_cons_succ])
            refine wpAnyH_done (by kernel_rfl) ?_ _
            go_wp2_with fail
            go_roundg (gk - 1)
            case measure=>have:=HK.out;omega
            case rel =>
             rw [HLNE.out] at hr5
             (first | (have hpush:=Wym.push (x:=(z1,z2)) ((HM5.out.alloc _).drew) ht1 ht5 hr5) | (have hpush:=Wym.push (x:=(z1,z2)) (HM5.out.alloc _) ht1 ht5 hr5) | (have hpush:=Wym.push (x:=(z1,z2)) (HM5.out.drew.alloc _) ht1 ht5 hr5))
             rw [← HLNE.out] at hpush
             have HPU:=Lib.hid hpush
             have HL2 : Hid ((put W1 t1 (z1,z2)).length = is.length + 1):=Lib.hid (by rw [put_length];exact HLN1.out)
             have HB2 : Hid (∀ k x,x ∈ (put W1 t1 (z1,z2)).getD k [] → InB (t + 1) x):=Lib.hid (fun k x hx=>by
              rcases put_mem ht1 hx with rfl | hx
              ·exact HIN.out
              ·exact HBD1.out k x hx)
             have HW2 : Hid (∀ k,((put W1 t1 (z1,z2)).getD k []).length ≤ 2 * (t + 1) + 1):=Lib.hid (fun k=>put_len ht1 (HLW1.out k))
             exact ⟨t + 1,m2,_,_,put W1 t1 (z1,z2),by have:=HK.out;omega,by (have e9:=HTT.out;subst e9;first | rfl | go_num),rfl,HPU,HL2,HB2,HW2,HMX,Lib.hid (by rw [HTT.out];exact HG2.out)⟩
           ·(have tok9 : True:=trivial;clear tok9;go_simp)
            refine hK.out _ _ ?_ (fun hHeld=>?_)
            (focus (first | (first | (go_keep;done) | (simp [go_sem];done) | ((try dsimp only);(repeat' apply And.intro) <;> (first | (with_reducible assumption) | ((rw [World.cell?_alloc_lt _ _ _ (by show _ < _;omega)]);go_split_ands;(first | with_reducible assumption | (refine (World.cell?_alloc_lt _ _ _ (by show _ < _;omega)).symm.trans ?_;with_reducible assumption))) | ((rw [World.cell?_setCell_other _ _ _ _ (by intro e;injection e;omega)]);with_reducible assumption) | (go_keep;done) | (simp [go_sem];done) | (simp (disch:=go_size) [*,World.cell?_alloc_some,World.cell?_setCell_far];done))))))
            clear hK K
            (try simp only [Act.put,List.setIfInBounds_toArray,List.set_cons_zero,List.set_cons_succ])
            refine wpAnyH_ready (rs:=[7]) (by kernel_rfl) (by simp) ?_
            refine AllReadyH.cons (by rw [List.getElem?_toArray];exact rfl) (fun K hK=>?_) AllReadyH.nil
            (have tok7 : True:=trivial;clear tok7;go_simp)
            refine hK.out _ _ ?_ (fun hHeld=>?_)
            (focus (first | (first | (go_keep;done) | (simp [go_sem];done) | ((try dsimp only);(repeat' apply And.intro) <;> (first | (with_reducible assumption) | ((rw [World.cell?_alloc_lt _ _ _ (by show _ < _;omega)]);go_split_ands;(first | with_reducible assumption | (refine (World.cell?_alloc_lt _ _ _ (by show _ < _;omega)).symm.trans ?_;with_reducible assumption))) | ((rw [World.cell?_setCell_other _ _ _ _ (by intro e;injection e;omega)]);with_reducible assumption) | (go_keep;done) | (simp [go_sem];done) | (simp (disch:=go_size) [*,World.cell?_alloc_some,World.cell?_setCell_far];done))))))
            clear hK K
            (try simp only [Act.put,List.setIfInBounds_toArray,List.set_cons_zero,List.set_cons_succ])
            refine wpAnyH_ready (rs:=[10]) (by kernel_rfl) (by simp) ?_
            refine AllReadyH.cons (by rw [List.getElem?_toArray];exact rfl) (fun K hK=>?_) AllReadyH.nil
            (refine step_pushR rfl _ _ 54 52 2 16 (.agg #[.int .i64 0,.int .i64 0]) rfl Tryd.underlying54 info_way rfl (by decide) _ (3 + t1) u2 ln (wcs ((W1).getD t1 [])) rfl (by first | with_reducible exact (hrow.alloc _).drew | with_reducible exact hrow.alloc _ | with_reducible exact hrow.drew.alloc _) ⟨_,0,none⟩ 1 1 [.int .i64 z1,.int .i64 z2] rfl rfl (by first | with_reducible exact news_newd _ _ _ _ | with_reducible exact news_new _ _ _ _) (two_cells _ _) (by decide) (by omega) (by unfold maxLen;omega) ?_;intro g5 cap5 w9 hr5 ht5 hlt5;have hh5:=Lb.turn (l:=1) (g:=g) (t:=54) (by first | with_reducible exact ((HM5.out).lw.alloc _).drew | with_reducible exact (HM5.out).lw.alloc _ | with_reducible exact (HM5.out).lw.drew.alloc _) ht5 (by show ¬ (1 = _);omega);have c5:=hh5.1.cell t1 HVAL.out;have f5:=hh5.1.frozen t1;(have hw9:=Lb.turn (l:=2) (g:=bw) (t:=52) (by first | with_reducible exact (LW5.out.alloc _).drew | with_reducible exact LW5.out.alloc _ | with_reducible exact LW5.out.drew.alloc _) ht5 (by show ¬ (2 = _);omega);have cw90:=hw9.1.cell 0 rfl;have cw91:=hw9.1.cell 1 rfl))
            refine hK.out _ _ ⟨cw90,cw91⟩ (fun hHeld=>?_)
            clear hK K
            (try simp only [Act.put,List.setIfInBounds_toArray,List.set_cons_zero,List.set_cons_succ])
            refine wpAnyH_take (i:=11) (v:=?_) rfl (by kernel_rfl) (by kernel_rfl) (by kernel_rfl) (fun _ _ _ h=>h) (Or.inl ⟨by rfl, ?_⟩) (by assumption) ?_
            rotate_left
            (focus (intro w hSw;(try dsimp only at hSw);go_simp;(try with_reducible rfl)))
            (try simp only [Act.put,List.setIfInBounds_toArray,List.set_cons_zero,List.set_cons_succ])
            refine wpAnyH_ready (rs:=[12]) (by kernel_rfl) (by simp) ?_
            refine AllReadyH.cons (by rw [List.getElem?_toArray];exact rfl) (fun K hK=>?_) AllReadyH.nil
            (have tok12 : True:=trivial;clear tok12;go_simp)
            refine hK.out _ _ ⟨(World.cell?_setCell_far _ _ _ _ hg2).trans cw90,(World.cell?_setCell_far _ _ _ _ hg2).trans cw91⟩ (fun hHeld=>?_)
            clear hK K
            (try simp only [Act.put,List.setIfInBounds_toArray,List.set_cons_zero,List.set_cons_succ])
            refine wpAnyH_done (by kernel_rfl) ?_ _
            go_wp2_with fail
            go_roundg (gk - 1)
            case measure=>have:=HK.out;omega
            case rel =>
             rw [HLNE.out] at hr5
             (first | (have hpush:=Wym.push (x:=(z1,z2)) ((HM5.out.alloc _).drew) ht1 ht5 hr5) | (have hpush:=Wym.push (x:=(z1,z2)) (HM5.out.alloc _) ht1 ht5 hr5) | (have hpush:=Wym.push (x:=(z1,z2)) (HM5.out.drew.alloc _) ht1 ht5 hr5))
             rw [← HLNE.out] at hpush
             have HPU:=Lib.hid hpush
             have HL2 : Hid ((put W1 t1 (z1,z2)).length = is.length + 1):=Lib.hid (by rw [put_length];exact HLN1.out)
             have HB2 : Hid (∀ k x,x ∈ (put W1 t1 (z1,z2)).getD k [] → InB (t + 1) x):=Lib.hid (fun k x hx=>by
              rcases put_mem ht1 hx with rfl | hx
              ·exact HIN.out
              ·exact HBD1.out k x hx)
             have HW2 : Hid (∀ k,((put W1 t1 (z1,z2)).getD k []).length ≤ 2 * (t + 1) + 1):=Lib.hid (fun k=>put_len ht1 (HLW1.out k))
             exact ⟨t + 1,m2,_,_,put W1 t1 (z1,z2),by have:=HK.out;omega,by (have e9:=HTT.out;subst e9;first | rfl | go_num),rfl,HPU,HL2,HB2,HW2,HMX,Lib.hid (by rw [HTT.out];exact HG2.out)⟩
     ·have hr : (0,2) = R:=by rw [← HVG3.out,dGo_bad2 HH.out (fun hh=>hc (by rw [← HT.out] at hh;exact hh))]
      subst hr
      by_cases h1 : off ≤ x1
      ·have h2 : x2 < ak:=by omega
       clear hc
       go_wp2_with fail
       go_ret2
       exact ⟨rfl,by (repeat' first|(with_reducible first|exact blR _ _|assumption|refine blD ?_|refine blN ?_ _)|((with_reducible first|refine blA ?_ ?_ _|refine blS ?_ ?_ _|refine blT (by assumption) ?_ ?_);focus (go_size;done)))⟩
      ·have h2 : x1 < off:=by omega
       clear hc h1
       go_wp2_with fail
       go_ret2
       exact ⟨rfl,by (repeat' first|(with_reducible first|exact blR _ _|assumption|refine blD ?_|refine blN ?_ _)|((with_reducible first|refine blA ?_ ?_ _|refine blS ?_ ?_ _|refine blT (by assumption) ?_ ?_);focus (go_size;done)))⟩
  ·have tokz : (0 : Int) = 0:=rfl
   clear tokz
   obtain rfl : t = is.length:=by omega
   have hvg : (if alikeB (W.getD is.length []) = true ∧ (W.getD is.length []).head? = some (1,0) then (max m 1,0) else (0,2)) = R:=by
    have:=HVG.out
    rw [pairs_end] at this
    exact this
   have HV2:=Lib.hid hvg
   have htW : is.length < W.length:=by have:=HLN.out;omega
   have ct:=HMM.out.cell htW
   have HAL:=Lib.hid (fun n=>alike_q _ _ (wr.drewN n) ((HMM.out.drewN n).wyl htW))
   have HYL:=Lib.hid (HMM.out.wyl htW)
   have hbl:=HMM.out.below
   have hle:=hbl.size
   have lg:=HMM.out.lw.1.lt
   have cF:=HMM.out.lf.1.cell 1 rfl
   have lF:=HMM.out.lf.1.lt
   obtain ⟨A0,C0,hv0,hl0,_⟩:=HC.out
   obtain ⟨rfl,-,rfl⟩ : A = A0 ∧ is.length = is.length ∧ C = C0:=by injection hv0 with e1 e2 e3;exact ⟨e1,rfl,e3⟩
   clear hvg hv0 hl0 hlt HVG
   obtain ⟨u,hu⟩ : ∃ u,u = vs.getD is.length undef:=⟨_,rfl⟩
   rw [← hu] at ct HAL HYL
   clear hu
   obtain ⟨l,hl⟩ : ∃ l,l = W.getD is.length []:=⟨_,rfl⟩
   rw [← hl] at HV2 HAL HYL
   clear hl
   cases hz : alikeB l with
   | false =>
    have hr:=HV2.out
    rw [hz,if_neg (fun h=>Bool.noConfusion h.1)] at hr
    subst hr
    rw [hz] at HAL
    clear HV2 hz
    go_wp2_with fail
    go_quiet ((go_at_call 24;(first | exact Calls.quiet_of (HAL.out _) | exact quiet_add (HAL.out _))))
    go_wp2_with fail
    go_ret2
    exact ⟨rfl,below_drewN (by (repeat' first|(with_reducible first|exact blR _ _|assumption|refine blD ?_|refine blN ?_ _)|((with_reducible first|refine blA ?_ ?_ _|refine blS ?_ ?_ _|refine blT (by assumption) ?_ ?_);focus (go_size;done)))) _⟩
   | true =>
    rw [hz] at HAL
    obtain ⟨hpos,_⟩:=alike_iff.1 hz
    have HH:=Lib.hid (head_wg hpos)
    obtain ⟨A2,C2,hu2,hl2m⟩ : ∃ A2 C2,u = .slice A2 l.length C2 ∧ l.length ≤ maxLen:=by
     obtain ⟨A2,C2,q1,q2,_⟩:=HYL.out
     exact ⟨A2,C2,q1,q2⟩
    subst hu2
    obtain ⟨b2,p2,rfl,ay⟩:=HYL.out.at hpos
    rw [Nat.zero_mul,Nat.add_zero] at ay
    obtain ⟨x,hx⟩ : ∃ x,x = wg l 0:=⟨_,rfl⟩
    rw [← hx] at HH ay
    obtain ⟨x1,x2⟩:=x
    obtain ⟨y1,y2⟩:=ay.way
    dsimp only at y1 y2
    have l2:=cell_lt2 y1
    obtain ⟨lt,hlt2⟩ : ∃ lt,lt = l.length:=⟨_,rfl⟩
    rw [← hlt2] at hpos HAL ct hl2m
    have hposc : (0 : Int) < (lt : Int):=by omega
    have hr:=HV2.out
    rw [hz,HH.out] at hr
    have HR:=Lib.hid hr
    unfold maxLen at hl2m
    clear HV2 hz hx ay hlt2 HYL hr HH
    cases hq : (x1 == 1 && x2 == 0) with
    | true =>
     have r1 : ∀ W,(binOp .neq 52 (.agg #[.int .i64 x1,.int .i64 x2]) (.agg #[.int .i64 1,.int .i64 0])).run Tryd.prog W = .ok (.bool false) W:=fun W=>by rw [neq_way,hq];rfl
     obtain ⟨q1,q2⟩:=Bool.and_eq_true_iff.1 hq
     have q1:=beq_iff_eq.1 q1
     have q2:=beq_iff_eq.1 q2
     have hr:=HR.out
     rw [if_pos ⟨rfl,by rw [q1,q2]⟩] at hr
     subst hr
     clear HR hq q1 q2
     have hmb:=HMB.out
     rcases Int.lt_or_le m 1 with hmx | hmx
     ·go_wp2_with fail
      go_quiet ((go_at_call 24;(first | exact Calls.quiet_of (HAL.out _) | exact quiet_add (HAL.out _))))
      go_wp2_with fail
      go_ret2
      exact ⟨by rw [Int.max_eq_right (by omega)];rfl,below_drewN (by (repeat' first|(with_reducible first|exact blR _ _|assumption|refine blD ?_|refine blN ?_ _)|((with_reducible first|refine blA ?_ ?_ _|refine blS ?_ ?_ _|refine blT (by assumption) ?_ ?_);focus (go_size;done)))) _⟩
     ·go_wp2_with fail
      go_quiet ((go_at_call 24;(first | exact Calls.quiet_of (HAL.out _) | exact quiet_add (HAL.out _))))
      go_wp2_with fail
      go_ret2
      exact ⟨by rw [Int.max_eq_left (by omega)];rfl,below_drewN (by (repeat' first|(with_reducible first|exact blR _ _|assumption|refine blD ?_|refine blN ?_ _)|((with_reducible first|refine blA ?_ ?_ _|refine blS ?_ ?_ _|refine blT (by assumption) ?_ ?_);focus (go_size;done)))) _⟩
    | false =>
     have r1 : ∀ W,(binOp .neq 52 (.agg #[.int .i64 x1,.int .i64 x2]) (.agg #[.int .i64 1,.int .i64 0])).run Tryd.prog W = .ok (.bool true) W:=fun W=>by rw [neq_way,hq];rfl
     have hr:=HR.out
     rw [if_neg (fun h=>by
      have h2:=h.2
      injection h2 with h2
      injection h2 with q1 q2
      subst q1 q2
      revert hq
      decide)] at hr
     subst hr
     clear HR hq
     go_wp2_with fail
     go_quiet ((go_at_call 24;(first | exact Calls.quiet_of (HAL.out _) | exact quiet_add (HAL.out _))))
     go_wp2_with fail
     go_ret2
     exact ⟨rfl,below_drewN (by (repeat' first|(with_reducible first|exact blR _ _|assumption|refine blD ?_|refine blN ?_ _)|((with_reducible first|refine blA ?_ ?_ _|refine blS ?_ ?_ _|refine blT (by assumption) ?_ ?_);focus (go_size;done)))) _⟩
theorem docverify_any (is : List InsD) (v : Value) (b : Bool) (w : World) (h : Cod w v is) : Calls Tryd.prog 13 #[v,.bool b] w (DocPost is b w):=by
 by_cases hl : 600 < is.length
 ·exact doc_long is v b w h hl
 ·cases b with
  | true=>exact doc_in_true is v w h (by omega)
  | false=>exact doc_in_false is v w h (by omega)
end Go.Proofs.YtnhmplfonkjfoaaDoor

