/- What this law reaches beyond the common contracts, part 2. -/
import Derived.Test.YtnhmplfonkjfoaaDoorM1
import Derived.Test.YtnhmplfonkjfoaaDoorXPe1
set_option linter.unusedSimpArgs false
set_option linter.unusedVariables false


namespace Go.Proofs.YtnhmplfonkjfoaaDoor
open Go.RowKit

set_option maxRecDepth 100000 in
set_option maxHeartbeats 20000000 in
theorem verify_in_false (is : List InsD) (v : Value) (w : World) (h : Cod w v is) (hl : is.length ≤ 600) : Calls Tryd.prog 14 #[v,.bool false] w (VerPost is false w):=by
 obtain ⟨R,hR⟩ : ∃ R,R = verS (pairs is) (fB false):=⟨_,rfl⟩
 have HV : Hid (vGo is.length (fB false) (pairs is) 0 (some (0,fB false) :: List.replicate is.length none) 0 = R):=Lib.hid (by
  rw [hR];unfold verS;rw [if_neg (by rw [pairs_length];omega),pairs_length])
 unfold VerPost
 rw [← hR]
 clear hR
 have HC:=Lib.hid h
 obtain ⟨A,C,rfl,h2,h3⟩:=h
 have hl2 : ((is.length : Int)) ≤ 600:=by omega
 clear h3 h2
 obtain ⟨i0,hi0,hz0,hs0,hb0⟩:=info_parts info_state
 have hmk : ∀ W : World,(Instr.makeSlice 58 (.int .i64 ((is.length : Int) + 1)) (.int .i64 ((is.length : Int) + 1))).run Tryd.prog W = .ok (.slice (some ⟨W.heap.size,0,none⟩) (is.length + 1) (is.length + 1)) (W.alloc (.cells (madeCells #[.bool false,.int .i64 0,.int .i64 0] ((is.length + 1) * 3)) 60)):=fun W=>by
  have:=run_make (P:=Tryd.prog) W 58 60 i0 _ Tryd.underlying58 hi0 hz0 .i64 .i64 ((is.length : Int) + 1) ((is.length : Int) + 1) (by omega) (by omega) (by rw [hb0];omega) (by omega)
  rw [this]
  have e : ((is.length : Int) + 1).toNat = is.length + 1:=by omega
  rw [e,hs0]
  rfl
 clear hi0 hz0 hs0 hb0
 have hm0:=Stt.made w (is.length + 1)
 obtain ⟨mc,hmc⟩ : ∃ mc,mc = madeCells #[.bool false,.int .i64 0,.int .i64 0] ((is.length + 1) * 3):=⟨_,rfl⟩
 have HM0:=fun f=>Lib.hid (Stt.first w is.length f)
 rw [← hmc] at hmk hm0
 simp only [← hmc] at HM0
 have HM1:=Lib.hid HM0
 have hr0 : 0 < (List.replicate (is.length + 1) (none : Option Way)).length:=by simp
 have k0 : (w.alloc (.cells mc 60)).cell? ⟨w.heap.size,0,none⟩ = some (.bool false):=(hm0.cells hr0).1
 have k1 : (w.alloc (.cells mc 60)).cell? ⟨w.heap.size,1,none⟩ = some (.int .i64 0):=(hm0.cells hr0).2.1
 have k2 : (w.alloc (.cells mc 60)).cell? ⟨w.heap.size,2,none⟩ = some (.int .i64 0):=(hm0.cells hr0).2.2
 have m0 : mc[0]? = some (.bool false):=by
  have:=made_at (.bool false) (.int .i64 0) (.int .i64 0) (is.length + 1) 0 0 (by omega) (by decide)
  rw [← hmc] at this;simpa using this
 have m1 : mc[1]? = some (.int .i64 0):=by
  have:=made_at (.bool false) (.int .i64 0) (.int .i64 0) (is.length + 1) 0 1 (by omega) (by decide)
  rw [← hmc] at this;simpa using this
 have m2 : mc[2]? = some (.int .i64 0):=by
  have:=made_at (.bool false) (.int .i64 0) (.int .i64 0) (is.length + 1) 0 2 (by omega) (by decide)
  rw [← hmc] at this;simpa using this
 clear hmc hm0 HM0
 go_enter Tryd.func14,Tryd.ntmps14
 go_wp2_with fail
 have HS0:=Lib.hid (HM1.out 0).out
 have HB0 : Hid (Below w.heap.size w (w.alloc (.cells (((mc.setIfInBounds 0 (.bool true)).setIfInBounds 1 (.int .i64 0)).setIfInBounds 2 (.int .i64 0)) 60))):=Lib.hid (by (repeat' first|(with_reducible first|exact blR _ _|assumption|refine blD ?_|refine blN ?_ _)|((with_reducible first|refine blA ?_ ?_ _|refine blS ?_ ?_ _|refine blT (by assumption) ?_ ?_);focus (go_size;done))))
 clear k0 k1 k2 m0 m1 m2 hmk
 go_loopg [8,30] is.length (fun k s8 s30 wr=>∃ (t : Nat) (m : Int) (S : St),k + t = is.length ∧ s30 = .int .i64 t ∧ s8 = .int .i64 m ∧ Hid (Stt wr (ov w.heap.size) 1 w.heap.size S) ∧ Hid (Below w.heap.size w wr) ∧ Hid (S.length = is.length + 1) ∧ Hid (∀ k x,S.getD k none = some x → InB t x) ∧ Hid (0 ≤ m ∧ m ≤ 600) ∧ Hid (vGo is.length 0 ((pairs is).drop t) t S m = R))
 case atStart =>
  refine ⟨0,0,some (0,0) :: List.replicate is.length none,by omega,rfl,rfl,HS0,HB0,Lib.hid (by simp),Lib.hid (fun k x hx=>?_),Lib.hid ⟨by omega,by omega⟩,HV⟩
  cases k with
  | zero=>simp at hx;subst hx;exact ⟨by simp,by simp,by simp,by simp⟩
  | succ k =>
   rw [List.getD_eq_getElem?_getD,List.getElem?_cons_succ,List.getElem?_replicate] at hx
   split at hx <;> cases hx
 case round =>
  obtain ⟨t,m,S,hk,rfl,rfl,HST,HBL,HLN,HBD,HM,HVG⟩:=hrel
  have HK:=Lib.hid hk
  have htn : t ≤ is.length:=by omega
  clear hk HS0 HB0 HM1 hr0
  by_cases hlt : t < is.length
  ·obtain ⟨b1,o1,rfl,hat⟩:=(HC.out.below HBL.out).at hlt
   obtain ⟨I,hI⟩ : ∃ I,I = ig is t:=⟨_,rfl⟩
   have HD:=pairs_drop hlt
   rw [← hI] at hat HD
   obtain ⟨op,a,tx,ng,hi,lo,sc,dy⟩:=I
   have HVG2:=HVG.out
   rw [HD] at HVG2
   have HVG3:=Lib.hid HVG2
   have HI:=Lib.hid hI
   clear hI HD HVG2 HVG
   obtain ⟨a0,a1,a2,a3,a4,a5,a6,a7⟩:=hat.ins
   dsimp only at a0 a1 a2 a3 a4 a5 a6 a7
   clear hat
   have HE:=Lib.hid (effect_any op a tx ng hi lo sc dy)
   go_wp2_with fail
   refine (HE.out _).mono ?_
   rintro _ w1 ⟨rfl,hb1⟩
   have hwr:=HST.out.lt
   have hs1 : wr.heap.size + 1 ≤ w1.heap.size:=by have:=hb1.size;rwa [World.size_alloc] at this
   have KC:=Lib.hid ((Bk.new wr 43 [.int .i64 op,.int .i64 a,.string tx,.bool ng,.int .u64 hi,.int .u64 lo,.int .i64 sc,.int .i64 dy]).below hb1 (by rw [World.size_alloc];omega))
   have ST1:=Lib.hid ((HST.out.alloc _).below hb1)
   have BL1 : Hid (Below w.heap.size w w1):=Lib.hid ((HBL.out.alloc (Nat.le_of_lt hwr) _).trans (hb1.mono (by rw [World.size_alloc];omega)))
   clear hb1 HE a0 a1 a2 a3 a4 a5 a6 a7 HST HBL
   obtain ⟨q,hq⟩ : ∃ q,q = wr.heap.size:=⟨_,rfl⟩
   rw [← hq] at hwr hs1 KC
   rw [← hq]
   clear hq
   obtain ⟨T,hT⟩ : ∃ T,T = tk op a:=⟨_,rfl⟩
   have HTB:=tk_TB op a
   rw [← hT] at HTB
   rw [← hT]
   obtain ⟨off,on,tu,ak,ok⟩:=T
   have k0 : w1.cell? ⟨q,0,none⟩ = some (.int .i64 op):=KC.out.cell 0 rfl
   have k1 : w1.cell? ⟨q,1,none⟩ = some (.int .i64 a):=KC.out.cell 1 rfl
   have hlS : t < S.length:=by have:=HLN.out;omega
   obtain ⟨s0,s1,s2⟩:=ST1.out.cells hlS
   have HT:=Lib.hid hT
   dsimp only
   clear hT
   have HTB2:=Lib.hid HTB
   clear HTB
   have hgl:=ST1.out.lt
   have hql : q < w1.heap.size:=hs1
   cases ok with
   | false =>
    have hr : (0,2) = R:=by
     cases e : S.getD t none with
     | none=>rw [← HVG3.out,vGo_none e]
     | some x=>rw [← HVG3.out,vGo_bad e (fun hh=>by rw [← HT.out] at hh;exact Bool.noConfusion hh.1)]
    subst hr
    have hbl:=BL1.out
    have hle:=hbl.size
    go_wp2_with fail
    go_ret2
    exact ⟨rfl,by (repeat' first|(with_reducible first|exact blR _ _|assumption|refine blD ?_|refine blN ?_ _)|((with_reducible first|refine blA ?_ ?_ _|refine blS ?_ ?_ _|refine blT (by assumption) ?_ ?_);focus (go_size;done)))⟩
   | true =>
    have hbl:=BL1.out
    have hle:=hbl.size
    cases e : S.getD t none with
    | none =>
     have hr : (0,2) = R:=by rw [← HVG3.out,vGo_none e]
     subst hr
     rw [e] at s0 s1 s2
     dsimp only [oB,oH,oE,Option.isSome,Option.getD] at s0 s1 s2
     clear e
     go_wp2_with fail
     go_ret2
     exact ⟨rfl,by (repeat' first|(with_reducible first|exact blR _ _|assumption|refine blD ?_|refine blN ?_ _)|((with_reducible first|refine blA ?_ ?_ _|refine blS ?_ ?_ _|refine blT (by assumption) ?_ ?_);focus (go_size;done)))⟩
    | some x =>
     have HX:=HBD.out t _ e
     obtain ⟨x1,x2⟩:=x
     rw [e] at s0 s1 s2
     dsimp only [oB,oH,oE,Option.isSome,Option.getD] at s0 s1 s2
     by_cases hc : off ≤ x1 ∧ ak ≤ x2
     ·obtain ⟨h1,h2⟩:=hc
      have hcc : (tk op a).2.2.2.2 = true ∧ (tk op a).1 ≤ (x1,x2).1 ∧ (tk op a).2.2.2.1 ≤ (x1,x2).2:=by rw [← HT.out];exact ⟨rfl,h1,h2⟩
      have haf : after op a (x1,x2) = (x1 - off + on,x2 + tu):=by unfold after;rw [← HT.out]
      have HIN:=Lib.hid (InB.next HX hcc.1 hcc.2.1)
      obtain ⟨b1,b2,b3,b4,b5,b6,b7,_⟩:=HTB2.out rfl
      obtain ⟨c1,c2,c3,c4⟩:=HX
      dsimp only at b1 b2 b3 b4 b5 b6 b7 c1 c2 c3 c4
      have HE:=Lib.hid e
      have HCC:=Lib.hid hcc
      have HAF:=Lib.hid haf
      clear e hcc haf
      rcases Int.lt_or_le m x1 with hmx | hmx
      ·have tok2:=trivial
       have hmax : Hid (max m x1 = x1):=Lib.hid (by omega)
       have HRE2:=Lib.hid (fun W S1 (hl1 : S1.length = is.length + 1) hst=>reach_any W (ov w.heap.size) 1 w.heap.size S1 hst (t + 1) (by omega) (x1 - off + on,x2 + tu))
       by_cases hj : op = 101 ∨ op = 102
       ·by_cases hb : (t : Int) < a ∧ a ≤ is.length
        ·obtain ⟨d1,d2⟩:=hb
         obtain ⟨j,hj2⟩:=Int.eq_ofNat_of_zero_le (show 0 ≤ a by omega)
         subst hj2
         have HRE:=Lib.hid (fun W hst=>reach_any W (ov w.heap.size) 1 w.heap.size S hst j (by have:=HLN.out;omega) (x1 - off + on,x2 + tu))
         rcases hj with rfl | rfl
         ·go_wp2_with fail
          go_quiet (fail)
          go_wp2_with fail
          refine (HRE.out _ ?st).mono ?_
          case st=>exact (ST1.out.alloc _).alloc _
          rintro _ w3 ⟨t3,hp3⟩
          have hb3 : Below w.heap.size w w3:=by
           refine Below.trans ?_ (t3.below (fun k hk=>by rw [ov_low hk];decide) ?_)
           ·(repeat' first|(with_reducible first|exact blR _ _|assumption|refine blD ?_|refine blN ?_ _)|((with_reducible first|refine blA ?_ ?_ _|refine blS ?_ ?_ _|refine blT (by assumption) ?_ ?_);focus (go_size;done)))
           ·go_size
          have KC3 : Bk w3 q _ _:=(t3.block q (by go_size) (by rw [ov_up hwr];decide)).trans ((KC.out.alloc _).alloc _)
          have k03 : w3.cell? ⟨q,0,none⟩ = some _:=KC3.cell 0 rfl
          have hs3:=hb3.size
          rcases hp3 with ⟨S1,hn,rfl,st3⟩ | ⟨hn,rfl⟩
          ·have hv:=HVG3.out
           rw [vGo_jump HE.out HCC.out rfl ⟨d1,d2⟩ (by rw [HAF.out];exact hn),vTail_101] at hv
           dsimp only at hv
           rw [hmax.out] at hv
           try clear hbl
           go_wp2_with fail
           go_roundg (gk - 1)
           case measure=>have:=HK.out;omega
           case rel=>exact ⟨t + 1,x1,S1,by have:=HK.out;omega,by go_num,(by first | rfl | (congr 1 <;> omega)),Lib.hid st3,Lib.hid hb3,Lib.hid (by rw [note_length hn];exact HLN.out),Lib.hid (note_inB hn (by have:=HLN.out;omega) (fun j y hy=>(HBD.out j y hy).up) (by rw [← HAF.out];exact HIN.out)),Lib.hid (by have:=HM.out;omega),Lib.hid hv⟩
          ·have hr : (0,2) = R:=by rw [← HVG3.out,vGo_un HE.out HCC.out rfl ⟨d1,d2⟩ (by rw [HAF.out];exact hn)]
           subst hr
           try clear hbl
           go_wp2_with fail
           go_ret2
           exact ⟨rfl,by (repeat' first|(with_reducible first|exact blR _ _|assumption|refine blD ?_|refine blN ?_ _)|((with_reducible first|refine blA ?_ ?_ _|refine blS ?_ ?_ _|refine blT (by assumption) ?_ ?_);focus (go_size;done)))⟩
         ·go_wp2_with fail
          go_quiet (fail)
          go_wp2_with fail
          refine (HRE.out _ ?st).mono ?_
          case st=>exact (ST1.out.alloc _).alloc _
          rintro _ w3 ⟨t3,hp3⟩
          have hb3 : Below w.heap.size w w3:=by
           refine Below.trans ?_ (t3.below (fun k hk=>by rw [ov_low hk];decide) ?_)
           ·(repeat' first|(with_reducible first|exact blR _ _|assumption|refine blD ?_|refine blN ?_ _)|((with_reducible first|refine blA ?_ ?_ _|refine blS ?_ ?_ _|refine blT (by assumption) ?_ ?_);focus (go_size;done)))
           ·go_size
          have KC3 : Bk w3 q _ _:=(t3.block q (by go_size) (by rw [ov_up hwr];decide)).trans ((KC.out.alloc _).alloc _)
          have k03 : w3.cell? ⟨q,0,none⟩ = some _:=KC3.cell 0 rfl
          have hs3:=hb3.size
          rcases hp3 with ⟨S1,hn,rfl,st3⟩ | ⟨hn,rfl⟩
          ·have hvt : Hid (vTail is.length 0 102 j ((pairs is).drop (t + 1)) t S1 m (x1,x2) = R):=Lib.hid (by
            rw [← HVG3.out,vGo_jump HE.out HCC.out rfl ⟨d1,d2⟩ (by rw [HAF.out];exact hn)])
           have hL1 : Hid (S1.length = is.length + 1):=Lib.hid (by rw [note_length hn];exact HLN.out)
           have hB1 : Hid (∀ j y,S1.getD j none = some y → InB (t + 1) y):=Lib.hid (note_inB hn (by have:=HLN.out;omega) (fun j y hy=>(HBD.out j y hy).up) (by rw [← HAF.out];exact HIN.out))
           have HS3:=Lib.hid st3
           have hgl3:=st3.lt
           clear st3 hn hbl KC3 t3
           go_wp2_with fail
           refine (HRE2.out _ _ (hL1.out) ?st).mono ?_
           case st=>exact HS3.out
           rintro _ w4 ⟨t4,hp4⟩
           have hb4 : Below w.heap.size w w4:=by
            refine Below.trans ?_ (t4.below (fun k hk=>by rw [ov_low hk];decide) ?_)
            ·(repeat' first|(with_reducible first|exact blR _ _|assumption|refine blD ?_|refine blN ?_ _)|((with_reducible first|refine blA ?_ ?_ _|refine blS ?_ ?_ _|refine blT (by assumption) ?_ ?_);focus (go_size;done)))
            ·go_size
           rcases hp4 with ⟨S2,hn4,rfl,st4⟩ | ⟨hn4,rfl⟩
           ·have hv:=hvt.out
            rw [vTail_go (by decide) (by rw [HAF.out];exact hn4)] at hv
            dsimp only at hv
            rw [hmax.out] at hv
            try clear hbl
            go_wp2_with fail
            go_roundg (gk - 1)
            case measure=>have:=HK.out;omega
            case rel=>exact ⟨t + 1,x1,S2,by have:=HK.out;omega,by go_num,(by first | rfl | (congr 1 <;> omega)),Lib.hid st4,Lib.hid hb4,Lib.hid (by rw [note_length hn4];exact hL1.out),Lib.hid (note_inB hn4 (by have h9:=hL1.out;omega) hB1.out (by rw [← HAF.out];exact HIN.out)),Lib.hid (by have:=HM.out;omega),Lib.hid hv⟩
           ·have hr : (0,2) = R:=by rw [← hvt.out,vTail_un (by decide) (by rw [HAF.out];exact hn4)]
            subst hr
            try clear hbl
            go_wp2_with fail
            go_ret2
            exact ⟨rfl,by (repeat' first|(with_reducible first|exact blR _ _|assumption|refine blD ?_|refine blN ?_ _)|((with_reducible first|refine blA ?_ ?_ _|refine blS ?_ ?_ _|refine blT (by assumption) ?_ ?_);focus (go_size;done)))⟩
          ·have hr : (0,2) = R:=by rw [← HVG3.out,vGo_un HE.out HCC.out rfl ⟨d1,d2⟩ (by rw [HAF.out];exact hn)]
           subst hr
           try clear hbl
           go_wp2_with fail
           go_ret2
           exact ⟨rfl,by (repeat' first|(with_reducible first|exact blR _ _|assumption|refine blD ?_|refine blN ?_ _)|((with_reducible first|refine blA ?_ ?_ _|refine blS ?_ ?_ _|refine blT (by assumption) ?_ ?_);focus (go_size;done)))⟩
        ·rcases hj with rfl | rfl
         ·have tok3:=trivial
          have hr : (0,2) = R:=by rw [← HVG3.out,vGo_out HE.out HCC.out rfl hb]
          subst hr
          have hb2 : a ≤ t ∨ (is.length : Int) < a:=by omega
          rcases hb2 with hb2 | hb2
          ·go_wp2_with fail
           go_quiet (fail)
           go_wp2_with fail
           go_ret2
           exact ⟨rfl,by (repeat' first|(with_reducible first|exact blR _ _|assumption|refine blD ?_|refine blN ?_ _)|((with_reducible first|refine blA ?_ ?_ _|refine blS ?_ ?_ _|refine blT (by assumption) ?_ ?_);focus (go_size;done)))⟩
          ·have hb3 : ¬ a ≤ t:=by omega
           go_wp2_with fail
           go_quiet (fail)
           go_wp2_with fail
           go_ret2
           exact ⟨rfl,by (repeat' first|(with_reducible first|exact blR _ _|assumption|refine blD ?_|refine blN ?_ _)|((with_reducible first|refine blA ?_ ?_ _|refine blS ?_ ?_ _|refine blT (by assumption) ?_ ?_);focus (go_size;done)))⟩
         ·have tok3:=trivial
          have hr : (0,2) = R:=by rw [← HVG3.out,vGo_out HE.out HCC.out rfl hb]
          subst hr
          have hb2 : a ≤ t ∨ (is.length : Int) < a:=by omega
          rcases hb2 with hb2 | hb2
          ·go_wp2_with fail
           go_quiet (fail)
           go_wp2_with fail
           go_ret2
           exact ⟨rfl,by (repeat' first|(with_reducible first|exact blR _ _|assumption|refine blD ?_|refine blN ?_ _)|((with_reducible first|refine blA ?_ ?_ _|refine blS ?_ ?_ _|refine blT (by assumption) ?_ ?_);focus (go_size;done)))⟩
          ·have hb3 : ¬ a ≤ t:=by omega
           go_wp2_with fail
           go_quiet (fail)
           go_wp2_with fail
           go_ret2
           exact ⟨rfl,by (repeat' first|(with_reducible first|exact blR _ _|assumption|refine blD ?_|refine blN ?_ _)|((with_reducible first|refine blA ?_ ?_ _|refine blS ?_ ?_ _|refine blT (by assumption) ?_ ?_);focus (go_size;done)))⟩
       ·have q1 : (op == 101) = false:=by rw [beq_eq_false_iff_ne];omega
        have q2 : (op == 102) = false:=by rw [beq_eq_false_iff_ne];omega
        have q3 : (op != 101) = true:=by rw [bne_iff_ne];omega
        have hne : op ≠ 101:=by omega
        have hvt : Hid (vTail is.length 0 op a ((pairs is).drop (t + 1)) t S m (x1,x2) = R):=Lib.hid (by
         rw [← HVG3.out,vGo_plain HE.out HCC.out (decide_eq_false hj)])
        have HNE:=Lib.hid hne
        clear hj hne
        go_wp2_with fail
        go_quiet (fail)
        go_wp2_with fail
        refine (HRE2.out _ _ (HLN.out) ?st).mono ?_
        case st=>exact ((ST1.out.alloc _).alloc _)
        rintro _ w4 ⟨t4,hp4⟩
        have hb4 : Below w.heap.size w w4:=by
         refine Below.trans ?_ (t4.below (fun k hk=>by rw [ov_low hk];decide) ?_)
         ·(repeat' first|(with_reducible first|exact blR _ _|assumption|refine blD ?_|refine blN ?_ _)|((with_reducible first|refine blA ?_ ?_ _|refine blS ?_ ?_ _|refine blT (by assumption) ?_ ?_);focus (go_size;done)))
         ·go_size
        rcases hp4 with ⟨S2,hn4,rfl,st4⟩ | ⟨hn4,rfl⟩
        ·have hv:=hvt.out
         rw [vTail_go HNE.out (by rw [HAF.out];exact hn4)] at hv
         dsimp only at hv
         rw [hmax.out] at hv
         try clear hbl
         go_wp2_with fail
         go_roundg (gk - 1)
         case measure=>have:=HK.out;omega
         case rel=>exact ⟨t + 1,x1,S2,by have:=HK.out;omega,by go_num,(by first | rfl | (congr 1 <;> omega)),Lib.hid st4,Lib.hid hb4,Lib.hid (by rw [note_length hn4];exact HLN.out),Lib.hid (note_inB hn4 (by have h9:=HLN.out;omega) (fun j y hy=>(HBD.out j y hy).up) (by rw [← HAF.out];exact HIN.out)),Lib.hid (by have:=HM.out;omega),Lib.hid hv⟩
        ·have hr : (0,2) = R:=by rw [← hvt.out,vTail_un HNE.out (by rw [HAF.out];exact hn4)]
         subst hr
         try clear hbl
         go_wp2_with fail
         go_ret2
         exact ⟨rfl,by (repeat' first|(with_reducible first|exact blR _ _|assumption|refine blD ?_|refine blN ?_ _)|((with_reducible first|refine blA ?_ ?_ _|refine blS ?_ ?_ _|refine blT (by assumption) ?_ ?_);focus (go_size;done)))⟩
      ·have tok2:=trivial
       have hmax : Hid (max m x1 = m):=Lib.hid (by omega)
       have HRE2:=Lib.hid (fun W S1 (hl1 : S1.length = is.length + 1) hst=>reach_any W (ov w.heap.size) 1 w.heap.size S1 hst (t + 1) (by omega) (x1 - off + on,x2 + tu))
       by_cases hj : op = 101 ∨ op = 102
       ·by_cases hb : (t : Int) < a ∧ a ≤ is.length
        ·obtain ⟨d1,d2⟩:=hb
         obtain ⟨j,hj2⟩:=Int.eq_ofNat_of_zero_le (show 0 ≤ a by omega)
         subst hj2
         have HRE:=Lib.hid (fun W hst=>reach_any W (ov w.heap.size) 1 w.heap.size S hst j (by have:=HLN.out;omega) (x1 - off + on,x2 + tu))
         rcases hj with rfl | rfl
         ·go_wp2_with fail
          go_quiet (fail)
          go_wp2_with fail
          refine (HRE.out _ ?st).mono ?_
          case st=>exact (ST1.out.alloc _).alloc _
          rintro _ w3 ⟨t3,hp3⟩
          have hb3 : Below w.heap.size w w3:=by
           refine Below.trans ?_ (t3.below (fun k hk=>by rw [ov_low hk];decide) ?_)
           ·(repeat' first|(with_reducible first|exact blR _ _|assumption|refine blD ?_|refine blN ?_ _)|((with_reducible first|refine blA ?_ ?_ _|refine blS ?_ ?_ _|refine blT (by assumption) ?_ ?_);focus (go_size;done)))
           ·go_size
          have KC3 : Bk w3 q _ _:=(t3.block q (by go_size) (by rw [ov_up hwr];decide)).trans ((KC.out.alloc _).alloc _)
          have k03 : w3.cell? ⟨q,0,none⟩ = some _:=KC3.cell 0 rfl
          have hs3:=hb3.size
          rcases hp3 with ⟨S1,hn,rfl,st3⟩ | ⟨hn,rfl⟩
          ·have hv:=HVG3.out
           rw [vGo_jump HE.out HCC.out rfl ⟨d1,d2⟩ (by rw [HAF.out];exact hn),vTail_101] at hv
           dsimp only at hv
           rw [hmax.out] at hv
           try clear hbl
           go_wp2_with fail
           go_roundg (gk - 1)
           case measure=>have:=HK.out;omega
           case rel=>exact ⟨t + 1,m,S1,by have:=HK.out;omega,by go_num,(by first | rfl | (congr 1 <;> omega)),Lib.hid st3,Lib.hid hb3,Lib.hid (by rw [note_length hn];exact HLN.out),Lib.hid (note_inB hn (by have:=HLN.out;omega) (fun j y hy=>(HBD.out j y hy).up) (by rw [← HAF.out];exact HIN.out)),Lib.hid (by have:=HM.out;omega),Lib.hid hv⟩
          ·have hr : (0,2) = R:=by rw [← HVG3.out,vGo_un HE.out HCC.out rfl ⟨d1,d2⟩ (by rw [HAF.out];exact hn)]
           subst hr
           try clear hbl
           go_wp2_with fail
           go_ret2
           exact ⟨rfl,by (repeat' first|(with_reducible first|exact blR _ _|assumption|refine blD ?_|refine blN ?_ _)|((with_reducible first|refine blA ?_ ?_ _|refine blS ?_ ?_ _|refine blT (by assumption) ?_ ?_);focus (go_size;done)))⟩
         ·go_wp2_with fail
          go_quiet (fail)
          go_wp2_with fail
          refine (HRE.out _ ?st).mono ?_
          case st=>exact (ST1.out.alloc _).alloc _
          rintro _ w3 ⟨t3,hp3⟩
          have hb3 : Below w.heap.size w w3:=by
           refine Below.trans ?_ (t3.below (fun k hk=>by rw [ov_low hk];decide) ?_)
           ·(repeat' first|(with_reducible first|exact blR _ _|assumption|refine blD ?_|refine blN ?_ _)|((with_reducible first|refine blA ?_ ?_ _|refine blS ?_ ?_ _|refine blT (by assumption) ?_ ?_);focus (go_size;done)))
           ·go_size
          have KC3 : Bk w3 q _ _:=(t3.block q (by go_size) (by rw [ov_up hwr];decide)).trans ((KC.out.alloc _).alloc _)
          have k03 : w3.cell? ⟨q,0,none⟩ = some _:=KC3.cell 0 rfl
          have hs3:=hb3.size
          rcases hp3 with ⟨S1,hn,rfl,st3⟩ | ⟨hn,rfl⟩
          ·have hvt : Hid (vTail is.length 0 102 j ((pairs is).drop (t + 1)) t S1 m (x1,x2) = R):=Lib.hid (by
            rw [← HVG3.out,vGo_jump HE.out HCC.out rfl ⟨d1,d2⟩ (by rw [HAF.out];exact hn)])
           have hL1 : Hid (S1.length = is.length + 1):=Lib.hid (by rw [note_length hn];exact HLN.out)
           have hB1 : Hid (∀ j y,S1.getD j none = some y → InB (t + 1) y):=Lib.hid (note_inB hn (by have:=HLN.out;omega) (fun j y hy=>(HBD.out j y hy).up) (by rw [← HAF.out];exact HIN.out))
           have HS3:=Lib.hid st3
           have hgl3:=st3.lt
           clear st3 hn hbl KC3 t3
           go_wp2_with fail
           refine (HRE2.out _ _ (hL1.out) ?st).mono ?_
           case st=>exact HS3.out
           rintro _ w4 ⟨t4,hp4⟩
           have hb4 : Below w.heap.size w w4:=by
            refine Below.trans ?_ (t4.below (fun k hk=>by rw [ov_low hk];decide) ?_)
            ·(repeat' first|(with_reducible first|exact blR _ _|assumption|refine blD ?_|refine blN ?_ _)|((with_reducible first|refine blA ?_ ?_ _|refine blS ?_ ?_ _|refine blT (by assumption) ?_ ?_);focus (go_size;done)))
            ·go_size
           rcases hp4 with ⟨S2,hn4,rfl,st4⟩ | ⟨hn4,rfl⟩
           ·have hv:=hvt.out
            rw [vTail_go (by decide) (by rw [HAF.out];exact hn4)] at hv
            dsimp only at hv
            rw [hmax.out] at hv
            try clear hbl
            go_wp2_with fail
            go_roundg (gk - 1)
            case measure=>have:=HK.out;omega
            case rel=>exact ⟨t + 1,m,S2,by have:=HK.out;omega,by go_num,(by first | rfl | (congr 1 <;> omega)),Lib.hid st4,Lib.hid hb4,Lib.hid (by rw [note_length hn4];exact hL1.out),Lib.hid (note_inB hn4 (by have h9:=hL1.out;omega) hB1.out (by rw [← HAF.out];exact HIN.out)),Lib.hid (by have:=HM.out;omega),Lib.hid hv⟩
           ·have hr : (0,2) = R:=by rw [← hvt.out,vTail_un (by decide) (by rw [HAF.out];exact hn4)]
            subst hr
            try clear hbl
            go_wp2_with fail
            go_ret2
            exact ⟨rfl,by (repeat' first|(with_reducible first|exact blR _ _|assumption|refine blD ?_|refine blN ?_ _)|((with_reducible first|refine blA ?_ ?_ _|refine blS ?_ ?_ _|refine blT (by assumption) ?_ ?_);focus (go_size;done)))⟩
          ·have hr : (0,2) = R:=by rw [← HVG3.out,vGo_un HE.out HCC.out rfl ⟨d1,d2⟩ (by rw [HAF.out];exact hn)]
           subst hr
           try clear hbl
           go_wp2_with fail
           go_ret2
           exact ⟨rfl,by (repeat' first|(with_reducible first|exact blR _ _|assumption|refine blD ?_|refine blN ?_ _)|((with_reducible first|refine blA ?_ ?_ _|refine blS ?_ ?_ _|refine blT (by assumption) ?_ ?_);focus (go_size;done)))⟩
        ·rcases hj with rfl | rfl
         ·have tok3:=trivial
          have hr : (0,2) = R:=by rw [← HVG3.out,vGo_out HE.out HCC.out rfl hb]
          subst hr
          have hb2 : a ≤ t ∨ (is.length : Int) < a:=by omega
          rcases hb2 with hb2 | hb2
          ·go_wp2_with fail
           go_quiet (fail)
           go_wp2_with fail
           go_ret2
           exact ⟨rfl,by (repeat' first|(with_reducible first|exact blR _ _|assumption|refine blD ?_|refine blN ?_ _)|((with_reducible first|refine blA ?_ ?_ _|refine blS ?_ ?_ _|refine blT (by assumption) ?_ ?_);focus (go_size;done)))⟩
          ·have hb3 : ¬ a ≤ t:=by omega
           go_wp2_with fail
           go_quiet (fail)
           go_wp2_with fail
           go_ret2
           exact ⟨rfl,by (repeat' first|(with_reducible first|exact blR _ _|assumption|refine blD ?_|refine blN ?_ _)|((with_reducible first|refine blA ?_ ?_ _|refine blS ?_ ?_ _|refine blT (by assumption) ?_ ?_);focus (go_size;done)))⟩
         ·have tok3:=trivial
          have hr : (0,2) = R:=by rw [← HVG3.out,vGo_out HE.out HCC.out rfl hb]
          subst hr
          have hb2 : a ≤ t ∨ (is.length : Int) < a:=by omega
          rcases hb2 with hb2 | hb2
          ·go_wp2_with fail
           go_quiet (fail)
           go_wp2_with fail
           go_ret2
           exact ⟨rfl,by (repeat' first|(with_reducible first|exact blR _ _|assumption|refine blD ?_|refine blN ?_ _)|((with_reducible first|refine blA ?_ ?_ _|refine blS ?_ ?_ _|refine blT (by assumption) ?_ ?_);focus (go_size;done)))⟩
          ·have hb3 : ¬ a ≤ t:=by omega
           go_wp2_with fail
           go_quiet (fail)
           go_wp2_with fail
           go_ret2
           exact ⟨rfl,by (repeat' first|(with_reducible first|exact blR _ _|assumption|refine blD ?_|refine blN ?_ _)|((with_reducible first|refine blA ?_ ?_ _|refine blS ?_ ?_ _|refine blT (by assumption) ?_ ?_);focus (go_size;done)))⟩
       ·have q1 : (op == 101) = false:=by rw [beq_eq_false_iff_ne];omega
        have q2 : (op == 102) = false:=by rw [beq_eq_false_iff_ne];omega
        have q3 : (op != 101) = true:=by rw [bne_iff_ne];omega
        have hne : op ≠ 101:=by omega
        have hvt : Hid (vTail is.length 0 op a ((pairs is).drop (t + 1)) t S m (x1,x2) = R):=Lib.hid (by
         rw [← HVG3.out,vGo_plain HE.out HCC.out (decide_eq_false hj)])
        have HNE:=Lib.hid hne
        clear hj hne
        go_wp2_with fail
        go_quiet (fail)
        go_wp2_with fail
        refine (HRE2.out _ _ (HLN.out) ?st).mono ?_
        case st=>exact ((ST1.out.alloc _).alloc _)
        rintro _ w4 ⟨t4,hp4⟩
        have hb4 : Below w.heap.size w w4:=by
         refine Below.trans ?_ (t4.below (fun k hk=>by rw [ov_low hk];decide) ?_)
         ·(repeat' first|(with_reducible first|exact blR _ _|assumption|refine blD ?_|refine blN ?_ _)|((with_reducible first|refine blA ?_ ?_ _|refine blS ?_ ?_ _|refine blT (by assumption) ?_ ?_);focus (go_size;done)))
         ·go_size
        rcases hp4 with ⟨S2,hn4,rfl,st4⟩ | ⟨hn4,rfl⟩
        ·have hv:=hvt.out
         rw [vTail_go HNE.out (by rw [HAF.out];exact hn4)] at hv
         dsimp only at hv
         rw [hmax.out] at hv
         try clear hbl
         go_wp2_with fail
         go_roundg (gk - 1)
         case measure=>have:=HK.out;omega
         case rel=>exact ⟨t + 1,m,S2,by have:=HK.out;omega,by go_num,(by first | rfl | (congr 1 <;> omega)),Lib.hid st4,Lib.hid hb4,Lib.hid (by rw [note_length hn4];exact HLN.out),Lib.hid (note_inB hn4 (by have h9:=HLN.out;omega) (fun j y hy=>(HBD.out j y hy).up) (by rw [← HAF.out];exact HIN.out)),Lib.hid (by have:=HM.out;omega),Lib.hid hv⟩
        ·have hr : (0,2) = R:=by rw [← hvt.out,vTail_un HNE.out (by rw [HAF.out];exact hn4)]
         subst hr
         try clear hbl
         go_wp2_with fail
         go_ret2
         exact ⟨rfl,by (repeat' first|(with_reducible first|exact blR _ _|assumption|refine blD ?_|refine blN ?_ _)|((with_reducible first|refine blA ?_ ?_ _|refine blS ?_ ?_ _|refine blT (by assumption) ?_ ?_);focus (go_size;done)))⟩
     ·have hr : (0,2) = R:=by rw [← HVG3.out,vGo_bad e (fun hh=>hc (by rw [← HT.out] at hh;exact hh.2))]
      subst hr
      clear e HX
      by_cases h1 : off ≤ x1
      ·have h2 : x2 < ak:=by omega
       clear hc
       go_wp2_with fail
       go_ret2
       exact ⟨rfl,by (repeat' first|(with_reducible first|exact blR _ _|assumption|refine blD ?_|refine blN ?_ _)|((with_reducible first|refine blA ?_ ?_ _|refine blS ?_ ?_ _|refine blT (by assumption) ?_ ?_);focus (go_size;done)))⟩
      ·have h2 : x1 < off:=by omega
       clear hc h1
       go_wp2_with fail
       go_ret2
       exact ⟨rfl,by (repeat' first|(with_reducible first|exact blR _ _|assumption|refine blD ?_|refine blN ?_ _)|((with_reducible first|refine blA ?_ ?_ _|refine blS ?_ ?_ _|refine blT (by assumption) ?_ ?_);focus (go_size;done)))⟩
  ·obtain rfl : t = is.length:=by omega
   obtain ⟨s0,s1,s2⟩:=HST.out.cells (show is.length < S.length by have:=HLN.out;omega)
   have r1 : ∀ W,(binOp .neq 60 (.agg #[.bool (oB (S.getD is.length none)),.int .i64 (oH (S.getD is.length none)),.int .i64 (oE (S.getD is.length none))]) (.agg #[.bool true,.int .i64 1,.int .i64 0])).run Tryd.prog W = .ok (.bool (!(oB (S.getD is.length none) == true && (oH (S.getD is.length none) == 1 && oE (S.getD is.length none) == 0)))) W:=fun W=>neq_state _ _ _ _ _ _ W
   have hv:=HVG.out
   rw [pairs_end,vGo_end] at hv
   have HV2:=Lib.hid hv
   generalize (oB (S.getD is.length none) == true && (oH (S.getD is.length none) == 1 && oE (S.getD is.length none) == 0)) = nb at *
   generalize oB (S.getD is.length none) = p0 at *
   generalize oH (S.getD is.length none) = p1 at *
   generalize oE (S.getD is.length none) = p2 at *
   have hbl:=HBL.out
   have hle:=hbl.size
   clear hv HVG HV HBL HST HC
   cases nb with
   | false =>
    have hr:=HV2.out
    simp only [Bool.not_false] at r1
    rw [if_neg (by decide)] at hr
    subst hr
    clear HV2
    go_wp2_with fail
    go_ret2
    exact ⟨rfl,by (repeat' first|(with_reducible first|exact blR _ _|assumption|refine blD ?_|refine blN ?_ _)|((with_reducible first|refine blA ?_ ?_ _|refine blS ?_ ?_ _|refine blT (by assumption) ?_ ?_);focus (go_size;done)))⟩
   | true =>
    have hr:=HV2.out
    simp only [Bool.not_true] at r1
    rw [if_pos rfl] at hr
    subst hr
    clear HV2
    rcases Int.lt_or_le m 1 with hmx | hmx
    ·go_wp2_with fail
     go_ret2
     exact ⟨by rw [Int.max_eq_right (by omega)];rfl,by (repeat' first|(with_reducible first|exact blR _ _|assumption|refine blD ?_|refine blN ?_ _)|((with_reducible first|refine blA ?_ ?_ _|refine blS ?_ ?_ _|refine blT (by assumption) ?_ ?_);focus (go_size;done)))⟩
    ·go_wp2_with fail
     go_ret2
     exact ⟨by rw [Int.max_eq_left (by omega)];rfl,by (repeat' first|(with_reducible first|exact blR _ _|assumption|refine blD ?_|refine blN ?_ _)|((with_reducible first|refine blA ?_ ?_ _|refine blS ?_ ?_ _|refine blT (by assumption) ?_ ?_);focus (go_size;done)))⟩
end Go.Proofs.YtnhmplfonkjfoaaDoor

