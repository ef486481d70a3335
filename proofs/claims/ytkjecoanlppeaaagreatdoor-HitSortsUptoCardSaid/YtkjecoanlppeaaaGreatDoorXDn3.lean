/- What this law reaches beyond the common contracts, part 3. -/
import Derived.BigQuiet
import Derived.Test.YtkjecoanlppeaaaGreatDoorCards
import Derived.Test.YtkjecoanlppeaaaGreatDoorTie
import Derived.Deep.DeepHandedRow
import Derived.LaidMore
import Derived.Lay
import Derived.SevenTiedAt
import Derived.Test.YtkjecoanlppeaaaGreatDoorM5
import Derived.Test.YtkjecoanlppeaaaGreatDoorXDn2
set_option linter.unusedSimpArgs false
set_option linter.unusedVariables false


namespace Go.Proofs.YtkjecoanlppeaaaGreatDoor
open Go.RowKit

theorem wpList_pushR {w : World} {ops : Array Oper} {rest : List Oper} {o : Oper} {a : Act} {Q : Exit → Act → World → Prop} (hgd : o.guard = none) (s x : Operand)
  (ho : o.op = .call { callee:=.builtin .append,args:=#[s,x],argTypes:=#[74,74] })
  (B : Nat) (hB : B ≤ w.heap.size) (v : Value) (rk : Nat → List Nat) (t : Nat) (hs : a.eval s = v) (hrow : RankRows w B v rk t)
  (b : Nat) (A : Option Addr) (D : Nat) (hx : a.eval x = .slice (some ⟨b,0,none⟩) 1 1) (hd : w.cell? ⟨b,0,none⟩ = some (.slice A (rk t).length D)) (hnew : IlstF w (.slice A (rk t).length D) (rk t) v.ownBlock) (hlen : t ≤ 1000000)
  (h : ∀ g cap w',RankRows w' B (.slice (some ⟨g,0,none⟩) (t + 1) cap) rk (t + 1) → Below B w w' → g < w'.heap.size → wpList Tryz.prog ops Q rest (a.put o.dst (.slice (some ⟨g,0,none⟩) (t + 1) cap)) w') :
  wpList Tryz.prog ops Q (o :: rest) a w:=by
 obtain ⟨i0,hi0,hz0,hz1,hz2⟩:=info_parts info_rowO
 obtain ⟨cs,h1,h2⟩:=hrow
 have hcl : cs.length = t:=by have:=h1.1;omega
 refine wpList_append_lies w hgd s x 74 ho B 43 i0 (.slice none 0 0) 1 24 Tryz.underlying74 hi0 hz0 hz1 hz2 rfl (by decide) v t cs hs h1 ⟨b,0,none⟩ 1 1 [.slice A (rk t).length D] hx rfl ?_ ?_ (by decide) (by unfold maxLen;omega) (by omega) hB w.heap.size rfl ?_
 ·intro j u hj
  match j with
  | 0=>simp at hj;subst hj;exact hd
  | j + 1=>simp at hj
 ·intro u hu
  rw [List.mem_singleton.1 hu];rfl
 ·intro g cap w' k1 k2 k3 k4
  have hkeep : ∀ b i,b < w.heap.size → some b ≠ v.ownBlock → w'.cell? ⟨b,i,none⟩ = w.cell? ⟨b,i,none⟩ ∧ some b ≠ (Value.slice (some ⟨g,0,none⟩) (t + 1) cap).ownBlock:=fun b i hb hne=>by
   refine ⟨k2.cell_far ⟨b,i,none⟩ hb hne,fun e=>?_⟩
   have e' : b = g:=by simpa [Value.ownBlock] using e
   subst e'
   rcases k3 with k3 | k3
   ·exact hne k3.symm
   ·omega
  refine h g cap w' ⟨cs ++ [.slice A (rk t).length D],k1,fun i hi=>?_⟩ ⟨k2.os,k2.tape,k2.output,k2.size,fun k hk=>k2.block k (Nat.lt_of_lt_of_le hk hB) (fun e=>?_)⟩ k4
  ·by_cases e : i = t
   ·subst e
    refine ⟨A,D, ?_,hnew.kept hkeep⟩
    rw [List.getElem?_append_right (by omega),hcl,Nat.sub_self];rfl
   ·obtain ⟨A',D',h3,h4⟩:=h2 i (by omega)
    refine ⟨A',D', ?_,h4.kept hkeep⟩
    rw [List.getElem?_append_left (by omega)];exact h3
  ·have:=(h1.lt k e.symm).1
   omega
theorem info_boolO : (Tryz.prog.info? 4).map (fun i=>(i.zero,i.size,i.bytes)) = some (some (.bool false),1,1):=by kernel_rfl
theorem make_bools (n : Nat) (hn : n ≤ 60) : ∀ W : World,(Instr.makeSlice 42 (.int .i64 (n : Int)) (.int .i64 (n : Int))).run Tryz.prog W = .ok (.slice (some ⟨W.heap.size,0,none⟩) n n) (W.alloc (.cells (Array.replicate n (.bool false)) 4)):=fun W=>by
 obtain ⟨ir,hir,hzr,hsr,hbr⟩:=info_parts info_boolO
 have:=run_make (P:=Tryz.prog) W 42 4 ir (.bool false) Tryz.underlying42 hir hzr .i64 .i64 (n : Int) (n : Int) (by omega) (by omega) (by rw [hbr];omega) (by omega)
 rw [this]
 have e : ((n : Int)).toNat = n:=by omega
 have e2 : madeCells (Value.bool false).cells (n * 1) = Array.replicate n (.bool false):=by
  rw [Nat.mul_one,← List.toArray_replicate,← toList_madeCells_one]
  rfl
 rw [e,hsr,e2]
theorem Own.kept1 {w : World} {B b : Nat} {v x : Value} {l : List Nat} {i : Nat} (h : Own w B v l) (hb : b < B) : Own (w.setCell ⟨b,i,none⟩ x) B v l:=by
 refine ⟨h.1, ?_⟩
 rcases h.2 with hn | ⟨g,cap,cur,rfl,h1,hg,rest⟩
 ·exact .inl hn
 ·refine .inr ⟨g,cap,cur,rfl,h1, ?_,rest⟩
  exact (Below.heap_setCell w ⟨b,i,none⟩ x g (by show g ≠ b;omega)).trans hg
set_option maxRecDepth 100000 in
set_option maxHeartbeats 4000000 in
theorem rsort_any (order rows : List (List VD)) (O R : Value) (w : World) (ho : Lls w O order) (hr : Lls w R rows) (hle : ∀ t,t < rows.length → order.length ≤ (lg rows t).length) (hmax : order.length ≤ 1000000) (hn : rows.length ≤ 60) :
  Calls Tryz.prog 30 #[O,R] w fun e w'=>∃ v,e = .returned v ∧ Own w' w.heap.size v (srt (rankF order ∘ lg rows) rows.length) ∧ Below w.heap.size w w':=by
 obtain ⟨A,C,rfl,q1,_,_⟩:=ho.is
 obtain ⟨RA,RC,rfl,q2,_,_⟩:=hr.is
 have HO:=Lib.hid ho
 have HR:=Lib.hid hr
 have HLE:=Lib.hid hle
 clear ho hr q1 q2 hle
 obtain ⟨n,hnn⟩ : ∃ n,n = rows.length:=⟨_,rfl⟩
 rw [← hnn] at hn ⊢
 have HN:=Lib.hid hnn
 clear hnn
 obtain ⟨rk,hrk⟩ : ∃ rk,rk = rankF order ∘ lg rows:=⟨_,rfl⟩
 rw [← hrk]
 have HRL : Hid (∀ a b,(rk a).length = (rk b).length):=Lib.hid (fun a b=>by rw [hrk];exact rankT_len order _ _ _)
 have HRK : Hid (∀ i,rankF order (lg rows i) = rk i):=Lib.hid (fun i=>by rw [hrk];rfl)
 have HRB : Hid (∀ i,(rk i).length ≤ 1048576):=Lib.hid (fun i=>by rw [hrk];exact Nat.le_trans (rankT_le order _ order.length) (by omega))
 clear hrk
 have hnc : (n : Int) ≤ 60:=by omega
 have hn0 : (0 : Int) ≤ (n : Int):=by omega
 have hmk:=Lib.hid (make_bools n hn)
 go_enter Tryz.func30,Tryz.ntmps30
 go_wp2_with fail
 go_loopg [5,6] n (fun k s5 s6 wr=>∃ t : Nat,k + t = n ∧ s6 = .int .i64 t ∧ Hid (RankRows wr w.heap.size s5 rk t) ∧ w.heap.size ≤ wr.heap.size ∧ Below w.heap.size w wr)
 case atStart=>exact ⟨0,by omega,rfl,Lib.hid (RankRows.nil _ _ _),by omega,by (repeat' first|(with_reducible first|exact blR _ _|assumption|refine blD ?_|refine blN ?_ _)|((with_reducible first|refine blA ?_ ?_ _|refine blS ?_ ?_ _|refine blT (by assumption) ?_ ?_);focus (go_size;done)))⟩
 case round =>
  obtain ⟨t,hk,rfl,HW,hsz,hbel⟩:=hrel
  have HK:=Lib.hid hk
  have htl : t ≤ n:=by omega
  clear hk
  by_cases hlt : t < n
  ·obtain ⟨b,o,B1,D1,rfl,hcell0,hv⟩:=HR.out.at (show t < rows.length by rw [← HN.out];exact hlt)
   have hcell:=(hbel.cell (p:=⟨b,o + t,none⟩) (vcell_lt hcell0)).trans hcell0
   clear hcell0
   have lb:=vcell_lt hcell
   have htc : (t : Int) < (n : Int):=by omega
   have HC:=Lib.hid (fun (W : World) (hW : Below w.heap.size w W)=>rrank_any order (lg rows t) (.slice A order.length C) (.slice B1 (lg rows t).length D1) W (HO.out.below hW) (hv.kept hW) (HLE.out t (by rw [← HN.out];exact hlt)) hmax)
   rw [HRK.out t] at HC
   obtain ⟨n1,hn1⟩ : ∃ n1,n1 = (lg rows t).length:=⟨_,rfl⟩
   rw [← hn1] at hcell HC
   have HRT:=Lib.hid (show t ≤ 1000000 by omega)
   clear hn1 hv
   go_wp2_with (first | (go_at_call 50;(with_reducible refine (HC.out _ (by (repeat' first|(with_reducible first|exact blR _ _|assumption|refine blD ?_|refine blN ?_ _)|((with_reducible first|refine blA ?_ ?_ _|refine blS ?_ ?_ _|refine blT (by assumption) ?_ ?_);focus (go_size;done))))).mono ?_);rintro _ w2 ⟨v,rfl,hov,hb2⟩;have hq:=hov.readB (HRB.out t);obtain ⟨VA,VC,e',hvl,hvr⟩:=id hq;subst e';have HVR:=Lib.hid (IlstF.of (bl:=u5.ownBlock) hq (fun g hg=>HW.out.lt g hg));clear hov hvr hq;have hb2s:=hb2.size;(try simp only [World.size_drew,World.size_setCell] at hb2s);(try have : w.heap.size < w2.heap.size:=by omega);(try have : w.heap.size + 1 < w2.heap.size:=by omega);(try have : w.heap.size + 1 + 1 < w2.heap.size:=by omega);(try have : w.heap.size + 1 + 1 + 1 < w2.heap.size:=by omega)) | (at_builtin;refine wpList_pushR rfl _ _ rfl w.heap.size (by go_size) u5 rk t rfl (HW.out.below (by (repeat' first|(with_reducible first|exact blR _ _|assumption|refine blD ?_|refine blN ?_ _)|((with_reducible first|refine blA ?_ ?_ _|refine blS ?_ ?_ _|refine blT (by assumption) ?_ ?_);focus (go_size;done))))) w2.heap.size VA VC rfl (by simp) (HVR.out.below (by (repeat' first|(with_reducible first|exact blR _ _|assumption|refine blD ?_|refine blN ?_ _)|((with_reducible first|refine blA ?_ ?_ _|refine blS ?_ ?_ _|refine blT (by assumption) ?_ ?_);focus (go_size;done))))) HRT.out ?_;intro g cap w3 ho3 hb3 hlt3;have HO3:=Lib.hid ho3;have hs3:=hb3.size;(try simp only [World.size_alloc] at hs3);have hbw3 : Below w.heap.size w w3:=Below.trans (by (repeat' first|(with_reducible first|exact blR _ _|assumption|refine blD ?_|refine blN ?_ _)|((with_reducible first|refine blA ?_ ?_ _|refine blS ?_ ?_ _|refine blT (by assumption) ?_ ?_);focus (go_size;done)))) hb3;clear ho3 hb3))
   go_roundg (gk - 1)
   case measure=>have:=HK.out;omega
   case rel=>exact ⟨t + 1,by have:=HK.out;omega,by go_num,HO3,by omega,hbw3⟩
  ·obtain rfl : t = n:=by omega
   clear hlt
   have hmk1:=hmk.out
   obtain ⟨A5,C5,e5,h5a,h5b⟩:=HW.out.is (by omega)
   subst e5
   go_wp2_with fail
   clear hmk1
   have hb0 : Bk (wr.alloc (.cells (Array.replicate t (.bool false)) 4)) wr.heap.size 4 (tkn rk t 0):=by rw [tkn_zero];exact Bk.zeros wr 4 t (.bool false) rfl
   obtain ⟨tb,htb⟩ : ∃ tb,tb = wr.heap.size:=⟨_,rfl⟩
   have hbl0 : Below tb wr (wr.alloc (.cells (Array.replicate t (.bool false)) 4)):=by rw [htb];(repeat' first|(with_reducible first|exact blR _ _|assumption|refine blD ?_|refine blN ?_ _)|((with_reducible first|refine blA ?_ ?_ _|refine blS ?_ ?_ _|refine blT (by assumption) ?_ ?_);focus (go_size;done)))
   have hs0 : tb + 1 ≤ (wr.alloc (.cells (Array.replicate t (.bool false)) 4)).heap.size:=by rw [htb];go_size
   have hh0 : w.heap.size ≤ tb:=by omega
   have HTB:=Lib.hid htb
   rw [← htb] at hb0 ⊢
   clear htb
   generalize wr.alloc (.cells (Array.replicate t (.bool false)) 4) = wx at *
   obtain ⟨n,hnn⟩ : ∃ n,n = t:=⟨_,rfl⟩
   subst hnn
   obtain ⟨w1,hw1⟩ : ∃ w1,w1 = wr:=⟨_,rfl⟩
   subst hw1
   clear HK
   go_loopg [8] n (fun k s8 wz=>∃ m : Nat,k + m = n ∧ Hid (Own wz (tb + 1) s8 ((srt rk n).take m)) ∧ Hid (Bk wz tb 4 (tkn rk n m)) ∧ tb + 1 ≤ wz.heap.size ∧ Below tb w1 wz)
   case atStart=>exact ⟨0,by omega,Lib.hid (Own.nil _ _),Lib.hid hb0,hs0,hbl0⟩
   case round =>
    obtain ⟨m,hk2,HOW,HBK,hsz2,hbel2⟩:=hrel
    have HK2:=Lib.hid hk2
    have hml : m ≤ n:=by omega
    clear hk2
    obtain ⟨A8,C8,e8⟩:=HOW.out.is
    have hl8 : ((srt rk n).take m).length = m:=by rw [List.length_take,srt_len];omega
    rw [hl8] at e8
    have HL8:=Lib.hid hl8
    clear hl8
    subst e8
    by_cases hlm : m < n
    ·have hmc : (m : Int) < (n : Int):=by omega
     go_wp2_with fail
     obtain ⟨wz,hwz⟩ : ∃ wz,wz = wr:=⟨_,rfl⟩
     subst hwz
     obtain ⟨g2,hg2⟩ : ∃ g,g = gk:=⟨_,rfl⟩
     subst hg2
     go_loopg [9,10] n (fun k s9 s10 wy=>∃ (i : Nat) (z : Int),k + i = n ∧ s10 = .int .i64 i ∧ s9 = .int .i64 z ∧ Hid (SelB rk n m i z) ∧ Below wz.heap.size wz wy)
     case atStart=>exact ⟨0,-1,by omega,rfl,rfl,Lib.hid SelB.start,by (repeat' first|(with_reducible first|exact blR _ _|assumption|refine blD ?_|refine blN ?_ _)|((with_reducible first|refine blA ?_ ?_ _|refine blS ?_ ?_ _|refine blT (by assumption) ?_ ?_);focus (go_size;done)))⟩
     case round =>
      obtain ⟨i,z,hk3,rfl,rfl,HSB,hbel3⟩:=hrel
      have HK3:=Lib.hid hk3
      have hil : i ≤ n:=by omega
      clear hk3
      have hbz : Bk wr tb 4 (tkn rk n m):=HBK.out.below hbel3 (by omega)
      have hlz:=hbz.lt
      have hs3:=hbel3.size
      by_cases hli : i < n
      ·have hic : (i : Int) < (n : Int):=by omega
       have ht:=hbz.cell i (tkn_at hli)
       by_cases hm : i ∈ (srt rk n).take m
       ·rw [decide_eq_true hm] at ht
        have HMM:=Lib.hid hm
        clear hm hbz
        go_wp2_with fail
        go_quiet (fail)
        go_wp2_with fail
        go_roundg (gk - 1)
        case measure=>have:=HK3.out;omega
        case rel=>exact ⟨i + 1,z,by have:=HK3.out;omega,by go_num,rfl,Lib.hid (HSB.out.over HMM.out),by (repeat' first|(with_reducible first|exact blR _ _|assumption|refine blD ?_|refine blN ?_ _)|((with_reducible first|refine blA ?_ ?_ _|refine blS ?_ ?_ _|refine blT (by assumption) ?_ ?_);focus (go_size;done)))⟩
       ·rw [decide_eq_false hm] at ht
        have HMM:=Lib.hid hm
        clear hm hbz
        rcases HSB.out.cases with hz | ⟨b,hz,hb⟩
        ·subst hz
         go_wp2_with fail
         go_quiet (fail)
         go_wp2_with fail
         go_roundg (gk - 1)
         case measure=>have:=HK3.out;omega
         case rel=>exact ⟨i + 1,i,by have:=HK3.out;omega,by go_num,rfl,Lib.hid (HSB.out.first HMM.out),by (repeat' first|(with_reducible first|exact blR _ _|assumption|refine blD ?_|refine blN ?_ _)|((with_reducible first|refine blA ?_ ?_ _|refine blS ?_ ?_ _|refine blT (by assumption) ?_ ?_);focus (go_size;done)))⟩
        ·subst hz
         have hbl : (b : Int) < (n : Int):=by omega
         have hbn : decide ((b : Int) < 0) = false:=decide_eq_false (by omega)
         have hb0 : (0 : Int) ≤ (b : Int):=by omega
         have hbw : Below w1.heap.size w1 wr:=(hbel2.trans (hbel3.mono (by have:=hbel2.size;omega))).mono (by rw [HTB.out];exact Nat.le_refl _)
         obtain ⟨g,o,A1,D1,rfl,c1,i1⟩:=(HW.out.below hbw).at hli
         obtain ⟨g',o',A2,D2,e',c2,i2⟩:=(HW.out.below hbw).at (show b < n by omega)
         injection e' with e'
         injection e' with e1 e2 _
         subst e1 e2
         have lg1:=vcell_lt c1
         have HC:=Lib.hid (fun (j : Nat)=>ahead_any (rk i) (rk b) _ _ (wr.drewN j) (HRL.out _ _) i1 i2)
         obtain ⟨q,hq⟩ : ∃ q,q = cmpL (rk i) (rk b):=⟨_,rfl⟩
         rw [← hq] at HC
         have HQ:=Lib.hid hq
         obtain ⟨n1,hn1⟩ : ∃ x,x = (rk i).length:=⟨_,rfl⟩
         obtain ⟨n2,hn2⟩ : ∃ x,x = (rk b).length:=⟨_,rfl⟩
         rw [← hn1] at c1 HC
         rw [← hn2] at c2 HC
         clear hn1 hn2 hq i1 i2
         by_cases hq0 : q < 0
         ·go_wp2_with fail
          go_quiet ((go_at_call 51;(first | exact Calls.quiet_of (HC.out _) | exact quiet_add (HC.out _))))
          go_wp2_with fail
          go_roundg (gk - 1)
          case measure=>have:=HK3.out;omega
          case rel=>exact ⟨i + 1,i,by have:=HK3.out;omega,by go_num,rfl,Lib.hid (HSB.out.better HMM.out (by rw [← HQ.out];exact hq0)),by (repeat' first|(with_reducible first|exact blR _ _|assumption|refine blD ?_|refine blN ?_ _)|((with_reducible first|refine blA ?_ ?_ _|refine blS ?_ ?_ _|refine blT (by assumption) ?_ ?_);focus (go_size;done)))⟩
         ·go_wp2_with fail
          go_quiet ((go_at_call 51;(first | exact Calls.quiet_of (HC.out _) | exact quiet_add (HC.out _))))
          go_wp2_with fail
          go_roundg (gk - 1)
          case measure=>have:=HK3.out;omega
          case rel=>exact ⟨i + 1,b,by have:=HK3.out;omega,by go_num,rfl,Lib.hid (HSB.out.worse (by rw [← HQ.out];omega)),by (repeat' first|(with_reducible first|exact blR _ _|assumption|refine blD ?_|refine blN ?_ _)|((with_reducible first|refine blA ?_ ?_ _|refine blS ?_ ?_ _|refine blT (by assumption) ?_ ?_);focus (go_size;done)))⟩
      ·obtain rfl : i = n:=by omega
       clear hli
       have hz : z = (sgR rk i m : Int):=HSB.out.found hlm
       subst hz
       have hct:=hbz.cell (sgR rk i m) (tkn_at (sg_lt hlm))
       have hft:=hbz.frozen (sgR rk i m)
       have hzl : (sgR rk i m : Int) < (i : Int):=by have:=sg_lt (rk:=rk) hlm;omega
       have HTS:=Lib.hid (tkn_succ (rk:=rk) hlm)
       have HTK:=Lib.hid (srt_take (rk:=rk) hlm)
       have HBZ:=Lib.hid hbz
       have HOZ:=Lib.hid (HOW.out.below hbel3)
       obtain ⟨p,hp⟩ : ∃ p,p = sgR rk i m:=⟨_,rfl⟩
       simp only [← hp] at hct hft hzl HTS HTK ⊢
       clear hbz hp
       have HRT:=Lib.hid (show ((srt rk i).take m).length ≤ 1000000 by have:=HL8.out;omega)
       go_wp2_with (at_builtin;refine wpList_pushO rfl _ _ 43 rfl Tryz.underlying43 (tb + 1) ?hB (.slice A8 m C8) ((srt rk i).take m) rfl ?hrow wr.heap.size p rfl ?hd ?hlen ?h;rotate_left 4;rw [HL8.out];intro g cap w3 ho3 hb3 hlt3;have HO3:=Lib.hid ho3;have HB3:=Lib.hid hb3;clear ho3;have hs4:=hb3.size;(try simp only [World.size_alloc,World.size_setCell] at hs4))
       case hB=>go_size
       case hrow=>exact (Own.kept1 HOZ.out (by omega)).alloc _
       case hd=>exact (Bk.new_ (t:=3) (cs:=[.int .i64 (p : Int)]) (by simp only [World.size_setCell])).cell 0 rfl
       case hlen=>exact HRT.out
       go_roundg (g2 - 1)
       case measure=>have:=HK2.out;omega
       case rel =>
        refine ⟨m + 1,by have:=HK2.out;omega,Lib.hid ?_,Lib.hid ?_,by omega, ?_⟩
        ·rw [HTK.out]
         have e:=HO3.out
         exact e
        ·rw [← HTS.out]
         exact (((HBZ.out.set_ p _).alloc _).below HB3.out (by omega))
        ·have hb4 : Below tb wz (wr.setCell ⟨tb,p,none⟩ (.bool true)):=by
          have hb6 : Below tb wz wr:=hbel3.mono (by omega)
          exact hb6.setCell (by show tb ≤ tb;omega) _
         have hb5:=hb4.alloc (by simp only [World.size_setCell];omega) (.cells #[.int .i64 (p : Int)] 3)
         exact hbel2.trans (hb5.trans (HB3.out.mono (by omega)))
    ·obtain rfl : m = n:=by omega
     clear hlm
     go_wp2_with fail
     go_ret
     refine ⟨_,rfl, ?_, ?_⟩
     ·have e:=HOW.out
      have e2 : (srt rk m).take m = srt rk m:=List.take_of_length_le (by rw [srt_len];exact Nat.le_refl _)
      rw [e2] at e
      have hl : (srt rk m).length = m:=srt_len rk m
      exact e.mono (by omega)
     ·exact hbel.trans (hbel2.mono (by omega))
end Go.Proofs.YtkjecoanlppeaaaGreatDoor



namespace Go.Proofs.YtkjecoanlppeaaaGreatDoor
open Go.RowKit
open Go.ChangeShapes Go.WideShapes Go.ChangeAt
open Go.ChangeMaps (open_string shut_string)

theorem lls_of {P : Nat → List VD → Prop} : ∀ n,(∀ i,i < n → ∃ l,P i l) → ∃ ls : List (List VD),ls.length = n ∧ ∀ i,i < n → P i (lg ls i)
 | 0,_=>⟨[],rfl,fun i hi=>absurd hi (Nat.not_lt_zero _)⟩
 | n + 1,h=>by
  obtain ⟨l,h1,h2⟩:=lls_of (P:=P) n (fun i hi=>h i (by omega))
  obtain ⟨d,h4⟩:=h n (by omega)
  refine ⟨l ++ [d],by rw [List.length_append,h1];rfl,fun i hi=>?_⟩
  unfold lg
  rcases Nat.lt_or_ge i n with h' | h'
  ·rw [List.getD_eq_getElem?_getD,List.getElem?_append_left (by omega)]
   have:=h2 i h'
   unfold lg at this
   rwa [List.getD_eq_getElem?_getD] at this
  ·obtain rfl : i = n:=by omega
   rw [List.getD_eq_getElem?_getD,List.getElem?_append_right (by omega),h1,Nat.sub_self]
   exact h4
section
variable {H : Type} {enc : TypeId × Value → H} {W : World} {b0 : Nat} {sp : Nat → Bool} {held : Bool}
set_option maxRecDepth 100000 in
set_option maxHeartbeats 1000000 in
theorem open_vls {fuel : Nat} {c : Value} {x : DataW H × List MemPlace} (h : DataW.trod enc Tryz.prog W b0 sp held fuel 24 [c] = some x) (hN2 : Rows.uptoBulk x.1 ≤ 1048576) :
  ∃ A C l,c = .slice A l.length C ∧ Vls (RV W) W c l ∧ sizes l ≤ Rows.uptoBulk x.1:=by
 have n6 : Tryz.prog.cellsOf 34 = 10:=by kernel_rfl
 rcases Deep.open_slice Tryz.underlying24 h with ⟨hc,rfl⟩ | ⟨a,len,cap,m,n',D,Pl,hc,_,hl,hm,hmm,rfl,hxs⟩
 ·injection hc with hc
  subst hc
  exact ⟨none,0,[],rfl,⟨none,0,rfl,⟨by simp,by simp,by unfold maxLen;omega⟩,fun r hr=>absurd hr (by simp)⟩,by simp [sizes]⟩
 ·injection hc with hc
  subst hc
  rw [n6] at hxs
  have hle : len ≤ m:=by rw [hmm];split <;> omega
  simp only [Rows.uptoBulk] at hN2 ⊢
  rw [bulk_range] at hN2 ⊢
  have hlen2 : len ≤ 1048576:=by
   have:=sum_pos (fun i=>Rows.uptoBulk (D i)) (fun i=>bulk_pos _) len
   omega
  obtain ⟨b,o,spot⟩:=a
  obtain ⟨l,h1,h2,h3⟩:=vds_of (P:=fun i vd=>spot = none ∧ ∃ A1 C1 A2 C2,At W b (o + i * 10) (vd.s.cs ++ [.slice A1 vd.list.length C1,.slice A2 vd.names.length C2]) ∧ RV W (.slice A1 vd.list.length C1) (.slice A2 vd.names.length C2) vd) (f:=fun i=>Rows.uptoBulk (D i)) len (fun i hi=>by
   obtain ⟨cs',q1,q2⟩:=hxs i (by omega)
   have hbi:=sum_mem (fun i=>Rows.uptoBulk (D i)) len i hi
   obtain ⟨vd,A1,C1,A3,C3,e,hrv,hs⟩:=open_cells (Rows.uptoBulk (D i)) n' cs' (D i,Pl i) (Nat.le_refl _) (by omega) q2
   obtain ⟨_,hl10,hat⟩:=World.cells?_some q1
   have hspot : spot = none:=by
    obtain ⟨cs0,p1,_⟩:=hxs 0 (by omega)
    obtain ⟨_,hl0,hat0⟩:=World.cells?_some p1
    have h0:=hat0 0 (by omega)
    rw [List.getElem?_eq_getElem (by omega)] at h0
    simpa [Addr.add] using World.cell?_spot h0
   subst hspot
   refine ⟨vd,⟨rfl,A1,C1,A3,C3,fun j hj=>?_,hrv⟩,hs⟩
   rw [← e] at hj ⊢
   rw [← hat j (by omega)]
   congr 1
   rw [show ((⟨b,o,none⟩ : Addr).add (i * 10)) = ⟨b,o + i * 10,none⟩ from add_plain ..,show ((⟨b,o + i * 10,none⟩ : Addr).add j) = ⟨b,o + i * 10 + j,none⟩ from add_plain ..])
  refine ⟨some ⟨b,o,spot⟩,cap,l,by rw [h1],⟨some ⟨b,o,spot⟩,cap,by rw [h1],⟨by omega,by omega,by unfold maxLen at hm ⊢;omega⟩,fun r hr=>?_⟩,by omega⟩
  obtain ⟨q0,A1,C1,A3,C3,q1,q2⟩:=h2 r (by omega)
  subst q0
  exact ⟨b,o,A1,C1,A3,C3,rfl,q1,q2⟩
set_option maxRecDepth 100000 in
theorem open_lls {fuel : Nat} {c : Value} {x : DataW H × List MemPlace} (h : DataW.trod enc Tryz.prog W b0 sp held fuel 23 [c] = some x) (hb : Rows.uptoBulk x.1 ≤ 1048576) :
  ∃ A C ls,c = .slice A ls.length C ∧ Lls W c ls ∧ ∀ t,t < ls.length → SmallL (lg ls t):=by
 rcases Deep.open_slice1 Tryz.underlying23 (by kernel_rfl) h with ⟨hc,rfl⟩ | ⟨a,len,cap,m,n,V,D,Pl,hc,_,hl,hm,hmm,rfl,hx⟩
 ·injection hc with hc
  subst hc
  exact ⟨none,0,[],rfl,⟨none,0,rfl,⟨by simp,by simp,by unfold maxLen;omega⟩,fun r hr=>absurd hr (by simp)⟩,fun t ht=>absurd ht (by simp)⟩
 ·injection hc with hc
  subst hc
  have hle : len ≤ m:=by rw [hmm];split <;> omega
  simp only [Rows.uptoBulk] at hb
  rw [bulk_range] at hb
  have hlen : len ≤ 1048576:=by
   have:=sum_pos (fun i=>Rows.uptoBulk (D i)) (fun i=>bulk_pos _) len
   omega
  obtain ⟨b,o,spot⟩:=a
  obtain ⟨ls,h1,h2⟩:=lls_of (P:=fun i l=>spot = none ∧ (∃ B E,W.cell? ⟨b,o + i,none⟩ = some (.slice B l.length E) ∧ Vls (RV W) W (.slice B l.length E) l) ∧ SmallL l) len (fun i hi=>by
   obtain ⟨h3,h4⟩:=hx i (by omega)
   have hbi:=sum_mem (fun i=>Rows.uptoBulk (D i)) len i hi
   obtain ⟨B,E,l,e,hv,hs⟩:=open_vls h4 (by dsimp only;omega)
   have hspot : spot = none:=by simpa [Addr.add] using World.cell?_spot (hx 0 (by omega)).1
   subst hspot
   dsimp only at hs
   rw [e] at hv
   refine ⟨l,rfl,⟨B,E, ?_,hv⟩,smallL_of (by omega)⟩
   rw [← add_plain,h3,e])
  refine ⟨some ⟨b,o,spot⟩,cap,ls,by rw [h1],⟨some ⟨b,o,spot⟩,cap,by rw [h1],⟨by omega,by omega,by unfold maxLen at hm ⊢;omega⟩,fun r hr=>?_⟩,fun t ht=>(h2 t (by omega)).2.2⟩
  obtain ⟨q0,⟨B,E,q1,q2⟩,_⟩:=h2 r (by omega)
  subst q0
  exact ⟨b,o,B,E,rfl,q1,q2⟩
end
end Go.Proofs.YtkjecoanlppeaaaGreatDoor



namespace Go.Proofs.YtkjecoanlppeaaaGreatDoor
open Go.RowKit

def LlsX (w wx : World) (R : Value) (rs : List (List VD)) : Prop:=∃ A C,R = .slice A rs.length C ∧ (rs.length ≤ 1048576 ∧ rs.length ≤ C ∧ C ≤ maxLen) ∧ ∀ t,t < rs.length → ∃ b o B D,A = some ⟨b,o,none⟩ ∧ wx.cell? ⟨b,o + t,none⟩ = some (.slice B (lg rs t).length D) ∧ Vls (RV w) w (.slice B (lg rs t).length D) (lg rs t)
theorem LlsX.is {w wx : World} {R : Value} {rs : List (List VD)} (h : LlsX w wx R rs) : ∃ A C,R = .slice A rs.length C:=by
 obtain ⟨A,C,h1,_⟩:=h
 exact ⟨A,C,h1⟩
theorem LlsX.at {w wx : World} {rs : List (List VD)} {A : Option Addr} {n C : Nat} (h : LlsX w wx (.slice A n C) rs) {t : Nat} (ht : t < rs.length) : ∃ b o B D,A = some ⟨b,o,none⟩ ∧ wx.cell? ⟨b,o + t,none⟩ = some (.slice B (lg rs t).length D) ∧ Vls (RV w) w (.slice B (lg rs t).length D) (lg rs t):=by
 obtain ⟨A',C',h1,h2,h3⟩:=h
 injection h1 with e1 e2 e3
 subst e1
 exact h3 t ht
end Go.Proofs.YtkjecoanlppeaaaGreatDoor



namespace Go.Proofs.YtkjecoanlppeaaaGreatDoor
open Go.RowKit

def sortB (order rows : List (List VD)) : Bool:=decide (order.length ≤ 8) && listsB order rows order.length
def SortOk (order rows : List (List VD)) (w : World) (e : Ending) (w' : World) : Prop:=∃ v,e = .returned (.tuple #[v,.int .i64 0]) ∧ Ilst w' v (plD order rows) ∧ Below w.heap.size w w'
def SortBad (w : World) (e : Ending) (w' : World) : Prop:=e = .returned (.tuple #[.slice none 0 0,.int .i64 2]) ∧ Below w.heap.size w w'
set_option maxHeartbeats 1000000 in
theorem hsort_ok (order rows : List (List VD)) (O R : Value) (w : World) (hT : Tabs w) (ho : Lls w O order) (hr : Lls w R rows) (h : sortB order rows = true) : Calls Tryz.prog 15 #[O,R] w (SortOk order rows w):=by
 unfold sortB at h
 rw [Bool.and_eq_true,decide_eq_true_eq] at h
 obtain ⟨h8,hl⟩:=h
 obtain ⟨_,r60,l3,l4⟩:=listsB_iff.1 hl
 have HFT:=Lib.hid (fun (W : World) (hW : Below w.heap.size w W)=>fits_any order rows O R order.length W (tabs_below hT hW) (ho.below hW) (hr.below hW) (by omega))
 rw [hl] at HFT
 have HST:=Lib.hid (fun (W : World) (hW : Below w.heap.size w W)=>hsorted_any order rows O R W (tabs_below hT hW) (ho.below hW) (hr.below hW) (fun t ht=>(l3 t ht).2) (fun t ht=>(l4 t ht).2) (fun t ht=>by rw [(l4 t ht).1];exact Nat.le_refl _) (by omega) r60)
 obtain ⟨A,C,rfl,_⟩:=ho.is
 obtain ⟨A2,C2,rfl,_⟩:=hr.is
 have h8c : ¬ (8 : Int) < (order.length : Int):=by omega
 have hlc : (order.length : Int) ≤ 8:=by omega
 clear hT ho hr hl l3 l4
 go_enter Tryz.func15,Tryz.ntmps15
 go_wp2_with (first | ((go_at_call 31;with_reducible refine (HFT.out _ (by (repeat' first|(with_reducible first|exact blR _ _|assumption|refine blD ?_|refine blN ?_ _)|((with_reducible first|refine blA ?_ ?_ _|refine blS ?_ ?_ _|refine blT (by assumption) ?_ ?_);focus (go_size;done))))).mono ?_);rintro _ w2 ⟨rfl,hb2⟩;have hb2s:=hb2.size;(try simp only [wsA,wsS,wsD,wsN] at hb2s);obtain ⟨hb2c,hb2f⟩:=bcell hb2;(try have : w.heap.size < w2.heap.size:=by omega);(try have : w.heap.size + 1 < w2.heap.size:=by omega);(try have : w.heap.size + 1 + 1 < w2.heap.size:=by omega);(try have : w.heap.size + 1 + 1 + 1 < w2.heap.size:=by omega)) | (go_at_call 32;(with_reducible refine (HST.out _ (by (repeat' first|(with_reducible first|exact blR _ _|assumption|refine blD ?_|refine blN ?_ _)|((with_reducible first|refine blA ?_ ?_ _|refine blS ?_ ?_ _|refine blT (by assumption) ?_ ?_);focus (go_size;done))))).mono ?_);rintro _ w3 ⟨v,rfl,hil,hb3,_⟩;have HIL:=Lib.hid hil;clear hil;have hb3s:=hb3.size))
 go_ret2
 exact ⟨v,rfl,HIL.out,by (repeat' first|(with_reducible first|exact blR _ _|assumption|refine blD ?_|refine blN ?_ _)|((with_reducible first|refine blA ?_ ?_ _|refine blS ?_ ?_ _|refine blT (by assumption) ?_ ?_);focus (go_size;done)))⟩
set_option maxHeartbeats 1000000 in
theorem hsort_bad (order rows : List (List VD)) (O R : Value) (w : World) (hT : Tabs w) (ho : Lls w O order) (hr : Lls w R rows) (h : sortB order rows = false) : Calls Tryz.prog 15 #[O,R] w (SortBad w):=by
 have HFT:=Lib.hid (fun (W : World) (hW : Below w.heap.size w W) (hn : order.length ≤ 8)=>fits_any order rows O R order.length W (tabs_below hT hW) (ho.below hW) (hr.below hW) (by omega))
 obtain ⟨A,C,rfl,_⟩:=ho.is
 obtain ⟨A2,C2,rfl,_⟩:=hr.is
 by_cases h8 : order.length ≤ 8
 ·have hl : listsB order rows order.length = false:=by
   unfold sortB at h
   rw [decide_eq_true h8,Bool.true_and] at h
   exact h
  rw [hl] at HFT
  have h8c : ¬ (8 : Int) < (order.length : Int):=by omega
  clear hT ho hr hl h
  go_enter Tryz.func15,Tryz.ntmps15
  go_wp2_with ((go_at_call 31;with_reducible refine (HFT.out _ (by (repeat' first|(with_reducible first|exact blR _ _|assumption|refine blD ?_|refine blN ?_ _)|((with_reducible first|refine blA ?_ ?_ _|refine blS ?_ ?_ _|refine blT (by assumption) ?_ ?_);focus (go_size;done)))) h8).mono ?_);rintro _ w2 ⟨rfl,hb2⟩;have hb2s:=hb2.size;(try simp only [wsA,wsS,wsD,wsN] at hb2s);obtain ⟨hb2c,hb2f⟩:=bcell hb2;(try have : w.heap.size < w2.heap.size:=by omega);(try have : w.heap.size + 1 < w2.heap.size:=by omega);(try have : w.heap.size + 1 + 1 < w2.heap.size:=by omega);(try have : w.heap.size + 1 + 1 + 1 < w2.heap.size:=by omega))
  go_ret2
  exact ⟨rfl,by (repeat' first|(with_reducible first|exact blR _ _|assumption|refine blD ?_|refine blN ?_ _)|((with_reducible first|refine blA ?_ ?_ _|refine blS ?_ ?_ _|refine blT (by assumption) ?_ ?_);focus (go_size;done)))⟩
 ·have h8c : (8 : Int) < (order.length : Int):=by omega
  clear hT ho hr h HFT
  go_enter Tryz.func15,Tryz.ntmps15
  go_wp2_with fail
  go_ret2
  exact ⟨rfl,by (repeat' first|(with_reducible first|exact blR _ _|assumption|refine blD ?_|refine blN ?_ _)|((with_reducible first|refine blA ?_ ?_ _|refine blS ?_ ?_ _|refine blT (by assumption) ?_ ?_);focus (go_size;done)))⟩
set_option maxHeartbeats 1000000 in
theorem dsort_ok (order rows : List (List VD)) (O R : Value) (w : World) (hso : ∀ t,t < order.length → SmallL (lg order t)) (hsr : ∀ t,t < rows.length → SmallL (lg rows t)) (ho : Lls w O order) (hr : Lls w R rows) (h : sortB order rows = true) : Calls Tryz.prog 14 #[O,R] w (SortOk order rows w):=by
 unfold sortB at h
 rw [Bool.and_eq_true,decide_eq_true_eq] at h
 obtain ⟨h8,hl⟩:=h
 obtain ⟨_,r60,l3,l4⟩:=listsB_iff.1 hl
 have HFT:=Lib.hid (fun (W : World) (hW : Below w.heap.size w W)=>lists_any order rows O R order.length W hso hsr (ho.below hW) (hr.below hW) (by omega))
 rw [hl] at HFT
 have HST:=Lib.hid (fun (W : World) (hW : Below w.heap.size w W)=>rsort_any order rows O R W (ho.below hW) (hr.below hW) (fun t ht=>by rw [(l4 t ht).1];exact Nat.le_refl _) (by omega) r60)
 have HLL : Hid ((plD order rows).length ≤ 1048576):=Lib.hid (by have : (plD order rows).length = rows.length:=srt_len _ _;omega)
 obtain ⟨A,C,rfl,_⟩:=ho.is
 obtain ⟨A2,C2,rfl,_⟩:=hr.is
 have h8c : ¬ (8 : Int) < (order.length : Int):=by omega
 clear hso hsr ho hr hl l3 l4
 go_enter Tryz.func14,Tryz.ntmps14
 go_wp2_with (first | ((go_at_call 29;with_reducible refine (HFT.out _ (by (repeat' first|(with_reducible first|exact blR _ _|assumption|refine blD ?_|refine blN ?_ _)|((with_reducible first|refine blA ?_ ?_ _|refine blS ?_ ?_ _|refine blT (by assumption) ?_ ?_);focus (go_size;done))))).mono ?_);rintro _ w2 ⟨rfl,hb2⟩;have hb2s:=hb2.size;(try simp only [wsA,wsS,wsD,wsN] at hb2s);obtain ⟨hb2c,hb2f⟩:=bcell hb2;(try have : w.heap.size < w2.heap.size:=by omega);(try have : w.heap.size + 1 < w2.heap.size:=by omega);(try have : w.heap.size + 1 + 1 < w2.heap.size:=by omega);(try have : w.heap.size + 1 + 1 + 1 < w2.heap.size:=by omega)) | (go_at_call 30;(with_reducible refine (HST.out _ (by (repeat' first|(with_reducible first|exact blR _ _|assumption|refine blD ?_|refine blN ?_ _)|((with_reducible first|refine blA ?_ ?_ _|refine blS ?_ ?_ _|refine blT (by assumption) ?_ ?_);focus (go_size;done))))).mono ?_);rintro _ w3 ⟨v,rfl,hov,hb3⟩;have HIL:=Lib.hid (hov.read HLL.out);clear hov;have hb3s:=hb3.size))
 go_ret2
 exact ⟨v,rfl,HIL.out,by (repeat' first|(with_reducible first|exact blR _ _|assumption|refine blD ?_|refine blN ?_ _)|((with_reducible first|refine blA ?_ ?_ _|refine blS ?_ ?_ _|refine blT (by assumption) ?_ ?_);focus (go_size;done)))⟩
set_option maxHeartbeats 1000000 in
theorem dsort_bad (order rows : List (List VD)) (O R : Value) (w : World) (hso : ∀ t,t < order.length → SmallL (lg order t)) (hsr : ∀ t,t < rows.length → SmallL (lg rows t)) (ho : Lls w O order) (hr : Lls w R rows) (h : sortB order rows = false) : Calls Tryz.prog 14 #[O,R] w (SortBad w):=by
 have HFT:=Lib.hid (fun (W : World) (hW : Below w.heap.size w W) (hn : order.length ≤ 8)=>lists_any order rows O R order.length W hso hsr (ho.below hW) (hr.below hW) (by omega))
 obtain ⟨A,C,rfl,_⟩:=ho.is
 obtain ⟨A2,C2,rfl,_⟩:=hr.is
 by_cases h8 : order.length ≤ 8
 ·have hl : listsB order rows order.length = false:=by
   unfold sortB at h
   rw [decide_eq_true h8,Bool.true_and] at h
   exact h
  rw [hl] at HFT
  have h8c : ¬ (8 : Int) < (order.length : Int):=by omega
  clear hso hsr ho hr hl h
  go_enter Tryz.func14,Tryz.ntmps14
  go_wp2_with ((go_at_call 29;with_reducible refine (HFT.out _ (by (repeat' first|(with_reducible first|exact blR _ _|assumption|refine blD ?_|refine blN ?_ _)|((with_reducible first|refine blA ?_ ?_ _|refine blS ?_ ?_ _|refine blT (by assumption) ?_ ?_);focus (go_size;done)))) h8).mono ?_);rintro _ w2 ⟨rfl,hb2⟩;have hb2s:=hb2.size;(try simp only [wsA,wsS,wsD,wsN] at hb2s);obtain ⟨hb2c,hb2f⟩:=bcell hb2;(try have : w.heap.size < w2.heap.size:=by omega);(try have : w.heap.size + 1 < w2.heap.size:=by omega);(try have : w.heap.size + 1 + 1 < w2.heap.size:=by omega);(try have : w.heap.size + 1 + 1 + 1 < w2.heap.size:=by omega))
  go_ret2
  exact ⟨rfl,by (repeat' first|(with_reducible first|exact blR _ _|assumption|refine blD ?_|refine blN ?_ _)|((with_reducible first|refine blA ?_ ?_ _|refine blS ?_ ?_ _|refine blT (by assumption) ?_ ?_);focus (go_size;done)))⟩
 ·have h8c : (8 : Int) < (order.length : Int):=by omega
  clear hso hsr ho hr h HFT
  go_enter Tryz.func14,Tryz.ntmps14
  go_wp2_with fail
  go_ret2
  exact ⟨rfl,by (repeat' first|(with_reducible first|exact blR _ _|assumption|refine blD ?_|refine blN ?_ _)|((with_reducible first|refine blA ?_ ?_ _|refine blS ?_ ?_ _|refine blT (by assumption) ?_ ?_);focus (go_size;done)))⟩
end Go.Proofs.YtkjecoanlppeaaaGreatDoor



namespace Go.Proofs.YtkjecoanlppeaaaGreatDoor
open Go.RowKit

theorem below_d {B : Nat} {w w' : World} (h : Below B w w') (n : Nat) : Below B w (w'.drewN n):=below_drewN h n
set_option maxRecDepth 100000 in
set_option maxHeartbeats 2000000 in
theorem walk_sorts (order rows : List (List VD)) (N O R V : Value) (w : World) (hT : Tabs w) (hso : ∀ t,t < order.length → SmallL (lg order t)) (hsr : ∀ t,t < rows.length → SmallL (lg rows t)) (hN : ∃ A n C,N = .slice A n C) (ho : Lls w O order) (hr : Lls w R rows) (hV : ∃ A n C,V = .slice A n C) :
  Calls Tryz.prog 6 #[.agg #[N,O,R,V]] w fun e w'=>e = .returned (.bool true) ∧ Below w.heap.size w w':=by
 have HK:=Lib.hid (fun (W : World) (hW : Below w.heap.size w W)=>known18_any W (tabs_below hT hW))
 by_cases hs : sortB order rows = true
 ·have h1:=fun (W : World) (hW : Below w.heap.size w W)=>dsort_ok order rows O R W hso hsr (ho.below hW) (hr.below hW) hs
  have h2:=fun (W : World) (hW : Below w.heap.size w W)=>hsort_ok order rows O R W (tabs_below hT hW) (ho.below hW) (hr.below hW) hs
  unfold SortOk at h1 h2
  obtain ⟨pl,hpl⟩ : ∃ pl,pl = plD order rows:=⟨_,rfl⟩
  simp only [← hpl] at h1 h2
  obtain ⟨NA,nn,NC,rfl⟩:=hN
  obtain ⟨VA0,vn,VC0,rfl⟩:=hV
  obtain ⟨OA,OC,rfl,_⟩:=ho.is
  obtain ⟨RA,RC,rfl,_⟩:=hr.is
  have H1:=Lib.hid h1
  have H2:=Lib.hid h2
  clear h1 h2 hpl hs hso hsr ho hr hT
  go_enter Tryz.func6,Tryz.ntmps6
  go_wp2_with (first | ((go_at_call 9;with_reducible refine (HK.out _ (by (repeat' first|(with_reducible first|exact blR _ _|assumption|refine blD ?_|refine blN ?_ _)|((with_reducible first|refine blA ?_ ?_ _|refine blS ?_ ?_ _|refine blT (by assumption) ?_ ?_);focus (go_size;done))))).mono ?_);rintro _ w1 ⟨rfl,hb1⟩;have hb1s:=hb1.size;(try simp only [wsA,wsS,wsD,wsN] at hb1s);obtain ⟨hb1c,hb1f⟩:=bcell hb1;(try have : w.heap.size < w1.heap.size:=by omega);(try have : w.heap.size + 1 < w1.heap.size:=by omega);(try have : w.heap.size + 1 + 1 < w1.heap.size:=by omega);(try have : w.heap.size + 1 + 1 + 1 < w1.heap.size:=by omega)) | (go_at_call 14;(with_reducible refine (H1.out _ (by (repeat' first|(with_reducible first|exact blR _ _|assumption|refine blD ?_|refine blN ?_ _)|((with_reducible first|refine blA ?_ ?_ _|refine blS ?_ ?_ _|refine blT (by assumption) ?_ ?_);focus (go_size;done))))).mono ?_);rintro _ w2 ⟨v1,rfl,hi1,hb2⟩;obtain ⟨A1,C1,e1,hq1,_,_⟩:=hi1.is;subst e1;have HI1:=Lib.hid hi1;clear hi1;have hb2s:=hb2.size;(try have : w.heap.size < w2.heap.size:=by omega);(try have : w.heap.size + 1 < w2.heap.size:=by omega);(try have : w.heap.size + 1 + 1 < w2.heap.size:=by omega);(try have : w.heap.size + 1 + 1 + 1 < w2.heap.size:=by omega);(try have : w1.heap.size < w2.heap.size:=by omega);(try have : w1.heap.size + 1 < w2.heap.size:=by omega);(try have : w1.heap.size + 1 + 1 < w2.heap.size:=by omega);(try have : w1.heap.size + 1 + 1 + 1 < w2.heap.size:=by omega);obtain ⟨hb2c,hb2f⟩:=bcell hb2) | (go_at_call 15;(with_reducible refine (H2.out _ (by (repeat' first|(with_reducible first|exact blR _ _|assumption|refine blD ?_|refine blN ?_ _)|((with_reducible first|refine blA ?_ ?_ _|refine blS ?_ ?_ _|refine blT (by assumption) ?_ ?_);focus (go_size;done))))).mono ?_);rintro _ w3 ⟨v2,rfl,hi2,hb3⟩;obtain ⟨A2,C2,e2,_,_,_⟩:=hi2.is;subst e2;have HI2:=Lib.hid hi2;clear hi2;have hb3s:=hb3.size;(try have : w.heap.size < w3.heap.size:=by omega);(try have : w.heap.size + 1 < w3.heap.size:=by omega);(try have : w.heap.size + 1 + 1 < w3.heap.size:=by omega);(try have : w.heap.size + 1 + 1 + 1 < w3.heap.size:=by omega);(try have : w2.heap.size < w3.heap.size:=by omega);(try have : w2.heap.size + 1 < w3.heap.size:=by omega);(try have : w2.heap.size + 1 + 1 < w3.heap.size:=by omega);(try have : w2.heap.size + 1 + 1 + 1 < w3.heap.size:=by omega);obtain ⟨hb3c,hb3f⟩:=bcell hb3))
  have HI1:=Lib.hid (HI1.out.below hb3)
  have mb : Below w.heap.size w w3:=by (repeat' first|(with_reducible first|exact blR _ _|assumption|refine blD ?_|refine blN ?_ _)|((with_reducible first|refine blA ?_ ?_ _|refine blS ?_ ?_ _|refine blT (by assumption) ?_ ?_);focus (go_size;done)))
  clear hb1 hb2 hb3 hb1c hb1f hb2c hb2f hb3c hb3f H1 H2 HK
  have hlc : (pl.length : Int) ≤ 1048576:=by omega
  go_loopg [7] pl.length (fun k s7 wr=>∃ t : Nat,k + t = pl.length ∧ s7 = .int .i64 t ∧ Hid (∃ nn,wr = w3.drewN nn))
  case atStart=>exact ⟨0,by omega,rfl,Lib.hid ⟨0,rfl⟩⟩
  case round =>
   obtain ⟨t,hk,rfl,HW⟩:=hrel
   have HKK:=Lib.hid hk
   have htl : t ≤ pl.length:=by omega
   obtain ⟨md,hmd⟩:=HW.out
   subst hmd
   clear hk
   by_cases hlt : t < pl.length
   ·obtain ⟨b1,o1,rfl,c1⟩:=HI1.out.at hlt
    obtain ⟨b2,o2,rfl,c2⟩:=HI2.out.at hlt
    have htc : (t : Int) < (pl.length : Int):=by omega
    obtain ⟨z,hz⟩ : ∃ z,z = ag pl t:=⟨_,rfl⟩
    rw [← hz] at c1 c2
    clear hz
    go_wp2_with fail
    go_quiet (fail)
    go_wp2_with fail
    go_roundg (gk - 1)
    case measure=>have:=HKK.out;omega
    case rel=>exact ⟨t + 1,by have:=HKK.out;omega,by go_num,Lib.hid (by first | exact ⟨_,rfl⟩ | exact ⟨_,(World.drewN_drewN _ _ _)⟩)⟩
   ·obtain rfl : t = pl.length:=by omega
    clear hlt
    go_wp2_with fail
    go_ret
    exact ⟨rfl,below_d mb _⟩
 ·have hsf : sortB order rows = false:=by simpa using hs
  have h1:=fun (W : World) (hW : Below w.heap.size w W)=>dsort_bad order rows O R W hso hsr (ho.below hW) (hr.below hW) hsf
  have h2:=fun (W : World) (hW : Below w.heap.size w W)=>hsort_bad order rows O R W (tabs_below hT hW) (ho.below hW) (hr.below hW) hsf
  unfold SortBad at h1 h2
  obtain ⟨NA,nn,NC,rfl⟩:=hN
  obtain ⟨VA0,vn,VC0,rfl⟩:=hV
  obtain ⟨OA,OC,rfl,_⟩:=ho.is
  obtain ⟨RA,RC,rfl,_⟩:=hr.is
  have H1:=Lib.hid h1
  have H2:=Lib.hid h2
  clear h1 h2 hs hsf hso hsr ho hr hT
  go_enter Tryz.func6,Tryz.ntmps6
  go_wp2_with (first | ((go_at_call 9;with_reducible refine (HK.out _ (by (repeat' first|(with_reducible first|exact blR _ _|assumption|refine blD ?_|refine blN ?_ _)|((with_reducible first|refine blA ?_ ?_ _|refine blS ?_ ?_ _|refine blT (by assumption) ?_ ?_);focus (go_size;done))))).mono ?_);rintro _ w1 ⟨rfl,hb1⟩;have hb1s:=hb1.size;(try simp only [wsA,wsS,wsD,wsN] at hb1s);obtain ⟨hb1c,hb1f⟩:=bcell hb1;(try have : w.heap.size < w1.heap.size:=by omega);(try have : w.heap.size + 1 < w1.heap.size:=by omega);(try have : w.heap.size + 1 + 1 < w1.heap.size:=by omega);(try have : w.heap.size + 1 + 1 + 1 < w1.heap.size:=by omega)) | ((go_at_call 14;with_reducible refine (H1.out _ (by (repeat' first|(with_reducible first|exact blR _ _|assumption|refine blD ?_|refine blN ?_ _)|((with_reducible first|refine blA ?_ ?_ _|refine blS ?_ ?_ _|refine blT (by assumption) ?_ ?_);focus (go_size;done))))).mono ?_);rintro _ w2 ⟨rfl,hb2⟩;have hb2s:=hb2.size;(try simp only [wsA,wsS,wsD,wsN] at hb2s);obtain ⟨hb2c,hb2f⟩:=bcell hb2;(try have : w.heap.size < w2.heap.size:=by omega);(try have : w.heap.size + 1 < w2.heap.size:=by omega);(try have : w.heap.size + 1 + 1 < w2.heap.size:=by omega);(try have : w.heap.size + 1 + 1 + 1 < w2.heap.size:=by omega);(try have : w1.heap.size < w2.heap.size:=by omega);(try have : w1.heap.size + 1 < w2.heap.size:=by omega);(try have : w1.heap.size + 1 + 1 < w2.heap.size:=by omega);(try have : w1.heap.size + 1 + 1 + 1 < w2.heap.size:=by omega)) | ((go_at_call 15;with_reducible refine (H2.out _ (by (repeat' first|(with_reducible first|exact blR _ _|assumption|refine blD ?_|refine blN ?_ _)|((with_reducible first|refine blA ?_ ?_ _|refine blS ?_ ?_ _|refine blT (by assumption) ?_ ?_);focus (go_size;done))))).mono ?_);rintro _ w3 ⟨rfl,hb3⟩;have hb3s:=hb3.size;(try simp only [wsA,wsS,wsD,wsN] at hb3s);obtain ⟨hb3c,hb3f⟩:=bcell hb3;(try have : w.heap.size < w3.heap.size:=by omega);(try have : w.heap.size + 1 < w3.heap.size:=by omega);(try have : w.heap.size + 1 + 1 < w3.heap.size:=by omega);(try have : w.heap.size + 1 + 1 + 1 < w3.heap.size:=by omega);(try have : w2.heap.size < w3.heap.size:=by omega);(try have : w2.heap.size + 1 < w3.heap.size:=by omega);(try have : w2.heap.size + 1 + 1 < w3.heap.size:=by omega);(try have : w2.heap.size + 1 + 1 + 1 < w3.heap.size:=by omega)))
  go_loopg [7] 0 (fun k s7 wr=>s7 = .int .i64 0 ∧ wr = w3)
  case atStart=>exact ⟨rfl,rfl⟩
  case round =>
   obtain ⟨rfl,hwr⟩:=hrel
   subst hwr
   go_wp2_with fail
   go_ret
   exact ⟨rfl,by (repeat' first|(with_reducible first|exact blR _ _|assumption|refine blD ?_|refine blN ?_ _)|((with_reducible first|refine blA ?_ ?_ _|refine blS ?_ ?_ _|refine blT (by assumption) ?_ ?_);focus (go_size;done)))⟩
end Go.Proofs.YtkjecoanlppeaaaGreatDoor



namespace Go.Proofs.YtkjecoanlppeaaaGreatDoor
open Go.RowKit
open Go.ChangeShapes Go.WideShapes Go.ChangeAt
open Go.ChangeMaps (open_string shut_string)

set_option maxRecDepth 100000 in
theorem open_table {H : Type} {enc : TypeId × Value → H} {W : World} {base b0 : Nat} {v : Value} {d : DataW H} {p : List MemPlace} {sp : Nat → Bool} {held : Bool}
  (hv : Value.okWide Tryz.prog W .any base 26 v) (h : DataW.Trod enc Tryz.prog W b0 sp held 26 v d p) (hb : Rows.uptoBulk d ≤ 1048576) :
  ∃ (N O R V : Value) (names : List (List UInt8)) (order rows : List (List VD)) (other : List VD),v = .agg #[N,O,R,V] ∧ Nms W N names ∧ Lls W O order ∧ Lls W R rows ∧ Vls (RV W) W V other ∧ (∀ t,t < order.length → SmallL (lg order t)) ∧ (∀ t,t < rows.length → SmallL (lg rows t)) ∧ SmallL other:=by
 obtain ⟨c0,c1,c2,c3,y0,y1,y2,y3,m,rfl,rfl,rfl,h0,h1,h2,h3⟩:=Joins.open_agg4 Tryz.underlying26 (by kernel_rfl) (by kernel_rfl) hv h
 simp only [Rows.uptoBulk,Rows.uptoBulkAll] at hb
 obtain ⟨_,_,names,_,hn⟩:=open_names h0 (by omega)
 obtain ⟨_,_,order,_,ho,hso⟩:=open_lls h1 (by omega)
 obtain ⟨_,_,rows,_,hr,hsr⟩:=open_lls h2 (by omega)
 obtain ⟨_,_,other,_,hv,hs⟩:=open_vls h3 (by omega)
 exact ⟨c0,c1,c2,c3,names,order,rows,other,rfl,hn,ho,hr,hv,hso,hsr,smallL_of (by omega)⟩
@[reducible] def tabZ : Value:=.agg #[.slice none 0 0,.slice none 0 0,.slice none 0 0,.slice none 0 0]
end Go.Proofs.YtkjecoanlppeaaaGreatDoor

