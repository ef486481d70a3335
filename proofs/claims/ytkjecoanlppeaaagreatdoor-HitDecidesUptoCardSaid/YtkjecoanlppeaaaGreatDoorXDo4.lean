/- What this law reaches beyond the common contracts, part 4. -/
import Derived.Deep.Cut
import Derived.Deep.CutRange
import Derived.BigQuiet
import Derived.Test.YtkjecoanlppeaaaGreatDoorCards
import Derived.Test.YtkjecoanlppeaaaGreatDoorTie
import Derived.Deep.DeepHandedRow
import Derived.LaidMore
import Derived.Lay
import Derived.SevenTiedAt
import Derived.Test.YtkjecoanlppeaaaGreatDoorM5
import Derived.Test.YtkjecoanlppeaaaGreatDoorXDo3
set_option linter.unusedSimpArgs false
set_option linter.unusedVariables false


namespace Go.Proofs.YtkjecoanlppeaaaGreatDoor
open Go.RowKit

theorem wpList_pushR {w : World} {ops : Array Oper} {rest : List Oper} {o : Oper} {a : Act} {Q : Exit → Act → World → Prop} (hgd : o.guard = none) (s x : Operand)
  (ho : o.op = .call { callee:=.builtin .append,args:=#[s,x],argTypes:=#[74,74] })
  (B : Nat) (hB : B ≤ w.heap.size) (v : Value) (rk : Nat → List Nat) (t : Nat) (hs : a.eval s = v) (hrow : RankRows w B v rk t)
  (b : Nat) (A : Option Addr) (D : Nat) (hx : a.eval x = .slice (some ⟨b,0,none⟩) 1 1) (hd : w.cell? ⟨b,0,none⟩ = some (.slice A (rk t).length D)) (hnew : IlstF w (.slice A (rk t).length D) (rk t) v.ownBlock) (hlen : t ≤ 1000000)
  (h : ∀ g cap w',RankRows w' B (.slice (some ⟨g,0,none⟩) (t + 1) cap) rk (t + 1) → Below B w w' → g < w'.heap.size → wpList Tryz.prog ops Q rest (a.put o.dst (.slice (some ⟨g,0,none⟩) (t + 1) cap)) w') :
  wpList Tryz.prog ops Q (o :: rest) a w:=by
 obtain ⟨i0,hi0,hz0,hz1,hz2⟩:=info_parts info_rowO
 obtain ⟨cs,h1,h2⟩:=hrow
 have hcl : cs.length = t:=by have:=h1.1;omega
 refine wpList_append_lies w hgd s x 74 ho B 43 i0 (.slice none 0 0) 1 24 Tryz.underlying74 hi0 hz0 hz1 hz2 rfl (by decide) v t cs hs h1 ⟨b,0,none⟩ 1 1 [.slice A (rk t).length D] hx rfl ?_ ?_ (by decide) (by unfold maxLen;omega) (by omega) hB w.heap.size rfl ?_
 ·intro j u hj
  match j with
  | 0=>simp at hj;subst hj;exact hd
  | j + 1=>simp at hj
 ·intro u hu
  rw [List.mem_singleton.1 hu];rfl
 ·intro g cap w' k1 k2 k3 k4
  have hkeep : ∀ b i,b < w.heap.size → some b ≠ v.ownBlock → w'.cell? ⟨b,i,none⟩ = w.cell? ⟨b,i,none⟩ ∧ some b ≠ (Value.slice (some ⟨g,0,none⟩) (t + 1) cap).ownBlock:=fun b i hb hne=>by
   refine ⟨k2.cell_far ⟨b,i,none⟩ hb hne,fun e=>?_⟩
   have e' : b = g:=by simpa [Value.ownBlock] using e
   subst e'
   rcases k3 with k3 | k3
   ·exact hne k3.symm
   ·omega
  refine h g cap w' ⟨cs ++ [.slice A (rk t).length D],k1,fun i hi=>?_⟩ ⟨k2.os,k2.tape,k2.output,k2.size,fun k hk=>k2.block k (Nat.lt_of_lt_of_le hk hB) (fun e=>?_)⟩ k4
  ·by_cases e : i = t
   ·subst e
    refine ⟨A,D, ?_,hnew.kept hkeep⟩
    rw [List.getElem?_append_right (by omega),hcl,Nat.sub_self];rfl
   ·obtain ⟨A',D',h3,h4⟩:=h2 i (by omega)
    refine ⟨A',D', ?_,h4.kept hkeep⟩
    rw [List.getElem?_append_left (by omega)];exact h3
  ·have:=(h1.lt k e.symm).1
   omega
theorem info_boolO : (Tryz.prog.info? 4).map (fun i=>(i.zero,i.size,i.bytes)) = some (some (.bool false),1,1):=by kernel_rfl
theorem make_bools (n : Nat) (hn : n ≤ 60) : ∀ W : World,(Instr.makeSlice 42 (.int .i64 (n : Int)) (.int .i64 (n : Int))).run Tryz.prog W = .ok (.slice (some ⟨W.heap.size,0,none⟩) n n) (W.alloc (.cells (Array.replicate n (.bool false)) 4)):=fun W=>by
 obtain ⟨ir,hir,hzr,hsr,hbr⟩:=info_parts info_boolO
 have:=run_make (P:=Tryz.prog) W 42 4 ir (.bool false) Tryz.underlying42 hir hzr .i64 .i64 (n : Int) (n : Int) (by omega) (by omega) (by rw [hbr];omega) (by omega)
 rw [this]
 have e : ((n : Int)).toNat = n:=by omega
 have e2 : madeCells (Value.bool false).cells (n * 1) = Array.replicate n (.bool false):=by
  rw [Nat.mul_one,← List.toArray_replicate,← toList_madeCells_one]
  rfl
 rw [e,hsr,e2]
theorem Own.kept1 {w : World} {B b : Nat} {v x : Value} {l : List Nat} {i : Nat} (h : Own w B v l) (hb : b < B) : Own (w.setCell ⟨b,i,none⟩ x) B v l:=by
 refine ⟨h.1, ?_⟩
 rcases h.2 with hn | ⟨g,cap,cur,rfl,h1,hg,rest⟩
 ·exact .inl hn
 ·refine .inr ⟨g,cap,cur,rfl,h1, ?_,rest⟩
  exact (Below.heap_setCell w ⟨b,i,none⟩ x g (by show g ≠ b;omega)).trans hg
set_option maxRecDepth 100000 in
set_option maxHeartbeats 4000000 in
theorem rsort_any (order rows : List (List VD)) (O R : Value) (w : World) (ho : Lls w O order) (hr : Lls w R rows) (hle : ∀ t,t < rows.length → order.length ≤ (lg rows t).length) (hmax : order.length ≤ 1000000) (hn : rows.length ≤ 60) :
  Calls Tryz.prog 30 #[O,R] w fun e w'=>∃ v,e = .returned v ∧ Own w' w.heap.size v (srt (rankF order ∘ lg rows) rows.length) ∧ Below w.heap.size w w':=by
 obtain ⟨A,C,rfl,q1,_,_⟩:=ho.is
 obtain ⟨RA,RC,rfl,q2,_,_⟩:=hr.is
 have HO:=Lib.hid ho
 have HR:=Lib.hid hr
 have HLE:=Lib.hid hle
 clear ho hr q1 q2 hle
 obtain ⟨n,hnn⟩ : ∃ n,n = rows.length:=⟨_,rfl⟩
 rw [← hnn] at hn ⊢
 have HN:=Lib.hid hnn
 clear hnn
 obtain ⟨rk,hrk⟩ : ∃ rk,rk = rankF order ∘ lg rows:=⟨_,rfl⟩
 rw [← hrk]
 have HRL : Hid (∀ a b,(rk a).length = (rk b).length):=Lib.hid (fun a b=>by rw [hrk];exact rankT_len order _ _ _)
 have HRK : Hid (∀ i,rankF order (lg rows i) = rk i):=Lib.hid (fun i=>by rw [hrk];rfl)
 have HRB : Hid (∀ i,(rk i).length ≤ 1048576):=Lib.hid (fun i=>by rw [hrk];exact Nat.le_trans (rankT_le order _ order.length) (by omega))
 clear hrk
 have hnc : (n : Int) ≤ 60:=by omega
 have hn0 : (0 : Int) ≤ (n : Int):=by omega
 have hmk:=Lib.hid (make_bools n hn)
 go_enter Tryz.func30,Tryz.ntmps30
 go_wp2_with fail
 go_loopg [5,6] n (fun k s5 s6 wr=>∃ t : Nat,k + t = n ∧ s6 = .int .i64 t ∧ Hid (RankRows wr w.heap.size s5 rk t) ∧ w.heap.size ≤ wr.heap.size ∧ Below w.heap.size w wr)
 case atStart=>exact ⟨0,by omega,rfl,Lib.hid (RankRows.nil _ _ _),by omega,by (repeat' first|(with_reducible first|exact blR _ _|assumption|refine blD ?_|refine blN ?_ _)|((with_reducible first|refine blA ?_ ?_ _|refine blS ?_ ?_ _|refine blT (by assumption) ?_ ?_);focus (go_size;done)))⟩
 case round =>
  obtain ⟨t,hk,rfl,HW,hsz,hbel⟩:=hrel
  have HK:=Lib.hid hk
  have htl : t ≤ n:=by omega
  clear hk
  by_cases hlt : t < n
  ·obtain ⟨b,o,B1,D1,rfl,hcell0,hv⟩:=HR.out.at (show t < rows.length by rw [← HN.out];exact hlt)
   have hcell:=(hbel.cell (p:=⟨b,o + t,none⟩) (vcell_lt hcell0)).trans hcell0
   clear hcell0
   have lb:=vcell_lt hcell
   have htc : (t : Int) < (n : Int):=by omega
   have HC:=Lib.hid (fun (W : World) (hW : Below w.heap.size w W)=>rrank_any order (lg rows t) (.slice A order.length C) (.slice B1 (lg rows t).length D1) W (HO.out.below hW) (hv.kept hW) (HLE.out t (by rw [← HN.out];exact hlt)) hmax)
   rw [HRK.out t] at HC
   obtain ⟨n1,hn1⟩ : ∃ n1,n1 = (lg rows t).length:=⟨_,rfl⟩
   rw [← hn1] at hcell HC
   have HRT:=Lib.hid (show t ≤ 1000000 by omega)
   clear hn1 hv
   go_wp2_with (first | (go_at_call 50;(with_reducible refine (HC.out _ (by (repeat' first|(with_reducible first|exact blR _ _|assumption|refine blD ?_|refine blN ?_ _)|((with_reducible first|refine blA ?_ ?_ _|refine blS ?_ ?_ _|refine blT (by assumption) ?_ ?_);focus (go_size;done))))).mono ?_);rintro _ w2 ⟨v,rfl,hov,hb2⟩;have hq:=hov.readB (HRB.out t);obtain ⟨VA,VC,e',hvl,hvr⟩:=id hq;subst e';have HVR:=Lib.hid (IlstF.of (bl:=u5.ownBlock) hq (fun g hg=>HW.out.lt g hg));clear hov hvr hq;have hb2s:=hb2.size;(try simp only [World.size_drew,World.size_setCell] at hb2s);(try have : w.heap.size < w2.heap.size:=by omega);(try have : w.heap.size + 1 < w2.heap.size:=by omega);(try have : w.heap.size + 1 + 1 < w2.heap.size:=by omega);(try have : w.heap.size + 1 + 1 + 1 < w2.heap.size:=by omega)) | (at_builtin;refine wpList_pushR rfl _ _ rfl w.heap.size (by go_size) u5 rk t rfl (HW.out.below (by (repeat' first|(with_reducible first|exact blR _ _|assumption|refine blD ?_|refine blN ?_ _)|((with_reducible first|refine blA ?_ ?_ _|refine blS ?_ ?_ _|refine blT (by assumption) ?_ ?_);focus (go_size;done))))) w2.heap.size VA VC rfl (by simp) (HVR.out.below (by (repeat' first|(with_reducible first|exact blR _ _|assumption|refine blD ?_|refine blN ?_ _)|((with_reducible first|refine blA ?_ ?_ _|refine blS ?_ ?_ _|refine blT (by assumption) ?_ ?_);focus (go_size;done))))) HRT.out ?_;intro g cap w3 ho3 hb3 hlt3;have HO3:=Lib.hid ho3;have hs3:=hb3.size;(try simp only [World.size_alloc] at hs3);have hbw3 : Below w.heap.size w w3:=Below.trans (by (repeat' first|(with_reducible first|exact blR _ _|assumption|refine blD ?_|refine blN ?_ _)|((with_reducible first|refine blA ?_ ?_ _|refine blS ?_ ?_ _|refine blT (by assumption) ?_ ?_);focus (go_size;done)))) hb3;clear ho3 hb3))
   go_roundg (gk - 1)
   case measure=>have:=HK.out;omega
   case rel=>exact ⟨t + 1,by have:=HK.out;omega,by go_num,HO3,by omega,hbw3⟩
  ·obtain rfl : t = n:=by omega
   clear hlt
   have hmk1:=hmk.out
   obtain ⟨A5,C5,e5,h5a,h5b⟩:=HW.out.is (by omega)
   subst e5
   go_wp2_with fail
   clear hmk1
   have hb0 : Bk (wr.alloc (.cells (Array.replicate t (.bool false)) 4)) wr.heap.size 4 (tkn rk t 0):=by rw [tkn_zero];exact Bk.zeros wr 4 t (.bool false) rfl
   obtain ⟨tb,htb⟩ : ∃ tb,tb = wr.heap.size:=⟨_,rfl⟩
   have hbl0 : Below tb wr (wr.alloc (.cells (Array.replicate t (.bool false)) 4)):=by rw [htb];(repeat' first|(with_reducible first|exact blR _ _|assumption|refine blD ?_|refine blN ?_ _)|((with_reducible first|refine blA ?_ ?_ _|refine blS ?_ ?_ _|refine blT (by assumption) ?_ ?_);focus (go_size;done)))
   have hs0 : tb + 1 ≤ (wr.alloc (.cells (Array.replicate t (.bool false)) 4)).heap.size:=by rw [htb];go_size
   have hh0 : w.heap.size ≤ tb:=by omega
   have HTB:=Lib.hid htb
   rw [← htb] at hb0 ⊢
   clear htb
   generalize wr.alloc (.cells (Array.replicate t (.bool false)) 4) = wx at *
   obtain ⟨n,hnn⟩ : ∃ n,n = t:=⟨_,rfl⟩
   subst hnn
   obtain ⟨w1,hw1⟩ : ∃ w1,w1 = wr:=⟨_,rfl⟩
   subst hw1
   clear HK
   go_loopg [8] n (fun k s8 wz=>∃ m : Nat,k + m = n ∧ Hid (Own wz (tb + 1) s8 ((srt rk n).take m)) ∧ Hid (Bk wz tb 4 (tkn rk n m)) ∧ tb + 1 ≤ wz.heap.size ∧ Below tb w1 wz)
   case atStart=>exact ⟨0,by omega,Lib.hid (Own.nil _ _),Lib.hid hb0,hs0,hbl0⟩
   case round =>
    obtain ⟨m,hk2,HOW,HBK,hsz2,hbel2⟩:=hrel
    have HK2:=Lib.hid hk2
    have hml : m ≤ n:=by omega
    clear hk2
    obtain ⟨A8,C8,e8⟩:=HOW.out.is
    have hl8 : ((srt rk n).take m).length = m:=by rw [List.length_take,srt_len];omega
    rw [hl8] at e8
    have HL8:=Lib.hid hl8
    clear hl8
    subst e8
    by_cases hlm : m < n
    ·have hmc : (m : Int) < (n : Int):=by omega
     go_wp2_with fail
     obtain ⟨wz,hwz⟩ : ∃ wz,wz = wr:=⟨_,rfl⟩
     subst hwz
     obtain ⟨g2,hg2⟩ : ∃ g,g = gk:=⟨_,rfl⟩
     subst hg2
     go_loopg [9,10] n (fun k s9 s10 wy=>∃ (i : Nat) (z : Int),k + i = n ∧ s10 = .int .i64 i ∧ s9 = .int .i64 z ∧ Hid (SelB rk n m i z) ∧ Below wz.heap.size wz wy)
     case atStart=>exact ⟨0,-1,by omega,rfl,rfl,Lib.hid SelB.start,by (repeat' first|(with_reducible first|exact blR _ _|assumption|refine blD ?_|refine blN ?_ _)|((with_reducible first|refine blA ?_ ?_ _|refine blS ?_ ?_ _|refine blT (by assumption) ?_ ?_);focus (go_size;done)))⟩
     case round =>
      obtain ⟨i,z,hk3,rfl,rfl,HSB,hbel3⟩:=hrel
      have HK3:=Lib.hid hk3
      have hil : i ≤ n:=by omega
      clear hk3
      have hbz : Bk wr tb 4 (tkn rk n m):=HBK.out.below hbel3 (by omega)
      have hlz:=hbz.lt
      have hs3:=hbel3.size
      by_cases hli : i < n
      ·have hic : (i : Int) < (n : Int):=by omega
       have ht:=hbz.cell i (tkn_at hli)
       by_cases hm : i ∈ (srt rk n).take m
       ·rw [decide_eq_true hm] at ht
        have HMM:=Lib.hid hm
        clear hm hbz
        go_wp2_with fail
        go_quiet (fail)
        go_wp2_with fail
        go_roundg (gk - 1)
        case measure=>have:=HK3.out;omega
        case rel=>exact ⟨i + 1,z,by have:=HK3.out;omega,by go_num,rfl,Lib.hid (HSB.out.over HMM.out),by (repeat' first|(with_reducible first|exact blR _ _|assumption|refine blD ?_|refine blN ?_ _)|((with_reducible first|refine blA ?_ ?_ _|refine blS ?_ ?_ _|refine blT (by assumption) ?_ ?_);focus (go_size;done)))⟩
       ·rw [decide_eq_false hm] at ht
        have HMM:=Lib.hid hm
        clear hm hbz
        rcases HSB.out.cases with hz | ⟨b,hz,hb⟩
        ·subst hz
         go_wp2_with fail
         go_quiet (fail)
         go_wp2_with fail
         go_roundg (gk - 1)
         case measure=>have:=HK3.out;omega
         case rel=>exact ⟨i + 1,i,by have:=HK3.out;omega,by go_num,rfl,Lib.hid (HSB.out.first HMM.out),by (repeat' first|(with_reducible first|exact blR _ _|assumption|refine blD ?_|refine blN ?_ _)|((with_reducible first|refine blA ?_ ?_ _|refine blS ?_ ?_ _|refine blT (by assumption) ?_ ?_);focus (go_size;done)))⟩
        ·subst hz
         have hbl : (b : Int) < (n : Int):=by omega
         have hbn : decide ((b : Int) < 0) = false:=decide_eq_false (by omega)
         have hb0 : (0 : Int) ≤ (b : Int):=by omega
         have hbw : Below w1.heap.size w1 wr:=(hbel2.trans (hbel3.mono (by have:=hbel2.size;omega))).mono (by rw [HTB.out];exact Nat.le_refl _)
         obtain ⟨g,o,A1,D1,rfl,c1,i1⟩:=(HW.out.below hbw).at hli
         obtain ⟨g',o',A2,D2,e',c2,i2⟩:=(HW.out.below hbw).at (show b < n by omega)
         injection e' with e'
         injection e' with e1 e2 _
         subst e1 e2
         have lg1:=vcell_lt c1
         have HC:=Lib.hid (fun (j : Nat)=>ahead_any (rk i) (rk b) _ _ (wr.drewN j) (HRL.out _ _) i1 i2)
         obtain ⟨q,hq⟩ : ∃ q,q = cmpL (rk i) (rk b):=⟨_,rfl⟩
         rw [← hq] at HC
         have HQ:=Lib.hid hq
         obtain ⟨n1,hn1⟩ : ∃ x,x = (rk i).length:=⟨_,rfl⟩
         obtain ⟨n2,hn2⟩ : ∃ x,x = (rk b).length:=⟨_,rfl⟩
         rw [← hn1] at c1 HC
         rw [← hn2] at c2 HC
         clear hn1 hn2 hq i1 i2
         by_cases hq0 : q < 0
         ·go_wp2_with fail
          go_quiet ((go_at_call 51;(first | exact Calls.quiet_of (HC.out _) | exact quiet_add (HC.out _))))
          go_wp2_with fail
          go_roundg (gk - 1)
          case measure=>have:=HK3.out;omega
          case rel=>exact ⟨i + 1,i,by have:=HK3.out;omega,by go_num,rfl,Lib.hid (HSB.out.better HMM.out (by rw [← HQ.out];exact hq0)),by (repeat' first|(with_reducible first|exact blR _ _|assumption|refine blD ?_|refine blN ?_ _)|((with_reducible first|refine blA ?_ ?_ _|refine blS ?_ ?_ _|refine blT (by assumption) ?_ ?_);focus (go_size;done)))⟩
         ·go_wp2_with fail
          go_quiet ((go_at_call 51;(first | exact Calls.quiet_of (HC.out _) | exact quiet_add (HC.out _))))
          go_wp2_with fail
          go_roundg (gk - 1)
          case measure=>have:=HK3.out;omega
          case rel=>exact ⟨i + 1,b,by have:=HK3.out;omega,by go_num,rfl,Lib.hid (HSB.out.worse (by rw [← HQ.out];omega)),by (repeat' first|(with_reducible first|exact blR _ _|assumption|refine blD ?_|refine blN ?_ _)|((with_reducible first|refine blA ?_ ?_ _|refine blS ?_ ?_ _|refine blT (by assumption) ?_ ?_);focus (go_size;done)))⟩
      ·obtain rfl : i = n:=by omega
       clear hli
       have hz : z = (sgR rk i m : Int):=HSB.out.found hlm
       subst hz
       have hct:=hbz.cell (sgR rk i m) (tkn_at (sg_lt hlm))
       have hft:=hbz.frozen (sgR rk i m)
       have hzl : (sgR rk i m : Int) < (i : Int):=by have:=sg_lt (rk:=rk) hlm;omega
       have HTS:=Lib.hid (tkn_succ (rk:=rk) hlm)
       have HTK:=Lib.hid (srt_take (rk:=rk) hlm)
       have HBZ:=Lib.hid hbz
       have HOZ:=Lib.hid (HOW.out.below hbel3)
       obtain ⟨p,hp⟩ : ∃ p,p = sgR rk i m:=⟨_,rfl⟩
       simp only [← hp] at hct hft hzl HTS HTK ⊢
       clear hbz hp
       have HRT:=Lib.hid (show ((srt rk i).take m).length ≤ 1000000 by have:=HL8.out;omega)
       go_wp2_with (at_builtin;refine wpList_pushO rfl _ _ 43 rfl Tryz.underlying43 (tb + 1) ?hB (.slice A8 m C8) ((srt rk i).take m) rfl ?hrow wr.heap.size p rfl ?hd ?hlen ?h;rotate_left 4;rw [HL8.out];intro g cap w3 ho3 hb3 hlt3;have HO3:=Lib.hid ho3;have HB3:=Lib.hid hb3;clear ho3;have hs4:=hb3.size;(try simp only [World.size_alloc,World.size_setCell] at hs4))
       case hB=>go_size
       case hrow=>exact (Own.kept1 HOZ.out (by omega)).alloc _
       case hd=>exact (Bk.new_ (t:=3) (cs:=[.int .i64 (p : Int)]) (by simp only [World.size_setCell])).cell 0 rfl
       case hlen=>exact HRT.out
       go_roundg (g2 - 1)
       case measure=>have:=HK2.out;omega
       case rel =>
        refine ⟨m + 1,by have:=HK2.out;omega,Lib.hid ?_,Lib.hid ?_,by omega, ?_⟩
        ·rw [HTK.out]
         have e:=HO3.out
         exact e
        ·rw [← HTS.out]
         exact (((HBZ.out.set_ p _).alloc _).below HB3.out (by omega))
        ·have hb4 : Below tb wz (wr.setCell ⟨tb,p,none⟩ (.bool true)):=by
          have hb6 : Below tb wz wr:=hbel3.mono (by omega)
          exact hb6.setCell (by show tb ≤ tb;omega) _
         have hb5:=hb4.alloc (by simp only [World.size_setCell];omega) (.cells #[.int .i64 (p : Int)] 3)
         exact hbel2.trans (hb5.trans (HB3.out.mono (by omega)))
    ·obtain rfl : m = n:=by omega
     clear hlm
     go_wp2_with fail
     go_ret
     refine ⟨_,rfl, ?_, ?_⟩
     ·have e:=HOW.out
      have e2 : (srt rk m).take m = srt rk m:=List.take_of_length_le (by rw [srt_len];exact Nat.le_refl _)
      rw [e2] at e
      have hl : (srt rk m).length = m:=srt_len rk m
      exact e.mono (by omega)
     ·exact hbel.trans (hbel2.mono (by omega))
end Go.Proofs.YtkjecoanlppeaaaGreatDoor



namespace Go.Proofs.YtkjecoanlppeaaaGreatDoor
open Go.RowKit
open Go.ChangeShapes Go.WideShapes Go.ChangeAt
open Go.ChangeMaps (open_string shut_string)

theorem lls_of {P : Nat → List VD → Prop} : ∀ n,(∀ i,i < n → ∃ l,P i l) → ∃ ls : List (List VD),ls.length = n ∧ ∀ i,i < n → P i (lg ls i)
 | 0,_=>⟨[],rfl,fun i hi=>absurd hi (Nat.not_lt_zero _)⟩
 | n + 1,h=>by
  obtain ⟨l,h1,h2⟩:=lls_of (P:=P) n (fun i hi=>h i (by omega))
  obtain ⟨d,h4⟩:=h n (by omega)
  refine ⟨l ++ [d],by rw [List.length_append,h1];rfl,fun i hi=>?_⟩
  unfold lg
  rcases Nat.lt_or_ge i n with h' | h'
  ·rw [List.getD_eq_getElem?_getD,List.getElem?_append_left (by omega)]
   have:=h2 i h'
   unfold lg at this
   rwa [List.getD_eq_getElem?_getD] at this
  ·obtain rfl : i = n:=by omega
   rw [List.getD_eq_getElem?_getD,List.getElem?_append_right (by omega),h1,Nat.sub_self]
   exact h4
section
variable {H : Type} {enc : TypeId × Value → H} {W : World} {b0 : Nat} {sp : Nat → Bool} {held : Bool}
set_option maxRecDepth 100000 in
set_option maxHeartbeats 1000000 in
theorem open_vls {fuel : Nat} {c : Value} {x : DataW H × List MemPlace} (h : DataW.trod enc Tryz.prog W b0 sp held fuel 24 [c] = some x) (hN2 : Rows.uptoBulk x.1 ≤ 1048576) :
  ∃ A C l,c = .slice A l.length C ∧ Vls (RV W) W c l ∧ sizes l ≤ Rows.uptoBulk x.1:=by
 have n6 : Tryz.prog.cellsOf 34 = 10:=by kernel_rfl
 rcases Deep.open_slice Tryz.underlying24 h with ⟨hc,rfl⟩ | ⟨a,len,cap,m,n',D,Pl,hc,_,hl,hm,hmm,rfl,hxs⟩
 ·injection hc with hc
  subst hc
  exact ⟨none,0,[],rfl,⟨none,0,rfl,⟨by simp,by simp,by unfold maxLen;omega⟩,fun r hr=>absurd hr (by simp)⟩,by simp [sizes]⟩
 ·injection hc with hc
  subst hc
  rw [n6] at hxs
  have hle : len ≤ m:=by rw [hmm];split <;> omega
  simp only [Rows.uptoBulk] at hN2 ⊢
  rw [bulk_range] at hN2 ⊢
  have hlen2 : len ≤ 1048576:=by
   have:=sum_pos (fun i=>Rows.uptoBulk (D i)) (fun i=>bulk_pos _) len
   omega
  obtain ⟨b,o,spot⟩:=a
  obtain ⟨l,h1,h2,h3⟩:=vds_of (P:=fun i vd=>spot = none ∧ ∃ A1 C1 A2 C2,At W b (o + i * 10) (vd.s.cs ++ [.slice A1 vd.list.length C1,.slice A2 vd.names.length C2]) ∧ RV W (.slice A1 vd.list.length C1) (.slice A2 vd.names.length C2) vd) (f:=fun i=>Rows.uptoBulk (D i)) len (fun i hi=>by
   obtain ⟨cs',q1,q2⟩:=hxs i (by omega)
   have hbi:=sum_mem (fun i=>Rows.uptoBulk (D i)) len i hi
   obtain ⟨vd,A1,C1,A3,C3,e,hrv,hs⟩:=open_cells (Rows.uptoBulk (D i)) n' cs' (D i,Pl i) (Nat.le_refl _) (by omega) q2
   obtain ⟨_,hl10,hat⟩:=World.cells?_some q1
   have hspot : spot = none:=by
    obtain ⟨cs0,p1,_⟩:=hxs 0 (by omega)
    obtain ⟨_,hl0,hat0⟩:=World.cells?_some p1
    have h0:=hat0 0 (by omega)
    rw [List.getElem?_eq_getElem (by omega)] at h0
    simpa [Addr.add] using World.cell?_spot h0
   subst hspot
   refine ⟨vd,⟨rfl,A1,C1,A3,C3,fun j hj=>?_,hrv⟩,hs⟩
   rw [← e] at hj ⊢
   rw [← hat j (by omega)]
   congr 1
   rw [show ((⟨b,o,none⟩ : Addr).add (i * 10)) = ⟨b,o + i * 10,none⟩ from add_plain ..,show ((⟨b,o + i * 10,none⟩ : Addr).add j) = ⟨b,o + i * 10 + j,none⟩ from add_plain ..])
  refine ⟨some ⟨b,o,spot⟩,cap,l,by rw [h1],⟨some ⟨b,o,spot⟩,cap,by rw [h1],⟨by omega,by omega,by unfold maxLen at hm ⊢;omega⟩,fun r hr=>?_⟩,by omega⟩
  obtain ⟨q0,A1,C1,A3,C3,q1,q2⟩:=h2 r (by omega)
  subst q0
  exact ⟨b,o,A1,C1,A3,C3,rfl,q1,q2⟩
set_option maxRecDepth 100000 in
theorem open_lls {fuel : Nat} {c : Value} {x : DataW H × List MemPlace} (h : DataW.trod enc Tryz.prog W b0 sp held fuel 23 [c] = some x) (hb : Rows.uptoBulk x.1 ≤ 1048576) :
  ∃ A C ls,c = .slice A ls.length C ∧ Lls W c ls ∧ ∀ t,t < ls.length → SmallL (lg ls t):=by
 rcases Deep.open_slice1 Tryz.underlying23 (by kernel_rfl) h with ⟨hc,rfl⟩ | ⟨a,len,cap,m,n,V,D,Pl,hc,_,hl,hm,hmm,rfl,hx⟩
 ·injection hc with hc
  subst hc
  exact ⟨none,0,[],rfl,⟨none,0,rfl,⟨by simp,by simp,by unfold maxLen;omega⟩,fun r hr=>absurd hr (by simp)⟩,fun t ht=>absurd ht (by simp)⟩
 ·injection hc with hc
  subst hc
  have hle : len ≤ m:=by rw [hmm];split <;> omega
  simp only [Rows.uptoBulk] at hb
  rw [bulk_range] at hb
  have hlen : len ≤ 1048576:=by
   have:=sum_pos (fun i=>Rows.uptoBulk (D i)) (fun i=>bulk_pos _) len
   omega
  obtain ⟨b,o,spot⟩:=a
  obtain ⟨ls,h1,h2⟩:=lls_of (P:=fun i l=>spot = none ∧ (∃ B E,W.cell? ⟨b,o + i,none⟩ = some (.slice B l.length E) ∧ Vls (RV W) W (.slice B l.length E) l) ∧ SmallL l) len (fun i hi=>by
   obtain ⟨h3,h4⟩:=hx i (by omega)
   have hbi:=sum_mem (fun i=>Rows.uptoBulk (D i)) len i hi
   obtain ⟨B,E,l,e,hv,hs⟩:=open_vls h4 (by dsimp only;omega)
   have hspot : spot = none:=by simpa [Addr.add] using World.cell?_spot (hx 0 (by omega)).1
   subst hspot
   dsimp only at hs
   rw [e] at hv
   refine ⟨l,rfl,⟨B,E, ?_,hv⟩,smallL_of (by omega)⟩
   rw [← add_plain,h3,e])
  refine ⟨some ⟨b,o,spot⟩,cap,ls,by rw [h1],⟨some ⟨b,o,spot⟩,cap,by rw [h1],⟨by omega,by omega,by unfold maxLen at hm ⊢;omega⟩,fun r hr=>?_⟩,fun t ht=>(h2 t (by omega)).2.2⟩
  obtain ⟨q0,⟨B,E,q1,q2⟩,_⟩:=h2 r (by omega)
  subst q0
  exact ⟨b,o,B,E,rfl,q1,q2⟩
end
set_option maxRecDepth 100000 in
set_option maxHeartbeats 1000000 in
theorem ldecide_any (p : Int) (names : List (List UInt8)) (order rows : List (List VD)) (other : List VD) (N O R V : Value) (w : World) (hT : Tabs w) (hn : Nms w N names) (ho : Lls w O order) (hr : Lls w R rows) (hv : Vls (RV w) w V other) :
  Calls Tryz.prog 11 #[.int .i64 p,.agg #[N,O,R,V]] w (RetX 0 w.heap.size (decAll p names order rows other) w):=by
 have hdc:=fun (W : World) (hW : Below w.heap.size w W)=>hdecide_any p names order rows other N O R V W (tabs_below hT hW) (hn.below hW) (ho.below hW) (hr.below hW) (hv.kept hW)
 obtain ⟨Z,hZ⟩ : ∃ Z,Z = decAll p names order rows other:=⟨_,rfl⟩
 rw [← hZ]
 simp only [← hZ] at hdc
 unfold RetX at hdc
 obtain ⟨d,er⟩:=Z
 dsimp only at hdc
 have HDC:=Lib.hid hdc
 obtain ⟨NA,NC,rfl,_⟩:=hn.is
 obtain ⟨OA,OC,rfl,_⟩:=ho.is
 obtain ⟨RA,RC,rfl,_⟩:=hr.is
 obtain ⟨VA0,VC0,rfl,_⟩:=hv.is
 clear hdc hT hn ho hr hv hZ
 go_enter Tryz.func11,Tryz.ntmps11
 go_wp2_with (go_at_call 22;(with_reducible refine (HDC.out _ (by (repeat' first|(with_reducible first|exact blR _ _|assumption|refine blD ?_|refine blN ?_ _)|((with_reducible first|refine blA ?_ ?_ _|refine blS ?_ ?_ _|refine blT (by assumption) ?_ ?_);focus (go_size;done))))).mono ?_);rintro _ w3 ⟨VA,VC,VA2,VC2,rfl,hvb,hb3⟩;have HVB:=Lib.hid hvb;clear hvb;have hb3s:=hb3.size;(try simp only [World.size_alloc] at hb3s);(try have : w.heap.size < w3.heap.size:=by omega);(try have : w.heap.size + 1 < w3.heap.size:=by omega);(try have : w.heap.size + 1 + 1 < w3.heap.size:=by omega);(try have : w.heap.size + 1 + 1 + 1 < w3.heap.size:=by omega);have k1 : Bk w3 (w.heap.size + 1) 34 zc10:=(by unfold zc10;(repeat (first|(with_reducible assumption)|((with_reducible refine bkW ?_);(first|rfl|(simp only [wsA,wsS,wsD,wsN];done)))|(with_reducible first|refine bkA ?_ _|refine bkD ?_|refine bkN ?_ _)|((with_reducible refine bkF ?_ ?_ _);focus (simp only [];omega))|((with_reducible refine bkB (by assumption) ?_ ?_);focus (go_size;done)))));have mb : Below w.heap.size w w3:=(by (repeat' first|(with_reducible first|exact blR _ _|assumption|refine blD ?_|refine blN ?_ _)|((with_reducible first|refine blA ?_ ?_ _|refine blS ?_ ?_ _|refine blT (by assumption) ?_ ?_);focus (go_size;done))));obtain ⟨⟨z0,z1,z2,z3,z4,z5,z6,z7,z8,z9⟩,zf⟩:=k1.zcd;clear k1 hb3)
 refine bodyPost_ret (by simp [results,Tryz.results11,go_sem, *];try rfl) rfl ?_
 refine ⟨VA,VC,VA2,VC2,rfl,fun W' hW'=>HVB.out _ (fun b hb=>(hW' b (by simp only [World.size_setCell];simp only [World.size_alloc] at hb;omega)).trans ?_),by (repeat' first|(with_reducible first|exact blR _ _|assumption|refine blD ?_|refine blN ?_ _)|((with_reducible first|refine blA ?_ ?_ _|refine blS ?_ ?_ _|refine blT (by assumption) ?_ ?_);focus (go_size;done)))⟩
 simp only [World.size_alloc] at hb
 repeat rw [Below.heap_setCell _ _ _ _ (by show b ≠ w.heap.size + 1;omega)]
end Go.Proofs.YtkjecoanlppeaaaGreatDoor



namespace Go.Proofs.YtkjecoanlppeaaaGreatDoor
open Go.RowKit

theorem va_bel2 {w w' : World} {d : VD} {A : Option Addr} {C : Nat} {A2 : Option Addr} {C2 : Nat} (h : VA w d A C A2 C2) (hb : Below w.heap.size w w') : VA w' d A C A2 C2:=VA.below h hb
theorem Bk.vcd {w : World} {g : Nat} {t : TypeId} {d : VD} {A : Option Addr} {C : Nat} {A2 : Option Addr} {C2 : Nat} (h : Bk w g t (vcs d A C A2 C2)) : w.cell? ⟨g,0,none⟩ = some (.int .i64 d.s.kind) ∧ w.cell? ⟨g,1,none⟩ = some (.bool d.s.yes) ∧ w.cell? ⟨g,2,none⟩ = some (.bool d.s.neg) ∧ w.cell? ⟨g,3,none⟩ = some (.int .u64 (wd d.s.coef 1)) ∧ w.cell? ⟨g,4,none⟩ = some (.int .u64 (wd d.s.coef 0)) ∧ w.cell? ⟨g,5,none⟩ = some (.int .i64 d.s.sc) ∧ w.cell? ⟨g,6,none⟩ = some (.string ⟨d.s.text.toArray⟩) ∧ w.cell? ⟨g,7,none⟩ = some (.int .i64 d.s.day) ∧ w.cell? ⟨g,8,none⟩ = some (.slice A d.list.length C) ∧ w.cell? ⟨g,9,none⟩ = some (.slice A2 d.names.length C2) :=
 ⟨h.cell 0 rfl,h.cell 1 rfl,h.cell 2 rfl,h.cell 3 rfl,h.cell 4 rfl,h.cell 5 rfl,h.cell 6 rfl,h.cell 7 rfl,h.cell 8 rfl,h.cell 9 rfl⟩
theorem Bk.vnew {w W : World} {t : TypeId} {d : VD} {A : Option Addr} {C : Nat} {A2 : Option Addr} {C2 : Nat} {B : Nat} (hb : Below B (w.alloc (.cells #[.int .i64 d.s.kind,.bool d.s.yes,.bool d.s.neg,.int .u64 (wd d.s.coef 1),.int .u64 (wd d.s.coef 0),.int .i64 d.s.sc,.string ⟨d.s.text.toArray⟩,.int .i64 d.s.day,.slice A d.list.length C,.slice A2 d.names.length C2] t)) W) (hB : w.heap.size < B) : Bk W w.heap.size t (vcs d A C A2 C2) :=
 Bk.below (Bk.new_ (cs:=vcs d A C A2 C2) rfl) hb hB
theorem sizes_mul {k : Nat} : ∀ (l : List VD),(∀ x ∈ l,x.size ≤ k) → sizes l ≤ k * l.length
 | [],_=>Nat.zero_le _
 | x :: r,h=>by
  rw [sizes,List.length_cons,Nat.mul_succ]
  have:=h x (by simp)
  have:=sizes_mul r fun y hy=>h y (List.mem_cons_of_mem _ hy)
  omega
theorem chk_size {d : VD} (h : chkV d = 0) : d.size ≤ 1000:=by
 unfold chkV at h
 split at h
 ·omega
 ·omega
theorem mem_vg {l : List VD} {x : VD} (h : x ∈ l) : ∃ t,t < l.length ∧ vg l t = x:=by
 obtain ⟨t,ht,rfl⟩:=List.getElem_of_mem h
 exact ⟨t,ht,vg_get ht⟩
theorem zero_size : VD.zero.size = 1:=by simp [VD.zero,VD.size,sizes]
theorem flat_size (s : VS) (n : List (List UInt8)) : (VD.mk s [] n).size = 1:=by simp [VD.size,sizes]
theorem wholeD_size {names : List (List UInt8)} {row : List VD} (hc : allC row = true) (h8 : row.length ≤ 8) : (wholeD names row).size ≤ 8001:=by
 have h:=allC_iff.1 hc
 unfold wholeD
 split
 ·rcases Nat.lt_or_ge 0 row.length with h0 | h0
  ·have:=chk_size (h 0 h0);omega
  ·have e : row = []:=List.eq_nil_of_length_eq_zero (by omega)
   subst e
   show VD.zero.size ≤ 8001
   rw [zero_size];decide
 ·rw [VD.size]
  have:=sizes_mul (k:=1000) row fun x hx=>by
   obtain ⟨t,ht,rfl⟩:=mem_vg hx
   exact chk_size (h t ht)
  have : 1000 * row.length ≤ 1000 * 8:=Nat.mul_le_mul_left _ h8
  omega
theorem decD_size {p : Int} {l : List VD} {pl : List Nat} (hl : ∀ t,t < l.length → (vg l t).size ≤ 8001) (h60 : l.length ≤ 60) (hpl : pl.length ≤ 60) (hpos : 0 < l.length) (hlt : ∀ i,i < pl.length → ag pl i < l.length) (hp0 : 0 < pl.length) : (decD p l pl).1.size ≤ 1048576:=by
 have h0:=hl 0 hpos
 have hz:=zero_size
 have key : ∀ m : List VD,m.length ≤ 60 → (∀ x ∈ m,x.size ≤ 8001) → (VD.mk (kindS 5) m []).size ≤ 1048576:=fun m hm hx=>by
  rw [VD.size]
  have:=sizes_mul m hx
  have : 8001 * m.length ≤ 8001 * 60:=Nat.mul_le_mul_left _ hm
  omega
 have hmem : ∀ x ∈ l,x.size ≤ 8001:=fun x hx=>by
  obtain ⟨t,ht,rfl⟩:=mem_vg hx
  exact hl t ht
 unfold decD
 split
 ·split
  ·show VD.zero.size ≤ _;omega
  ·show (vg l 0).size ≤ _;omega
 split
 ·split
  ·show (vg l 0).size ≤ _;omega
  ·show VD.zero.size ≤ _;omega
 split
 ·show (vg l (ag pl 0)).size ≤ _
  have:=hl _ (hlt 0 hp0);omega
 split
 ·show (vg l 0).size ≤ _;omega
 split
 ·refine key _ (by rw [List.length_map];exact hpl) fun x hx=>?_
  obtain ⟨i,hi,rfl⟩:=List.mem_map.1 hx
  obtain ⟨t,ht,rfl⟩:=List.getElem_of_mem hi
  have e:=hlt t ht
  rw [ag_get ht] at e
  exact hl _ e
 split
 ·show (VD.mk _ [] []).size ≤ _
  rw [flat_size];decide
 split
 ·have e:=(numD_flat p l).1
  rw [VD.size_eq,e];simp [sizes]
 ·exact key l h60 hmem
def LlsX (w wx : World) (R : Value) (rs : List (List VD)) : Prop:=∃ A C,R = .slice A rs.length C ∧ (rs.length ≤ 1048576 ∧ rs.length ≤ C ∧ C ≤ maxLen) ∧ ∀ t,t < rs.length → ∃ b o B D,A = some ⟨b,o,none⟩ ∧ wx.cell? ⟨b,o + t,none⟩ = some (.slice B (lg rs t).length D) ∧ Vls (RV w) w (.slice B (lg rs t).length D) (lg rs t)
theorem LlsX.lls {w wx : World} {R : Value} {rs : List (List VD)} (h : LlsX w wx R rs) (hb : Below w.heap.size w wx) : Lls wx R rs:=by
 obtain ⟨A,C,h1,h2,h3⟩:=h
 refine ⟨A,C,h1,h2,fun t ht=>?_⟩
 obtain ⟨b,o,B,D,k1,k2,k3⟩:=h3 t ht
 exact ⟨b,o,B,D,k1,k2,k3.kept hb⟩
theorem Lls.llsX {w wx : World} {R : Value} {rs : List (List VD)} (h : Lls w R rs) (hb : Below w.heap.size w wx) : LlsX w wx R rs:=by
 obtain ⟨A,C,h1,h2,h3⟩:=h
 refine ⟨A,C,h1,h2,fun t ht=>?_⟩
 obtain ⟨b,o,B,D,k1,k2,k3⟩:=h3 t ht
 exact ⟨b,o,B,D,k1,(hb.cell (p:=⟨b,o + t,none⟩) (vcell_lt k2)).trans k2,k3⟩
theorem LlsX.is {w wx : World} {R : Value} {rs : List (List VD)} (h : LlsX w wx R rs) : ∃ A C,R = .slice A rs.length C:=by
 obtain ⟨A,C,h1,_⟩:=h
 exact ⟨A,C,h1⟩
theorem LlsX.at {w wx : World} {rs : List (List VD)} {A : Option Addr} {n C : Nat} (h : LlsX w wx (.slice A n C) rs) {t : Nat} (ht : t < rs.length) : ∃ b o B D,A = some ⟨b,o,none⟩ ∧ wx.cell? ⟨b,o + t,none⟩ = some (.slice B (lg rs t).length D) ∧ Vls (RV w) w (.slice B (lg rs t).length D) (lg rs t):=by
 obtain ⟨A',C',h1,h2,h3⟩:=h
 injection h1 with e1 e2 e3
 subst e1
 exact h3 t ht
theorem llsX_one {w w1 : World} {A : Option Addr} {C : Nat} {l : List VD} (t : TypeId) (h : Vls (RV w) w (.slice A l.length C) l) {g : Nat} (hg : g = w1.heap.size) : LlsX w (w1.alloc (.cells #[.slice A l.length C] t)) (.slice (some ⟨g,0,none⟩) 1 1) [l]:=by
 subst hg
 refine ⟨_,_,rfl,⟨by simp,by simp,by decide⟩,fun r hr=>?_⟩
 obtain rfl : r = 0:=by simp at hr;omega
 exact ⟨w1.heap.size,0,A,C,rfl,(Bk.new w1 t [.slice A l.length C]).cell 0 rfl,h⟩
end Go.Proofs.YtkjecoanlppeaaaGreatDoor



namespace Go.Proofs.YtkjecoanlppeaaaGreatDoor
open Go.RowKit

theorem endD_size (r : VD × Int) : (endD r).1.size ≤ 1000:=by
 unfold endD
 split
 ·show VD.zero.size ≤ _;rw [zero_size];decide
 ·split
  ·show VD.zero.size ≤ _;rw [zero_size];decide
  ·rename_i h
   exact chk_size (by simpa using h)
theorem decAll_size (p : Int) (names : List (List UInt8)) (order rows : List (List VD)) (other : List VD) : (decAll p names order rows other).1.size ≤ 1000:=by
 unfold decAll
 split
 ·show VD.zero.size ≤ _;rw [zero_size];decide
 ·split
  ·show VD.zero.size ≤ _;rw [zero_size];decide
  ·exact endD_size _
theorem same_two (x y : VD) (A : Option Addr) (C : Nat) (A2 : Option Addr) (C2 : Nat) (B : Option Addr) (D : Nat) (B2 : Option Addr) (D2 : Nat) (W : World) (hx : VA W x A C A2 C2) (hy : VA W y B D B2 D2) (hs : x.size ≤ 1000) (hs2 : y.size ≤ 1000) :
  Calls Tryz.prog 12 #[vargs x A C A2 C2,vargs y B D B2 D2] W fun e w'=>e = .returned (.bool (sameB x y)) ∧ Below W.heap.size W w':=by
 have h:=lsame_any x y A C A2 C2 B D B2 D2 W hx hy (by omega) (by omega)
 rw [decide_eq_true hs,decide_eq_true hs2,Bool.true_and,Bool.true_and] at h
 exact h
theorem same_self (x : VD) (A : Option Addr) (C : Nat) (A2 : Option Addr) (C2 : Nat) (B : Option Addr) (D : Nat) (B2 : Option Addr) (D2 : Nat) (W : World) (hx : VA W x A C A2 C2) (hy : VA W x B D B2 D2) (hs : x.size ≤ 1000) :
  Calls Tryz.prog 12 #[vargs x A C A2 C2,vargs x B D B2 D2] W fun e w'=>e = .returned (.bool true) ∧ Below W.heap.size W w':=by
 have h:=same_two x x A C A2 C2 B D B2 D2 W hx hy hs hs
 rw [sameB_self] at h
 exact h
end Go.Proofs.YtkjecoanlppeaaaGreatDoor



namespace Go.Proofs.YtkjecoanlppeaaaGreatDoor
open Go.RowKit

set_option maxHeartbeats 1000000 in
theorem rnone_any (p : Int) (w : World) : Calls Tryz.prog 44 #[.int .i64 p] w fun e w'=>e = .returned (vargs (noneD p) none 0 none 0) ∧ Below w.heap.size w w':=by
 by_cases h5 : 5 ≤ p ∧ p ≤ 7
 ·obtain ⟨h5a,h5b⟩:=h5
  have e : vargs (noneD p) none 0 none 0 = .agg #[.int .i64 5,.bool false,.bool false,.int .u64 0,.int .u64 0,.int .i64 0,.string ⟨#[]⟩,.int .i64 0,.slice none 0 0,.slice none 0 0]:=by
   unfold noneD
   rw [if_pos ⟨h5a,h5b⟩,vargs,vagg]
   simp only [kindS,VD.s,VD.list,VD.names,wd_zero];rfl
  rw [e]
  clear e
  go_enter Tryz.func44,Tryz.ntmps44
  go_wp2_with fail
  refine bodyPost_ret (by simp [results,Tryz.results44,go_sem, *];try rfl) rfl ?_
  exact ⟨rfl,by (repeat' first|(with_reducible first|exact blR _ _|assumption|refine blD ?_|refine blN ?_ _)|((with_reducible first|refine blA ?_ ?_ _|refine blS ?_ ?_ _|refine blT (by assumption) ?_ ?_);focus (go_size;done)))⟩
 ·by_cases h11 : p = 11
  ·subst h11
   have e : vargs (noneD 11) none 0 none 0 = .agg #[.int .i64 2,.bool false,.bool false,.int .u64 0,.int .u64 0,.int .i64 0,.string ⟨#[]⟩,.int .i64 0,.slice none 0 0,.slice none 0 0]:=by
    show vargs (.mk (kindS 2) [] []) none 0 none 0 = _
    rw [vargs,vagg]
    simp only [kindS,VD.s,VD.list,VD.names,wd_zero];rfl
   rw [e]
   clear e h5
   go_enter Tryz.func44,Tryz.ntmps44
   go_wp2_with fail
   refine bodyPost_ret (by simp [results,Tryz.results44,go_sem, *];try rfl) rfl ?_
   exact ⟨rfl,by (repeat' first|(with_reducible first|exact blR _ _|assumption|refine blD ?_|refine blN ?_ _)|((with_reducible first|refine blA ?_ ?_ _|refine blS ?_ ?_ _|refine blT (by assumption) ?_ ?_);focus (go_size;done)))⟩
  ·have e : noneD p = VD.zero:=by unfold noneD;rw [if_neg h5,if_neg h11]
   rw [e,zero_vargs]
   have hc : p < 5 ∨ (5 ≤ p ∧ 7 < p):=by omega
   have h11b : (p == 11) = false:=by rw [beq_eq_false_iff_ne];exact h11
   clear e h5 h11
   rcases hc with h | ⟨h,h'⟩
   all_goals
    go_enter Tryz.func44,Tryz.ntmps44
    go_wp2_with fail
    refine bodyPost_ret (by simp [results,Tryz.results44,go_sem, *];try rfl) rfl ?_
    exact ⟨rfl,by (repeat' first|(with_reducible first|exact blR _ _|assumption|refine blD ?_|refine blN ?_ _)|((with_reducible first|refine blA ?_ ?_ _|refine blS ?_ ?_ _|refine blT (by assumption) ?_ ?_);focus (go_size;done)))⟩
end Go.Proofs.YtkjecoanlppeaaaGreatDoor



namespace Go.Proofs.YtkjecoanlppeaaaGreatDoor
open Go.RowKit

set_option maxRecDepth 100000 in
set_option maxHeartbeats 2000000 in
theorem rdec_at (p : Int) (i : Nat) (hp : (p = 1 ∧ i = 0 ∧ True) ∨ (p = 4 ∧ i = 0)) (l : List VD) (L P : Value) (w : World) {h0 lo : Nat} (hl : RobL h0 lo w L l) (h0w : h0 ≤ w.heap.size) (hP : ∃ A n C,P = .slice A n C) (hpos : 0 < l.length) (h1 : p = 1 → l.length = 1) :
  Calls Tryz.prog 46 #[.int .i64 p,L,P] w (RetX h0 lo (vg l 0,0) w):=by
 obtain ⟨LA,LC,rfl,q1⟩:=hl.is
 obtain ⟨PA,pn,PC,rfl⟩:=hP
 obtain ⟨b,o,A,C,A2,C2,rfl,hat,hy⟩:=hl.at hpos
 rw [Nat.zero_mul,Nat.add_zero] at hat
 obtain ⟨a0,a1,a2,a3,a4,a5,a6,a7,a8,a9⟩:=hat.val
 have lb:=vcell_lt a0
 have hlc : (0 : Int) < (l.length : Int):=by omega
 have hl6 : (l.length : Int) ≤ 1048576:=by omega
 unfold RetX vargs
 obtain ⟨y,hyy⟩ : ∃ y,y = vg l 0:=⟨_,rfl⟩
 rw [← hyy] at a0 a1 a2 a3 a4 a5 a6 a7 a8 a9 hy
 rw [← hyy]
 dsimp only
 obtain ⟨n1,hn1⟩ : ∃ n,n = y.list.length:=⟨_,rfl⟩
 obtain ⟨n2,hn2⟩ : ∃ n,n = y.names.length:=⟨_,rfl⟩
 rw [← hn1] at a8 ⊢
 rw [← hn2] at a9 ⊢
 have HY:=Lib.hid hy
 obtain ⟨s,hs⟩ : ∃ s,s = y.s:=⟨_,rfl⟩
 rw [← hs] at a0 a1 a2 a3 a4 a5 a6 a7 ⊢
 unfold vagg
 rcases hp with ⟨rfl,_,_⟩ | ⟨rfl,_⟩
 ·have hn1l : l.length = 1:=h1 rfl
  have hn1c : ¬ (1 : Int) < (l.length : Int):=by omega
  clear hat hyy hn1 hn2 hs hy hl q1 h1 hn1l
  go_enter Tryz.func46,Tryz.ntmps46
  go_wp2_with fail
  refine bodyPost_ret (by simp [results,Tryz.results46,go_sem, *];try rfl) rfl ?_
  exact ⟨A,C,A2,C2,rfl,VB.up HY.out h0w (by (repeat' first|(with_reducible first|exact blR _ _|assumption|refine blD ?_|refine blN ?_ _)|((with_reducible first|refine blA ?_ ?_ _|refine blS ?_ ?_ _|refine blT (by assumption) ?_ ?_);focus (go_size;done)))),by (repeat' first|(with_reducible first|exact blR _ _|assumption|refine blD ?_|refine blN ?_ _)|((with_reducible first|refine blA ?_ ?_ _|refine blS ?_ ?_ _|refine blT (by assumption) ?_ ?_);focus (go_size;done)))⟩
 ·clear hat hyy hn1 hn2 hs hy hl q1 h1
  go_enter Tryz.func46,Tryz.ntmps46
  go_wp2_with fail
  refine bodyPost_ret (by simp [results,Tryz.results46,go_sem, *];try rfl) rfl ?_
  exact ⟨A,C,A2,C2,rfl,VB.up HY.out h0w (by (repeat' first|(with_reducible first|exact blR _ _|assumption|refine blD ?_|refine blN ?_ _)|((with_reducible first|refine blA ?_ ?_ _|refine blS ?_ ?_ _|refine blT (by assumption) ?_ ?_);focus (go_size;done)))),by (repeat' first|(with_reducible first|exact blR _ _|assumption|refine blD ?_|refine blN ?_ _)|((with_reducible first|refine blA ?_ ?_ _|refine blS ?_ ?_ _|refine blT (by assumption) ?_ ?_);focus (go_size;done)))⟩
set_option maxRecDepth 100000 in
set_option maxHeartbeats 2000000 in
theorem rdec_two (l : List VD) (L P : Value) (w : World) (hl : Vls (RV w) w L l) (hP : ∃ A n C,P = .slice A n C) (h1 : 1 < l.length) :
  Calls Tryz.prog 46 #[.int .i64 1,L,P] w (RetP (VD.zero,14) w):=by
 obtain ⟨LA,LC,rfl,q1⟩:=hl.is
 obtain ⟨PA,pn,PC,rfl⟩:=hP
 have hlc : (1 : Int) < (l.length : Int):=by omega
 have hl6 : (l.length : Int) ≤ 1048576:=by omega
 clear hl q1 h1
 go_enter Tryz.func46,Tryz.ntmps46
 go_wp2_with fail
 refine bodyPost_ret (by simp [results,Tryz.results46,go_sem, *];try rfl) rfl ?_
 exact ⟨none,0,none,0,by rw [zero_vargs],va_flat VS.zero_ok,by (repeat' first|(with_reducible first|exact blR _ _|assumption|refine blD ?_|refine blN ?_ _)|((with_reducible first|refine blA ?_ ?_ _|refine blS ?_ ?_ _|refine blT (by assumption) ?_ ?_);focus (go_size;done)))⟩
theorem vls_listR {w : World} {A : Option Addr} {C : Nat} {l : List VD} (h : Vls (RV w) w (.slice A l.length C) l) : VA w (.mk (kindS 5) l []) A C none 0 :=
 vls_sub (d:=VD.zero) h ⟨none,0,rfl,⟨by simp,by simp,by decide⟩,fun r hr=>absurd hr (Nat.not_lt_zero _)⟩
theorem rob_list {h0 lo : Nat} {w : World} {A : Option Addr} {C : Nat} {l : List VD} (h : RobL h0 lo w (.slice A l.length C) l) : VB h0 lo w.heap.size w (.mk (kindS 5) l []) A C none 0:=fun _ ha=>vls_listR (h.lists ha)
theorem list_vargsR (l : List VD) (A : Option Addr) (C : Nat) : vargs (.mk (kindS 5) l []) A C none 0 = .agg #[.int .i64 5,.bool false,.bool false,.int .u64 0,.int .u64 0,.int .i64 0,.string ⟨#[]⟩,.int .i64 0,.slice A l.length C,.slice none 0 0]:=by
 rw [vargs,vagg]
 simp only [kindS,VD.s,VD.list,VD.names,wd_zero];rfl
set_option maxRecDepth 100000 in
set_option maxHeartbeats 2000000 in
theorem rdec_list (p : Int) (hp : p = 5 ∨ p = 7) (l : List VD) (L P : Value) (w : World) {h0 lo : Nat} (hl : RobL h0 lo w L l) (h0w : h0 ≤ w.heap.size) (hP : ∃ A n C,P = .slice A n C) :
  Calls Tryz.prog 46 #[.int .i64 p,L,P] w (RetX h0 lo (.mk (kindS 5) l [],0) w):=by
 obtain ⟨LA,LC,rfl,q1⟩:=hl.is
 obtain ⟨PA,pn,PC,rfl⟩:=hP
 have HV:=Lib.hid (rob_list hl)
 have hl6 : (l.length : Int) ≤ 1048576:=by omega
 clear hl q1
 rcases hp with rfl | rfl
 all_goals
  go_enter Tryz.func46,Tryz.ntmps46
  go_wp2_with fail
  refine bodyPost_ret (by simp [results,Tryz.results46,go_sem, *];try rfl) rfl ?_
  exact ⟨LA,LC,none,0,by rw [list_vargsR],VB.up HV.out h0w (by (repeat' first|(with_reducible first|exact blR _ _|assumption|refine blD ?_|refine blN ?_ _)|((with_reducible first|refine blA ?_ ?_ _|refine blS ?_ ?_ _|refine blT (by assumption) ?_ ?_);focus (go_size;done)))),by (repeat' first|(with_reducible first|exact blR _ _|assumption|refine blD ?_|refine blN ?_ _)|((with_reducible first|refine blA ?_ ?_ _|refine blS ?_ ?_ _|refine blT (by assumption) ?_ ?_);focus (go_size;done)))⟩
set_option maxRecDepth 100000 in
set_option maxHeartbeats 2000000 in
theorem rdec_num (l : List VD) (L P : Value) (w : World) (hl : Vls (RV w) w L l) (hP : ∃ A n C,P = .slice A n C) :
  Calls Tryz.prog 46 #[.int .i64 11,L,P] w (RetP (.mk (numS false l.length 0) [] [],0) w):=by
 obtain ⟨LA,LC,rfl,q1⟩:=hl.is
 obtain ⟨PA,pn,PC,rfl⟩:=hP
 have HOF:=Lib.hid (fun (W : World)=>docof_any (l.length : Int) ⟨by omega,by omega⟩ W)
 have e : OfV (l.length : Int) = .agg #[.bool false,.int .u64 (wd l.length 1),.int .u64 (wd l.length 0),.int .i64 0]:=by
  unfold OfV absN
  rw [decide_eq_false (by omega),Int.natAbs_natCast]
 rw [e] at HOF
 have hl6 : (l.length : Int) ≤ 1048576:=by omega
 have hn128 : l.length < 2 ^ 128:=Nat.lt_of_le_of_lt q1 (by decide)
 have HN128:=Far.mk hn128
 clear hl q1 hn128 e
 go_enter Tryz.func46,Tryz.ntmps46
 go_wp2_with ((go_at_call 75;with_reducible refine (HOF.out _).mono ?_);rintro _ w2 ⟨rfl,hb2⟩;have hb2s:=hb2.size;(try simp only [wsA,wsS,wsD,wsN] at hb2s);obtain ⟨hb2c,hb2f⟩:=bcell hb2;(try have : w.heap.size < w2.heap.size:=by omega);(try have : w.heap.size + 1 < w2.heap.size:=by omega);(try have : w.heap.size + 1 + 1 < w2.heap.size:=by omega);(try have : w.heap.size + 1 + 1 + 1 < w2.heap.size:=by omega))
 refine bodyPost_ret (by simp [results,Tryz.results46,go_sem, *];try rfl) rfl ?_
 exact ⟨none,0,none,0,by rw [num_vargs],va_flat (numS_ok HN128.out),by (repeat' first|(with_reducible first|exact blR _ _|assumption|refine blD ?_|refine blN ?_ _)|((with_reducible first|refine blA ?_ ?_ _|refine blS ?_ ?_ _|refine blT (by assumption) ?_ ?_);focus (go_size;done)))⟩
set_option maxRecDepth 100000 in
set_option maxHeartbeats 2000000 in
theorem rdec_pri (l : List VD) (pl : List Nat) (L P : Value) (w : World) {h0 lo : Nat} (hl : RobL h0 lo w L l) (h0w : h0 ≤ w.heap.size) (hP : Ilst w P pl) (hpos : 0 < pl.length) (hz : ag pl 0 < l.length) :
  Calls Tryz.prog 46 #[.int .i64 3,L,P] w (RetX h0 lo (vg l (ag pl 0),0) w):=by
 obtain ⟨LA,LC,rfl,q1⟩:=hl.is
 obtain ⟨PA,PC,rfl,q2,_,_⟩:=hP.is
 obtain ⟨b3,o3,rfl,hc3⟩:=hP.at hpos
 rw [Nat.add_zero] at hc3
 obtain ⟨z,hzz⟩ : ∃ z,z = ag pl 0:=⟨_,rfl⟩
 rw [← hzz] at hc3 hz ⊢
 obtain ⟨b,o,A,C,A2,C2,rfl,hat,hy⟩:=hl.at hz
 obtain ⟨a0,a1,a2,a3,a4,a5,a6,a7,a8,a9⟩:=hat.val
 have lb:=vcell_lt a0
 have lb3:=vcell_lt hc3
 have hlc : (z : Int) < (l.length : Int):=by omega
 have hpc : (0 : Int) < (pl.length : Int):=by omega
 have hl6 : (l.length : Int) ≤ 1048576:=by omega
 unfold RetX vargs
 obtain ⟨y,hyy⟩ : ∃ y,y = vg l z:=⟨_,rfl⟩
 rw [← hyy] at a0 a1 a2 a3 a4 a5 a6 a7 a8 a9 hy
 rw [← hyy]
 dsimp only
 obtain ⟨n1,hn1⟩ : ∃ n,n = y.list.length:=⟨_,rfl⟩
 obtain ⟨n2,hn2⟩ : ∃ n,n = y.names.length:=⟨_,rfl⟩
 rw [← hn1] at a8 ⊢
 rw [← hn2] at a9 ⊢
 have HY:=Lib.hid hy
 obtain ⟨s,hs⟩ : ∃ s,s = y.s:=⟨_,rfl⟩
 rw [← hs] at a0 a1 a2 a3 a4 a5 a6 a7 ⊢
 unfold vagg
 clear hat hyy hn1 hn2 hs hy hl q1 q2 hP hzz
 go_enter Tryz.func46,Tryz.ntmps46
 go_wp2_with fail
 refine bodyPost_ret (by simp [results,Tryz.results46,go_sem, *];try rfl) rfl ?_
 exact ⟨A,C,A2,C2,rfl,VB.up HY.out h0w (by (repeat' first|(with_reducible first|exact blR _ _|assumption|refine blD ?_|refine blN ?_ _)|((with_reducible first|refine blA ?_ ?_ _|refine blS ?_ ?_ _|refine blT (by assumption) ?_ ?_);focus (go_size;done)))),by (repeat' first|(with_reducible first|exact blR _ _|assumption|refine blD ?_|refine blN ?_ _)|((with_reducible first|refine blA ?_ ?_ _|refine blS ?_ ?_ _|refine blT (by assumption) ?_ ?_);focus (go_size;done)))⟩
end Go.Proofs.YtkjecoanlppeaaaGreatDoor



namespace Go.Proofs.YtkjecoanlppeaaaGreatDoor
open Go.RowKit

set_option maxRecDepth 100000 in
set_option maxHeartbeats 2000000 in
theorem rdec_reck (p : Int) (hp : p = 8 ∨ p = 9 ∨ p = 10) (l : List VD) (L P : Value) (w : World) (hl : Vls (RV w) w L l) (hP : ∃ A n C,P = .slice A n C) (hpos : 0 < l.length) (h6 : l.length ≤ 1000000) (hc : ∀ t,t < l.length → chkV (vg l t) = 0) :
  Calls Tryz.prog 46 #[.int .i64 p,L,P] w (RetP (numD p l) w):=by
 obtain ⟨LA,LC,rfl,q1⟩:=hl.is
 obtain ⟨PA,pn,PC,rfl⟩:=hP
 have HRK:=Lib.hid (fun (W : World) (hW : Below w.heap.size w W)=>rnumbers18_any p l (.slice LA l.length LC) W hp (hl.kept hW) hpos h6 hc)
 unfold RetP at HRK
 obtain ⟨f1,f2⟩:=numD_flat p l
 obtain ⟨Z,hZ⟩ : ∃ Z,Z = numD p l:=⟨_,rfl⟩
 rw [← hZ] at f1 f2 ⊢
 simp only [← hZ] at HRK
 have HF1:=Lib.hid f1
 have HF2:=Lib.hid f2
 have hl6 : (l.length : Int) ≤ 1048576:=by omega
 clear hl q1 f1 f2 hZ hc
 rcases hp with rfl | rfl | rfl
 all_goals
  go_enter Tryz.func46,Tryz.ntmps46
  go_wp2_with (go_at_call 76;(with_reducible refine (HRK.out _ (by (repeat' first|(with_reducible first|exact blR _ _|assumption|refine blD ?_|refine blN ?_ _)|((with_reducible first|refine blA ?_ ?_ _|refine blS ?_ ?_ _|refine blT (by assumption) ?_ ?_);focus (go_size;done))))).mono ?_);rintro _ w2 ⟨VA,VC,VA2,VC2,rfl,hva,hb2⟩;have HVA:=Lib.hid hva;clear hva;have hb2s:=hb2.size;(try simp only [World.size_alloc] at hb2s);(try have : w.heap.size < w2.heap.size:=by omega);(try have : w.heap.size + 1 < w2.heap.size:=by omega);(try have : w.heap.size + 1 + 1 < w2.heap.size:=by omega);(try have : w.heap.size + 1 + 1 + 1 < w2.heap.size:=by omega);have k1 : Bk w2 w.heap.size 34 zc10:=(by unfold zc10;(repeat (first|(with_reducible assumption)|((with_reducible refine bkW ?_);(first|rfl|(simp only [wsA,wsS,wsD,wsN];done)))|(with_reducible first|refine bkA ?_ _|refine bkD ?_|refine bkN ?_ _)|((with_reducible refine bkF ?_ ?_ _);focus (simp only [];omega))|((with_reducible refine bkB (by assumption) ?_ ?_);focus (go_size;done)))));have mb : Below w.heap.size w w2:=(by (repeat' first|(with_reducible first|exact blR _ _|assumption|refine blD ?_|refine blN ?_ _)|((with_reducible first|refine blA ?_ ?_ _|refine blS ?_ ?_ _|refine blT (by assumption) ?_ ?_);focus (go_size;done))));obtain ⟨⟨z0,z1,z2,z3,z4,z5,z6,z7,z8,z9⟩,zf⟩:=k1.zcd;clear k1 hb2)
  refine bodyPost_ret (by simp [results,Tryz.results46,go_sem, *];try rfl) rfl ?_
  exact ⟨VA,VC,VA2,VC2,rfl,va_move_flat HVA.out HF1.out HF2.out,by (repeat' first|(with_reducible first|exact blR _ _|assumption|refine blD ?_|refine blN ?_ _)|((with_reducible first|refine blA ?_ ?_ _|refine blS ?_ ?_ _|refine blT (by assumption) ?_ ?_);focus (go_size;done)))⟩
end Go.Proofs.YtkjecoanlppeaaaGreatDoor



namespace Go.Proofs.YtkjecoanlppeaaaGreatDoor
open Go.RowKit

set_option maxRecDepth 100000 in
set_option maxHeartbeats 2000000 in
theorem rdec_out (l : List VD) (pl : List Nat) (L P : Value) (w : World) {h0 lo : Nat} (hl : RobL h0 lo w L l) (h0w : h0 ≤ w.heap.size) (hlo : lo ≤ w.heap.size) (hP : Ilst w P pl) (hpl : ∀ i,i < pl.length → ag pl i < l.length) (h6 : pl.length ≤ 1000000) :
  Calls Tryz.prog 46 #[.int .i64 6,L,P] w (RetX h0 lo (.mk (kindS 5) (pl.map (vg l)) [],0) w):=by
 obtain ⟨LA,LC,rfl,q1⟩:=hl.is
 obtain ⟨PA,PC,rfl,q2,_,_⟩:=hP.is
 have HL:=Lib.hid hl
 have HP:=Lib.hid hP
 have HPL:=Lib.hid hpl
 have hl6 : (l.length : Int) ≤ 1048576:=by omega
 have hpc : (pl.length : Int) ≤ 1000000:=by omega
 clear hl hP hpl q1 q2
 go_enter Tryz.func46,Tryz.ntmps46
 go_wp2_with fail
 have k4 : Bk (w.alloc (.cells #[.int .i64 0,.bool false,.bool false,.int .u64 0,.int .u64 0,.int .i64 0,.string ⟨#[]⟩,.int .i64 0,.slice none 0 0,.slice none 0 0] 34)) w.heap.size 34 zc10:=by
  unfold zc10
  exact Bk.new_ rfl
 go_loopg [9,10] pl.length (fun k s9 s10 wr=>∃ t : Nat,k + t = pl.length ∧ s10 = .int .i64 t ∧ Hid (OwnVX (w.heap.size + 1) lo w.heap.size h0 wr s9 ((pl.take t).map (vg l))) ∧ Hid (Bk wr w.heap.size 34 zc10) ∧ w.heap.size + 1 ≤ wr.heap.size ∧ Below w.heap.size w wr)
 case atStart=>exact ⟨0,by omega,rfl,Lib.hid (OwnVX.nil _ _ _ _ _),Lib.hid k4,by go_size,by (repeat' first|(with_reducible first|exact blR _ _|assumption|refine blD ?_|refine blN ?_ _)|((with_reducible first|refine blA ?_ ?_ _|refine blS ?_ ?_ _|refine blT (by assumption) ?_ ?_);focus (go_size;done)))⟩
 case round =>
  obtain ⟨t,hk,rfl,HW,K4,hsz,hbel⟩:=hrel
  have HK:=Lib.hid hk
  have htl : t ≤ pl.length:=by omega
  clear hk k4
  by_cases hlt : t < pl.length
  ·obtain ⟨b3,o3,rfl,hc0⟩:=HP.out.at hlt
   have hc3:=(hbel.cell (p:=⟨b3,o3 + t,none⟩) (vcell_lt hc0)).trans hc0
   have lb3:=vcell_lt hc3
   have htc : (t : Int) < (pl.length : Int):=by omega
   have hz:=HPL.out t hlt
   have htk : (pl.take (t + 1)).map (vg l) = (pl.take t).map (vg l) ++ [vg l (ag pl t)]:=by
    rw [List.take_succ_eq_append_getElem hlt,List.map_append,ag_get hlt];rfl
   obtain ⟨z,hzz⟩ : ∃ z,z = ag pl t:=⟨_,rfl⟩
   rw [← hzz] at hc3 hz htk
   obtain ⟨b,o,A,C,A2,C2,rfl,hat,hy⟩:=HL.out.at hz
   obtain ⟨a0,a1,a2,a3,a4,a5,a6,a7,a8,a9⟩:=(hat.below hbel).val
   have lb:=vcell_lt a0
   have hzc : (z : Int) < (l.length : Int):=by omega
   obtain ⟨d,hd⟩ : ∃ d,d = vg l z:=⟨_,rfl⟩
   rw [← hd] at a0 a1 a2 a3 a4 a5 a6 a7 a8 a9 hy htk
   have HY:=Lib.hid hy
   have HTK:=Lib.hid htk
   have HLT : Hid (((pl.take t).map (vg l)).length = t):=Lib.hid (by rw [List.length_map,List.length_take];omega)
   clear hc0 hat hy hd hzz htk
   go_wp2_with (at_builtin;refine wpList_pushY rfl _ _ rfl (w.heap.size + 1) lo w.heap.size h0 (by omega) (by omega) (by go_size) u9 _ rfl (HW.out.below (by omega) (by omega) (by (repeat' first|(with_reducible first|exact blR _ _|assumption|refine blD ?_|refine blN ?_ _)|((with_reducible first|refine blA ?_ ?_ _|refine blS ?_ ?_ _|refine blT (by assumption) ?_ ?_);focus (go_size;done))))) wr.heap.size d A C A2 C2 rfl (At.new wr (vcs d A C A2 C2) _ rfl) (HY.out.move (fun b hb=>(by (repeat' first|(with_reducible first|exact blR _ _|assumption|refine blD ?_|refine blN ?_ _)|((with_reducible first|refine blA ?_ ?_ _|refine blS ?_ ?_ _|refine blT (by assumption) ?_ ?_);focus (go_size;done))) : Below w.heap.size w _).block b (by omega))) (by rw [HLT.out];omega) ?_;intro g cap w3 ho3 hb3 hlt3;have HO3:=Lib.hid ho3;have HB3:=Lib.hid hb3;clear ho3;have hs3:=hb3.size;(simp only [World.size_alloc] at hs3);have hbw3 : Below w.heap.size w w3:=Below.trans (by (repeat' first|(with_reducible first|exact blR _ _|assumption|refine blD ?_|refine blN ?_ _)|((with_reducible first|refine blA ?_ ?_ _|refine blS ?_ ?_ _|refine blT (by assumption) ?_ ?_);focus (go_size;done)))) (hb3.mono (Nat.le_succ _)))
   go_roundg (gk - 1)
   case measure=>have:=HK.out;omega
   case rel =>
    refine ⟨t + 1,by have:=HK.out;omega,by go_num,Lib.hid ?_,Lib.hid ?_,by omega,hbw3⟩
    ·have e:=HO3.out
     rw [HLT.out] at e
     rw [HTK.out];exact e
    ·exact (K4.out.alloc _).below HB3.out (by omega)
  ·obtain rfl : t = pl.length:=by omega
   clear hlt
   obtain ⟨A3,C3,e3,_,_⟩:=HW.out.is
   rw [List.take_length] at HW e3
   rw [List.length_map] at e3
   subst e3
   obtain ⟨⟨z0,z1,z2,z3,z4,z5,z6,z7,z8,z9⟩,zf⟩:=K4.out.zcd
   go_wp2_with fail
   refine bodyPost_ret (by simp [results,Tryz.results46,go_sem, *];try rfl) rfl ?_
   refine ⟨A3,C3,none,0,by rw [list_vargsR,List.length_map],fun W' hW'=>vls_listR ?_,by (repeat' first|(with_reducible first|exact blR _ _|assumption|refine blD ?_|refine blN ?_ _)|((with_reducible first|refine blA ?_ ?_ _|refine blS ?_ ?_ _|refine blT (by assumption) ?_ ?_);focus (go_size;done)))⟩
   rw [List.length_map]
   refine HW.out.vlsR (by rw [List.length_map];omega) fun b hb=>(hW' b ?_).trans ?_
   ·simp only [World.size_setCell];omega
   ·repeat rw [Below.heap_setCell _ _ _ _ (by show b ≠ w.heap.size;omega)]
end Go.Proofs.YtkjecoanlppeaaaGreatDoor



namespace Go.Proofs.YtkjecoanlppeaaaGreatDoor
open Go.RowKit

set_option maxRecDepth 100000 in
set_option maxHeartbeats 2000000 in
theorem rdec_any (l : List VD) (L P : Value) (w : World) {h0 lo : Nat} (hl : RobL h0 lo w L l) (h0w : h0 ≤ w.heap.size) (hP : ∃ A n C,P = .slice A n C) (hpos : 0 < l.length) :
  Calls Tryz.prog 46 #[.int .i64 2,L,P] w (RetX h0 lo (if allSame l = true then (vg l 0,0) else (VD.zero,15)) w):=by
 obtain ⟨LA,LC,rfl,q1⟩:=hl.is
 obtain ⟨PA,pn,PC,rfl⟩:=hP
 have HL:=Lib.hid hl
 obtain ⟨b,o,A3,C3,A3',C3',rfl,hat0,hy0⟩:=hl.at hpos
 rw [Nat.zero_mul,Nat.add_zero] at hat0
 have HA0:=Lib.hid hat0
 have HALL:=Lib.hid (allSame_iff (l:=l))
 have hl6 : (l.length : Int) ≤ 1048576:=by omega
 have hlp : (0 : Int) < (l.length : Int):=by omega
 obtain ⟨Z,hZ⟩ : ∃ Z : VD × Int,Z = if allSame l = true then (vg l 0,0) else (VD.zero,15):=⟨_,rfl⟩
 rw [← hZ]
 have HZ:=Lib.hid hZ
 obtain ⟨y,hy⟩ : ∃ y,y = vg l 0:=⟨_,rfl⟩
 have HY:=Lib.hid hy
 rw [← hy] at hy0 HA0
 have HV0:=Lib.hid hy0
 obtain ⟨m3,hm3⟩ : ∃ n,n = y.list.length:=⟨_,rfl⟩
 obtain ⟨m4,hm4⟩ : ∃ n,n = y.names.length:=⟨_,rfl⟩
 have HM3:=Lib.hid hm3
 have HM4:=Lib.hid hm4
 obtain ⟨v,hv⟩ : ∃ u,u = y.s:=⟨_,rfl⟩
 have HVV:=Lib.hid hv
 clear hl hat0 hy0 q1 hZ hy hm3 hm4 hv
 go_enter Tryz.func46,Tryz.ntmps46
 go_wp2_with fail
 have k4 : Bk (w.alloc (.cells #[.int .i64 0,.bool false,.bool false,.int .u64 0,.int .u64 0,.int .i64 0,.string ⟨#[]⟩,.int .i64 0,.slice none 0 0,.slice none 0 0] 34)) w.heap.size 34 zc10:=by
  unfold zc10
  exact Bk.new_ rfl
 go_loopg [8] (l.length - 1) (fun k s8 wr=>∃ t : Nat,k + t = l.length ∧ 1 ≤ t ∧ s8 = .int .i64 t ∧ Hid (∀ j,j < t → sameB (vg l j) (vg l 0) = true) ∧ Hid (Bk wr w.heap.size 34 zc10) ∧ w.heap.size + 1 ≤ wr.heap.size ∧ Below w.heap.size w wr)
 case atStart=>exact ⟨1,by omega,by omega,rfl,Lib.hid (fun j hj=>(Nat.lt_one_iff.1 hj).symm ▸ sameB_self _),Lib.hid k4,by go_size,by (repeat' first|(with_reducible first|exact blR _ _|assumption|refine blD ?_|refine blN ?_ _)|((with_reducible first|refine blA ?_ ?_ _|refine blS ?_ ?_ _|refine blT (by assumption) ?_ ?_);focus (go_size;done)))⟩
 case round =>
  obtain ⟨t,hk,ht1,rfl,HS,K4,hsz,hbel⟩:=hrel
  have HK:=Lib.hid hk
  have htl : t ≤ l.length:=by omega
  clear hk k4
  obtain ⟨c0,c1,c2,c3,c4,c5,c6,c7,c8,c9⟩:=(HA0.out.below hbel).val
  have lb0:=vcell_lt c0
  rw [← HVV.out] at c0 c1 c2 c3 c4 c5 c6 c7
  rw [← HM3.out] at c8
  rw [← HM4.out] at c9
  by_cases hlt : t < l.length
  ·obtain ⟨b',o',A1,C1,A1',C1',hA,hat,hx0⟩:=HL.out.at hlt
   injection hA with hA
   injection hA with ea eb _
   subst ea eb
   obtain ⟨a0,a1,a2,a3,a4,a5,a6,a7,a8,a9⟩:=(hat.below hbel).val
   have lb:=vcell_lt a0
   have htc : (t : Int) < (l.length : Int):=by omega
   obtain ⟨x,hx⟩ : ∃ x,x = vg l t:=⟨_,rfl⟩
   rw [← hx] at a0 a1 a2 a3 a4 a5 a6 a7 a8 a9 hx0
   have HX:=Lib.hid hx
   have HC:=Lib.hid (fun (W : World) (hW : Below w.heap.size w W)=>rsame_rv x y _ _ _ _ W (RV.below hx0.va hW) (RV.below HV0.out.va hW))
   obtain ⟨sm,hsm⟩ : ∃ s,s = sameB x y:=⟨_,rfl⟩
   simp only [← hsm] at HC
   have HSM:=Lib.hid hsm
   obtain ⟨m1,hm1⟩ : ∃ n,n = x.list.length:=⟨_,rfl⟩
   obtain ⟨m2,hm2⟩ : ∃ n,n = x.names.length:=⟨_,rfl⟩
   obtain ⟨u,hu⟩ : ∃ u,u = x.s:=⟨_,rfl⟩
   simp only [← hm1,← hm2,← hu,← HM3.out,← HM4.out,← HVV.out] at HC
   rw [← hm1] at a8
   rw [← hm2] at a9
   rw [← hu] at a0 a1 a2 a3 a4 a5 a6 a7
   unfold vagg at HC
   clear hat hx0 hx hsm hm1 hm2 hu
   cases sm with
   | true =>
    go_wp2_with fail
    go_region_held3 (fun w'=>w'.cell? ⟨b,o + t * 10,none⟩ = some (.int .i64 u.kind) ∧ w'.cell? ⟨b,o + t * 10 + 1,none⟩ = some (.bool u.yes) ∧ w'.cell? ⟨b,o + t * 10 + 2,none⟩ = some (.bool u.neg) ∧ w'.cell? ⟨b,o + t * 10 + 3,none⟩ = some (.int .u64 (wd u.coef 1)) ∧ w'.cell? ⟨b,o + t * 10 + 4,none⟩ = some (.int .u64 (wd u.coef 0)) ∧ w'.cell? ⟨b,o + t * 10 + 5,none⟩ = some (.int .i64 u.sc) ∧ w'.cell? ⟨b,o + t * 10 + 6,none⟩ = some (.string ⟨u.text.toArray⟩) ∧ w'.cell? ⟨b,o + t * 10 + 7,none⟩ = some (.int .i64 u.day) ∧ w'.cell? ⟨b,o + t * 10 + 8,none⟩ = some (.slice A1 m1 C1) ∧ w'.cell? ⟨b,o + t * 10 + 9,none⟩ = some (.slice A1' m2 C1') ∧ w'.cell? ⟨b,o,none⟩ = some (.int .i64 v.kind) ∧ w'.cell? ⟨b,o + 1,none⟩ = some (.bool v.yes) ∧ w'.cell? ⟨b,o + 2,none⟩ = some (.bool v.neg) ∧ w'.cell? ⟨b,o + 3,none⟩ = some (.int .u64 (wd v.coef 1)) ∧ w'.cell? ⟨b,o + 4,none⟩ = some (.int .u64 (wd v.coef 0)) ∧ w'.cell? ⟨b,o + 5,none⟩ = some (.int .i64 v.sc) ∧ w'.cell? ⟨b,o + 6,none⟩ = some (.string ⟨v.text.toArray⟩) ∧ w'.cell? ⟨b,o + 7,none⟩ = some (.int .i64 v.day) ∧ w'.cell? ⟨b,o + 8,none⟩ = some (.slice A3 m3 C3) ∧ w'.cell? ⟨b,o + 9,none⟩ = some (.slice A3' m4 C3')) (first | (first | (go_keep;done) | (simp [go_sem];done) | ((try dsimp only);(repeat' apply And.intro) <;> (first | (with_reducible assumption) | ((rw [World.cell?_alloc_lt _ _ _ (by show _ < _;omega)]);go_split_ands;(first | with_reducible assumption | (refine (World.cell?_alloc_lt _ _ _ (by show _ < _;omega)).symm.trans ?_;with_reducible assumption))) | ((rw [World.cell?_setCell_other _ _ _ _ (by intro e;injection e;omega)]);with_reducible assumption) | (go_keep;done) | (simp [go_sem];done) | (simp (disch:=go_size) [*,World.cell?_alloc_some,World.cell?_setCell_far];done))))) (first | ((go_at_call 26;with_reducible refine (HC.out _ (by (repeat' first|(with_reducible first|exact blR _ _|assumption|refine blD ?_|refine blN ?_ _)|((with_reducible first|refine blA ?_ ?_ _|refine blS ?_ ?_ _|refine blT (by assumption) ?_ ?_);focus (go_size;done))))).mono ?_);rintro _ w2 ⟨rfl,hb2⟩;have hb2s:=hb2.size;(try simp only [wsA,wsS,wsD,wsN] at hb2s);obtain ⟨hb2c,hb2f⟩:=bcell hb2;(try have : w.heap.size < w2.heap.size:=by omega);(try have : w.heap.size + 1 < w2.heap.size:=by omega);(try have : w.heap.size + 1 + 1 < w2.heap.size:=by omega);(try have : w.heap.size + 1 + 1 + 1 < w2.heap.size:=by omega)))
    go_wp2_with fail
    go_roundg (gk - 1)
    case measure=>have:=HK.out;omega
    case rel=>exact ⟨t + 1,by have:=HK.out;omega,by omega,by go_num,Lib.hid (fun j hj=>by
     by_cases e : j = t
     ·subst e;rw [← HX.out,← HY.out,← HSM.out]
     ·exact HS.out j (by omega)),Lib.hid (by have k:=K4.out;(repeat (first|(with_reducible assumption)|((with_reducible refine bkW ?_);(first|rfl|(simp only [wsA,wsS,wsD,wsN];done)))|(with_reducible first|refine bkA ?_ _|refine bkD ?_|refine bkN ?_ _)|((with_reducible refine bkF ?_ ?_ _);focus (simp only [];omega))|((with_reducible refine bkB (by assumption) ?_ ?_);focus (go_size;done))))),by omega,by (repeat' first|(with_reducible first|exact blR _ _|assumption|refine blD ?_|refine blN ?_ _)|((with_reducible first|refine blA ?_ ?_ _|refine blS ?_ ?_ _|refine blT (by assumption) ?_ ?_);focus (go_size;done)))⟩
   | false =>
    have hz : Z = (VD.zero,15):=by
     rw [HZ.out,if_neg]
     intro h
     have:=HALL.out.1 h t hlt
     rw [← HX.out,← HY.out,← HSM.out] at this
     exact Bool.noConfusion this
    subst hz
    go_wp2_with fail
    go_region_held3 (fun w'=>w'.cell? ⟨b,o + t * 10,none⟩ = some (.int .i64 u.kind) ∧ w'.cell? ⟨b,o + t * 10 + 1,none⟩ = some (.bool u.yes) ∧ w'.cell? ⟨b,o + t * 10 + 2,none⟩ = some (.bool u.neg) ∧ w'.cell? ⟨b,o + t * 10 + 3,none⟩ = some (.int .u64 (wd u.coef 1)) ∧ w'.cell? ⟨b,o + t * 10 + 4,none⟩ = some (.int .u64 (wd u.coef 0)) ∧ w'.cell? ⟨b,o + t * 10 + 5,none⟩ = some (.int .i64 u.sc) ∧ w'.cell? ⟨b,o + t * 10 + 6,none⟩ = some (.string ⟨u.text.toArray⟩) ∧ w'.cell? ⟨b,o + t * 10 + 7,none⟩ = some (.int .i64 u.day) ∧ w'.cell? ⟨b,o + t * 10 + 8,none⟩ = some (.slice A1 m1 C1) ∧ w'.cell? ⟨b,o + t * 10 + 9,none⟩ = some (.slice A1' m2 C1') ∧ w'.cell? ⟨b,o,none⟩ = some (.int .i64 v.kind) ∧ w'.cell? ⟨b,o + 1,none⟩ = some (.bool v.yes) ∧ w'.cell? ⟨b,o + 2,none⟩ = some (.bool v.neg) ∧ w'.cell? ⟨b,o + 3,none⟩ = some (.int .u64 (wd v.coef 1)) ∧ w'.cell? ⟨b,o + 4,none⟩ = some (.int .u64 (wd v.coef 0)) ∧ w'.cell? ⟨b,o + 5,none⟩ = some (.int .i64 v.sc) ∧ w'.cell? ⟨b,o + 6,none⟩ = some (.string ⟨v.text.toArray⟩) ∧ w'.cell? ⟨b,o + 7,none⟩ = some (.int .i64 v.day) ∧ w'.cell? ⟨b,o + 8,none⟩ = some (.slice A3 m3 C3) ∧ w'.cell? ⟨b,o + 9,none⟩ = some (.slice A3' m4 C3')) (first | (first | (go_keep;done) | (simp [go_sem];done) | ((try dsimp only);(repeat' apply And.intro) <;> (first | (with_reducible assumption) | ((rw [World.cell?_alloc_lt _ _ _ (by show _ < _;omega)]);go_split_ands;(first | with_reducible assumption | (refine (World.cell?_alloc_lt _ _ _ (by show _ < _;omega)).symm.trans ?_;with_reducible assumption))) | ((rw [World.cell?_setCell_other _ _ _ _ (by intro e;injection e;omega)]);with_reducible assumption) | (go_keep;done) | (simp [go_sem];done) | (simp (disch:=go_size) [*,World.cell?_alloc_some,World.cell?_setCell_far];done))))) (first | ((go_at_call 26;with_reducible refine (HC.out _ (by (repeat' first|(with_reducible first|exact blR _ _|assumption|refine blD ?_|refine blN ?_ _)|((with_reducible first|refine blA ?_ ?_ _|refine blS ?_ ?_ _|refine blT (by assumption) ?_ ?_);focus (go_size;done))))).mono ?_);rintro _ w2 ⟨rfl,hb2⟩;have hb2s:=hb2.size;(try simp only [wsA,wsS,wsD,wsN] at hb2s);obtain ⟨hb2c,hb2f⟩:=bcell hb2;(try have : w.heap.size < w2.heap.size:=by omega);(try have : w.heap.size + 1 < w2.heap.size:=by omega);(try have : w.heap.size + 1 + 1 < w2.heap.size:=by omega);(try have : w.heap.size + 1 + 1 + 1 < w2.heap.size:=by omega)))
    have k1 : Bk w2 w.heap.size 34 zc10:=by
     have k:=K4.out
     (repeat (first|(with_reducible assumption)|((with_reducible refine bkW ?_);(first|rfl|(simp only [wsA,wsS,wsD,wsN];done)))|(with_reducible first|refine bkA ?_ _|refine bkD ?_|refine bkN ?_ _)|((with_reducible refine bkF ?_ ?_ _);focus (simp only [];omega))|((with_reducible refine bkB (by assumption) ?_ ?_);focus (go_size;done))))
    have mb : Below w.heap.size w w2:=by (repeat' first|(with_reducible first|exact blR _ _|assumption|refine blD ?_|refine blN ?_ _)|((with_reducible first|refine blA ?_ ?_ _|refine blS ?_ ?_ _|refine blT (by assumption) ?_ ?_);focus (go_size;done)))
    clear hb2c hb2f hb2
    obtain ⟨⟨z0,z1,z2,z3,z4,z5,z6,z7,z8,z9⟩,zf⟩:=k1.zcd
    clear k1 a0 a1 a2 a3 a4 a5 a6 a7 a8 a9 c0 c1 c2 c3 c4 c5 c6 c7 c8 c9
    go_wp2_with fail
    refine bodyPost_ret (by simp [results,Tryz.results46,go_sem, *];try rfl) rfl ?_
    exact ⟨none,0,none,0,by rw [zero_vargs],fun _ _=>va_flat VS.zero_ok,by (repeat' first|(with_reducible first|exact blR _ _|assumption|refine blD ?_|refine blN ?_ _)|((with_reducible first|refine blA ?_ ?_ _|refine blS ?_ ?_ _|refine blT (by assumption) ?_ ?_);focus (go_size;done)))⟩
  ·obtain rfl : t = l.length:=by omega
   clear hlt
   have hz : Z = (y,0):=by rw [HZ.out,if_pos (HALL.out.2 HS.out),HY.out]
   obtain ⟨⟨z0,z1,z2,z3,z4,z5,z6,z7,z8,z9⟩,zf⟩:=K4.out.zcd
   subst hz
   go_wp2_with fail
   refine bodyPost_ret (by simp [results,Tryz.results46,go_sem, *];try rfl) rfl ?_
   refine ⟨A3,C3,A3',C3', ?_,VB.up HV0.out h0w (by (repeat' first|(with_reducible first|exact blR _ _|assumption|refine blD ?_|refine blN ?_ _)|((with_reducible first|refine blA ?_ ?_ _|refine blS ?_ ?_ _|refine blT (by assumption) ?_ ?_);focus (go_size;done)))),by (repeat' first|(with_reducible first|exact blR _ _|assumption|refine blD ?_|refine blN ?_ _)|((with_reducible first|refine blA ?_ ?_ _|refine blS ?_ ?_ _|refine blT (by assumption) ?_ ?_);focus (go_size;done)))⟩
   show _ = Ending.returned (.tuple #[vagg y.s (.slice A3 y.list.length C3) (.slice A3' y.names.length C3'),.int .i64 0])
   rw [← HVV.out,← HM3.out,← HM4.out]
end Go.Proofs.YtkjecoanlppeaaaGreatDoor



namespace Go.Proofs.YtkjecoanlppeaaaGreatDoor
open Go.RowKit

theorem retx_flat {f : FuncId} {args : Array Value} {r : VD × Int} {w : World} {h0 lo : Nat} (h : Calls Tryz.prog f args w (RetP r w)) (hl : r.1.list = []) (hn : r.1.names = []) : Calls Tryz.prog f args w (RetX h0 lo r w) :=
 h.mono fun _ _ ⟨A,C,A2,C2,e,hv,hb⟩=>⟨A,C,A2,C2,e,fun _ _=>va_move_flat hv hl hn,hb⟩
theorem rdecide18_any (p : Int) (h1 : 1 ≤ p) (h11 : p ≤ 11) (l : List VD) (pl : List Nat) (L P : Value) (w : World) {h0 lo : Nat} (hlR : RobL h0 lo w L l) (h0w : h0 ≤ w.heap.size) (hlo : lo ≤ w.heap.size) (hP : Ilst w P pl) (hpos : 0 < l.length) (h6 : l.length ≤ 1000000) (hpn : pl.length = l.length) (hpl : ∀ i,i < pl.length → ag pl i < l.length) (hc : 8 ≤ p → p ≤ 10 → ∀ t,t < l.length → chkV (vg l t) = 0) :
  Calls Tryz.prog 46 #[.int .i64 p,L,P] w (RetX h0 lo (decD p l pl) w):=by
 have hl:=hlR.vls
 have hPs : ∃ A n C,P = .slice A n C:=by
  obtain ⟨A,C,e,_⟩:=hP.is
  exact ⟨A,_,C,e⟩
 unfold decD
 by_cases p1 : p = 1
 ·rw [if_pos p1]
  subst p1
  by_cases h : 1 < l.length
  ·rw [if_pos h];exact retx_flat (rdec_two l L P w hl hPs h) rfl rfl
  ·rw [if_neg h];exact rdec_at 1 0 (.inl ⟨rfl,rfl,trivial⟩) l L P w hlR h0w hPs hpos (fun _=>by omega)
 ·rw [if_neg p1]
  by_cases p2 : p = 2
  ·rw [if_pos p2]
   subst p2
   exact rdec_any l L P w hlR h0w hPs hpos
  ·rw [if_neg p2]
   by_cases p3 : p = 3
   ·rw [if_pos p3]
    subst p3
    exact rdec_pri l pl L P w hlR h0w hP (by omega) (hpl 0 (by omega))
   ·rw [if_neg p3]
    by_cases p4 : p = 4
    ·rw [if_pos p4]
     subst p4
     exact rdec_at 4 0 (.inr ⟨rfl,rfl⟩) l L P w hlR h0w hPs hpos (fun h=>absurd h (by decide))
    ·rw [if_neg p4]
     by_cases p6 : p = 6
     ·rw [if_pos p6]
      subst p6
      exact rdec_out l pl L P w hlR h0w hlo hP hpl (by omega)
     ·rw [if_neg p6]
      by_cases p11 : p = 11
      ·rw [if_pos p11]
       subst p11
       exact retx_flat (rdec_num l L P w hl hPs) rfl rfl
      ·rw [if_neg p11]
       by_cases p8 : 8 ≤ p
       ·rw [if_pos p8]
        exact retx_flat (rdec_reck p (by omega) l L P w hl hPs hpos h6 (hc p8 (by omega))) (numD_flat p l).1 (numD_flat p l).2
       ·rw [if_neg p8]
        exact rdec_list p (by omega) l L P w hlR h0w hPs
end Go.Proofs.YtkjecoanlppeaaaGreatDoor



namespace Go.Proofs.YtkjecoanlppeaaaGreatDoor
open Go.RowKit

set_option maxRecDepth 100000 in
set_option maxHeartbeats 4000000 in
theorem rDecide_pos (p : Int) (h1 : 1 ≤ p) (h11 : p ≤ 11) (names : List (List UInt8)) (order rows : List (List VD)) (other : List VD) (N O R V : Value) (w0 w : World) (hb : Below w0.heap.size w0 w) (hn : Nms w0 N names) (ho : Lls w0 O order) (hr : Lls w0 R rows) (hv : Vls (RV w0) w0 V other) (hf : InForm names order (rowsD rows other)) (h8 : 8 ≤ p → names.length = 1) (hpos : 0 < (rowsD rows other).length) :
  Calls Tryz.prog 24 #[.int .i64 p,N,O,R,V] w (RetX w0.heap.size w.heap.size (endD (decD p ((rowsD rows other).map (wholeD names)) (plD order (rowsD rows other)))) w):=by
 obtain ⟨NA,NC,rfl,q1⟩:=hn.is
 obtain ⟨OA,OC,rfl,q3,_,_⟩:=ho.is
 obtain ⟨RA,RC,rfl,q2,_,_⟩:=hr.is
 obtain ⟨VA0,VC0,rfl,q4⟩:=hv.is
 have h0s:=hb.size
 have HB:=Lib.hid hb
 have HN:=Lib.hid hn
 have HO:=Lib.hid ho
 have HF:=Lib.hid hf
 have hr60:=hf.r60
 have hcase : ∃ b : Bool,(b = true ∧ rows.length = 0 ∧ 0 < other.length ∧ rowsD rows other = [other]) ∨ (b = false ∧ rows.length ≠ 0 ∧ rowsD rows other = rows):=by
  unfold rowsD at hpos ⊢
  by_cases h : rows.length = 0 ∧ 0 < other.length
  ·rw [if_pos h];exact ⟨true,.inl ⟨rfl,h.1,h.2,rfl⟩⟩
  ·rw [if_neg h] at hpos ⊢
   exact ⟨false,.inr ⟨rfl,by omega,rfl⟩⟩
 obtain ⟨bq,hcase⟩:=hcase
 have HX1:=Lib.hid (fun (W w1 : World) (t : TypeId) (g : Nat) (hg : g = w1.heap.size)=>llsX_one (w:=w0) (w1:=w1) t hv hg)
 have HX2:=Lib.hid (fun (W : World) (hW : Below w.heap.size w W)=>hr.llsX (hb.trans (hW.mono h0s)))
 obtain ⟨rs,hrs⟩ : ∃ rs,rs = rowsD rows other:=⟨_,rfl⟩
 rw [← hrs] at hf hr60 hcase hpos HF ⊢
 obtain ⟨Z,hZ⟩ : ∃ Z,Z = decD p (rs.map (wholeD names)) (plD order rs):=⟨_,rfl⟩
 rw [← hZ]
 have HZ:=Lib.hid hZ
 have HC8:=Lib.hid h8
 have HCS:=Lib.hid hcase
 have hrc : (rs.length : Int) ≤ 60:=by omega
 have hr0 : ((rs.length : Int) == 0) = false:=by rw [beq_eq_false_iff_ne];omega
 have hrwc : (rows.length : Int) ≤ 1048576:=by omega
 have hvc : (other.length : Int) ≤ 1048576:=by omega
 clear hb hn ho hr hf q1 q2 q3 q4 hv hrs hZ h8 hcase
 go_enter Tryz.func24,Tryz.ntmps24
 go_upto_region 1 with (fail)
 go_cut [23] from 16 (fun s23 wx=>s23 = .bool bq ∧ Below w.heap.size w wx ∧ w.heap.size < wx.heap.size ∧ Hid (Bk wx w.heap.size 34 zc10))
 case first =>
  rcases HCS.out with ⟨rfl,g1,g2,g3⟩ | ⟨rfl,g1,g3⟩
  ·have hrow2 : (0 : Int) < (other.length : Int):=by omega
   have hrt : ((rows.length : Int) == 0) = true:=by rw [beq_iff_eq];omega
   clear g1 g3
   go_wp2_with fail
   go_meet
   exact ⟨rfl,by (repeat' first|(with_reducible first|exact blR _ _|assumption|refine blD ?_|refine blN ?_ _)|((with_reducible first|refine blA ?_ ?_ _|refine blS ?_ ?_ _|refine blT (by assumption) ?_ ?_);focus (go_size;done))),by go_size,Lib.hid (by unfold zc10;(repeat (first|(with_reducible assumption)|((with_reducible refine bkW ?_);(first|rfl|(simp only [wsA,wsS,wsD,wsN];done)))|(with_reducible first|refine bkA ?_ _|refine bkD ?_|refine bkN ?_ _)|((with_reducible refine bkF ?_ ?_ _);focus (simp only [];omega))|((with_reducible refine bkB (by assumption) ?_ ?_);focus (go_size;done)))))⟩
  ·have hrf : ((rows.length : Int) == 0) = false:=by rw [beq_eq_false_iff_ne];omega
   clear g1 g3
   go_wp2_with fail
   go_meet
   exact ⟨rfl,by (repeat' first|(with_reducible first|exact blR _ _|assumption|refine blD ?_|refine blN ?_ _)|((with_reducible first|refine blA ?_ ?_ _|refine blS ?_ ?_ _|refine blT (by assumption) ?_ ?_);focus (go_size;done))),by go_size,Lib.hid (by unfold zc10;(repeat (first|(with_reducible assumption)|((with_reducible refine bkW ?_);(first|rfl|(simp only [wsA,wsS,wsD,wsN];done)))|(with_reducible first|refine bkA ?_ _|refine bkD ?_|refine bkN ?_ _)|((with_reducible refine bkF ?_ ?_ _);focus (simp only [];omega))|((with_reducible refine bkB (by assumption) ?_ ?_);focus (go_size;done)))))⟩
 case rest =>
 obtain ⟨rfl,hb0,hs0,K0⟩:=hcut
 generalize wc = wz at *
 go_upto_if 23 with (fail)
 go_cut [3] from 24 (fun s3 wx=>∃ A C,s3 = .slice A rs.length C ∧ Hid (LlsX w0 wx (.slice A rs.length C) rs) ∧ Below w.heap.size w wx ∧ w.heap.size < wx.heap.size ∧ Hid (Bk wx w.heap.size 34 zc10))
 case first =>
  rcases HCS.out with ⟨rfl,g1,g2,g3⟩ | ⟨rfl,g1,g3⟩
  ·subst g3
   clear g1 g2
   have k0:=K0.out
   go_wp2_with fail
   go_meet
   exact ⟨_,_,rfl,Lib.hid (HX1.out w _ _ _ rfl),by (repeat' first|(with_reducible first|exact blR _ _|assumption|refine blD ?_|refine blN ?_ _)|((with_reducible first|refine blA ?_ ?_ _|refine blS ?_ ?_ _|refine blT (by assumption) ?_ ?_);focus (go_size;done))),by (simp only [World.size_alloc];omega),Lib.hid (by (repeat (first|(with_reducible assumption)|((with_reducible refine bkW ?_);(first|rfl|(simp only [wsA,wsS,wsD,wsN];done)))|(with_reducible first|refine bkA ?_ _|refine bkD ?_|refine bkN ?_ _)|((with_reducible refine bkF ?_ ?_ _);focus (simp only [];omega))|((with_reducible refine bkB (by assumption) ?_ ?_);focus (go_size;done)))))⟩
  ·subst g3
   clear g1
   go_wp2_with fail
   go_meet
   exact ⟨_,_,rfl,Lib.hid (HX2.out _ (by (repeat' first|(with_reducible first|exact blR _ _|assumption|refine blD ?_|refine blN ?_ _)|((with_reducible first|refine blA ?_ ?_ _|refine blS ?_ ?_ _|refine blT (by assumption) ?_ ?_);focus (go_size;done))))),by (repeat' first|(with_reducible first|exact blR _ _|assumption|refine blD ?_|refine blN ?_ _)|((with_reducible first|refine blA ?_ ?_ _|refine blS ?_ ?_ _|refine blT (by assumption) ?_ ?_);focus (go_size;done))),by omega,K0⟩
 case rest =>
  obtain ⟨A,C,rfl,HXL,hb1,hs1,K1⟩:=hcut
  generalize wc = w1 at *
  clear HX1 HX2 HCS hrwc hvc K0 hs0 hb0
  go_wp2_with fail
  go_loopg [12,13] rs.length (fun k s12 s13 wr=>∃ t : Nat,k + t = rs.length ∧ s13 = .int .i64 t ∧ Hid (OwnVs w1.heap.size w0.heap.size wr s12 ((rs.take t).map (wholeD names))) ∧ Hid (Bk wr w.heap.size 34 zc10) ∧ Below w1.heap.size w1 wr)
  case atStart=>exact ⟨0,by omega,rfl,Lib.hid (OwnVs.nil _ _ _),K1,Below.refl _ _⟩
  case round =>
   obtain ⟨t,hk,rfl,HW,K4,hbel1⟩:=hrel
   have HK:=Lib.hid hk
   have htl : t ≤ rs.length:=by omega
   have hsz1:=hbel1.size
   have hbel : Below w.heap.size w wr:=hb1.trans (hbel1.mono (by omega))
   have hsz : w.heap.size < wr.heap.size:=by omega
   clear hk
   by_cases hlt : t < rs.length
   ·obtain ⟨b,o,B1,D1,rfl,hc0,hv⟩:=HXL.out.at hlt
    have hcell:=(hbel1.cell (p:=⟨b,o + t,none⟩) (vcell_lt hc0)).trans hc0
    have lb:=vcell_lt hcell
    have htc : (t : Int) < (rs.length : Int):=by omega
    have HC:=Lib.hid (fun (W : World) (hW : Below w.heap.size w W)=>rvalue18_any names (lg rs t) (.slice NA names.length NC) (.slice B1 (lg rs t).length D1) w0 W (HB.out.trans (hW.mono h0s)) HN.out hv HF.out.n1 HF.out.n8 (HF.out.rl t hlt))
    unfold RetB at HC
    have htk : (rs.take (t + 1)).map (wholeD names) = (rs.take t).map (wholeD names) ++ [wholeD names (lg rs t)]:=by
     rw [List.take_succ_eq_append_getElem hlt,List.map_append]
     unfold lg
     rw [List.getD_eq_getElem?_getD,List.getElem?_eq_getElem hlt];rfl
    obtain ⟨d,hd⟩ : ∃ d,d = wholeD names (lg rs t):=⟨_,rfl⟩
    rw [← hd] at htk
    simp only [← hd] at HC
    obtain ⟨n1,hn1⟩ : ∃ n,n = (lg rs t).length:=⟨_,rfl⟩
    rw [← hn1] at hcell
    simp only [← hn1] at HC
    have HTK:=Lib.hid htk
    have HLT : Hid (((rs.take t).map (wholeD names)).length = t):=Lib.hid (by rw [List.length_map,List.length_take];omega)
    clear hc0 hv hd hn1 htk
    go_wp2_with (first | (go_at_call 45;(with_reducible refine (HC.out _ (by (repeat' first|(with_reducible first|exact blR _ _|assumption|refine blD ?_|refine blN ?_ _)|((with_reducible first|refine blA ?_ ?_ _|refine blS ?_ ?_ _|refine blT (by assumption) ?_ ?_);focus (go_size;done))))).mono ?_);rintro _ w2 ⟨VA,VC,VA2,VC2,rfl,hvb,hb2⟩;have HVB:=Lib.hid hvb;clear hvb;have hb2s:=hb2.size;(try have : w.heap.size < w2.heap.size:=by omega);(try have : w.heap.size + 1 < w2.heap.size:=by omega);(try have : w.heap.size + 1 + 1 < w2.heap.size:=by omega);(try have : w.heap.size + 1 + 1 + 1 < w2.heap.size:=by omega)) | (at_builtin;refine wpList_pushX rfl _ _ rfl w1.heap.size w0.heap.size (by omega) (by go_size) u12 _ rfl (HW.out.below (by omega) (by (repeat' first|(with_reducible first|exact blR _ _|assumption|refine blD ?_|refine blN ?_ _)|((with_reducible first|refine blA ?_ ?_ _|refine blS ?_ ?_ _|refine blT (by assumption) ?_ ?_);focus (go_size;done))))) w2.heap.size d VA VC VA2 VC2 rfl (At.new w2 (vcs d VA VC VA2 VC2) _ rfl) (VN.far (HVB.out.move (fun b hb=>Below.heap_alloc w2 _ b (by omega))) (by simp only [World.size_alloc];omega) (by omega) (fun g hg=>by have:=HW.out.lt g hg;omega)) (by rw [HLT.out];omega) ?_;intro g cap w3 ho3 hb3 hlt3;have HO3:=Lib.hid ho3;have HB3:=Lib.hid hb3;clear ho3;have hs3:=hb3.size;(simp only [World.size_alloc] at hs3);have hbw3 : Below w1.heap.size w1 w3:=Below.trans (by (repeat' first|(with_reducible first|exact blR _ _|assumption|refine blD ?_|refine blN ?_ _)|((with_reducible first|refine blA ?_ ?_ _|refine blS ?_ ?_ _|refine blT (by assumption) ?_ ?_);focus (go_size;done)))) hb3))
    go_roundg (gk - 1)
    case measure=>have:=HK.out;omega
    case rel =>
     refine ⟨t + 1,by have:=HK.out;omega,by go_num,Lib.hid ?_,Lib.hid ?_,hbw3⟩
     ·have e:=HO3.out
      rw [HLT.out] at e
      rw [HTK.out];exact e
     ·exact ((K4.out.below hb2 (by omega)).alloc _).below HB3.out (by omega)
   ·obtain rfl : t = rs.length:=by omega
    clear hlt K1
    obtain ⟨l,hL⟩ : ∃ l,l = rs.map (wholeD names):=⟨_,rfl⟩
    rw [List.take_length,← hL] at HW
    rw [← hL] at HZ
    obtain ⟨pl,hpl⟩ : ∃ pl,pl = plD order rs:=⟨_,rfl⟩
    rw [← hpl] at HZ
    have hLn : l.length = rs.length:=by rw [hL,List.length_map]
    have hpn : pl.length = rs.length:=by rw [hpl];exact srt_len _ _
    have hpt : ∀ i,i < pl.length → ag pl i < l.length:=fun i hi=>by
     rw [hpl] at hi ⊢
     rw [hLn]
     exact srt_lt_n hi
    have hat : ∀ t,t < l.length → vg l t = wholeD names (lg rs t):=fun t ht=>by
     rw [hL];exact vg_map _ _ (by omega)
    have h8001 : ∀ t,t < l.length → (vg l t).size ≤ 8001:=fun t ht=>by
     rw [hat t ht]
     exact wholeD_size (HF.out.rc t (by omega)) (by rw [HF.out.rl t (by omega)];exact HF.out.n8)
    have hsize:=decD_size (p:=p) (pl:=pl) h8001 (by omega) (by omega) (by omega) hpt (by omega)
    rw [← HZ.out] at hsize
    have hchk : 8 ≤ p → p ≤ 10 → ∀ t,t < l.length → chkV (vg l t) = 0:=fun h8 _ t ht=>by
     rw [hat t ht]
     unfold wholeD
     rw [if_pos (HC8.out h8)]
     exact allC_iff.1 (HF.out.rc t (by omega)) 0 (by rw [HF.out.rl t (by omega)];exact HF.out.n1)
    have hrob:=HW.out.rob (by omega)
    obtain ⟨LA,LC,e12,_⟩:=hrob.is
    subst e12
    have hst:=fun (W : World) (hW : Below w.heap.size w W) (hR : Lls W (.slice A rs.length C) rs)=>rsort_any order rs (.slice OA order.length OC) (.slice A rs.length C) W (HO.out.below (HB.out.trans (hW.mono h0s))) hR (fun t ht=>by rw [HF.out.rl t ht,HF.out.ol];exact Nat.le_refl _) (by have:=HF.out.n8;rw [HF.out.ol];omega) hr60
    unfold plD at hpl
    simp only [← hpl] at hst
    have HST:=Lib.hid (fun (W : World) (hW : Below w1.heap.size w1 W)=>hst W (hb1.trans (hW.mono (by omega))) ((HXL.out.lls (HB.out.trans (hb1.mono h0s))).below hW))
    have hdc:=fun (P : Value) (W : World) (hW : Below wr.heap.size wr W) (hP : Ilst W P pl)=>rdecide18_any p h1 h11 l pl (.slice LA l.length LC) P W (hrob.up (by omega) hW) (by have:=hW.size;omega) (by have:=hW.size;omega) hP (by omega) (by omega) (by omega) hpt hchk
    simp only [← HZ.out] at hdc
    have HDC:=Lib.hid hdc
    unfold RetX at HDC
    have HSZ:=Lib.hid hsize
    have HLL : Hid (pl.length ≤ 1048576):=Lib.hid (by omega)
    obtain ⟨d,er⟩:=Z
    dsimp only at HDC HSZ
    clear hL hpl hLn hpn hpt hat h8001 hsize hchk hrob hst hdc HZ HW HXL HC8 HF HN HO
    by_cases he : er = 0
    ·subst he
     obtain ⟨c,hc⟩ : ∃ c,c = chkV d:=⟨_,rfl⟩
     have HCK:=Lib.hid (fun (A : Option Addr) (C : Nat) (A2 : Option Addr) (C2 : Nat) (W : World) (hv : VA W d A C A2 C2)=>rcheck_any d A C A2 C2 W hv HSZ.out)
     rw [← hc] at HCK
     by_cases hc0 : c = 0
     ·have hE : endD (d,0) = (d,0):=by unfold endD;rw [if_neg (by simp),if_neg (by rw [← hc];simp [hc0])]
      have HE:=Lib.hid hE
      clear hE hc
      subst hc0
      go_wp2_with (first | (go_at_call 30;(with_reducible refine (HST.out _ (by (repeat' first|(with_reducible first|exact blR _ _|assumption|refine blD ?_|refine blN ?_ _)|((with_reducible first|refine blA ?_ ?_ _|refine blS ?_ ?_ _|refine blT (by assumption) ?_ ?_);focus (go_size;done))))).mono ?_);rintro _ w3 ⟨PV,rfl,hown,hb3⟩;have HIL:=Lib.hid (hown.read HLL.out);clear hown;have hb3s:=hb3.size;(try have : w.heap.size < w3.heap.size:=by omega);(try have : w.heap.size + 1 < w3.heap.size:=by omega);(try have : w.heap.size + 1 + 1 < w3.heap.size:=by omega);(try have : w.heap.size + 1 + 1 + 1 < w3.heap.size:=by omega)) | (go_at_call 46;(with_reducible refine (HDC.out _ _ (by (repeat' first|(with_reducible first|exact blR _ _|assumption|refine blD ?_|refine blN ?_ _)|((with_reducible first|refine blA ?_ ?_ _|refine blS ?_ ?_ _|refine blT (by assumption) ?_ ?_);focus (go_size;done)))) HIL.out).mono ?_);rintro _ w4 ⟨VA,VC,VA2,VC2,rfl,hvb,hb4⟩;have HVB:=Lib.hid hvb;clear hvb;have hb4s:=hb4.size;(try have : w.heap.size < w4.heap.size:=by omega);(try have : w.heap.size + 1 < w4.heap.size:=by omega);(try have : w.heap.size + 1 + 1 < w4.heap.size:=by omega);(try have : w.heap.size + 1 + 1 + 1 < w4.heap.size:=by omega);obtain ⟨hb4c,hb4f⟩:=bcell hb4;(skip)) | (go_at_call 47;(with_reducible refine (HCK.out VA VC VA2 VC2 _ (va_bel2 HVB.out.va (by (repeat' first|(with_reducible first|exact blR _ _|assumption|refine blD ?_|refine blN ?_ _)|((with_reducible first|refine blA ?_ ?_ _|refine blS ?_ ?_ _|refine blT (by assumption) ?_ ?_);focus (go_size;done)))))).mono ?_);rintro _ w5 ⟨rfl,hb5⟩;have hb5s:=hb5.size;(try simp only [World.size_alloc] at hb5s);(try have : w.heap.size < w5.heap.size:=by omega);(try have : w.heap.size + 1 < w5.heap.size:=by omega);(try have : w.heap.size + 1 + 1 < w5.heap.size:=by omega);(try have : w.heap.size + 1 + 1 + 1 < w5.heap.size:=by omega);(try have : w4.heap.size < w5.heap.size:=by omega);(try have : w4.heap.size + 1 < w5.heap.size:=by omega);(try have : w4.heap.size + 1 + 1 < w5.heap.size:=by omega);(try have : w4.heap.size + 1 + 1 + 1 < w5.heap.size:=by omega);have k14 : Bk w5 w4.heap.size 34 (vcs d VA VC VA2 VC2):=(Bk.vnew hb5 (by go_size));obtain ⟨y0,y1,y2,y3,y4,y5,y6,y7,y8,y9⟩:=k14.vcd;have k0:=K4.out;have k1 : Bk w5 w.heap.size 34 zc10:=(by (repeat (first|(with_reducible assumption)|((with_reducible refine bkW ?_);(first|rfl|(simp only [wsA,wsS,wsD,wsN];done)))|(with_reducible first|refine bkA ?_ _|refine bkD ?_|refine bkN ?_ _)|((with_reducible refine bkF ?_ ?_ _);focus (simp only [];omega))|((with_reducible refine bkB (by assumption) ?_ ?_);focus (go_size;done)))));have mb : Below w.heap.size w w5:=(by (repeat' first|(with_reducible first|exact blR _ _|assumption|refine blD ?_|refine blN ?_ _)|((with_reducible first|refine blA ?_ ?_ _|refine blS ?_ ?_ _|refine blT (by assumption) ?_ ?_);focus (go_size;done))));obtain ⟨⟨z0,z1,z2,z3,z4,z5,z6,z7,z8,z9⟩,zf⟩:=k1.zcd;clear k1 k0 k14 hb4c hb4f;(skip)))
      refine bodyPost_ret (by simp [results,Tryz.results24,go_sem, *];try rfl) rfl ?_
      rw [HE.out]
      refine ⟨VA,VC,VA2,VC2,rfl,fun W' hW'=>HVB.out _ (fun b hb=>(hW' b (by simp only [World.size_setCell];omega)).trans ?_),by (repeat' first|(with_reducible first|exact blR _ _|assumption|refine blD ?_|refine blN ?_ _)|((with_reducible first|refine blA ?_ ?_ _|refine blS ?_ ?_ _|refine blT (by assumption) ?_ ?_);focus (go_size;done)))⟩
      repeat rw [Below.heap_setCell _ _ _ _ (by show b ≠ w.heap.size;omega)]
      exact (hb5.block b (by simp only [World.size_alloc];omega)).trans (Below.heap_alloc _ _ _ (by omega))
     ·have hE : endD (d,0) = (VD.zero,c):=by unfold endD;rw [if_neg (by simp),if_pos (by rw [← hc];exact hc0),hc]
      have hc1 : (c == 0) = false:=by rw [beq_eq_false_iff_ne];exact hc0
      have hc2 : (c != 0) = true:=by rw [bne_iff_ne];exact hc0
      have HE:=Lib.hid hE
      clear hE hc hc0
      go_wp2_with (first | (go_at_call 30;(with_reducible refine (HST.out _ (by (repeat' first|(with_reducible first|exact blR _ _|assumption|refine blD ?_|refine blN ?_ _)|((with_reducible first|refine blA ?_ ?_ _|refine blS ?_ ?_ _|refine blT (by assumption) ?_ ?_);focus (go_size;done))))).mono ?_);rintro _ w3 ⟨PV,rfl,hown,hb3⟩;have HIL:=Lib.hid (hown.read HLL.out);clear hown;have hb3s:=hb3.size;(try have : w.heap.size < w3.heap.size:=by omega);(try have : w.heap.size + 1 < w3.heap.size:=by omega);(try have : w.heap.size + 1 + 1 < w3.heap.size:=by omega);(try have : w.heap.size + 1 + 1 + 1 < w3.heap.size:=by omega)) | (go_at_call 46;(with_reducible refine (HDC.out _ _ (by (repeat' first|(with_reducible first|exact blR _ _|assumption|refine blD ?_|refine blN ?_ _)|((with_reducible first|refine blA ?_ ?_ _|refine blS ?_ ?_ _|refine blT (by assumption) ?_ ?_);focus (go_size;done)))) HIL.out).mono ?_);rintro _ w4 ⟨VA,VC,VA2,VC2,rfl,hvb,hb4⟩;have HVB:=Lib.hid hvb;clear hvb;have hb4s:=hb4.size;(try have : w.heap.size < w4.heap.size:=by omega);(try have : w.heap.size + 1 < w4.heap.size:=by omega);(try have : w.heap.size + 1 + 1 < w4.heap.size:=by omega);(try have : w.heap.size + 1 + 1 + 1 < w4.heap.size:=by omega);obtain ⟨hb4c,hb4f⟩:=bcell hb4;(skip)) | (go_at_call 47;(with_reducible refine (HCK.out VA VC VA2 VC2 _ (va_bel2 HVB.out.va (by (repeat' first|(with_reducible first|exact blR _ _|assumption|refine blD ?_|refine blN ?_ _)|((with_reducible first|refine blA ?_ ?_ _|refine blS ?_ ?_ _|refine blT (by assumption) ?_ ?_);focus (go_size;done)))))).mono ?_);rintro _ w5 ⟨rfl,hb5⟩;have hb5s:=hb5.size;(try simp only [World.size_alloc] at hb5s);(try have : w.heap.size < w5.heap.size:=by omega);(try have : w.heap.size + 1 < w5.heap.size:=by omega);(try have : w.heap.size + 1 + 1 < w5.heap.size:=by omega);(try have : w.heap.size + 1 + 1 + 1 < w5.heap.size:=by omega);(try have : w4.heap.size < w5.heap.size:=by omega);(try have : w4.heap.size + 1 < w5.heap.size:=by omega);(try have : w4.heap.size + 1 + 1 < w5.heap.size:=by omega);(try have : w4.heap.size + 1 + 1 + 1 < w5.heap.size:=by omega);have k14 : Bk w5 w4.heap.size 34 (vcs d VA VC VA2 VC2):=(Bk.vnew hb5 (by go_size));obtain ⟨y0,y1,y2,y3,y4,y5,y6,y7,y8,y9⟩:=k14.vcd;have k0:=K4.out;have k1 : Bk w5 w.heap.size 34 zc10:=(by (repeat (first|(with_reducible assumption)|((with_reducible refine bkW ?_);(first|rfl|(simp only [wsA,wsS,wsD,wsN];done)))|(with_reducible first|refine bkA ?_ _|refine bkD ?_|refine bkN ?_ _)|((with_reducible refine bkF ?_ ?_ _);focus (simp only [];omega))|((with_reducible refine bkB (by assumption) ?_ ?_);focus (go_size;done)))));have mb : Below w.heap.size w w5:=(by (repeat' first|(with_reducible first|exact blR _ _|assumption|refine blD ?_|refine blN ?_ _)|((with_reducible first|refine blA ?_ ?_ _|refine blS ?_ ?_ _|refine blT (by assumption) ?_ ?_);focus (go_size;done))));obtain ⟨⟨z0,z1,z2,z3,z4,z5,z6,z7,z8,z9⟩,zf⟩:=k1.zcd;clear k1 k0 k14 hb4c hb4f;(skip)))
      refine bodyPost_ret (by simp [results,Tryz.results24,go_sem, *];try rfl) rfl ?_
      rw [HE.out]
      exact ⟨none,0,none,0,by rw [zero_vargs],fun _ _=>va_flat VS.zero_ok,by (repeat' first|(with_reducible first|exact blR _ _|assumption|refine blD ?_|refine blN ?_ _)|((with_reducible first|refine blA ?_ ?_ _|refine blS ?_ ?_ _|refine blT (by assumption) ?_ ?_);focus (go_size;done)))⟩
    ·have hE : endD (d,er) = (VD.zero,er):=by unfold endD;rw [if_pos (by exact he)]
     have hc1 : (er == 0) = false:=by rw [beq_eq_false_iff_ne];exact he
     have hc2 : (er != 0) = true:=by rw [bne_iff_ne];exact he
     have HE:=Lib.hid hE
     clear hE he
     go_upto_if 56 with (first | (go_at_call 30;(with_reducible refine (HST.out _ (by (repeat' first|(with_reducible first|exact blR _ _|assumption|refine blD ?_|refine blN ?_ _)|((with_reducible first|refine blA ?_ ?_ _|refine blS ?_ ?_ _|refine blT (by assumption) ?_ ?_);focus (go_size;done))))).mono ?_);rintro _ w3 ⟨PV,rfl,hown,hb3⟩;have HIL:=Lib.hid (hown.read HLL.out);clear hown;have hb3s:=hb3.size;(try have : w.heap.size < w3.heap.size:=by omega);(try have : w.heap.size + 1 < w3.heap.size:=by omega);(try have : w.heap.size + 1 + 1 < w3.heap.size:=by omega);(try have : w.heap.size + 1 + 1 + 1 < w3.heap.size:=by omega)) | (go_at_call 46;(with_reducible refine (HDC.out _ _ (by (repeat' first|(with_reducible first|exact blR _ _|assumption|refine blD ?_|refine blN ?_ _)|((with_reducible first|refine blA ?_ ?_ _|refine blS ?_ ?_ _|refine blT (by assumption) ?_ ?_);focus (go_size;done)))) HIL.out).mono ?_);rintro _ w4 ⟨VA,VC,VA2,VC2,rfl,hvb,hb4⟩;have HVB:=Lib.hid hvb;clear hvb;have hb4s:=hb4.size;(try have : w.heap.size < w4.heap.size:=by omega);(try have : w.heap.size + 1 < w4.heap.size:=by omega);(try have : w.heap.size + 1 + 1 < w4.heap.size:=by omega);(try have : w.heap.size + 1 + 1 + 1 < w4.heap.size:=by omega);obtain ⟨hb4c,hb4f⟩:=bcell hb4;(skip)))
     generalize hW : w4.alloc _ = W
     have k1 : Bk W w.heap.size 34 zc10:=by
      rw [← hW]
      have k0:=K4.out
      (repeat (first|(with_reducible assumption)|((with_reducible refine bkW ?_);(first|rfl|(simp only [wsA,wsS,wsD,wsN];done)))|(with_reducible first|refine bkA ?_ _|refine bkD ?_|refine bkN ?_ _)|((with_reducible refine bkF ?_ ?_ _);focus (simp only [];omega))|((with_reducible refine bkB (by assumption) ?_ ?_);focus (go_size;done))))
     have mb : Below w.heap.size w W:=by
      rw [← hW]
      (repeat' first|(with_reducible first|exact blR _ _|assumption|refine blD ?_|refine blN ?_ _)|((with_reducible first|refine blA ?_ ?_ _|refine blS ?_ ?_ _|refine blT (by assumption) ?_ ?_);focus (go_size;done)))
     clear hb4c hb4f hb3 hb4 hW
     obtain ⟨⟨z0,z1,z2,z3,z4,z5,z6,z7,z8,z9⟩,zf⟩:=k1.zcd
     clear k1
     go_wp2_with fail
     refine bodyPost_ret (by simp [results,Tryz.results24,go_sem, *];try rfl) rfl ?_
     rw [HE.out]
     exact ⟨none,0,none,0,by rw [zero_vargs],fun _ _=>va_flat VS.zero_ok,by (repeat' first|(with_reducible first|exact blR _ _|assumption|refine blD ?_|refine blN ?_ _)|((with_reducible first|refine blA ?_ ?_ _|refine blS ?_ ?_ _|refine blT (by assumption) ?_ ?_);focus (go_size;done)))⟩
end Go.Proofs.YtkjecoanlppeaaaGreatDoor



namespace Go.Proofs.YtkjecoanlppeaaaGreatDoor
open Go.RowKit

theorem chk_none (p : Int) : chkV (noneD p) = 0:=by
 unfold noneD
 split
 ·kernel_rfl
 split
 ·kernel_rfl
 ·kernel_rfl
theorem none_flat (p : Int) : (noneD p).list = [] ∧ (noneD p).names = []:=by
 unfold noneD
 split
 ·exact ⟨rfl,rfl⟩
 split
 ·exact ⟨rfl,rfl⟩
 ·exact ⟨rfl,rfl⟩
theorem none_ok (p : Int) : (noneD p).s.ok:=by
 unfold noneD
 split
 ·exact kindS_ok 5
 split
 ·exact kindS_ok 2
 ·exact VS.zero_ok
theorem va_none (p : Int) (w : World) : VA w (noneD p) none 0 none 0:=by
 have h:=va_flat (w:=w) (none_ok p)
 obtain ⟨e1,e2⟩:=none_flat p
 generalize noneD p = d at *
 obtain ⟨s,l,n⟩:=d
 dsimp only [VD.list,VD.names] at e1 e2
 subst e1 e2
 exact h
set_option maxRecDepth 100000 in
set_option maxHeartbeats 2000000 in
theorem rDecide_none (p : Int) (N O R V : Value) (w : World) (hn : ∃ A n C,N = .slice A n C) (ho : ∃ A n C,O = .slice A n C) (hr : ∃ A C,R = .slice A 0 C) (hv : ∃ A C,V = .slice A 0 C) :
  Calls Tryz.prog 24 #[.int .i64 p,N,O,R,V] w (RetP (noneD p,0) w):=by
 obtain ⟨NA,nn,NC,rfl⟩:=hn
 obtain ⟨OA,on,OC,rfl⟩:=ho
 obtain ⟨RA,RC,rfl⟩:=hr
 obtain ⟨VA0,VC0,rfl⟩:=hv
 have HNN:=Lib.hid (fun (W : World)=>rnone_any p W)
 have HV:=Lib.hid (fun (W : World)=>va_none p W)
 obtain ⟨z,hz⟩ : ∃ z,z = noneD p:=⟨_,rfl⟩
 obtain ⟨e1,e2⟩:=none_flat p
 rw [← hz] at e1 e2 ⊢
 simp only [← hz] at HNN HV
 obtain ⟨s,l,n⟩:=z
 dsimp only [VD.list,VD.names] at e1 e2
 subst e1 e2
 obtain ⟨kind,yes,neg,coef,sc,text,day⟩:=s
 obtain ⟨x1,hx1⟩ : ∃ y,y = wd coef 1:=⟨_,rfl⟩
 obtain ⟨x0,hx0⟩ : ∃ y,y = wd coef 0:=⟨_,rfl⟩
 obtain ⟨tx,htx⟩ : ∃ y : ByteArray,y = ⟨text.toArray⟩:=⟨_,rfl⟩
 have hargs : vargs (.mk ⟨kind,yes,neg,coef,sc,text,day⟩ [] []) none 0 none 0 = .agg #[.int .i64 kind,.bool yes,.bool neg,.int .u64 x1,.int .u64 x0,.int .i64 sc,.string tx,.int .i64 day,.slice none 0 0,.slice none 0 0]:=by rw [hx1,hx0,htx];rfl
 rw [hargs] at HNN
 have HA:=Lib.hid hargs
 clear hz hx1 hx0 htx hargs
 go_enter Tryz.func24,Tryz.ntmps24
 go_wp2_with (go_at_call 44;(with_reducible refine (HNN.out _).mono ?_);rintro _ w2 ⟨rfl,hb2⟩;have hb2s:=hb2.size;(try simp only [World.size_alloc] at hb2s);(try have : w.heap.size < w2.heap.size:=by omega);(try have : w.heap.size + 1 < w2.heap.size:=by omega);(try have : w.heap.size + 1 + 1 < w2.heap.size:=by omega);(try have : w.heap.size + 1 + 1 + 1 < w2.heap.size:=by omega);have k1 : Bk w2 w.heap.size 34 zc10:=(by unfold zc10;(repeat (first|(with_reducible assumption)|((with_reducible refine bkW ?_);(first|rfl|(simp only [wsA,wsS,wsD,wsN];done)))|(with_reducible first|refine bkA ?_ _|refine bkD ?_|refine bkN ?_ _)|((with_reducible refine bkF ?_ ?_ _);focus (simp only [];omega))|((with_reducible refine bkB (by assumption) ?_ ?_);focus (go_size;done)))));have mb : Below w.heap.size w w2:=(by (repeat' first|(with_reducible first|exact blR _ _|assumption|refine blD ?_|refine blN ?_ _)|((with_reducible first|refine blA ?_ ?_ _|refine blS ?_ ?_ _|refine blT (by assumption) ?_ ?_);focus (go_size;done))));obtain ⟨⟨z0,z1,z2,z3,z4,z5,z6,z7,z8,z9⟩,zf⟩:=k1.zcd;clear k1 hb2)
 refine bodyPost_ret (by simp [results,Tryz.results24,go_sem, *];try rfl) rfl ?_
 exact ⟨none,0,none,0,by rw [HA.out],HV.out _,by (repeat' first|(with_reducible first|exact blR _ _|assumption|refine blD ?_|refine blN ?_ _)|((with_reducible first|refine blA ?_ ?_ _|refine blS ?_ ?_ _|refine blT (by assumption) ?_ ?_);focus (go_size;done)))⟩
theorem rDecide_any (p : Int) (h1 : 1 ≤ p) (h11 : p ≤ 11) (names : List (List UInt8)) (order rows : List (List VD)) (other : List VD) (N O R V : Value) (w0 w : World) (hb : Below w0.heap.size w0 w) (hn : Nms w0 N names) (ho : Lls w0 O order) (hr : Lls w0 R rows) (hv : Vls (RV w0) w0 V other) (hf : InForm names order (rowsD rows other)) (h8 : 8 ≤ p → names.length = 1) :
  Calls Tryz.prog 24 #[.int .i64 p,N,O,R,V] w (RetX w0.heap.size w.heap.size (endD (decR p names order (rowsD rows other))) w):=by
 unfold decR
 by_cases h0 : (rowsD rows other).length = 0
 ·rw [if_pos h0]
  have hE : endD (noneD p,0) = (noneD p,0):=by
   unfold endD
   rw [if_neg (by simp),if_neg (by show ¬ chkV (noneD p) ≠ 0;rw [chk_none];simp)]
  rw [hE]
  obtain ⟨NA,NC,e1,_⟩:=hn.is
  obtain ⟨OA,OC,e2,_⟩:=ho.is
  obtain ⟨RA,RC,e3,_⟩:=hr.is
  obtain ⟨VA0,VC0,e4,_⟩:=hv.is
  have hz : rows.length = 0 ∧ other.length = 0:=by
   unfold rowsD at h0
   split at h0
   ·simp at h0
   ·rename_i h
    exact ⟨h0,by omega⟩
  rw [hz.1] at e3
  rw [hz.2] at e4
  exact retx_flat (rDecide_none p N O R V w ⟨_,_,_,e1⟩ ⟨_,_,_,e2⟩ ⟨_,_,e3⟩ ⟨_,_,e4⟩) (none_flat p).1 (none_flat p).2
 ·rw [if_neg h0]
  exact rDecide_pos p h1 h11 names order rows other N O R V w0 w hb hn ho hr hv hf h8 (by omega)
end Go.Proofs.YtkjecoanlppeaaaGreatDoor



namespace Go.Proofs.YtkjecoanlppeaaaGreatDoor
open Go.RowKit

set_option maxRecDepth 100000 in
set_option maxHeartbeats 4000000 in
theorem docdecide_any (p : Int) (names : List (List UInt8)) (order rows : List (List VD)) (other : List VD) (N O R V : Value) (w : World) (hso : ∀ t,t < order.length → SmallL (lg order t)) (hsr : ∀ t,t < rows.length → SmallL (lg rows t)) (hsv : SmallL other) (hn : Nms w N names) (ho : Lls w O order) (hr : Lls w R rows) (hv : Vls (RV w) w V other) :
  Calls Tryz.prog 10 #[.int .i64 p,N,O,R,V] w (RetP (decAll p names order rows other) w):=by
 have HFM:=Lib.hid (fun (W : World) (hW : Below w.heap.size w W)=>rform18_any names order rows other N O R V W hso hsr hsv (hn.below hW) (ho.below hW) (hr.below hW) (hv.kept hW))
 have hDC:=fun (p1 : 1 ≤ p) (p11 : p ≤ 11) (hf : InForm names order (rowsD rows other)) (h8 : 8 ≤ p → names.length = 1) (W : World) (hW : Below w.heap.size w W)=>rDecide_any p p1 p11 names order rows other N O R V w W hW hn ho hr hv hf h8
 have HDC0:=Lib.hid hDC
 obtain ⟨NA,NC,rfl,q1⟩:=hn.is
 obtain ⟨OA,OC,rfl,q3,_,_⟩:=ho.is
 obtain ⟨RA,RC,rfl,q2,_,_⟩:=hr.is
 obtain ⟨VA0,VC0,rfl,q4⟩:=hv.is
 have hnc : (names.length : Int) ≤ 1048576:=by omega
 clear hDC hso hsr hsv hn ho hr hv
 by_cases hp : policyB p = true
 ·unfold policyB at hp
  rw [Bool.and_eq_true,decide_eq_true_eq,decide_eq_true_eq] at hp
  obtain ⟨p1,p11⟩:=hp
  have hp1 : ¬ p < 1:=by omega
  have hp2 : ¬ 11 < p:=by omega
  have hpb : policyB p = true:=by unfold policyB;rw [decide_eq_true p1,decide_eq_true p11];rfl
  by_cases hfp : formP p names order rows other = true
  ·obtain ⟨hin,h8⟩:=form_in hfp
   have hfT : formT names order rows other = true:=by
    unfold formP at hfp
    rw [Bool.and_eq_true] at hfp
    exact hfp.1
   rw [hfT] at HFM
   have hZ : decAll p names order rows other = endD (decR p names order (rowsD rows other)):=by unfold decAll;rw [if_neg (by rw [hpb];decide),if_neg (by rw [hfp];decide)]
   rw [hZ]
   have hdc:=HDC0.out p1 p11 hin h8
   obtain ⟨Z,hz⟩ : ∃ Z,Z = endD (decR p names order (rowsD rows other)):=⟨_,rfl⟩
   rw [← hz]
   simp only [← hz] at hdc
   unfold RetX at hdc
   obtain ⟨d,er⟩:=Z
   dsimp only at hdc
   have HDC:=Lib.hid hdc
   have hcase : p < 8 ∨ (8 ≤ p ∧ names.length ≤ 1):=by
    by_cases h : p < 8
    ·exact .inl h
    ·exact .inr ⟨by omega,by rw [h8 (by omega)];exact Nat.le_refl _⟩
   clear hfp hfT hpb hZ h8 hin HDC0 hdc hz q1 q2 q3 q4
   rcases hcase with hq | ⟨hq,hq2⟩
   ·go_enter Tryz.func10,Tryz.ntmps10
    go_wp2_with (first | ((go_at_call 23;with_reducible refine (HFM.out _ (by (repeat' first|(with_reducible first|exact blR _ _|assumption|refine blD ?_|refine blN ?_ _)|((with_reducible first|refine blA ?_ ?_ _|refine blS ?_ ?_ _|refine blT (by assumption) ?_ ?_);focus (go_size;done))))).mono ?_);rintro _ w2 ⟨rfl,hb2⟩;have hb2s:=hb2.size;(try simp only [wsA,wsS,wsD,wsN] at hb2s);obtain ⟨hb2c,hb2f⟩:=bcell hb2;(try have : w.heap.size < w2.heap.size:=by omega);(try have : w.heap.size + 1 < w2.heap.size:=by omega);(try have : w.heap.size + 1 + 1 < w2.heap.size:=by omega);(try have : w.heap.size + 1 + 1 + 1 < w2.heap.size:=by omega)) | (go_at_call 24;(with_reducible refine (HDC.out _ (by (repeat' first|(with_reducible first|exact blR _ _|assumption|refine blD ?_|refine blN ?_ _)|((with_reducible first|refine blA ?_ ?_ _|refine blS ?_ ?_ _|refine blT (by assumption) ?_ ?_);focus (go_size;done))))).mono ?_);rintro _ w3 ⟨VA,VC,VA2,VC2,rfl,hvb,hb3⟩;have HVB:=Lib.hid hvb;clear hvb;have hb3s:=hb3.size;(try simp only [World.size_alloc] at hb3s);(try have : w.heap.size < w3.heap.size:=by omega);(try have : w.heap.size + 1 < w3.heap.size:=by omega);(try have : w.heap.size + 1 + 1 < w3.heap.size:=by omega);(try have : w.heap.size + 1 + 1 + 1 < w3.heap.size:=by omega);have k1 : Bk w3 w.heap.size 34 zc10:=(by unfold zc10;(repeat (first|(with_reducible assumption)|((with_reducible refine bkW ?_);(first|rfl|(simp only [wsA,wsS,wsD,wsN];done)))|(with_reducible first|refine bkA ?_ _|refine bkD ?_|refine bkN ?_ _)|((with_reducible refine bkF ?_ ?_ _);focus (simp only [];omega))|((with_reducible refine bkB (by assumption) ?_ ?_);focus (go_size;done)))));have mb : Below w.heap.size w w3:=(by (repeat' first|(with_reducible first|exact blR _ _|assumption|refine blD ?_|refine blN ?_ _)|((with_reducible first|refine blA ?_ ?_ _|refine blS ?_ ?_ _|refine blT (by assumption) ?_ ?_);focus (go_size;done))));obtain ⟨⟨z0,z1,z2,z3,z4,z5,z6,z7,z8,z9⟩,zf⟩:=k1.zcd;clear k1 hb2c hb2f hb3 hb2))
    refine bodyPost_ret (by simp [results,Tryz.results10,go_sem, *];try rfl) rfl ?_
    refine ⟨VA,VC,VA2,VC2,rfl,HVB.out _ (fun b hb=>?_),by (repeat' first|(with_reducible first|exact blR _ _|assumption|refine blD ?_|refine blN ?_ _)|((with_reducible first|refine blA ?_ ?_ _|refine blS ?_ ?_ _|refine blT (by assumption) ?_ ?_);focus (go_size;done)))⟩
    repeat rw [Below.heap_setCell _ _ _ _ (by show b ≠ w.heap.size;omega)]
   ·have hq3 : decide ((1 : Int) < (names.length : Int)) = false:=decide_eq_false (by omega)
    go_enter Tryz.func10,Tryz.ntmps10
    go_wp2_with (first | ((go_at_call 23;with_reducible refine (HFM.out _ (by (repeat' first|(with_reducible first|exact blR _ _|assumption|refine blD ?_|refine blN ?_ _)|((with_reducible first|refine blA ?_ ?_ _|refine blS ?_ ?_ _|refine blT (by assumption) ?_ ?_);focus (go_size;done))))).mono ?_);rintro _ w2 ⟨rfl,hb2⟩;have hb2s:=hb2.size;(try simp only [wsA,wsS,wsD,wsN] at hb2s);obtain ⟨hb2c,hb2f⟩:=bcell hb2;(try have : w.heap.size < w2.heap.size:=by omega);(try have : w.heap.size + 1 < w2.heap.size:=by omega);(try have : w.heap.size + 1 + 1 < w2.heap.size:=by omega);(try have : w.heap.size + 1 + 1 + 1 < w2.heap.size:=by omega)) | (go_at_call 24;(with_reducible refine (HDC.out _ (by (repeat' first|(with_reducible first|exact blR _ _|assumption|refine blD ?_|refine blN ?_ _)|((with_reducible first|refine blA ?_ ?_ _|refine blS ?_ ?_ _|refine blT (by assumption) ?_ ?_);focus (go_size;done))))).mono ?_);rintro _ w3 ⟨VA,VC,VA2,VC2,rfl,hvb,hb3⟩;have HVB:=Lib.hid hvb;clear hvb;have hb3s:=hb3.size;(try simp only [World.size_alloc] at hb3s);(try have : w.heap.size < w3.heap.size:=by omega);(try have : w.heap.size + 1 < w3.heap.size:=by omega);(try have : w.heap.size + 1 + 1 < w3.heap.size:=by omega);(try have : w.heap.size + 1 + 1 + 1 < w3.heap.size:=by omega);have k1 : Bk w3 w.heap.size 34 zc10:=(by unfold zc10;(repeat (first|(with_reducible assumption)|((with_reducible refine bkW ?_);(first|rfl|(simp only [wsA,wsS,wsD,wsN];done)))|(with_reducible first|refine bkA ?_ _|refine bkD ?_|refine bkN ?_ _)|((with_reducible refine bkF ?_ ?_ _);focus (simp only [];omega))|((with_reducible refine bkB (by assumption) ?_ ?_);focus (go_size;done)))));have mb : Below w.heap.size w w3:=(by (repeat' first|(with_reducible first|exact blR _ _|assumption|refine blD ?_|refine blN ?_ _)|((with_reducible first|refine blA ?_ ?_ _|refine blS ?_ ?_ _|refine blT (by assumption) ?_ ?_);focus (go_size;done))));obtain ⟨⟨z0,z1,z2,z3,z4,z5,z6,z7,z8,z9⟩,zf⟩:=k1.zcd;clear k1 hb2c hb2f hb3 hb2))
    refine bodyPost_ret (by simp [results,Tryz.results10,go_sem, *];try rfl) rfl ?_
    refine ⟨VA,VC,VA2,VC2,rfl,HVB.out _ (fun b hb=>?_),by (repeat' first|(with_reducible first|exact blR _ _|assumption|refine blD ?_|refine blN ?_ _)|((with_reducible first|refine blA ?_ ?_ _|refine blS ?_ ?_ _|refine blT (by assumption) ?_ ?_);focus (go_size;done)))⟩
    repeat rw [Below.heap_setCell _ _ _ _ (by show b ≠ w.heap.size;omega)]
  ·have hZ : decAll p names order rows other = (VD.zero,2):=by unfold decAll;rw [if_neg (by rw [hpb];decide),if_pos (by simpa using hfp)]
   rw [hZ]
   obtain ⟨z,hz⟩ : ∃ z,z = formT names order rows other:=⟨_,rfl⟩
   rw [← hz] at HFM
   have hcase : z = false ∨ (z = true ∧ 8 ≤ p ∧ 1 < names.length):=by
    unfold formP at hfp
    rw [← hz] at hfp
    cases z with
    | false=>exact .inl rfl
    | true =>
     right
     simp only [Bool.true_and,Bool.not_eq_true',Bool.not_eq_false,Bool.and_eq_true,decide_eq_true_eq] at hfp
     exact ⟨rfl,hfp⟩
   clear hfp hZ hz q1 q2 q3 q4 hpb HDC0
   rcases hcase with rfl | ⟨rfl,h8,hn1⟩
   ·go_enter Tryz.func10,Tryz.ntmps10
    go_wp2_with ((go_at_call 23;with_reducible refine (HFM.out _ (by (repeat' first|(with_reducible first|exact blR _ _|assumption|refine blD ?_|refine blN ?_ _)|((with_reducible first|refine blA ?_ ?_ _|refine blS ?_ ?_ _|refine blT (by assumption) ?_ ?_);focus (go_size;done))))).mono ?_);rintro _ w2 ⟨rfl,hb2⟩;have hb2s:=hb2.size;(try simp only [wsA,wsS,wsD,wsN] at hb2s);obtain ⟨hb2c,hb2f⟩:=bcell hb2;(try have : w.heap.size < w2.heap.size:=by omega);(try have : w.heap.size + 1 < w2.heap.size:=by omega);(try have : w.heap.size + 1 + 1 < w2.heap.size:=by omega);(try have : w.heap.size + 1 + 1 + 1 < w2.heap.size:=by omega))
    refine bodyPost_ret (by simp [results,Tryz.results10,go_sem, *];try rfl) rfl ?_
    exact ⟨none,0,none,0,by rw [zero_vargs],va_flat VS.zero_ok,by (repeat' first|(with_reducible first|exact blR _ _|assumption|refine blD ?_|refine blN ?_ _)|((with_reducible first|refine blA ?_ ?_ _|refine blS ?_ ?_ _|refine blT (by assumption) ?_ ?_);focus (go_size;done)))⟩
   ·have hn1c : (1 : Int) < (names.length : Int):=by omega
    go_enter Tryz.func10,Tryz.ntmps10
    go_wp2_with ((go_at_call 23;with_reducible refine (HFM.out _ (by (repeat' first|(with_reducible first|exact blR _ _|assumption|refine blD ?_|refine blN ?_ _)|((with_reducible first|refine blA ?_ ?_ _|refine blS ?_ ?_ _|refine blT (by assumption) ?_ ?_);focus (go_size;done))))).mono ?_);rintro _ w2 ⟨rfl,hb2⟩;have hb2s:=hb2.size;(try simp only [wsA,wsS,wsD,wsN] at hb2s);obtain ⟨hb2c,hb2f⟩:=bcell hb2;(try have : w.heap.size < w2.heap.size:=by omega);(try have : w.heap.size + 1 < w2.heap.size:=by omega);(try have : w.heap.size + 1 + 1 < w2.heap.size:=by omega);(try have : w.heap.size + 1 + 1 + 1 < w2.heap.size:=by omega))
    refine bodyPost_ret (by simp [results,Tryz.results10,go_sem, *];try rfl) rfl ?_
    exact ⟨none,0,none,0,by rw [zero_vargs],va_flat VS.zero_ok,by (repeat' first|(with_reducible first|exact blR _ _|assumption|refine blD ?_|refine blN ?_ _)|((with_reducible first|refine blA ?_ ?_ _|refine blS ?_ ?_ _|refine blT (by assumption) ?_ ?_);focus (go_size;done)))⟩
 ·have hZ : decAll p names order rows other = (VD.zero,1):=by unfold decAll;rw [if_pos (by simpa using hp)]
  rw [hZ]
  have hcase : p < 1 ∨ (¬ p < 1 ∧ 11 < p):=by
   unfold policyB at hp
   by_cases h : p < 1
   ·exact .inl h
   ·refine .inr ⟨h, ?_⟩
    by_cases h2 : 11 < p
    ·exact h2
    ·exact absurd (by rw [decide_eq_true (show 1 ≤ p by omega),decide_eq_true (show p ≤ 11 by omega)];rfl) hp
  clear hp hZ q1 q2 q3 q4 HFM HDC0
  rcases hcase with h1 | ⟨h1,h2⟩
  ·go_enter Tryz.func10,Tryz.ntmps10
   go_wp2_with fail
   refine bodyPost_ret (by simp [results,Tryz.results10,go_sem, *];try rfl) rfl ?_
   exact ⟨none,0,none,0,by rw [zero_vargs],va_flat VS.zero_ok,by (repeat' first|(with_reducible first|exact blR _ _|assumption|refine blD ?_|refine blN ?_ _)|((with_reducible first|refine blA ?_ ?_ _|refine blS ?_ ?_ _|refine blT (by assumption) ?_ ?_);focus (go_size;done)))⟩
  ·go_enter Tryz.func10,Tryz.ntmps10
   go_wp2_with fail
   refine bodyPost_ret (by simp [results,Tryz.results10,go_sem, *];try rfl) rfl ?_
   exact ⟨none,0,none,0,by rw [zero_vargs],va_flat VS.zero_ok,by (repeat' first|(with_reducible first|exact blR _ _|assumption|refine blD ?_|refine blN ?_ _)|((with_reducible first|refine blA ?_ ?_ _|refine blS ?_ ?_ _|refine blT (by assumption) ?_ ?_);focus (go_size;done)))⟩
end Go.Proofs.YtkjecoanlppeaaaGreatDoor



namespace Go.Proofs.YtkjecoanlppeaaaGreatDoor
open Go.RowKit

set_option maxRecDepth 100000 in
set_option maxHeartbeats 2000000 in
theorem walk_decides (p : Int) (names : List (List UInt8)) (order rows : List (List VD)) (other : List VD) (N O R V : Value) (w : World) (hT : Tabs w) (hso : ∀ t,t < order.length → SmallL (lg order t)) (hsr : ∀ t,t < rows.length → SmallL (lg rows t)) (hsv : SmallL other) (hn : Nms w N names) (ho : Lls w O order) (hr : Lls w R rows) (hv : Vls (RV w) w V other) :
  Calls Tryz.prog 3 #[.int .i64 p,.agg #[N,O,R,V]] w fun e w'=>e = .returned (.bool true) ∧ Below w.heap.size w w':=by
 have HK:=Lib.hid (fun (W : World) (hW : Below w.heap.size w W)=>known18_any W (tabs_below hT hW))
 have h1:=fun (W : World) (hW : Below w.heap.size w W)=>docdecide_any p names order rows other N O R V W hso hsr hsv (hn.below hW) (ho.below hW) (hr.below hW) (hv.kept hW)
 have h2:=fun (W : World) (hW : Below w.heap.size w W)=>ldecide_any p names order rows other N O R V W (tabs_below hT hW) (hn.below hW) (ho.below hW) (hr.below hW) (hv.kept hW)
 have hsz:=decAll_size p names order rows other
 unfold RetP at h1
 unfold RetX at h2
 obtain ⟨Z,hZ⟩ : ∃ Z,Z = decAll p names order rows other:=⟨_,rfl⟩
 rw [← hZ] at hsz
 simp only [← hZ] at h1 h2
 obtain ⟨d,er⟩:=Z
 dsimp only at h1 h2 hsz
 obtain ⟨NA,NC,rfl,_⟩:=hn.is
 obtain ⟨OA,OC,rfl,_⟩:=ho.is
 obtain ⟨RA,RC,rfl,_⟩:=hr.is
 obtain ⟨VA0,VC0,rfl,_⟩:=hv.is
 have H1:=Lib.hid h1
 have H2:=Lib.hid h2
 have HSM:=Lib.hid (fun (A : Option Addr) (C : Nat) (A2 : Option Addr) (C2 : Nat) (B : Option Addr) (D : Nat) (B2 : Option Addr) (D2 : Nat) (W : World) (hx : VA W d A C A2 C2) (hy : VA W d B D B2 D2)=>same_self d A C A2 C2 B D B2 D2 W hx hy hsz)
 clear h1 h2 hZ hsz hso hsr hsv hn ho hr hv hT
 go_enter Tryz.func3,Tryz.ntmps3
 go_wp2_with (first | ((go_at_call 9;with_reducible refine (HK.out _ (by (repeat' first|(with_reducible first|exact blR _ _|assumption|refine blD ?_|refine blN ?_ _)|((with_reducible first|refine blA ?_ ?_ _|refine blS ?_ ?_ _|refine blT (by assumption) ?_ ?_);focus (go_size;done))))).mono ?_);rintro _ w1 ⟨rfl,hb1⟩;have hb1s:=hb1.size;(try simp only [wsA,wsS,wsD,wsN] at hb1s);obtain ⟨hb1c,hb1f⟩:=bcell hb1;(try have : w.heap.size < w1.heap.size:=by omega);(try have : w.heap.size + 1 < w1.heap.size:=by omega);(try have : w.heap.size + 1 + 1 < w1.heap.size:=by omega);(try have : w.heap.size + 1 + 1 + 1 < w1.heap.size:=by omega)) | (go_at_call 10;(with_reducible refine (H1.out _ (by (repeat' first|(with_reducible first|exact blR _ _|assumption|refine blD ?_|refine blN ?_ _)|((with_reducible first|refine blA ?_ ?_ _|refine blS ?_ ?_ _|refine blT (by assumption) ?_ ?_);focus (go_size;done))))).mono ?_);rintro _ w2 ⟨A,C,A2,C2,rfl,hva,hb2⟩;have HVA:=Lib.hid hva;clear hva;have hb2s:=hb2.size;(try have : w.heap.size < w2.heap.size:=by omega);(try have : w.heap.size + 1 < w2.heap.size:=by omega);(try have : w.heap.size + 1 + 1 < w2.heap.size:=by omega);(try have : w.heap.size + 1 + 1 + 1 < w2.heap.size:=by omega);(try have : w1.heap.size < w2.heap.size:=by omega);(try have : w1.heap.size + 1 < w2.heap.size:=by omega);(try have : w1.heap.size + 1 + 1 < w2.heap.size:=by omega);(try have : w1.heap.size + 1 + 1 + 1 < w2.heap.size:=by omega);obtain ⟨hb2c,hb2f⟩:=bcell hb2) | (go_at_call 11;(with_reducible refine (H2.out _ (by (repeat' first|(with_reducible first|exact blR _ _|assumption|refine blD ?_|refine blN ?_ _)|((with_reducible first|refine blA ?_ ?_ _|refine blS ?_ ?_ _|refine blT (by assumption) ?_ ?_);focus (go_size;done))))).mono ?_);rintro _ w3 ⟨B,D,B2,D2,rfl,hvb,hb3⟩;have HVB:=Lib.hid hvb.va;clear hvb;have hb3s:=hb3.size;(try simp only [World.size_alloc] at hb3s);(try have : w.heap.size < w3.heap.size:=by omega);(try have : w.heap.size + 1 < w3.heap.size:=by omega);(try have : w.heap.size + 1 + 1 < w3.heap.size:=by omega);(try have : w.heap.size + 1 + 1 + 1 < w3.heap.size:=by omega);(try have : w2.heap.size < w3.heap.size:=by omega);(try have : w2.heap.size + 1 < w3.heap.size:=by omega);(try have : w2.heap.size + 1 + 1 < w3.heap.size:=by omega);(try have : w2.heap.size + 1 + 1 + 1 < w3.heap.size:=by omega);obtain ⟨hb3c,hb3f⟩:=bcell hb3) | (go_at_call 12;(with_reducible refine (HSM.out A C A2 C2 B D B2 D2 _ (va_below HVA.out (by (repeat' first|(with_reducible first|exact blR _ _|assumption|refine blD ?_|refine blN ?_ _)|((with_reducible first|refine blA ?_ ?_ _|refine blS ?_ ?_ _|refine blT (by assumption) ?_ ?_);focus (go_size;done))))) (va_below HVB.out (by (repeat' first|(with_reducible first|exact blR _ _|assumption|refine blD ?_|refine blN ?_ _)|((with_reducible first|refine blA ?_ ?_ _|refine blS ?_ ?_ _|refine blT (by assumption) ?_ ?_);focus (go_size;done)))))).mono ?_);rintro _ w4 ⟨rfl,hb4⟩;have hb4s:=hb4.size;(try simp only [World.size_alloc] at hb4s);(try have : w.heap.size < w4.heap.size:=by omega);(try have : w.heap.size + 1 < w4.heap.size:=by omega);(try have : w.heap.size + 1 + 1 < w4.heap.size:=by omega);(try have : w.heap.size + 1 + 1 + 1 < w4.heap.size:=by omega);(try have : w3.heap.size < w4.heap.size:=by omega);(try have : w3.heap.size + 1 < w4.heap.size:=by omega);(try have : w3.heap.size + 1 + 1 < w4.heap.size:=by omega);(try have : w3.heap.size + 1 + 1 + 1 < w4.heap.size:=by omega)))
 go_ret
 exact ⟨ret_bool (by simp),by (repeat' first|(with_reducible first|exact blR _ _|assumption|refine blD ?_|refine blN ?_ _)|((with_reducible first|refine blA ?_ ?_ _|refine blS ?_ ?_ _|refine blT (by assumption) ?_ ?_);focus (go_size;done)))⟩
end Go.Proofs.YtkjecoanlppeaaaGreatDoor



namespace Go.Proofs.YtkjecoanlppeaaaGreatDoor
open Go.RowKit
open Go.ChangeShapes Go.WideShapes Go.ChangeAt
open Go.ChangeMaps (open_string shut_string)

set_option maxRecDepth 100000 in
theorem open_table {H : Type} {enc : TypeId × Value → H} {W : World} {base b0 : Nat} {v : Value} {d : DataW H} {p : List MemPlace} {sp : Nat → Bool} {held : Bool}
  (hv : Value.okWide Tryz.prog W .any base 26 v) (h : DataW.Trod enc Tryz.prog W b0 sp held 26 v d p) (hb : Rows.uptoBulk d ≤ 1048576) :
  ∃ (N O R V : Value) (names : List (List UInt8)) (order rows : List (List VD)) (other : List VD),v = .agg #[N,O,R,V] ∧ Nms W N names ∧ Lls W O order ∧ Lls W R rows ∧ Vls (RV W) W V other ∧ (∀ t,t < order.length → SmallL (lg order t)) ∧ (∀ t,t < rows.length → SmallL (lg rows t)) ∧ SmallL other:=by
 obtain ⟨c0,c1,c2,c3,y0,y1,y2,y3,m,rfl,rfl,rfl,h0,h1,h2,h3⟩:=Joins.open_agg4 Tryz.underlying26 (by kernel_rfl) (by kernel_rfl) hv h
 simp only [Rows.uptoBulk,Rows.uptoBulkAll] at hb
 obtain ⟨_,_,names,_,hn⟩:=open_names h0 (by omega)
 obtain ⟨_,_,order,_,ho,hso⟩:=open_lls h1 (by omega)
 obtain ⟨_,_,rows,_,hr,hsr⟩:=open_lls h2 (by omega)
 obtain ⟨_,_,other,_,hv,hs⟩:=open_vls h3 (by omega)
 exact ⟨c0,c1,c2,c3,names,order,rows,other,rfl,hn,ho,hr,hv,hso,hsr,smallL_of (by omega)⟩
@[reducible] def tabZ : Value:=.agg #[.slice none 0 0,.slice none 0 0,.slice none 0 0,.slice none 0 0]
end Go.Proofs.YtkjecoanlppeaaaGreatDoor

