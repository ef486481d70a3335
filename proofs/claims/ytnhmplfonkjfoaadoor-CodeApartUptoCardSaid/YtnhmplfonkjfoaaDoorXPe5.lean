/- What this law reaches beyond the common contracts, part 5. -/
import Derived.Test.YtnhmplfonkjfoaaDoorM2
import Derived.Test.YtnhmplfonkjfoaaDoorXPe4
set_option linter.unusedSimpArgs false
set_option linter.unusedVariables false


namespace Go.Proofs.YtnhmplfonkjfoaaDoor
open Go.RowKit

theorem info_node : (Tryd.prog.info? 45).map (fun i=>(i.zero,i.size,i.bytes)) = some (some (.agg #[.int .i64 0,.int .i64 0,.string ⟨#[]⟩,.bool false,.int .u64 0,.int .u64 0,.int .i64 0,.int .i64 0]),8,72):=by kernel_rfl
def nodeR (c : InsD) : InsD:=if nodeB c = true then nodeD c else InsD.zero
set_option maxHeartbeats 2000000 in
theorem node_any (op a : Int) (tx : ByteArray) (ng : Bool) (hi lo sc dy : Int) (w : World) : Calls Tryd.prog 46 #[.agg #[.int .i64 op,.int .i64 a,.string tx,.bool ng,.int .u64 hi,.int .u64 lo,.int .i64 sc,.int .i64 dy]] w fun e w'=>e = .returned (.tuple #[.agg #[.int .i64 (nodeR ⟨op,a,tx,ng,hi,lo,sc,dy⟩).op,.int .i64 (nodeR ⟨op,a,tx,ng,hi,lo,sc,dy⟩).a,.string (nodeR ⟨op,a,tx,ng,hi,lo,sc,dy⟩).tx,.bool (nodeR ⟨op,a,tx,ng,hi,lo,sc,dy⟩).ng,.int .u64 (nodeR ⟨op,a,tx,ng,hi,lo,sc,dy⟩).hi,.int .u64 (nodeR ⟨op,a,tx,ng,hi,lo,sc,dy⟩).lo,.int .i64 (nodeR ⟨op,a,tx,ng,hi,lo,sc,dy⟩).sc,.int .i64 (nodeR ⟨op,a,tx,ng,hi,lo,sc,dy⟩).dy],.bool (nodeB ⟨op,a,tx,ng,hi,lo,sc,dy⟩)]) ∧ Below w.heap.size w w':=by
 have HTK:=Lib.hid (takes_any op a tx ng hi lo sc dy)
 have HB : Hid (nodeB ⟨op,a,tx,ng,hi,lo,sc,dy⟩ = ((tk op a).2.2.2.2 && !(decide (101 ≤ op)) && !(op == 21) && !(op == 23))):=Lib.hid rfl
 have HY : Hid (nodeB ⟨op,a,tx,ng,hi,lo,sc,dy⟩ = true → nodeR ⟨op,a,tx,ng,hi,lo,sc,dy⟩ = ⟨op,(tk op a).1,tx,ng,hi,lo,sc,dy⟩):=Lib.hid (fun h=>if_pos h)
 have HN : Hid (nodeB ⟨op,a,tx,ng,hi,lo,sc,dy⟩ = false → nodeR ⟨op,a,tx,ng,hi,lo,sc,dy⟩ = InsD.zero):=Lib.hid (fun h=>if_neg (by rw [h];decide))
 obtain ⟨B,hB⟩ : ∃ B,B = nodeB ⟨op,a,tx,ng,hi,lo,sc,dy⟩:=⟨_,rfl⟩
 obtain ⟨R,hR⟩ : ∃ R,R = nodeR ⟨op,a,tx,ng,hi,lo,sc,dy⟩:=⟨_,rfl⟩
 rw [← hB] at HB HY HN
 rw [← hR] at HY HN
 rw [← hB,← hR]
 clear hB hR
 obtain ⟨⟨t1,t2,t3,t4,t5⟩,ht⟩ : ∃ t,t = tk op a:=⟨_,rfl⟩
 rw [← ht] at HTK HB HY
 dsimp only at HTK HB HY
 clear ht
 cases t5 with
 | false =>
  obtain rfl : B = false:=HB.out
  obtain rfl:=HN.out rfl
  go_enter Tryd.func46,Tryd.ntmps46
  go_wp2_with ((go_at_call 23;with_reducible refine (HTK.out _).mono ?_);rintro _ w2 ⟨rfl,hb2⟩;have hb2s:=hb2.size;(try simp only [wsA,wsS,wsD,wsN] at hb2s);obtain ⟨hb2c,hb2f⟩:=bcell hb2;(try have : w.heap.size < w2.heap.size:=by omega);(try have : w.heap.size + 1 < w2.heap.size:=by omega);(try have : w.heap.size + 1 + 1 < w2.heap.size:=by omega);(try have : w.heap.size + 1 + 1 + 1 < w2.heap.size:=by omega))
  refine bodyPost_ret (by simp [results,Tryd.results46,go_sem, *];try rfl) rfl ?_
  exact ⟨rfl,by (repeat' first|(with_reducible first|exact blR _ _|assumption|refine blD ?_|refine blN ?_ _)|((with_reducible first|refine blA ?_ ?_ _|refine blS ?_ ?_ _|refine blT (by assumption) ?_ ?_);focus (go_size;done)))⟩
 | true =>
  by_cases h1 : 101 ≤ op
  ·have q1 : decide (101 ≤ op) = true:=decide_eq_true h1
   obtain rfl : B = false:=by rw [HB.out,q1];rfl
   obtain rfl:=HN.out rfl
   go_enter Tryd.func46,Tryd.ntmps46
   go_wp2_with ((go_at_call 23;with_reducible refine (HTK.out _).mono ?_);rintro _ w2 ⟨rfl,hb2⟩;have hb2s:=hb2.size;(try simp only [wsA,wsS,wsD,wsN] at hb2s);obtain ⟨hb2c,hb2f⟩:=bcell hb2;(try have : w.heap.size < w2.heap.size:=by omega);(try have : w.heap.size + 1 < w2.heap.size:=by omega);(try have : w.heap.size + 1 + 1 < w2.heap.size:=by omega);(try have : w.heap.size + 1 + 1 + 1 < w2.heap.size:=by omega))
   refine bodyPost_ret (by simp [results,Tryd.results46,go_sem, *];try rfl) rfl ?_
   exact ⟨rfl,by (repeat' first|(with_reducible first|exact blR _ _|assumption|refine blD ?_|refine blN ?_ _)|((with_reducible first|refine blA ?_ ?_ _|refine blS ?_ ?_ _|refine blT (by assumption) ?_ ?_);focus (go_size;done)))⟩
  ·have q1 : decide (101 ≤ op) = false:=decide_eq_false h1
   by_cases h2 : op = 21
   ·subst h2
    obtain rfl : B = false:=by rw [HB.out];rfl
    obtain rfl:=HN.out rfl
    go_enter Tryd.func46,Tryd.ntmps46
    go_wp2_with ((go_at_call 23;with_reducible refine (HTK.out _).mono ?_);rintro _ w2 ⟨rfl,hb2⟩;have hb2s:=hb2.size;(try simp only [wsA,wsS,wsD,wsN] at hb2s);obtain ⟨hb2c,hb2f⟩:=bcell hb2;(try have : w.heap.size < w2.heap.size:=by omega);(try have : w.heap.size + 1 < w2.heap.size:=by omega);(try have : w.heap.size + 1 + 1 < w2.heap.size:=by omega);(try have : w.heap.size + 1 + 1 + 1 < w2.heap.size:=by omega))
    refine bodyPost_ret (by simp [results,Tryd.results46,go_sem, *];try rfl) rfl ?_
    exact ⟨rfl,by (repeat' first|(with_reducible first|exact blR _ _|assumption|refine blD ?_|refine blN ?_ _)|((with_reducible first|refine blA ?_ ?_ _|refine blS ?_ ?_ _|refine blT (by assumption) ?_ ?_);focus (go_size;done)))⟩
   ·have q2 : (op == 21) = false:=by rw [beq_eq_false_iff_ne];exact h2
    by_cases h3 : op = 23
    ·subst h3
     obtain rfl : B = false:=by rw [HB.out];rfl
     obtain rfl:=HN.out rfl
     go_enter Tryd.func46,Tryd.ntmps46
     go_wp2_with ((go_at_call 23;with_reducible refine (HTK.out _).mono ?_);rintro _ w2 ⟨rfl,hb2⟩;have hb2s:=hb2.size;(try simp only [wsA,wsS,wsD,wsN] at hb2s);obtain ⟨hb2c,hb2f⟩:=bcell hb2;(try have : w.heap.size < w2.heap.size:=by omega);(try have : w.heap.size + 1 < w2.heap.size:=by omega);(try have : w.heap.size + 1 + 1 < w2.heap.size:=by omega);(try have : w.heap.size + 1 + 1 + 1 < w2.heap.size:=by omega))
     refine bodyPost_ret (by simp [results,Tryd.results46,go_sem, *];try rfl) rfl ?_
     exact ⟨rfl,by (repeat' first|(with_reducible first|exact blR _ _|assumption|refine blD ?_|refine blN ?_ _)|((with_reducible first|refine blA ?_ ?_ _|refine blS ?_ ?_ _|refine blT (by assumption) ?_ ?_);focus (go_size;done)))⟩
    ·have q3 : (op == 23) = false:=by rw [beq_eq_false_iff_ne];exact h3
     obtain rfl : B = true:=by rw [HB.out,q1,q2,q3];rfl
     obtain rfl:=HY.out rfl
     go_enter Tryd.func46,Tryd.ntmps46
     go_wp2_with ((go_at_call 23;with_reducible refine (HTK.out _).mono ?_);rintro _ w2 ⟨rfl,hb2⟩;have hb2s:=hb2.size;(try simp only [wsA,wsS,wsD,wsN] at hb2s);obtain ⟨hb2c,hb2f⟩:=bcell hb2;(try have : w.heap.size < w2.heap.size:=by omega);(try have : w.heap.size + 1 < w2.heap.size:=by omega);(try have : w.heap.size + 1 + 1 < w2.heap.size:=by omega);(try have : w.heap.size + 1 + 1 + 1 < w2.heap.size:=by omega))
     refine bodyPost_ret (by simp [results,Tryd.results46,go_sem, *];try rfl) rfl ?_
     exact ⟨rfl,by (repeat' first|(with_reducible first|exact blR _ _|assumption|refine blD ?_|refine blN ?_ _)|((with_reducible first|refine blA ?_ ?_ _|refine blS ?_ ?_ _|refine blT (by assumption) ?_ ?_);focus (go_size;done)))⟩
def tw3 (B S : Nat) : Nat → Nat:=fun k=>if k < B then 0 else if k < S then 1 else 2
theorem tw_mid {w : World} {B : Nat} {t : TypeId} {k n : Nat} {v : Value} {cs : List Value} (h : Ro w (ob B) 1 t k v n cs) : Ro w (tw3 B w.heap.size) 1 t k v n cs :=
 ⟨h.1,fun g hg=>by
  have h1:=h.2 g hg
  have h2:=(h.1.lt g hg).2
  have h3 : ¬ g < B:=fun h'=>by rw [ob_low h'] at h1;cases h1
  unfold tw3;rw [if_neg h3,if_pos h2]⟩
theorem tw_up {w : World} {B S : Nat} {t : TypeId} {k n : Nat} {v : Value} {cs : List Value} (h : Ro w (ob S) 1 t k v n cs) (hB : B ≤ S) : Ro w (tw3 B S) 2 t k v n cs :=
 ⟨h.1,fun g hg=>by
  have h1:=h.2 g hg
  have h3 : ¬ g < S:=fun h'=>by rw [ob_low h'] at h1;cases h1
  unfold tw3;rw [if_neg (by omega),if_neg h3]⟩
def UnPost (X : Option (List InsD)) (w : World) (e : Ending) (w' : World) : Prop :=
 match X with
 | none=>e = .returned (.tuple #[.slice none 0 0,.bool false]) ∧ Below w.heap.size w w'
 | some L=>∃ r,e = .returned (.tuple #[r,.bool true]) ∧ Below w.heap.size w w' ∧ Ro w' (ob w.heap.size) 1 45 8 r L.length (ics L)
def UndoOk (is : List InsD) (f : Nat) : Prop:=∀ (i e : Nat) (w : World) (v : Value),e - i < f → i ≤ e → e ≤ is.length → Cod w v is → Calls Tryd.prog 27 #[v,.int .i64 i,.int .i64 e] w (UnPost (unD is f i e) w)
def conc (out : List InsD) (X : Option (List InsD)) : Option (List InsD):=X.map fun r=>out ++ r
theorem conc_nil (X : Option (List InsD)) : conc [] X = X:=by cases X <;> rfl
theorem conc_map {out : List InsD} {X : Option (List InsD)} (q : List InsD) : conc out (X.map fun r=>q ++ r) = conc (out ++ q) X:=by
 cases X with
 | none=>rfl
 | some r=>show some (out ++ (q ++ r)) = some (out ++ q ++ r);rw [List.append_assoc]
theorem conc_one {out : List InsD} {X : Option (List InsD)} (q : InsD) : conc out (X.map fun r=>q :: r) = conc (out ++ [q]) X:=conc_map [q]
set_option maxRecDepth 100000 in
set_option maxHeartbeats 8000000 in
theorem undo_step (is : List InsD) (hl : is.length ≤ 600) (f : Nat) (ih : UndoOk is f) : UndoOk is (f + 1):=fun i e w v hf hie hel h=>by
 obtain ⟨X,hX⟩ : ∃ X,X = unD is (f + 1) i e:=⟨_,rfl⟩
 rw [← hX]
 have HV:=Lib.hid (show conc [] (unD is (f + 1) i e) = X by rw [conc_nil,hX])
 have HIH:=Lib.hid (fun (W : World) (hW : Below w.heap.size w W) (i' e' : Nat) (h1 : e' - i' < f) (h2 : i' ≤ e') (h3 : e' ≤ is.length)=>ih i' e' W v h1 h2 h3 (h.below hW))
 unfold UnPost at HIH
 have HC:=Lib.hid h
 obtain ⟨A,C,rfl,-,-⟩:=h
 have hes : e ≤ 600:=by omega
 clear hX ih
 go_enter Tryd.func27,Tryd.ntmps27
 go_wp2_with fail
 go_loopg [8,9] (e - i) (fun k s8 s9 wr=>∃ (t : Nat) (out : List InsD),k + t = e ∧ i ≤ t ∧ s9 = .int .i64 t ∧ Hid (Ro wr (ob w.heap.size) 1 45 8 s8 out.length (ics out)) ∧ Hid (out.length + i ≤ t) ∧ Hid (Below w.heap.size w wr) ∧ Hid (conc out (unD is (f + 1) t e) = X))
 case atStart=>exact ⟨i,[],by omega,Nat.le_refl _,rfl,Lib.hid (Ro.nil _ _ _ _ _),Lib.hid (by show 0 + i ≤ i;omega),Lib.hid (Below.refl _ _),HV⟩
 case round =>
  obtain ⟨t,out,hk,hit,rfl,HRO,HLN,HB,HW⟩:=hrel
  have HK:=Lib.hid hk
  have hte : t ≤ e:=by omega
  have hsz:=HB.out.size
  obtain ⟨A8,C8,rfl,-⟩:=HRO.out.sl.is
  obtain ⟨n,hn⟩ : ∃ n,n = out.length:=⟨_,rfl⟩
  have hnt : n + i ≤ t:=by rw [hn];exact HLN.out
  rw [← hn]
  have hro : Ro wr (ob w.heap.size) 1 45 8 (.slice A8 n C8) n (ics out):=by rw [hn];exact HRO.out
  have HRO2:=Lib.hid hro
  have HN:=Lib.hid hn
  clear hk hn HRO hro HV
  by_cases hlt : t < e
  ·have htl : t < is.length:=by omega
   obtain ⟨b1,p1,rfl,hat⟩:=(HC.out.below HB.out).at htl
   obtain ⟨I,hI⟩ : ∃ I,I = ig is t:=⟨_,rfl⟩
   rw [← hI] at hat
   have HI:=Lib.hid hI
   obtain ⟨op,a,tx,nb,hi,lo,sc,dy⟩:=I
   obtain ⟨a0,a1,a2,a3,a4,a5,a6,a7⟩:=hat.ins
   dsimp only at a0 a1 a2 a3 a4 a5 a6 a7
   have hop : (ig is t).op = op:=by rw [← hI]
   have hap : (ig is t).a = a:=by rw [← hI]
   have HOP:=Lib.hid (And.intro hop hap)
   clear hat hI hop hap
   by_cases c1 : op = 103
   ·have hw9:=HW.out
    rw [unD_enter hlt (by rw [HOP.out.1];exact c1),unD_fuel f (f + 1) (t + 1) e (by omega) (by omega)] at hw9
    have HW9:=Lib.hid hw9
    have q1 : (op == 103) = true:=by rw [beq_iff_eq];exact c1
    have C1:=Lib.hid c1
    clear hw9 c1 HW
    go_wp2_with fail
    go_roundg (gk - 1)
    case measure=>have:=HK.out;omega
    case rel=>exact ⟨t + 1,out,by have:=HK.out;omega,by omega,by go_num,Lib.hid (by rw [← HN.out];exact ob_kept HRO2.out (Below.alloc (Below.refl _ _) (Nat.le_refl _) _)),Lib.hid (by rw [← HN.out];omega),Lib.hid (HB.out.alloc hsz _),HW9⟩
   ·have q1 : (op == 103) = false:=by rw [beq_eq_false_iff_ne];exact c1
    by_cases c2 : op = 104
    ·have hw9:=HW.out
     rw [unD_leave hlt (by rw [HOP.out.1];exact c2),unD_fuel f (f + 1) (t + 1) e (by omega) (by omega),conc_one] at hw9
     have HW9:=Lib.hid hw9
     have q2 : (op == 104) = true:=by rw [beq_iff_eq];exact c2
     have C2:=Lib.hid c2
     have hb1 : Below wr.heap.size wr (wr.alloc (.cells #[.int .i64 op,.int .i64 a,.string tx,.bool nb,.int .u64 hi,.int .u64 lo,.int .i64 sc,.int .i64 dy] 43)):=Below.alloc (Below.refl _ _) (Nat.le_refl _) _
     have hro2:=ob_kept HRO2.out hb1
     have HBB:=Lib.hid (HB.out.trans (hb1.mono hsz))
     clear hw9 c2 HW
     go_wp2_with (at_builtin;refine wpList_pushR rfl _ _ 22 45 8 72 (.agg #[.int .i64 0,.int .i64 0,.string ⟨#[]⟩,.bool false,.int .u64 0,.int .u64 0,.int .i64 0,.int .i64 0]) rfl Tryd.underlying22 info_node rfl (by decide) (ob w.heap.size) 1 (.slice A8 n C8) n (ics out) rfl (hro2.alloc _) ⟨(wr.heap.size + 1),0,none⟩ 1 1 (insO 23 2).cs rfl rfl (by first | exact news_o _ _ _ _ | (have hh:=news_o (wr.alloc (.cells #[.int .i64 op,.int .i64 a,.string tx,.bool nb,.int .u64 hi,.int .u64 lo,.int .i64 sc,.int .i64 dy] 43)) 23 2 45;rw [World.size_alloc] at hh;exact hh)) (cs_cells _) (by decide) (by omega) (by unfold maxLen;omega) ?_;intro g7 cap7 w5 hr7 ht7 hlt7)
     rw [ob_re (by rw [World.size_alloc];exact Nat.le_succ_of_le HBB.out.size)] at hr7 ht7
     rw [← ics_one,← ics_append] at hr7
     have HR7:=Lib.hid hr7
     have HB7:=Lib.hid (ob_below ht7 (HBB.out.alloc HBB.out.size _))
     clear hr7 ht7 hro2 hb1
     go_roundg (gk - 1)
     case measure=>have:=HK.out;omega
     case rel=>exact ⟨t + 1,out ++ [insO 23 2],by have:=HK.out;omega,by omega,by go_num,Lib.hid (by rw [List.length_append,← HN.out];exact HR7.out),Lib.hid (by rw [List.length_append,← HN.out];show n + 1 + i ≤ t + 1;omega),HB7,HW9⟩
    ·have q2 : (op == 104) = false:=by rw [beq_eq_false_iff_ne];exact c2
     by_cases c3 : op = 102
     ·have q3 : (op == 102) = true:=by rw [beq_iff_eq];exact c3
      have HNO : Hid (¬ ifP is t e a → X = none):=Lib.hid (fun hp=>by
       have hw9:=HW.out
       rw [unD_ifno hlt (by rw [HOP.out.1];exact c3) (by rw [HOP.out.2];exact hp)] at hw9
       exact hw9.symm)
      have HYES : Hid (ifP is t e a → conc out (match unD is f (t + 1) (a.toNat - 1),unD is f a.toNat (ig is (a.toNat - 1)).a.toNat with
        | some b,some d=>(unD is f (ig is (a.toNat - 1)).a.toNat e).map fun r=>b ++ d ++ [insO 21 3] ++ r
        | _,_=>none) = X):=Lib.hid (fun hp=>by
       have hw9:=HW.out
       rw [unD_if hlt (by rw [HOP.out.1];exact c3) (by rw [HOP.out.2];exact hp),HOP.out.2] at hw9
       exact hw9)
      have C3:=Lib.hid c3
      clear c3 HW
      by_cases ri1 : (t : Int) + 1 < a
      ·have ri1' : ¬ (a ≤ (t : Int) + 1):=by omega
       by_cases ri2 : a ≤ (e : Int)
       ·have ri2' : ¬ ((e : Int) < a):=by omega
        obtain ⟨la,rfl⟩ : ∃ la : Nat,a = (la : Int):=⟨a.toNat,by omega⟩
        rw [Int.toNat_natCast] at HYES
        have hla1 : (la : Int) - 1 = ((la - 1 : Nat) : Int):=by omega
        obtain ⟨lm,hlm⟩ : ∃ lm,lm = la - 1:=⟨_,rfl⟩
        have hwl : IntKind.i64.wrap ((la : Int) - 1) = (lm : Int):=by rw [IntKind.wrap_i64];omega
        have hml : lm < is.length:=by omega
        rw [← hlm] at HYES
        have HLM:=Lib.hid hlm
        obtain ⟨b1',p1x,e9,hat⟩:=(HC.out.below HB.out).at hml
        injection e9 with e9
        injection e9 with e8 e9
        subst e8 e9
        obtain ⟨c0,c1x,-,-,-,-,-,-⟩:=hat.ins
        obtain ⟨jo,hjo⟩ : ∃ y,y = (ig is lm).op:=⟨_,rfl⟩
        obtain ⟨ja,hja⟩ : ∃ y,y = (ig is lm).a:=⟨_,rfl⟩
        rw [← hjo] at c0
        rw [← hja] at c1x HYES
        have HJ:=Lib.hid (And.intro hjo hja)
        have HPI : Hid (ifP is t e (la : Int) ↔ jo = 101 ∧ (la : Int) ≤ ja ∧ ja ≤ (e : Int)):=Lib.hid (by
         unfold ifP
         rw [Int.toNat_natCast,← HLM.out,← HJ.out.1,← HJ.out.2]
         exact ⟨fun h=>h.2.2,fun h=>⟨ri1,ri2,h⟩⟩)
        have l0:=cell_lt2 c0
        clear hat hjo hja hla1 hlm
        by_cases ri3 : jo = 101
        ·have ri3' : (jo != 101) = false:=by rw [ri3];rfl
         have P3:=Lib.hid ri3
         clear ri3
         by_cases ri4 : (la : Int) ≤ ja
         ·have ri4' : ¬ (ja < (la : Int)):=by omega
          by_cases ri5 : ja ≤ (e : Int)
          ·have ri5' : ¬ ((e : Int) < ja):=by omega
           have hyes:=HYES.out (HPI.out.2 ⟨P3.out,ri4,ri5⟩)
           obtain ⟨lb,rfl⟩ : ∃ lb : Nat,ja = (lb : Int):=⟨ja.toNat,by omega⟩
           rw [Int.toNat_natCast] at hyes
           have hcc:=HIH.out
           have hlmi : t + 1 ≤ lm:=by have:=HLM.out;omega
           have hlab : la ≤ lb:=by omega
           have hlbe : lb ≤ e:=by omega
           have hbA : Below w.heap.size w (wr.alloc (.cells #[.int .i64 op,.int .i64 la,.string tx,.bool nb,.int .u64 hi,.int .u64 lo,.int .i64 sc,.int .i64 dy] 43)):=HB.out.alloc hsz _
           have HU1:=Lib.hid (fun (W : World) (hW : Below w.heap.size w W)=>hcc W hW (t + 1) lm (by have:=HLM.out;omega) (by omega) (by omega))
           have HU2:=Lib.hid (fun (W : World) (hW : Below w.heap.size w W)=>hcc W hW la lb (by omega) (by omega) (by omega))
           rw [Int.natCast_add,Int.natCast_one] at HU1
           have HYE:=Lib.hid hyes
           clear hcc hyes HYES HNO HPI
           have e1x : (wr.alloc (.cells #[.int .i64 op,.int .i64 la,.string tx,.bool nb,.int .u64 hi,.int .u64 lo,.int .i64 sc,.int .i64 dy] 43)).cell? ⟨b1,p1 + lm * 8 + 1,none⟩ = some (.int .i64 (lb : Int)):=(World.cell?_alloc_lt _ _ _ l0).trans c1x
           have l9 : b1 < (wr.alloc (.cells #[.int .i64 op,.int .i64 la,.string tx,.bool nb,.int .u64 hi,.int .u64 lo,.int .i64 sc,.int .i64 dy] 43)).heap.size:=by rw [World.size_alloc];exact Nat.lt_succ_of_lt l0
           have hb1 : Below wr.heap.size wr (wr.alloc (.cells #[.int .i64 op,.int .i64 la,.string tx,.bool nb,.int .u64 hi,.int .u64 lo,.int .i64 sc,.int .i64 dy] 43)):=Below.alloc (Below.refl _ _) (Nat.le_refl _) _
           cases hX1 : unD is f (t + 1) lm with
           | none =>
            rw [hX1] at HU1 HYE
            dsimp only at HU1
            obtain rfl : X = none:=HYE.out.symm
            cases hX2 : unD is f la lb with
            | none =>
             rw [hX2] at HU2
             dsimp only at HU2
             go_wp2_with (first | (go_at_call 27;(with_reducible refine (HU1.out _ hbA).mono ?_);rintro _ w2 ⟨rfl,hb2⟩;have hbB:=hbA.trans (hb2.mono hbA.size);have d1 : w2.cell? ⟨b1,p1 + lm * 8 + 1,none⟩ = some (.int .i64 (lb : Int)):=(hb2.cell (p:=⟨b1,p1 + lm * 8 + 1,none⟩) l9).trans e1x) | (go_at_call 27;(with_reducible refine (HU2.out _ hbB).mono ?_);rintro _ w3 ⟨rfl,hb3⟩;have hbC:=hbB.trans (hb3.mono hbB.size)))
             refine bodyPost_ret (by simp [results,Tryd.results27,go_sem, *];try rfl) rfl ?_
             exact ⟨rfl,hbC⟩
            | some d =>
             rw [hX2] at HU2
             dsimp only at HU2
             go_wp2_with (first | (go_at_call 27;(with_reducible refine (HU1.out _ hbA).mono ?_);rintro _ w2 ⟨rfl,hb2⟩;have hbB:=hbA.trans (hb2.mono hbA.size);have d1 : w2.cell? ⟨b1,p1 + lm * 8 + 1,none⟩ = some (.int .i64 (lb : Int)):=(hb2.cell (p:=⟨b1,p1 + lm * 8 + 1,none⟩) l9).trans e1x) | (go_at_call 27;(with_reducible refine (HU2.out _ hbB).mono ?_);rintro _ w3 ⟨r2,rfl,hb3,hr2⟩;obtain ⟨A2,C2,rfl,-⟩:=hr2.sl.is;have hbC:=hbB.trans (hb3.mono hbB.size)))
             refine bodyPost_ret (by simp [results,Tryd.results27,go_sem, *];try rfl) rfl ?_
             exact ⟨rfl,hbC⟩
           | some b =>
            rw [hX1] at HU1 HYE
            dsimp only at HU1
            have hbl:=unD_len _ _ _ _ hX1
            cases hX2 : unD is f la lb with
            | none =>
             rw [hX2] at HU2 HYE
             dsimp only at HU2
             obtain rfl : X = none:=HYE.out.symm
             go_wp2_with (first | (go_at_call 27;(with_reducible refine (HU1.out _ hbA).mono ?_);rintro _ w2 ⟨r1,rfl,hb2,hr1⟩;obtain ⟨A1,C1,rfl,-⟩:=hr1.sl.is;have hbB:=hbA.trans (hb2.mono hbA.size);have d1 : w2.cell? ⟨b1,p1 + lm * 8 + 1,none⟩ = some (.int .i64 (lb : Int)):=(hb2.cell (p:=⟨b1,p1 + lm * 8 + 1,none⟩) l9).trans e1x) | (go_at_call 27;(with_reducible refine (HU2.out _ hbB).mono ?_);rintro _ w3 ⟨rfl,hb3⟩;have hbC:=hbB.trans (hb3.mono hbB.size)))
             refine bodyPost_ret (by simp [results,Tryd.results27,go_sem, *];try rfl) rfl ?_
             exact ⟨rfl,hbC⟩
            | some d =>
             rw [hX2] at HU2 HYE
             dsimp only at HU2 HYE
             have hdl:=unD_len _ _ _ _ hX2
             have hw9:=HYE.out
             rw [unD_fuel f (f + 1) lb e (by omega) (by omega),conc_map] at hw9
             have HW9:=Lib.hid hw9
             clear hw9 hX1 hX2
             go_upto_region 22 with (first | (go_at_call 27;(with_reducible refine (HU1.out _ hbA).mono ?_);rintro _ w2 ⟨r1,rfl,hb2,hr1⟩;obtain ⟨A1,C1,rfl,-⟩:=hr1.sl.is;have hbB:=hbA.trans (hb2.mono hbA.size);have d1 : w2.cell? ⟨b1,p1 + lm * 8 + 1,none⟩ = some (.int .i64 (lb : Int)):=(hb2.cell (p:=⟨b1,p1 + lm * 8 + 1,none⟩) l9).trans e1x) | (go_at_call 27;(with_reducible refine (HU2.out _ hbB).mono ?_);rintro _ w3 ⟨r2,rfl,hb3,hr2⟩;obtain ⟨A2,C2,rfl,-⟩:=hr2.sl.is;have hbC:=hbB.trans (hb3.mono hbB.size)))
             have HCb:=Lib.hid ((hr1.cod rfl).below hb3)
             obtain ⟨o3,ho3⟩ : ∃ o,o = tw3 w.heap.size (wr.alloc (.cells #[.int .i64 op,.int .i64 la,.string tx,.bool nb,.int .u64 hi,.int .u64 lo,.int .i64 sc,.int .i64 dy] 43)).heap.size:=⟨_,rfl⟩
             have HRd : Hid (Ro w3 o3 2 45 8 (.slice A2 d.length C2) d.length (ics d)):=Lib.hid (by rw [ho3];exact tw_up (ob_mono hr2 hb2.size) hbA.size)
             have HRO3 : Hid (Ro w3 o3 1 45 8 (.slice A8 n C8) n (ics out)):=Lib.hid (by rw [ho3];exact (tw_mid (ob_kept HRO2.out hb1)).relab (hb2.trans (hb3.mono hb2.size)) (fun _ _ e=>e))
             have HOL : Hid (∀ k,k < w.heap.size → o3 k = 0):=Lib.hid (fun k hk=>by rw [ho3];exact if_pos hk)
             have HBC:=Lib.hid hbC
             have hsC:=hbC.size
             have e3x:=(hb3.cell (p:=⟨b1,p1 + lm * 8 + 1,none⟩) (cell_lt2 d1)).trans d1
             have HE3:=Lib.hid e3x
             clear ho3 hr1 hr2 hb1 hb2 hb3 hbA hbB hbC d1 e1x e3x a0 a1 a2 a3 a4 a5 a6 a7 c0 c1x l9
             have hbl2 : n + b.length + d.length ≤ 1000:=by have:=HLM.out;omega
             go_upto_region 23 with (first | (at_builtin;refine wpList_pushM rfl _ _ 22 45 8 72 (.agg #[.int .i64 0,.int .i64 0,.string ⟨#[]⟩,.bool false,.int .u64 0,.int .u64 0,.int .i64 0,.int .i64 0]) rfl Tryd.underlying22 info_node rfl (by decide) o3 1 (.slice A8 n C8) n (ics out) rfl HRO3.out A1 b.length C1 (ics b) rfl (by rw [ics_length]) (cod_news HCb.out rfl) (ics_cells _) (by omega) (by unfold maxLen;omega) ?_;intro A4 C4 w4 hr4 ht4) | (at_builtin;refine wpList_pushM rfl _ _ 22 45 8 72 (.agg #[.int .i64 0,.int .i64 0,.string ⟨#[]⟩,.bool false,.int .u64 0,.int .u64 0,.int .i64 0,.int .i64 0]) rfl Tryd.underlying22 info_node rfl (by decide) (relabel o3 w3.heap.size 1) 1 (.slice A4 (n + b.length) C4) (n + b.length) (ics out ++ ics b) rfl hr4 A2 d.length C2 (ics d) rfl (by rw [ics_length]) (cod_news ((HRd.out.turn ht4 (by show ¬ (2 = 1);decide)).cod rfl) rfl) (ics_cells _) (by omega) (by unfold maxLen;omega) ?_;intro A5 C5 w5 hr5 ht5;rw [relabel_twice o3 ht4.size] at hr5 ht5) | (at_builtin;refine wpList_pushR rfl _ _ 22 45 8 72 (.agg #[.int .i64 0,.int .i64 0,.string ⟨#[]⟩,.bool false,.int .u64 0,.int .u64 0,.int .i64 0,.int .i64 0]) rfl Tryd.underlying22 info_node rfl (by decide) (relabel o3 w3.heap.size 1) 1 (.slice A5 (n + b.length + d.length) C5) (n + b.length + d.length) (ics out ++ ics b ++ ics d) rfl (hr5.alloc _) ⟨w5.heap.size,0,none⟩ 1 1 (insO 21 3).cs rfl rfl (news_o _ _ _ _) (cs_cells _) (by decide) (by omega) (by unfold maxLen;omega) ?_;intro g7 cap7 w6 hr7 ht7 hlt7))
             rw [relabel_twice o3 (by rw [World.size_alloc];exact Nat.le_succ_of_le (Nat.le_trans ht4.size ht5.size))] at hr7 ht7
             have htt : Turn (· = 1) w3 o3 w6 (relabel o3 w3.heap.size 1):=ht4.trans (ht5.trans (((Turn.refl _ _ _).alloc _).trans ht7))
             have HB7 : Hid (Below w.heap.size w w6):=Lib.hid (HBC.out.trans (htt.below (fun k hk=>by rw [HOL.out k hk];decide) hsC))
             have HR7 : Hid (Ro w6 (ob w.heap.size) 1 45 8 (.slice (some ⟨g7,0,none⟩) (n + b.length + d.length + 1) cap7) (n + b.length + d.length + 1) (ics (out ++ (b ++ d ++ [insO 21 3])))):=Lib.hid (by
              have hh : ics (out ++ (b ++ d ++ [insO 21 3])) = ics out ++ ics b ++ ics d ++ (insO 21 3).cs:=by rw [ics_append,ics_append,ics_append,ics_one];simp only [List.append_assoc]
              rw [hh]
              exact ⟨hr7.1,fun g hg=>by
               have h9:=hr7.2 g hg
               rcases Nat.lt_or_ge g w.heap.size with h' | h'
               ·rw [relabel_old (Nat.lt_of_lt_of_le h' hsC),HOL.out g h'] at h9
                cases h9
               ·exact ob_up h'⟩)
             have e6x : w6.cell? ⟨b1,p1 + lm * 8 + 1,none⟩ = some (.int .i64 (lb : Int)):=by
              have hh:=(HC.out.below HB7.out).at hml
              obtain ⟨b9,p9,e9,hat9⟩:=hh
              injection e9 with e9
              injection e9 with e8 e9
              subst e8 e9
              obtain ⟨-,c9,-,-,-,-,-,-⟩:=hat9.ins
              rw [← HJ.out.2] at c9
              exact c9
             have hwb : IntKind.i64.wrap ((lb : Int) - 1) = (lb : Int) - 1:=by rw [IntKind.wrap_i64];omega
             have hbe : (lb : Int) - 1 + 1 = (lb : Int):=by omega
             clear hr4 ht4 hr5 ht5 hr7 ht7 htt HCb HRd HRO3 HOL HBC
             go_wp2_with fail
             go_roundg (e - lb)
             case measure=>have:=HK.out;have:=HLM.out;omega
             case rel=>exact ⟨lb,out ++ (b ++ d ++ [insO 21 3]),by omega,by omega,by (first | rfl | (congr 1;omega)),Lib.hid (by
               have hl9 : (out ++ (b ++ d ++ [insO 21 3])).length = n + b.length + d.length + 1:=by simp only [List.length_append,List.length_cons,List.length_nil,← HN.out];omega
               rw [hl9]
               exact HR7.out),Lib.hid (by
               simp only [List.length_append,List.length_cons,List.length_nil,← HN.out]
               have:=HLM.out
               omega),HB7,HW9⟩
          ·obtain rfl : X = none:=HNO.out (fun hp=>ri5 (HPI.out.1 hp).2.2)
           have ri5' : (e : Int) < ja:=by omega
           go_wp2_with fail
           refine bodyPost_ret (by simp [results,Tryd.results27,go_sem, *];try rfl) rfl ?_
           exact ⟨rfl,HB.out.alloc hsz _⟩
         ·obtain rfl : X = none:=HNO.out (fun hp=>ri4 (HPI.out.1 hp).2.1)
          have ri4' : ja < (la : Int):=by omega
          go_wp2_with fail
          refine bodyPost_ret (by simp [results,Tryd.results27,go_sem, *];try rfl) rfl ?_
          exact ⟨rfl,HB.out.alloc hsz _⟩
        ·obtain rfl : X = none:=HNO.out (fun hp=>ri3 (HPI.out.1 hp).1)
         have ri3' : (jo != 101) = true:=by rw [bne_iff_ne];exact ri3
         go_wp2_with fail
         refine bodyPost_ret (by simp [results,Tryd.results27,go_sem, *];try rfl) rfl ?_
         exact ⟨rfl,HB.out.alloc hsz _⟩
       ·obtain rfl : X = none:=HNO.out (fun hp=>ri2 hp.2.1)
        have ri2' : (e : Int) < a:=by omega
        go_wp2_with fail
        refine bodyPost_ret (by simp [results,Tryd.results27,go_sem, *];try rfl) rfl ?_
        exact ⟨rfl,HB.out.alloc hsz _⟩
      ·obtain rfl : X = none:=HNO.out (fun hp=>ri1 hp.1)
       have ri1' : a ≤ (t : Int) + 1:=by omega
       go_wp2_with fail
       refine bodyPost_ret (by simp [results,Tryd.results27,go_sem, *];try rfl) rfl ?_
       exact ⟨rfl,HB.out.alloc hsz _⟩
     ·have q3 : (op == 102) = false:=by rw [beq_eq_false_iff_ne];exact c3
      have HNA:=Lib.hid (fun (W : World)=>node_any op a tx nb hi lo sc dy W)
      have HNB : Hid (nodeB (ig is t) = nodeB ⟨op,a,tx,nb,hi,lo,sc,dy⟩ ∧ nodeD (ig is t) = nodeD ⟨op,a,tx,nb,hi,lo,sc,dy⟩):=Lib.hid (by rw [← HI.out];exact ⟨rfl,rfl⟩)
      have hRR : nodeB ⟨op,a,tx,nb,hi,lo,sc,dy⟩ = true → nodeR ⟨op,a,tx,nb,hi,lo,sc,dy⟩ = nodeD ⟨op,a,tx,nb,hi,lo,sc,dy⟩:=fun hh=>if_pos hh
      have HRR:=Lib.hid hRR
      obtain ⟨B,hB⟩ : ∃ B,B = nodeB ⟨op,a,tx,nb,hi,lo,sc,dy⟩:=⟨_,rfl⟩
      obtain ⟨R,hR⟩ : ∃ R,R = nodeR ⟨op,a,tx,nb,hi,lo,sc,dy⟩:=⟨_,rfl⟩
      rw [← hB] at HNA HNB HRR
      rw [← hR] at HNA HRR
      clear hB hR hRR
      cases B with
      | false =>
       obtain rfl : X = none:=by
        have hw9:=HW.out
        rw [unD_no hlt (by rw [HOP.out.1];exact c1) (by rw [HOP.out.1];exact c2) (by rw [HOP.out.1];exact c3) HNB.out.1] at hw9
        exact hw9.symm
       go_wp2_with (go_at_call 46;(with_reducible refine (HNA.out _).mono ?_);rintro _ w2 ⟨rfl,hb2⟩)
       refine bodyPost_ret (by simp [results,Tryd.results27,go_sem, *];try rfl) rfl ?_
       have hbN:=(HB.out.alloc hsz _).trans (hb2.mono (HB.out.alloc hsz _).size)
       exact ⟨rfl,hbN.alloc hbN.size _⟩
      | true =>
       have hw9:=HW.out
       rw [unD_node hlt (by rw [HOP.out.1];exact c1) (by rw [HOP.out.1];exact c2) (by rw [HOP.out.1];exact c3) HNB.out.1,unD_fuel f (f + 1) (t + 1) e (by omega) (by omega),conc_one,HNB.out.2,← HRR.out rfl] at hw9
       have HW9:=Lib.hid hw9
       obtain ⟨ro,ra,rt,rn,rh,rl,rs,rd⟩:=R
       dsimp only at HNA
       clear hw9 HW c1 c2 c3
       have hbA : Below w.heap.size w (wr.alloc (.cells #[.int .i64 op,.int .i64 a,.string tx,.bool nb,.int .u64 hi,.int .u64 lo,.int .i64 sc,.int .i64 dy] 43)):=HB.out.alloc hsz _
       have hb1 : Below wr.heap.size wr (wr.alloc (.cells #[.int .i64 op,.int .i64 a,.string tx,.bool nb,.int .u64 hi,.int .u64 lo,.int .i64 sc,.int .i64 dy] 43)):=Below.alloc (Below.refl _ _) (Nat.le_refl _) _
       go_upto_region 8 with (go_at_call 46;(with_reducible refine (HNA.out _).mono ?_);rintro _ w2 ⟨rfl,hb2⟩)
       have hro2:=(ob_kept (ob_kept HRO2.out hb1) hb2).alloc (.cells #[.int .i64 ro,.int .i64 ra,.string rt,.bool rn,.int .u64 rh,.int .u64 rl,.int .i64 rs,.int .i64 rd] 45)
       have hbN:=hbA.trans (hb2.mono hbA.size)
       have hk2:=Bk.new w2 45 [.int .i64 ro,.int .i64 ra,.string rt,.bool rn,.int .u64 rh,.int .u64 rl,.int .i64 rs,.int .i64 rd]
       have hbM : Below w.heap.size w (w2.alloc (.cells #[.int .i64 ro,.int .i64 ra,.string rt,.bool rn,.int .u64 rh,.int .u64 rl,.int .i64 rs,.int .i64 rd] 45)):=hbN.alloc hbN.size _
       obtain ⟨g3,hg3⟩ : ∃ g,g = w2.heap.size:=⟨_,rfl⟩
       rw [← hg3] at hk2 ⊢
       generalize (w2.alloc (.cells #[.int .i64 ro,.int .i64 ra,.string rt,.bool rn,.int .u64 rh,.int .u64 rl,.int .i64 rs,.int .i64 rd] 45)) = w3 at hro2 hk2 hbM ⊢
       have kc0:=hk2.cell 0 rfl
       have kc1:=hk2.cell 1 rfl
       have kc2:=hk2.cell 2 rfl
       have kc3:=hk2.cell 3 rfl
       have kc4:=hk2.cell 4 rfl
       have kc5:=hk2.cell 5 rfl
       have kc6:=hk2.cell 6 rfl
       have kc7:=hk2.cell 7 rfl
       have kf0:=hk2.frozen 0
       have kf1:=hk2.frozen 1
       have kf2:=hk2.frozen 2
       have kf3:=hk2.frozen 3
       have kf4:=hk2.frozen 4
       have kf5:=hk2.frozen 5
       have kf6:=hk2.frozen 6
       have kf7:=hk2.frozen 7
       have kl:=hk2.lt
       have HRO3:=Lib.hid hro2
       have HBM:=Lib.hid hbM
       have hs3:=hbM.size
       clear hro2 hbN hk2 hbM hb2 hb1 hbA hg3 a0 a1 a2 a3 a4 a5 a6 a7
       go_wp2_with (at_builtin;refine wpList_pushR rfl _ _ 22 45 8 72 (.agg #[.int .i64 0,.int .i64 0,.string ⟨#[]⟩,.bool false,.int .u64 0,.int .u64 0,.int .i64 0,.int .i64 0]) rfl Tryd.underlying22 info_node rfl (by decide) (ob w.heap.size) 1 (.slice A8 n C8) n (ics out) rfl (HRO3.out.alloc _) ⟨w3.heap.size,0,none⟩ 1 1 (InsD.mk ro ra rt rn rh rl rs rd).cs rfl rfl (news8 w3 (InsD.mk ro ra rt rn rh rl rs rd) _) (cs_cells _) (by decide) (by omega) (by unfold maxLen;omega) ?_;intro g7 cap7 w5 hr7 ht7 hlt7)
       rw [ob_re (by rw [World.size_alloc];exact Nat.le_succ_of_le hs3)] at hr7 ht7
       rw [← ics_one,← ics_append] at hr7
       have HR7:=Lib.hid hr7
       have HB7:=Lib.hid (ob_below ht7 (HBM.out.alloc hs3 _))
       clear hr7 ht7
       go_roundg (gk - 1)
       case measure=>have:=HK.out;omega
       case rel=>exact ⟨t + 1,out ++ [InsD.mk ro ra rt rn rh rl rs rd],by have:=HK.out;omega,by omega,by go_num,Lib.hid (by rw [List.length_append,← HN.out];exact HR7.out),Lib.hid (by rw [List.length_append,← HN.out];show n + 1 + i ≤ t + 1;omega),HB7,HW9⟩
  ·obtain rfl : t = e:=by omega
   have hx:=HW.out
   rw [unD_end (Nat.le_refl _)] at hx
   obtain rfl : X = some (out ++ []):=hx.symm
   clear hx
   go_wp2_with fail
   refine bodyPost_ret (by simp [results,Tryd.results27,go_sem, *];try rfl) rfl ?_
   exact ⟨_,rfl,HB.out,by rw [List.append_nil,← HN.out];exact HRO2.out⟩
end Go.Proofs.YtnhmplfonkjfoaaDoor

