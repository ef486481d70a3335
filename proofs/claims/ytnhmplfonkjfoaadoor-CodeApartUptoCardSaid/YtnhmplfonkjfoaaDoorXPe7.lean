/- What this law reaches beyond the common contracts, part 7. -/
import Derived.ScopeJumps
import Derived.WalkMore
import Derived.Test.YtnhmplfonkjfoaaDoorM2
import Derived.Test.YtnhmplfonkjfoaaDoorXPe6
set_option linter.unusedSimpArgs false
set_option linter.unusedVariables false


namespace Go.Proofs.YtnhmplfonkjfoaaDoor
open Go.RowKit

def intOf : Value → Int | .int _ q=>q | _=>0
theorem jump_mono {l : Nat} {J J' : Act → World → Prop} {Q : Exit → Act → World → Prop} (h : ∀ a w,J a w → J' a w) : ∀ e a w,Exit.jump l J Q e a w → Exit.jump l J' Q e a w:=fun e a w hh=>by
 cases e with
 | goto l'=>exact ⟨hh.1,h a w hh.2⟩
 | _=>exact hh
theorem wp_scope_label {P : Program} {X : Code} {a : Act} {w : World} {Q : Exit → Act → World → Prop} (l : Nat) (J : Act → World → Prop) (μ : Act → World → Nat) (h0 : J a w)
  (pass : ∀ a w,J a w → X.wp P (Exit.jump l (fun a' w'=>J a' w' ∧ μ a' w' < μ a w) Q) a w) : (Code.scope ((Code.label l).seq X)).wp P Q a w :=
 wp_scope_jumps (rest:=Code.skip.seq X) l J μ (by simp [findLabel]) (wp_seq (wp_label (Code.wp_mono (jump_mono fun _ _ h=>h.1) (pass a w h0)))) (fun a w hJ=>wp_seq (wp_skip (pass a w hJ)))
theorem frame147 (arr : Array Value) (h : arr.size = 147) : ∃ u : Nat → Value,arr = #[u 0,u 1,u 2,u 3,u 4,u 5,u 6,u 7,u 8,u 9,u 10,u 11,u 12,u 13,u 14,u 15,u 16,u 17,u 18,u 19,u 20,u 21,u 22,u 23,u 24,u 25,u 26,u 27,u 28,u 29,u 30,u 31,u 32,u 33,u 34,u 35,u 36,u 37,u 38,u 39,u 40,u 41,u 42,u 43,u 44,u 45,u 46,u 47,u 48,u 49,u 50,u 51,u 52,u 53,u 54,u 55,u 56,u 57,u 58,u 59,u 60,u 61,u 62,u 63,u 64,u 65,u 66,u 67,u 68,u 69,u 70,u 71,u 72,u 73,u 74,u 75,u 76,u 77,u 78,u 79,u 80,u 81,u 82,u 83,u 84,u 85,u 86,u 87,u 88,u 89,u 90,u 91,u 92,u 93,u 94,u 95,u 96,u 97,u 98,u 99,u 100,u 101,u 102,u 103,u 104,u 105,u 106,u 107,u 108,u 109,u 110,u 111,u 112,u 113,u 114,u 115,u 116,u 117,u 118,u 119,u 120,u 121,u 122,u 123,u 124,u 125,u 126,u 127,u 128,u 129,u 130,u 131,u 132,u 133,u 134,u 135,u 136,u 137,u 138,u 139,u 140,u 141,u 142,u 143,u 144,u 145,u 146]:=by
 refine ⟨fun k=>arr.getD k undef, ?_⟩
 have e : arr = ((List.range 147).map fun k=>arr.getD k undef).toArray:=by
  apply Array.ext
  ·simp [h]
  ·intro i h1 h2
   simp [h1]
 exact e.trans rfl
structure Bkm (w0 : World) (o : Nat → Nat) (w : World) (g : Nat) (vC vO : Value) (out : List InsD) : Prop where
 lb : Lb w o 1 g 71 [vC,vO]
 row : Ro w o 2 45 8 vO out.length (ics out)
 turn : Turn (fun l=>l ≠ 0) w0 (fun _=>0) w o
section
variable {w0 w w' : World} {o o' : Nat → Nat} {g : Nat} {vC vO : Value} {out : List InsD}
theorem Bkm.below (h : Bkm w0 o w g vC vO out) : Below w0.heap.size w0 w:=h.turn.below (fun _ _=>by simp) (Nat.le_refl _)
theorem Bkm.kept (h : Bkm w0 o w g vC vO out) (hb : Below w.heap.size w w') : Bkm w0 (relabel o w.heap.size 3) w' g vC vO out:=by
 have t : Turn (fun _=>False) w o w' (relabel o w.heap.size 3):=⟨hb.os,hb.tape,hb.output,hb.size,fun k hk=>relabel_old hk,fun k hk _=>hb.block k hk⟩
 exact ⟨h.lb.turn t (fun hh=>hh),h.row.turn t (fun hh=>hh),h.turn.trans (t.mono fun l hl=>hl.elim)⟩
theorem Bkm.push (h : Bkm w0 o w g vC vO out) {A : Option Addr} {C n : Nat} {q : List InsD} (hn : n = out.length + q.length) (hr : Ro w' o' 2 45 8 (.slice A n C) n (ics out ++ ics q)) (ht : Turn (· = 2) w o w' o') : Bkm w0 o' (w'.setCell ⟨g,1,none⟩ (.slice A n C)) g vC (.slice A n C) (out ++ q):=by
 have hl:=h.lb.turn ht (by decide)
 refine ⟨hl.set_ 1 _, ?_,(h.turn.trans (ht.mono fun l hl=>by have hl' : l = 2:=hl;omega)).setCell (.inl (by
  rcases Nat.lt_or_ge g w0.heap.size with h' | h'
  ·have h9:=(h.turn.trans (ht.mono (S':=fun l=>l ≠ 0) fun l hl=>by have hl' : l = 2:=hl;omega)).num g h'
   rw [hl.2] at h9
   cases h9
  ·exact h')) _⟩
 have e : (out ++ q).length = n:=by rw [List.length_append,hn]
 rw [e,ics_append]
 exact hr.set (by rw [hl.2];decide) _
end
theorem bk_turn {S : Nat → Prop} {wE w w' : World} {oE o : Nat → Nat} (hT : Turn S wE oE w o) (hb : Below w.heap.size w w') : Turn S wE oE w' (relabel o w.heap.size 3) :=
 hT.trans ⟨hb.os,hb.tape,hb.output,hb.size,fun _ hk=>relabel_old hk,fun k hk _=>hb.block k hk⟩
def PartPost (X : Option (List InsD)) (n : Nat) (w0 : World) (oE : Nat → Nat) (wE : World) (g : Nat) (vC : Value) (out : List InsD) (e : Ending) (w' : World) : Prop :=
 ∃ vO L o,e = .returned (.bool X.isSome) ∧ Bkm w0 o w' g vC vO L ∧ Turn (fun l=>l = 1 ∨ l = 2) wE oE w' o ∧ L.length ≤ out.length + n ∧ ∀ Y,X = some Y → L = out ++ Y
def I64 (x : Int) : Prop:=-9223372036854775808 ≤ x ∧ x < 9223372036854775808
theorem tk21 (a : Int) : (tk 21 a).2.2.2.2 = false:=by
 unfold tk
 repeat' split
 all_goals first | rfl | simp_all | omega
def PartOk (is : List InsD) (f : Nat) : Prop:=∀ (i e : Nat) (w0 w : World) (o : Nat → Nat) (g : Nat) (vC vO : Value) (out : List InsD),e - i < f → i ≤ e → e ≤ is.length → out.length + (e - i) ≤ 5000 → Cod w0 vC is → Bkm w0 o w g vC vO out →
 Calls Tryd.prog 28 #[.pointer (some ⟨g,0,none⟩),.int .i64 i,.int .i64 e] w (PartPost (unD is f i e) (e - i) w0 o w g vC out)
set_option maxRecDepth 100000 in
set_option maxHeartbeats 8000000 in
theorem part_step (is : List InsD) (hl : is.length ≤ 600) (hI : ∀ r,r < is.length → I64 (ig is r).a) (f : Nat) (ih : PartOk is f) : PartOk is (f + 1):=fun i e w0 w o g vC vO out hf hie hel hout h hm=>by
 obtain ⟨X,hX⟩ : ∃ X,X = unD is (f + 1) i e:=⟨_,rfl⟩
 rw [← hX]
 have HX:=Lib.hid hX
 have HC:=Lib.hid h
 have HM:=Lib.hid hm
 have HIH:=Lib.hid ih
 obtain ⟨AC,CC,rfl,-,-⟩:=h
 have HI64:=Lib.hid hI
 obtain ⟨wE,hwE⟩ : ∃ x,x = w:=⟨_,rfl⟩
 obtain ⟨oE,hoE⟩ : ∃ x,x = o:=⟨_,rfl⟩
 have HGE : Hid (oE g = 1):=Lib.hid (by rw [hoE];exact hm.lb.2)
 have HT0 : Hid (Turn (fun l=>l = 1 ∨ l = 2) wE oE w o):=Lib.hid (by rw [hwE,hoE];exact Turn.refl _ _ _)
 have HPO : Hid (∀ (E : Ending) (w' : World),PartPost X (e - i) w0 oE wE g (.slice AC is.length CC) out E w' → PartPost X (e - i) w0 o w g (.slice AC is.length CC) out E w'):=Lib.hid (fun E w' hh=>by rw [hwE,hoE] at hh;exact hh)
 clear hX ih hm hI hwE hoE
 refine Calls.mono ?_ HPO.out
 clear HPO
 go_enter Tryd.func28,Tryd.ntmps28
 go_wp2
 refine wp_scope_label 0 (fun a' w'=>∃ (t : Nat) (o : Nat → Nat) (vO : Value) (out2 : List InsD),a'.defers = [] ∧ a'.tmps.size = 147 ∧ a'.tmps.getD 0 undef = .pointer (some ⟨g,0,none⟩) ∧ a'.tmps.getD 1 undef = .int .i64 t ∧ a'.tmps.getD 2 undef = .int .i64 e ∧ i ≤ t ∧ t ≤ e ∧ Hid (Bkm w0 o w' g (.slice AC is.length CC) vO out2) ∧ Hid (Turn (fun l=>l = 1 ∨ l = 2) wE oE w' o) ∧ Hid (out2.length + i ≤ out.length + t) ∧ Hid (∃ q,out2 = out ++ q ∧ X = (unD is (f + 1) t e).map fun r=>q ++ r)) (fun a' _=>e - (intOf (a'.tmps.getD 1 undef)).toNat) ?_ ?_
 ·exact ⟨i,o,vO,out,rfl,rfl,rfl,rfl,rfl,Nat.le_refl _,hie,HM,HT0,Lib.hid (Nat.le_refl _),Lib.hid ⟨[],(List.append_nil _).symm,by rw [HX.out];cases unD is (f + 1) i e <;> rfl⟩⟩
 ·clear HX HM HT0
  intro a w ⟨t,o,vO,out2,hd,hsz,hs0,hs1,hs2,hit,hte,HM,HT,HLN,HW⟩
  obtain ⟨tmps,defers⟩:=a
  dsimp only at hd hsz hs0 hs1 hs2
  obtain ⟨u,hu⟩:=frame147 tmps hsz
  subst hd hu
  have k0 : u 0 = .pointer (some ⟨g,0,none⟩):=hs0
  have k1 : u 1 = .int .i64 t:=hs1
  have k2 : u 2 = .int .i64 e:=hs2
  rw [k0,k1,k2]
  have hmu : e - (intOf (Value.int .i64 (t : Int))).toNat = e - t:=rfl
  clear hsz hs0 hs1 hs2 k0 k1 k2
  obtain ⟨q0,hq0,hx0⟩:=HW.out
  obtain ⟨A4,C4,rfl,-⟩:=HM.out.row.sl.is
  obtain ⟨n,hn⟩ : ∃ n,n = out2.length:=⟨_,rfl⟩
  have HN:=Lib.hid hn
  have hn5 : n ≤ 5000:=by have:=HLN.out;omega
  have HX0:=Lib.hid hx0
  have HQ0:=Lib.hid hq0
  have c0:=HM.out.lb.1.cell 0 rfl
  have c1:=HM.out.lb.1.cell 1 rfl
  have lg:=HM.out.lb.1.lt
  rw [← hn] at c1
  have HRO : Hid (Ro w o 2 45 8 (.slice A4 n C4) n (ics out2)):=Lib.hid (by rw [hn];exact HM.out.row)
  clear hn hx0 hq0
  by_cases hlt : t < e
  ·have htl : t < is.length:=by omega
   obtain ⟨b1,p1,rfl,hat⟩:=(HC.out.below HM.out.below).at htl
   obtain ⟨I,hI⟩ : ∃ I,I = ig is t:=⟨_,rfl⟩
   have hia:=HI64.out t htl
   rw [← hI] at hat hia
   have HI:=Lib.hid hI
   obtain ⟨op,a,tx,nb,hi,lo,sc,dy⟩:=I
   obtain ⟨a0,a1,a2,a3,a4,a5,a6,a7⟩:=hat.ins
   dsimp only at a0 a1 a2 a3 a4 a5 a6 a7 hia
   have hop : (ig is t).op = op:=by rw [← hI]
   have hap : (ig is t).a = a:=by rw [← hI]
   have HOP:=Lib.hid (And.intro hop hap)
   unfold I64 at hia
   have l1:=cell_lt2 a0
   clear hat hI hop hap
   have hb1 : Below w.heap.size w (w.alloc (.cells #[.int .i64 op,.int .i64 a,.string tx,.bool nb,.int .u64 hi,.int .u64 lo,.int .i64 sc,.int .i64 dy] 43)):=Below.alloc (Below.refl _ _) (Nat.le_refl _) _
   have hM1:=HM.out.kept hb1
   have hT1 : Turn (fun l=>l = 1 ∨ l = 2) wE oE (w.alloc (.cells #[.int .i64 op,.int .i64 a,.string tx,.bool nb,.int .u64 hi,.int .u64 lo,.int .i64 sc,.int .i64 dy] 43)) (relabel o w.heap.size 3):=HT.out.trans (((Turn.refl _ w o).alloc _).relabel (Nat.le_refl _) 3)
   have HM1 : Hid (Bkm w0 (relabel o w.heap.size 3) (w.alloc (.cells #[.int .i64 op,.int .i64 a,.string tx,.bool nb,.int .u64 hi,.int .u64 lo,.int .i64 sc,.int .i64 dy] 43)) g (.slice (some ⟨b1,p1,none⟩) is.length CC) (.slice A4 n C4) out2):=Lib.hid (by rw [HN.out];exact hM1)
   have HB1:=Lib.hid hb1
   clear hM1 hb1
   by_cases e2 : op = 103
   ·have HXN : Hid (X = (unD is (f + 1) (t + 1) e).map fun r=>q0 ++ r):=Lib.hid (by rw [HX0.out,unD_enter hlt (by rw [HOP.out.1];exact e2),unD_fuel f (f + 1) (t + 1) e (by omega) (by omega)])
    have E2:=Lib.hid e2
    have q1 : (op == 102) = false:=by rw [beq_eq_false_iff_ne];omega
    have q2 : (op == 103) = true:=by rw [beq_iff_eq];exact e2
    clear e2
    go_wp2_with fail
    go_step3
    refine ⟨rfl,⟨t + 1,relabel o w.heap.size 3,.slice A4 n C4,out2,rfl,rfl,rfl,(by first | rfl | (show Value.int .i64 _ = Value.int .i64 _;congr 1;omega)),rfl,by omega,by omega,HM1,(Lib.hid hT1),(Lib.hid (by have:=HLN.out;omega)),(Lib.hid ⟨q0,HQ0.out,HXN.out⟩)⟩, ?_⟩
    show e - (intOf (Value.int .i64 _)).toNat < e - t
    unfold intOf
    dsimp only
    omega
   ·by_cases e3 : op = 104
    ·have HXN : Hid (X = (unD is (f + 1) (t + 1) e).map fun r=>(q0 ++ [insO 23 2]) ++ r):=Lib.hid (by
      rw [HX0.out,unD_leave hlt (by rw [HOP.out.1];exact e3),unD_fuel f (f + 1) (t + 1) e (by omega) (by omega),Option.map_map]
      congr 1
      funext r
      simp)
     have E3:=Lib.hid e3
     have q1 : (op == 102) = false:=by rw [beq_eq_false_iff_ne];omega
     have q2 : (op == 103) = false:=by rw [beq_eq_false_iff_ne];exact e2
     have q3 : (op == 104) = true:=by rw [beq_iff_eq];exact e3
     have hrow:=HRO.out.turn ((Turn.refl (fun _=>False) w o).alloc (.cells #[.int .i64 op,.int .i64 a,.string tx,.bool nb,.int .u64 hi,.int .u64 lo,.int .i64 sc,.int .i64 dy] 43) |>.relabel (Nat.le_refl _) 3) (fun hh=>hh)
     have lb1:=HM1.out.lb
     clear e3 e2
     go_upto_region 20 with fail
     have HT1:=Lib.hid hT1
     have hb1:=HB1.out
     generalize (w.alloc (.cells #[.int .i64 op,.int .i64 a,.string tx,.bool nb,.int .u64 hi,.int .u64 lo,.int .i64 sc,.int .i64 dy] 43)) = w1 at HM1 HB1 HT1 hrow lb1 hb1 ⊢
     generalize relabel o w.heap.size 3 = o1 at HM1 HT1 hrow lb1
     have c1w:=lb1.1.cell 1 rfl
     have lgw:=lb1.1.lt
     go_wp2_with (at_builtin;refine wpList_pushR rfl _ _ 22 45 8 72 (.agg #[.int .i64 0,.int .i64 0,.string ⟨#[]⟩,.bool false,.int .u64 0,.int .u64 0,.int .i64 0,.int .i64 0]) rfl Tryd.underlying22 info_node rfl (by decide) o1 2 (.slice A4 n C4) n (ics out2) rfl (hrow.alloc _) ⟨w1.heap.size,0,none⟩ 1 1 (insO 23 2).cs rfl rfl (news_o _ _ _ _) (cs_cells _) (by decide) (by omega) (by unfold maxLen;omega) ?_;intro g7 cap7 w5 hr7 ht7 hlt7;have hl9:=(lb1.alloc _).turn ht7 (by decide);have fz:=hl9.1.frozen 1;have lz:=hl9.1.lt;have cz:=hl9.1.cell 1 rfl)
     rw [← ics_one] at hr7
     have htw:=((Turn.refl (· = 2) w1 o1).alloc _).trans ht7
     have HPU:=Lib.hid (HM1.out.push (q:=[insO 23 2]) (by rw [HN.out];rfl) hr7 htw)
     clear c1w lgw
     have HTU:=Lib.hid ((HT1.out.trans (htw.mono (fun l hl=>.inr hl))).setCell (p:=⟨g,1,none⟩) (.inr (.inl HGE.out)) (.slice (some ⟨g7,0,none⟩) (n + 1) cap7))
     go_step3
     refine ⟨rfl,⟨t + 1,_,_,out2 ++ [insO 23 2],rfl,rfl,rfl,(by first | rfl | (show Value.int .i64 _ = Value.int .i64 _;congr 1;omega)),rfl,by omega,by omega,HPU,HTU,(Lib.hid (by rw [List.length_append];have:=HLN.out;show _ + 1 + _ ≤ _;omega)),(Lib.hid ⟨q0 ++ [insO 23 2],by rw [HQ0.out,List.append_assoc],HXN.out⟩)⟩, ?_⟩
     show e - (intOf (Value.int .i64 _)).toNat < e - t
     unfold intOf
     dsimp only
     omega
    ·by_cases e1 : op = 102
     ·have q1 : (op == 102) = true:=by rw [beq_iff_eq];exact e1
      have HNO : Hid (¬ ifP is t e a → X = none):=Lib.hid (fun hp=>by
       rw [HX0.out,unD_ifno hlt (by rw [HOP.out.1];exact e1) (by rw [HOP.out.2];exact hp)];rfl)
      have HYES : Hid (ifP is t e a → X = Option.map (fun r=>q0 ++ r) (match unD is f (t + 1) (a.toNat - 1),unD is f a.toNat (ig is (a.toNat - 1)).a.toNat with
        | some b,some d=>(unD is f (ig is (a.toNat - 1)).a.toNat e).map fun r=>b ++ d ++ [insO 21 3] ++ r
        | _,_=>none)):=Lib.hid (fun hp=>by
       have hw9:=HX0.out
       rw [unD_if hlt (by rw [HOP.out.1];exact e1) (by rw [HOP.out.2];exact hp),HOP.out.2] at hw9
       exact hw9)
      clear e1 e2 e3
      by_cases r1 : (t : Int) + 1 < a
      ·have hwa : IntKind.i64.wrap (a - 1) = a - 1:=by rw [IntKind.wrap_i64];omega
       by_cases r2 : a ≤ (e : Int)
       ·obtain ⟨la,rfl⟩ : ∃ la : Nat,a = (la : Int):=⟨a.toNat,by omega⟩
        rw [Int.toNat_natCast] at HYES
        obtain ⟨lm,hlm⟩ : ∃ lm,lm = la - 1:=⟨_,rfl⟩
        have hwl : IntKind.i64.wrap ((la : Int) - 1) = (lm : Int):=by rw [IntKind.wrap_i64];omega
        have hml : lm < is.length:=by omega
        have htm : t < lm:=by omega
        have hme : lm < e:=by omega
        rw [← hlm] at HYES
        have HLM:=Lib.hid hlm
        obtain ⟨b1',p1',e9,hat⟩:=(HC.out.below HM.out.below).at hml
        injection e9 with e9
        injection e9 with e8 e9
        subst e8 e9
        obtain ⟨j0,j1,-,-,-,-,-,-⟩:=hat.ins
        obtain ⟨jo,hjo⟩ : ∃ y,y = (ig is lm).op:=⟨_,rfl⟩
        obtain ⟨ja,hja⟩ : ∃ y,y = (ig is lm).a:=⟨_,rfl⟩
        rw [← hjo] at j0
        rw [← hja] at j1 HYES
        have HJ:=Lib.hid (And.intro hjo hja)
        have HPI : Hid (ifP is t e (la : Int) ↔ jo = 101 ∧ (la : Int) ≤ ja ∧ ja ≤ (e : Int)):=Lib.hid (by
         unfold ifP
         rw [Int.toNat_natCast,← HLM.out,← HJ.out.1,← HJ.out.2]
         exact ⟨fun h=>h.2.2,fun h=>⟨r1,r2,h⟩⟩)
        have hlmz : (la : Int) = (lm : Int) + 1:=by omega
        have HLZ:=Lib.hid hlmz
        clear hat hjo hja hlm hlmz hwa
        by_cases r3 : jo = 101
        ·have r3' : (jo != 101) = false:=by rw [r3];rfl
         have R3:=Lib.hid r3
         clear r3
         by_cases r4 : (la : Int) ≤ ja
         ·have r4' : (lm : Int) < ja:=by have:=HLZ.out;omega
          by_cases r5 : ja ≤ (e : Int)
          ·have hyes:=HYES.out (HPI.out.2 ⟨R3.out,r4,r5⟩)
           obtain ⟨lb,rfl⟩ : ∃ lb : Nat,ja = (lb : Int):=⟨ja.toNat,by omega⟩
           rw [Int.toNat_natCast] at hyes
           have HYE:=Lib.hid hyes
           have hlab : la ≤ lb:=by omega
           have hlbe : lb ≤ e:=by omega
           clear hyes HYES HNO HPI
           have k7 : Bk (w.alloc (.cells #[.int .i64 op,.int .i64 la,.string tx,.bool nb,.int .u64 hi,.int .u64 lo,.int .i64 sc,.int .i64 dy] 43)) w.heap.size 43 [.int .i64 op,.int .i64 la,.string tx,.bool nb,.int .u64 hi,.int .u64 lo,.int .i64 sc,.int .i64 dy]:=Bk.new w 43 [.int .i64 op,.int .i64 la,.string tx,.bool nb,.int .u64 hi,.int .u64 lo,.int .i64 sc,.int .i64 dy]
           have L7 : Lb (w.alloc (.cells #[.int .i64 op,.int .i64 la,.string tx,.bool nb,.int .u64 hi,.int .u64 lo,.int .i64 sc,.int .i64 dy] 43)) (relabel o w.heap.size 3) 3 w.heap.size 43 _:=⟨k7,relabel_new (Nat.le_refl _)⟩
           have hp1:=HIH.out (t + 1) lm w0 _ _ g _ _ out2 (by omega) (by omega) (by omega) (by have:=HLN.out;omega) HC.out HM1.out
           rw [Int.natCast_add,Int.natCast_one] at hp1
           unfold PartPost at hp1
           have HP1:=Lib.hid hp1
           have HT1:=Lib.hid hT1
           clear hp1 hT1 k7
           obtain ⟨o1,ho1⟩ : ∃ x,x = relabel o w.heap.size 3:=⟨_,rfl⟩
           rw [← ho1] at HM1 HT1 HP1 L7
           have L7h:=Lib.hid L7
           clear ho1 L7
           cases hX1 : unD is f (t + 1) lm with
           | none =>
            rw [hX1] at HP1 HYE
            obtain rfl : X = none:=HYE.out
            clear hX1
            go_wp2_with (go_at_call 28;(with_reducible refine HP1.out.mono ?_);rintro _ w2 ⟨vO1,M1,o2,rfl,hm2,ht2,hl2,hy2⟩)
            simp only [Exit.jump]
            go_ret
            exact ⟨_,M1,o2,rfl,hm2,HT1.out.trans ht2,by have:=HLN.out;omega,fun Y hY=>by cases hY⟩
           | some b =>
            rw [hX1] at HP1 HYE
            have hbl:=unD_len _ _ _ _ hX1
            clear hX1
            go_upto_region 14 with fail
            generalize (w.alloc (.cells #[.int .i64 op,.int .i64 la,.string tx,.bool nb,.int .u64 hi,.int .u64 lo,.int .i64 sc,.int .i64 dy] 43)) = w1 at HM1 HT1 HP1 L7h ⊢
            have hA : lb - la < f:=by omega
            have hCl : lb ≤ is.length:=by omega
            have hD : (out2 ++ b).length + (lb - la) ≤ 5000:=by
             rw [List.length_append]
             have:=HLN.out
             have:=HLM.out
             omega
            clear c0 c1 lg a0 a1 a2 a3 a4 a5 a6 a7 j0 j1 l1
            cases hX2 : unD is f la lb with
            | none =>
             rw [hX2] at HYE
             obtain rfl : X = none:=HYE.out
             go_wp2_with (first | (go_at_call 28;(with_reducible refine HP1.out.mono ?_);rintro _ w2 ⟨vO1,M1,o2,rfl,hm2,ht2,hl2,hy2⟩;obtain rfl:=hy2 b rfl;have hp2:=HIH.out la lb w0 _ _ g _ _ (out2 ++ b) hA hlab hCl hD HC.out hm2;rw [hX2] at hp2;unfold PartPost at hp2;have L72:=L7h.out.turn ht2 (by decide);have c72:=L72.1.cell 1 rfl;have l72:=L72.1.lt) | (go_at_call 28;(with_reducible refine hp2.mono ?_);rintro _ w3 ⟨vO2,M2,o3,rfl,hm3,ht3,hl3,hy3⟩))
             simp only [Exit.jump]
             go_ret
             exact ⟨_,M2,o3,rfl,hm3,(HT1.out.trans ht2).trans ht3,by (have:=HLN.out;have:=HLM.out;rw [List.length_append] at hl3;omega),fun Y hY=>by cases hY⟩
            | some d =>
             rw [hX2] at HYE
             have hdl:=unD_len _ _ _ _ hX2
             have HXN : Hid (X = (unD is (f + 1) lb e).map fun r=>(q0 ++ (b ++ d ++ [insO 21 3])) ++ r):=Lib.hid (by
              have h9:=HYE.out
              dsimp only at h9
              rw [unD_fuel f (f + 1) lb e (by omega) (by omega),Option.map_map] at h9
              rw [h9]
              congr 1
              funext r
              simp)
             go_upto_region 16 with (first | (go_at_call 28;(with_reducible refine HP1.out.mono ?_);rintro _ w2 ⟨vO1,M1,o2,rfl,hm2,ht2,hl2,hy2⟩;obtain rfl:=hy2 b rfl;have hp2:=HIH.out la lb w0 _ _ g _ _ (out2 ++ b) hA hlab hCl hD HC.out hm2;rw [hX2] at hp2;unfold PartPost at hp2;have L72:=L7h.out.turn ht2 (by decide);have c72:=L72.1.cell 1 rfl;have l72:=L72.1.lt) | (go_at_call 28;(with_reducible refine hp2.mono ?_);rintro _ w3 ⟨vO2,M2,o3,rfl,hm3,ht3,hl3,hy3⟩;obtain rfl:=hy3 d rfl))
             have HT3:=Lib.hid ((HT1.out.trans ht2).trans ht3)
             obtain ⟨A6,C6,rfl,-⟩:=hm3.row.sl.is
             obtain ⟨n6,hn6⟩ : ∃ x,x = ((out2 ++ b) ++ d).length:=⟨_,rfl⟩
             have hn7 : n6 ≤ 6000:=by rw [hn6,List.length_append];omega
             have hrow : Ro w3 o3 2 45 8 (.slice A6 n6 C6) n6 (ics ((out2 ++ b) ++ d)):=by rw [hn6];exact hm3.row
             have hmm : Bkm w0 o3 w3 g (.slice (some ⟨b1,p1,none⟩) is.length CC) (.slice A6 n6 C6) ((out2 ++ b) ++ d):=by rw [hn6];exact hm3
             have HMM:=Lib.hid hmm
             have HN6:=Lib.hid hn6
             have lb3:=hmm.lb
             have c1w:=lb3.1.cell 1 rfl
             have lgw:=lb3.1.lt
             clear hm3 hmm hn6 ht2 ht3 hp2 hm2 hl2 hl3 hy2 hy3 L72 c72 l72
             go_wp2_with (at_builtin;refine wpList_pushR rfl _ _ 22 45 8 72 (.agg #[.int .i64 0,.int .i64 0,.string ⟨#[]⟩,.bool false,.int .u64 0,.int .u64 0,.int .i64 0,.int .i64 0]) rfl Tryd.underlying22 info_node rfl (by decide) o3 2 (.slice A6 n6 C6) n6 (ics ((out2 ++ b) ++ d)) rfl (hrow.alloc _) ⟨w3.heap.size,0,none⟩ 1 1 (insO 21 3).cs rfl rfl (news_o _ _ _ _) (cs_cells _) (by decide) (by omega) (by unfold maxLen;omega) ?_;intro g7 cap7 w5 hr7 ht7 hlt7;have hl9:=(lb3.alloc _).turn ht7 (by decide);have fz:=hl9.1.frozen 1;have lz:=hl9.1.lt;have cz:=hl9.1.cell 1 rfl)
             rw [← ics_one] at hr7
             have htw:=((Turn.refl (· = 2) w3 o3).alloc _).trans ht7
             have HPU:=Lib.hid (HMM.out.push (q:=[insO 21 3]) (by rw [HN6.out];rfl) hr7 htw)
             have HTU:=Lib.hid ((HT3.out.trans (htw.mono (fun l hl=>.inr hl))).setCell (p:=⟨g,1,none⟩) (.inr (.inl HGE.out)) (.slice (some ⟨g7,0,none⟩) (n6 + 1) cap7))
             clear c1w lgw
             go_step3
             refine ⟨rfl,⟨lb,_,_,((out2 ++ b) ++ d) ++ [insO 21 3],rfl,rfl,rfl,(by first | rfl | (show Value.int .i64 _ = Value.int .i64 _;congr 1;omega)),rfl,by omega,by omega,HPU,HTU,(Lib.hid (by (rw [List.length_append,List.length_append,List.length_append];have:=HLN.out;have:=HLM.out;show _ + _ + _ + 1 + _ ≤ _;omega))),(Lib.hid ⟨q0 ++ (b ++ d ++ [insO 21 3]),by rw [HQ0.out];simp only [List.append_assoc],HXN.out⟩)⟩, ?_⟩
             show e - (intOf (Value.int .i64 _)).toNat < e - t
             unfold intOf
             dsimp only
             omega
          ·obtain rfl : X = none:=HNO.out (fun hp=>r5 (HPI.out.1 hp).2.2)
           have r5' : (e : Int) < ja:=by omega
           go_wp2_with fail
           simp only [Exit.jump]
           go_ret
           exact ⟨_,out2,_,rfl,HM1.out,hT1,by have:=HLN.out;omega,fun Y hY=>by cases hY⟩
         ·obtain rfl : X = none:=HNO.out (fun hp=>r4 (HPI.out.1 hp).2.1)
          have r4' : ja ≤ (lm : Int):=by have:=HLZ.out;omega
          go_wp2_with fail
          simp only [Exit.jump]
          go_ret
          exact ⟨_,out2,_,rfl,HM1.out,hT1,by have:=HLN.out;omega,fun Y hY=>by cases hY⟩
        ·obtain rfl : X = none:=HNO.out (fun hp=>r3 (HPI.out.1 hp).1)
         have r3' : (jo != 101) = true:=by rw [bne_iff_ne];exact r3
         go_wp2_with fail
         simp only [Exit.jump]
         go_ret
         exact ⟨_,out2,_,rfl,HM1.out,hT1,by have:=HLN.out;omega,fun Y hY=>by cases hY⟩
       ·obtain rfl : X = none:=HNO.out (fun hp=>r2 hp.2.1)
        have r2' : (e : Int) ≤ a - 1:=by omega
        have r1' : ¬ (a - 1 ≤ (t : Int)):=by omega
        go_wp2_with fail
        simp only [Exit.jump]
        go_ret
        exact ⟨_,out2,_,rfl,HM1.out,hT1,by have:=HLN.out;omega,fun Y hY=>by cases hY⟩
      ·obtain rfl : X = none:=HNO.out (fun hp=>r1 hp.1)
       by_cases r0 : a = -9223372036854775808
       ·obtain ⟨am,hwm,r2',r1'⟩ : ∃ am : Int,IntKind.i64.wrap (a - 1) = am ∧ (e : Int) ≤ am ∧ ¬ (am ≤ (t : Int)):=⟨_,rfl,by rw [r0,IntKind.wrap_i64];omega,by rw [r0,IntKind.wrap_i64];omega⟩
        clear r0 r1 hia
        go_wp2_with fail
        simp only [Exit.jump]
        go_ret
        exact ⟨_,out2,_,rfl,HM1.out,hT1,by have:=HLN.out;omega,fun Y hY=>by cases hY⟩
       ·have hwa : IntKind.i64.wrap (a - 1) = a - 1:=by rw [IntKind.wrap_i64];omega
        have r1' : a - 1 ≤ (t : Int):=by omega
        go_wp2_with fail
        simp only [Exit.jump]
        go_ret
        exact ⟨_,out2,_,rfl,HM1.out,hT1,by have:=HLN.out;omega,fun Y hY=>by cases hY⟩
     ·have HEF:=Lib.hid (fun (W : World)=>effect_any op a tx nb hi lo sc dy W)
      have HNB : Hid (nodeB (ig is t) = ((tk op a).2.2.2.2 && !(decide (101 ≤ op)) && !(op == 21) && !(op == 23)) ∧ nodeD (ig is t) = ⟨op,(tk op a).1,tx,nb,hi,lo,sc,dy⟩):=Lib.hid (by rw [← HI.out];exact ⟨rfl,rfl⟩)
      have H21 : Hid (op = 21 → (tk op a).2.2.2.2 = false):=Lib.hid (fun hh=>by rw [hh];exact tk21 a)
      have HNO : Hid (nodeB (ig is t) = false → X = none):=Lib.hid (fun hh=>by rw [HX0.out,unD_no hlt (by rw [HOP.out.1];exact e2) (by rw [HOP.out.1];exact e3) (by rw [HOP.out.1];exact e1) hh];rfl)
      have HYE : Hid (nodeB (ig is t) = true → X = (unD is (f + 1) (t + 1) e).map fun r=>(q0 ++ [nodeD (ig is t)]) ++ r):=Lib.hid (fun hh=>by
       rw [HX0.out,unD_node hlt (by rw [HOP.out.1];exact e2) (by rw [HOP.out.1];exact e3) (by rw [HOP.out.1];exact e1) hh,unD_fuel f (f + 1) (t + 1) e (by omega) (by omega),Option.map_map]
       congr 1
       funext r
       simp)
      have q1 : (op == 102) = false:=by rw [beq_eq_false_iff_ne];exact e1
      have q2 : (op == 103) = false:=by rw [beq_eq_false_iff_ne];exact e2
      have q3 : (op == 104) = false:=by rw [beq_eq_false_iff_ne];exact e3
      obtain ⟨⟨t1,t2,t3,t4,t5⟩,ht⟩ : ∃ t,t = tk op a:=⟨_,rfl⟩
      rw [← ht] at HEF HNB H21
      dsimp only at HEF HNB H21
      clear ht e1 e2 e3
      cases t5 with
      | false =>
       obtain rfl : X = none:=HNO.out (by rw [HNB.out.1];rfl)
       go_wp2_with ((go_at_call 25;with_reducible refine (HEF.out _).mono ?_);rintro _ w2 ⟨rfl,hb2⟩;have hb2s:=hb2.size;(try simp only [wsA,wsS,wsD,wsN] at hb2s);obtain ⟨hb2c,hb2f⟩:=bcell hb2;(try have : w.heap.size < w2.heap.size:=by omega);(try have : w.heap.size + 1 < w2.heap.size:=by omega);(try have : w.heap.size + 1 + 1 < w2.heap.size:=by omega);(try have : w.heap.size + 1 + 1 + 1 < w2.heap.size:=by omega))
       simp only [Exit.jump]
       go_ret
       have hbX : Below w.heap.size w (w2.alloc (.cells #[.int .i64 t1,.int .i64 t2,.int .i64 t3,.int .i64 t4] 62)):=(HB1.out.trans (hb2.mono HB1.out.size)).alloc (Nat.le_trans HB1.out.size hb2.size) _
       exact ⟨_,out2,_,rfl,HM.out.kept hbX,bk_turn HT.out hbX,by have:=HLN.out;omega,fun Y hY=>by cases hY⟩
      | true =>
       by_cases d1 : 101 ≤ op
       ·obtain rfl : X = none:=HNO.out (by rw [HNB.out.1,decide_eq_true d1];rfl)
        go_wp2_with ((go_at_call 25;with_reducible refine (HEF.out _).mono ?_);rintro _ w2 ⟨rfl,hb2⟩;have hb2s:=hb2.size;(try simp only [wsA,wsS,wsD,wsN] at hb2s);obtain ⟨hb2c,hb2f⟩:=bcell hb2;(try have : w.heap.size < w2.heap.size:=by omega);(try have : w.heap.size + 1 < w2.heap.size:=by omega);(try have : w.heap.size + 1 + 1 < w2.heap.size:=by omega);(try have : w.heap.size + 1 + 1 + 1 < w2.heap.size:=by omega))
        simp only [Exit.jump]
        go_ret
        have hbX : Below w.heap.size w (w2.alloc (.cells #[.int .i64 t1,.int .i64 t2,.int .i64 t3,.int .i64 t4] 62)):=(HB1.out.trans (hb2.mono HB1.out.size)).alloc (Nat.le_trans HB1.out.size hb2.size) _
        exact ⟨_,out2,_,rfl,HM.out.kept hbX,bk_turn HT.out hbX,by have:=HLN.out;omega,fun Y hY=>by cases hY⟩
       ·by_cases d2 : op = 23
        ·have hx : X = none:=HNO.out (by rw [HNB.out.1,d2];rfl)
         obtain rfl:=hx
         have q4 : (op == 23) = true:=by rw [beq_iff_eq];exact d2
         clear d2
         go_wp2_with ((go_at_call 25;with_reducible refine (HEF.out _).mono ?_);rintro _ w2 ⟨rfl,hb2⟩;have hb2s:=hb2.size;(try simp only [wsA,wsS,wsD,wsN] at hb2s);obtain ⟨hb2c,hb2f⟩:=bcell hb2;(try have : w.heap.size < w2.heap.size:=by omega);(try have : w.heap.size + 1 < w2.heap.size:=by omega);(try have : w.heap.size + 1 + 1 < w2.heap.size:=by omega);(try have : w.heap.size + 1 + 1 + 1 < w2.heap.size:=by omega))
         simp only [Exit.jump]
         go_ret
         have hbX : Below w.heap.size w (w2.alloc (.cells #[.int .i64 t1,.int .i64 t2,.int .i64 t3,.int .i64 t4] 62)):=(HB1.out.trans (hb2.mono HB1.out.size)).alloc (Nat.le_trans HB1.out.size hb2.size) _
         exact ⟨_,out2,_,rfl,HM.out.kept hbX,bk_turn HT.out hbX,by have:=HLN.out;omega,fun Y hY=>by cases hY⟩
        ·have q4 : (op == 23) = false:=by rw [beq_eq_false_iff_ne];exact d2
         have d3 : ¬ op = 21:=fun hh=>Bool.noConfusion (H21.out hh)
         have hnb : nodeB (ig is t) = true:=by
          rw [HNB.out.1,decide_eq_false d1,q4,show (op == 21) = false by rw [beq_eq_false_iff_ne];exact d3]
          rfl
         have HXN:=Lib.hid (HYE.out hnb)
         rw [HNB.out.2] at HXN
         clear hnb HYE HNO
         go_upto_region 8 with ((go_at_call 25;with_reducible refine (HEF.out _).mono ?_);rintro _ w2 ⟨rfl,hb2⟩;have hb2s:=hb2.size;(try simp only [wsA,wsS,wsD,wsN] at hb2s);obtain ⟨hb2c,hb2f⟩:=bcell hb2;(try have : w.heap.size < w2.heap.size:=by omega);(try have : w.heap.size + 1 < w2.heap.size:=by omega);(try have : w.heap.size + 1 + 1 < w2.heap.size:=by omega);(try have : w.heap.size + 1 + 1 + 1 < w2.heap.size:=by omega))
         have hb12:=HB1.out.trans (hb2.mono HB1.out.size)
         have hbX : Below w.heap.size w (w2.alloc (.cells #[.int .i64 t1,.int .i64 t2,.int .i64 t3,.int .i64 t4] 62)).drew:=(hb12.alloc hb12.size _).drew
         have hMX:=HM.out.kept hbX
         rw [← HN.out] at hMX
         have hTX:=bk_turn HT.out hbX
         have hk7 : Bk (w2.alloc (.cells #[.int .i64 t1,.int .i64 t2,.int .i64 t3,.int .i64 t4] 62)).drew w.heap.size 43 [.int .i64 op,.int .i64 a,.string tx,.bool nb,.int .u64 hi,.int .u64 lo,.int .i64 sc,.int .i64 dy]:=(((Bk.new w 43 [.int .i64 op,.int .i64 a,.string tx,.bool nb,.int .u64 hi,.int .u64 lo,.int .i64 sc,.int .i64 dy]).below hb2 (by rw [World.size_alloc];exact Nat.lt_succ_self _)).alloc _).drew
         have hk10:=Bk.drew (Bk.new w2 62 [.int .i64 t1,.int .i64 t2,.int .i64 t3,.int .i64 t4])
         have l7 : relabel o w.heap.size 3 w.heap.size = 3:=relabel_new (Nat.le_refl _)
         have l10 : relabel o w.heap.size 3 w2.heap.size = 3:=relabel_new hb12.size
         refine wp_region_held_drew (S:=fun w'=>w'.cell? ⟨w.heap.size,0,none⟩ = some (.int .i64 op) ∧ w'.cell? ⟨w.heap.size,2,none⟩ = some (.string tx) ∧ w'.cell? ⟨w.heap.size,3,none⟩ = some (.bool nb) ∧ w'.cell? ⟨w.heap.size,4,none⟩ = some (.int .u64 hi) ∧ w'.cell? ⟨w.heap.size,5,none⟩ = some (.int .u64 lo) ∧ w'.cell? ⟨w.heap.size,6,none⟩ = some (.int .i64 sc) ∧ w'.cell? ⟨w.heap.size,7,none⟩ = some (.int .i64 dy) ∧ w'.cell? ⟨w2.heap.size,0,none⟩ = some (.int .i64 t1)) (by kernel_rfl) ⟨hk7.cell 0 rfl,hk7.cell 2 rfl,hk7.cell 3 rfl,hk7.cell 4 rfl,hk7.cell 5 rfl,hk7.cell 6 rfl,hk7.cell 7 rfl,hk10.cell 0 rfl⟩ (fun hHeld=>?_)
         obtain ⟨g7,hg7⟩ : ∃ g,g = w.heap.size:=⟨_,rfl⟩
         obtain ⟨g10,hg10⟩ : ∃ g,g = w2.heap.size:=⟨_,rfl⟩
         generalize relabel o w.heap.size 3 = o1 at hMX hTX l7 l10
         rw [← hg7] at hk7 l7 hHeld ⊢
         rw [← hg10] at hk10 l10 hHeld ⊢
         generalize (w2.alloc (.cells #[.int .i64 t1,.int .i64 t2,.int .i64 t3,.int .i64 t4] 62)).drew = w1 at hMX hTX hk7 hk10 hHeld ⊢
         have L7 : Lb w1 o1 3 g7 43 _:=⟨hk7,l7⟩
         have L10 : Lb w1 o1 3 g10 62 _:=⟨hk10,l10⟩
         have lb1:=hMX.lb
         have c1w:=lb1.1.cell 1 rfl
         have lgw:=lb1.1.lt
         have hrow : Ro w1 o1 2 45 8 (.slice A4 n C4) n (ics out2):=by have hh:=hMX.row;rw [← HN.out] at hh;exact hh
         have HMX:=Lib.hid hMX
         have HTX:=Lib.hid hTX
         clear hk7 hk10 l7 l10 hMX hTX hbX hb12 hg7 hg10 a0 a1 a2 a3 a4 a5 a6 a7 hb2 hb2c hb2f hb2s c0 c1 lg
         refine wpAnyH_take (i:=0) (v:=?_) rfl (by kernel_rfl) (by kernel_rfl) (by kernel_rfl) (fun _ _ _ h=>h) (Or.inl ⟨by rfl, ?_⟩) (by assumption) ?_
         rotate_left
         (focus (intro w hSw;(try dsimp only at hSw);go_simp;(try with_reducible rfl)))
         (try simp only [Act.put,List.setIfInBounds_toArray,List.set_cons_zero,List.set_cons_succ])
         refine wpAnyH_take (i:=1) (v:=?_) rfl (by kernel_rfl) (by kernel_rfl) (by kernel_rfl) (fun _ _ _ h=>h) (Or.inl ⟨by rfl, ?_⟩) (by assumption) ?_
         rotate_left
         (focus (intro w hSw;(try dsimp only at hSw);go_simp;(try with_reducible rfl)))
         (try simp only [Act.put,List.setIfInBounds_toArray,List.set_cons_zero,List.set_cons_succ])
         refine wpAnyH_take (i:=2) (v:=?_) rfl (by kernel_rfl) (by kernel_rfl) (by kernel_rfl) (fun _ _ _ h=>h) (Or.inl ⟨by rfl, ?_⟩) (by assumption) ?_
         rotate_left
         (focus (intro w hSw;(try dsimp only at hSw);go_simp;(try with_reducible rfl)))
         (try simp only [Act.put,List.setIfInBounds_toArray,List.set_cons_zero,List.set_cons_succ])
         refine wpAnyH_take (i:=3) (v:=?_) rfl (by kernel_rfl) (by kernel_rfl) (by kernel_rfl) (fun _ _ _ h=>h) (Or.inl ⟨by rfl, ?_⟩) (by assumption) ?_
         rotate_left
         (focus (intro w hSw;(try dsimp only at hSw);go_simp;(try with_reducible rfl)))
         (try simp only [Act.put,List.setIfInBounds_toArray,List.set_cons_zero,List.set_cons_succ])
         refine wpAnyH_take (i:=5) (v:=?_) rfl (by kernel_rfl) (by kernel_rfl) (by kernel_rfl) (fun _ _ _ h=>h) (Or.inl ⟨by rfl, ?_⟩) (by assumption) ?_
         rotate_left
         (focus (intro w hSw;(try dsimp only at hSw);go_simp;(try with_reducible rfl)))
         (try simp only [Act.put,List.setIfInBounds_toArray,List.set_cons_zero,List.set_cons_succ])
         refine wpAnyH_take (i:=6) (v:=?_) rfl (by kernel_rfl) (by kernel_rfl) (by kernel_rfl) (fun _ _ _ h=>h) (Or.inl ⟨by rfl, ?_⟩) (by assumption) ?_
         rotate_left
         (focus (intro w hSw;(try dsimp only at hSw);go_simp;(try with_reducible rfl)))
         (try simp only [Act.put,List.setIfInBounds_toArray,List.set_cons_zero,List.set_cons_succ])
         refine wpAnyH_take (i:=7) (v:=?_) rfl (by kernel_rfl) (by kernel_rfl) (by kernel_rfl) (fun _ _ _ h=>h) (Or.inl ⟨by rfl, ?_⟩) (by assumption) ?_
         rotate_left
         (focus (intro w hSw;(try dsimp only at hSw);go_simp;(try with_reducible rfl)))
         (try simp only [Act.put,List.setIfInBounds_toArray,List.set_cons_zero,List.set_cons_succ])
         refine wpAnyH_take (i:=8) (v:=?_) rfl (by kernel_rfl) (by kernel_rfl) (by kernel_rfl) (fun _ _ _ h=>h) (Or.inl ⟨by rfl, ?_⟩) (by assumption) ?_
         rotate_left
         (focus (intro w hSw;(try dsimp only at hSw);go_simp;(try with_reducible rfl)))
         (try simp only [Act.put,List.setIfInBounds_toArray,List.set_cons_zero,List.set_cons_succ])
         refine wpAnyH_take (i:=9) (v:=?_) rfl (by kernel_rfl) (by kernel_rfl) (by kernel_rfl) (fun _ _ _ h=>h) (Or.inl ⟨by rfl, ?_⟩) (by assumption) ?_
         rotate_left
         (focus (intro w hSw;(try dsimp only at hSw);go_simp;(try with_reducible rfl)))
         (try simp only [Act.put,List.setIfInBounds_toArray,List.set_cons_zero,List.set_cons_succ])
         refine wpAnyH_take (i:=10) (v:=?_) rfl (by kernel_rfl) (by kernel_rfl) (by kernel_rfl) (fun _ _ _ h=>h) (Or.inl ⟨by rfl, ?_⟩) (by assumption) ?_
         rotate_left
         (focus (intro w hSw;(try dsimp only at hSw);go_simp;(try with_reducible rfl)))
         (try simp only [Act.put,List.setIfInBounds_toArray,List.set_cons_zero,List.set_cons_succ])
         refine wpAnyH_take (i:=11) (v:=?_) rfl (by kernel_rfl) (by kernel_rfl) (by kernel_rfl) (fun _ _ _ h=>h) (Or.inl ⟨by rfl, ?_⟩) (by assumption) ?_
         rotate_left
         (focus (intro w hSw;(try dsimp only at hSw);go_simp;(try with_reducible rfl)))
         (try simp only [Act.put,List.setIfInBounds_toArray,List.set_cons_zero,List.set_cons_succ])
         refine wpAnyH_take (i:=12) (v:=?_) rfl (by kernel_rfl) (by kernel_rfl) (by kernel_rfl) (fun _ _ _ h=>h) (Or.inl ⟨by rfl, ?_⟩) (by assumption) ?_
         rotate_left
         (focus (intro w hSw;(try dsimp only at hSw);go_simp;(try with_reducible rfl)))
         (try simp only [Act.put,List.setIfInBounds_toArray,List.set_cons_zero,List.set_cons_succ])
         refine wpAnyH_take (i:=13) (v:=?_) rfl (by kernel_rfl) (by kernel_rfl) (by kernel_rfl) (fun _ _ _ h=>h) (Or.inl ⟨by rfl, ?_⟩) (by assumption) ?_
         rotate_left
         (focus (intro w hSw;(try dsimp only at hSw);go_simp;(try with_reducible rfl)))
         (try simp only [Act.put,List.setIfInBounds_toArray,List.set_cons_zero,List.set_cons_succ])
         refine wpAnyH_take (i:=14) (v:=?_) rfl (by kernel_rfl) (by kernel_rfl) (by kernel_rfl) (fun _ _ _ h=>h) (Or.inl ⟨by rfl, ?_⟩) (by assumption) ?_
         rotate_left
         (focus (intro w hSw;(try dsimp only at hSw);go_simp;(try with_reducible rfl)))
         (try simp only [Act.put,List.setIfInBounds_toArray,List.set_cons_zero,List.set_cons_succ])
         refine wpAnyH_take (i:=15) (v:=?_) rfl (by kernel_rfl) (by kernel_rfl) (by kernel_rfl) (fun _ _ _ h=>h) (Or.inl ⟨by rfl, ?_⟩) (by assumption) ?_
         rotate_left
         (focus (intro w hSw;(try dsimp only at hSw);go_simp;(try with_reducible rfl)))
         (try simp only [Act.put,List.setIfInBounds_toArray,List.set_cons_zero,List.set_cons_succ])
         refine wpAnyH_ready (rs:=[4,16]) (by kernel_rfl) (by simp) ?_
         refine AllReadyH.cons (by rw [List.getElem?_toArray];exact rfl) (fun K hK=>?_) (AllReadyH.cons (by rw [List.getElem?_toArray];exact rfl) (fun K hK=>?_) AllReadyH.nil)
         ·(have tok4 : True:=trivial;clear tok4;go_simp)
          refine hK.out _ _ ⟨L7.1.cell 0 rfl,L7.1.cell 2 rfl,L7.1.cell 3 rfl,L7.1.cell 4 rfl,L7.1.cell 5 rfl,L7.1.cell 6 rfl,L7.1.cell 7 rfl,L10.1.cell 0 rfl⟩ (fun hHeld=>?_)
          clear hK K
          (try simp only [Act.put,List.setIfInBounds_toArray,List.set_cons_zero,List.set_cons_succ])
          refine wpAnyH_ready (rs:=[16]) (by kernel_rfl) (by simp) ?_
          refine AllReadyH.cons (by rw [List.getElem?_toArray];exact rfl) (fun K hK=>?_) AllReadyH.nil
          (have tok16 : True:=trivial;clear tok16;go_simp)
          have L73:=L7.alloc (.cells #[.int .i64 op,.int .i64 t1,.string tx,.bool nb,.int .u64 hi,.int .u64 lo,.int .i64 sc,.int .i64 dy] 45)
          have L103:=L10.alloc (.cells #[.int .i64 op,.int .i64 t1,.string tx,.bool nb,.int .u64 hi,.int .u64 lo,.int .i64 sc,.int .i64 dy] 45)
          refine hK.out _ _ ⟨L73.1.cell 0 rfl,L73.1.cell 2 rfl,L73.1.cell 3 rfl,L73.1.cell 4 rfl,L73.1.cell 5 rfl,L73.1.cell 6 rfl,L73.1.cell 7 rfl,L103.1.cell 0 rfl⟩ (fun hHeld=>?_)
          clear hK K
          (try simp only [Act.put,List.setIfInBounds_toArray,List.set_cons_zero,List.set_cons_succ])
          refine wpAnyH_ready (rs:=[17]) (by kernel_rfl) (by simp) ?_
          refine AllReadyH.cons (by rw [List.getElem?_toArray];exact rfl) (fun K hK=>?_) AllReadyH.nil
          refine step_pushR rfl _ _ 22 45 8 72 (.agg #[.int .i64 0,.int .i64 0,.string ⟨#[]⟩,.bool false,.int .u64 0,.int .u64 0,.int .i64 0,.int .i64 0]) rfl Tryd.underlying22 info_node rfl (by decide) o1 2 (.slice A4 n C4) n (ics out2) rfl (hrow.alloc _) ⟨w1.heap.size,0,none⟩ 1 1 (InsD.mk op t1 tx nb hi lo sc dy).cs rfl rfl (news8 w1 (InsD.mk op t1 tx nb hi lo sc dy) _) (cs_cells _) (by decide) (by omega) (by unfold maxLen;omega) ?_
          intro g5 cap5 w9 hr5 ht5 hlt5
          have L79:=L73.turn ht5 (by decide)
          have L109:=L103.turn ht5 (by decide)
          have hl9:=(lb1.alloc (.cells #[.int .i64 op,.int .i64 t1,.string tx,.bool nb,.int .u64 hi,.int .u64 lo,.int .i64 sc,.int .i64 dy] 45)).turn ht5 (by decide)
          have fz:=hl9.1.frozen 1
          have lz:=hl9.1.lt
          have cz:=hl9.1.cell 1 rfl
          refine hK.out _ _ ⟨L79.1.cell 0 rfl,L79.1.cell 2 rfl,L79.1.cell 3 rfl,L79.1.cell 4 rfl,L79.1.cell 5 rfl,L79.1.cell 6 rfl,L79.1.cell 7 rfl,L109.1.cell 0 rfl⟩ (fun hHeld=>?_)
          clear hK K
          (try simp only [Act.put,List.setIfInBounds_toArray,List.set_cons_zero,List.set_cons_succ])
          refine wpAnyH_take (i:=18) (v:=?_) rfl (by kernel_rfl) (by kernel_rfl) (by kernel_rfl) (fun _ _ _ h=>h) (Or.inl ⟨by rfl, ?_⟩) (by assumption) ?_
          rotate_left
          (focus (intro w hSw;(try dsimp only at hSw);go_simp;(try with_reducible rfl)))
          (try simp only [Act.put,List.setIfInBounds_toArray,List.set_cons_zero,List.set_cons_succ])
          refine wpAnyH_take (i:=19) (v:=?_) rfl (by kernel_rfl) (by kernel_rfl) (by kernel_rfl) (fun _ _ _ h=>h) (Or.inl ⟨by rfl, ?_⟩) (by assumption) ?_
          rotate_left
          (focus (intro w hSw;(try dsimp only at hSw);go_simp;(try with_reducible rfl)))
          (try simp only [Act.put,List.setIfInBounds_toArray,List.set_cons_zero,List.set_cons_succ])
          refine wpAnyH_ready (rs:=[20]) (by kernel_rfl) (by simp) ?_
          refine AllReadyH.cons (by rw [List.getElem?_toArray];exact rfl) (fun K hK=>?_) AllReadyH.nil
          (have tok20 : True:=trivial;clear tok20;go_simp)
          have L7a:=L79.far (p:=⟨g,1,none⟩) (by show _ ≠ 3;rw [hl9.2];decide) (.slice (some ⟨g5,0,none⟩) (n + 1) cap5)
          have L10a:=L109.far (p:=⟨g,1,none⟩) (by show _ ≠ 3;rw [hl9.2];decide) (.slice (some ⟨g5,0,none⟩) (n + 1) cap5)
          refine hK.out _ _ ⟨L7a.1.cell 0 rfl,L7a.1.cell 2 rfl,L7a.1.cell 3 rfl,L7a.1.cell 4 rfl,L7a.1.cell 5 rfl,L7a.1.cell 6 rfl,L7a.1.cell 7 rfl,L10a.1.cell 0 rfl⟩ (fun hHeld=>?_)
          clear hK K
          (try simp only [Act.put,List.setIfInBounds_toArray,List.set_cons_zero,List.set_cons_succ])
          refine wpAnyH_done (by kernel_rfl) ?_ _
          (try simp only [List.getElem_toArray,List.getElem_cons_succ,List.getElem_cons_zero,List.setIfInBounds_toArray,List.set_cons_zero,List.set_cons_succ])
          have htw:=((Turn.refl (· = 2) w1 o1).alloc (.cells #[.int .i64 op,.int .i64 t1,.string tx,.bool nb,.int .u64 hi,.int .u64 lo,.int .i64 sc,.int .i64 dy] 45)).trans ht5
          have HPU:=Lib.hid (HMX.out.push (q:=[InsD.mk op t1 tx nb hi lo sc dy]) (n:=n + 1) (by rw [HN.out];rfl) (by rw [ics_one];exact hr5) htw)
          have HTU:=Lib.hid ((HTX.out.trans (htw.mono (fun l hl=>.inr hl))).setCell (p:=⟨g,1,none⟩) (.inr (.inl HGE.out)) (.slice (some ⟨g5,0,none⟩) (n + 1) cap5))
          clear hr5 ht5 htw L7a L10a L79 L109 L73 L103 hl9 hHeld c1w lgw
          go_wp2_with fail
          go_step3
          refine ⟨rfl,⟨t + 1,_,_,out2 ++ [InsD.mk op t1 tx nb hi lo sc dy],rfl,rfl,rfl,(by first | rfl | (show Value.int .i64 _ = Value.int .i64 _;congr 1;omega)),rfl,by omega,by omega,HPU,HTU,(Lib.hid (by rw [List.length_append];have:=HLN.out;show _ + 1 + _ ≤ _;omega)),(Lib.hid ⟨q0 ++ [InsD.mk op t1 tx nb hi lo sc dy],by rw [HQ0.out,List.append_assoc],HXN.out⟩)⟩, ?_⟩
          show e - (intOf (Value.int .i64 _)).toNat < e - t
          unfold intOf
          dsimp only
          omega
         ·(have tok16 : True:=trivial;clear tok16;go_simp)
          have L72:=L7.alloc (.cells #[.int .i64 op,.int .i64 t1,.string tx,.bool nb,.int .u64 hi,.int .u64 lo,.int .i64 sc,.int .i64 dy] 45)
          have L102:=L10.alloc (.cells #[.int .i64 op,.int .i64 t1,.string tx,.bool nb,.int .u64 hi,.int .u64 lo,.int .i64 sc,.int .i64 dy] 45)
          have c1w2:=(World.cell?_alloc_lt w1 (.cells #[.int .i64 op,.int .i64 t1,.string tx,.bool nb,.int .u64 hi,.int .u64 lo,.int .i64 sc,.int .i64 dy] 45) ⟨g,1,none⟩ lgw).trans c1w
          refine hK.out _ _ ⟨L72.1.cell 0 rfl,L72.1.cell 2 rfl,L72.1.cell 3 rfl,L72.1.cell 4 rfl,L72.1.cell 5 rfl,L72.1.cell 6 rfl,L72.1.cell 7 rfl,L102.1.cell 0 rfl⟩ (fun hHeld=>?_)
          clear hK K
          (try simp only [Act.put,List.setIfInBounds_toArray,List.set_cons_zero,List.set_cons_succ])
          refine wpAnyH_ready (rs:=[4]) (by kernel_rfl) (by simp) ?_
          refine AllReadyH.cons (by rw [List.getElem?_toArray];exact rfl) (fun K hK=>?_) AllReadyH.nil
          (have tok4 : True:=trivial;clear tok4;go_simp)
          have L73:=L7.alloc (.cells #[.int .i64 op,.int .i64 t1,.string tx,.bool nb,.int .u64 hi,.int .u64 lo,.int .i64 sc,.int .i64 dy] 45)
          have L103:=L10.alloc (.cells #[.int .i64 op,.int .i64 t1,.string tx,.bool nb,.int .u64 hi,.int .u64 lo,.int .i64 sc,.int .i64 dy] 45)
          refine hK.out _ _ ⟨L73.1.cell 0 rfl,L73.1.cell 2 rfl,L73.1.cell 3 rfl,L73.1.cell 4 rfl,L73.1.cell 5 rfl,L73.1.cell 6 rfl,L73.1.cell 7 rfl,L103.1.cell 0 rfl⟩ (fun hHeld=>?_)
          clear hK K
          (try simp only [Act.put,List.setIfInBounds_toArray,List.set_cons_zero,List.set_cons_succ])
          refine wpAnyH_ready (rs:=[17]) (by kernel_rfl) (by simp) ?_
          refine AllReadyH.cons (by rw [List.getElem?_toArray];exact rfl) (fun K hK=>?_) AllReadyH.nil
          refine step_pushR rfl _ _ 22 45 8 72 (.agg #[.int .i64 0,.int .i64 0,.string ⟨#[]⟩,.bool false,.int .u64 0,.int .u64 0,.int .i64 0,.int .i64 0]) rfl Tryd.underlying22 info_node rfl (by decide) o1 2 (.slice A4 n C4) n (ics out2) rfl (hrow.alloc _) ⟨w1.heap.size,0,none⟩ 1 1 (InsD.mk op t1 tx nb hi lo sc dy).cs rfl rfl (news8 w1 (InsD.mk op t1 tx nb hi lo sc dy) _) (cs_cells _) (by decide) (by omega) (by unfold maxLen;omega) ?_
          intro g5 cap5 w9 hr5 ht5 hlt5
          have L79:=L73.turn ht5 (by decide)
          have L109:=L103.turn ht5 (by decide)
          have hl9:=(lb1.alloc (.cells #[.int .i64 op,.int .i64 t1,.string tx,.bool nb,.int .u64 hi,.int .u64 lo,.int .i64 sc,.int .i64 dy] 45)).turn ht5 (by decide)
          have fz:=hl9.1.frozen 1
          have lz:=hl9.1.lt
          have cz:=hl9.1.cell 1 rfl
          refine hK.out _ _ ⟨L79.1.cell 0 rfl,L79.1.cell 2 rfl,L79.1.cell 3 rfl,L79.1.cell 4 rfl,L79.1.cell 5 rfl,L79.1.cell 6 rfl,L79.1.cell 7 rfl,L109.1.cell 0 rfl⟩ (fun hHeld=>?_)
          clear hK K
          (try simp only [Act.put,List.setIfInBounds_toArray,List.set_cons_zero,List.set_cons_succ])
          refine wpAnyH_take (i:=18) (v:=?_) rfl (by kernel_rfl) (by kernel_rfl) (by kernel_rfl) (fun _ _ _ h=>h) (Or.inl ⟨by rfl, ?_⟩) (by assumption) ?_
          rotate_left
          (focus (intro w hSw;(try dsimp only at hSw);go_simp;(try with_reducible rfl)))
          (try simp only [Act.put,List.setIfInBounds_toArray,List.set_cons_zero,List.set_cons_succ])
          refine wpAnyH_take (i:=19) (v:=?_) rfl (by kernel_rfl) (by kernel_rfl) (by kernel_rfl) (fun _ _ _ h=>h) (Or.inl ⟨by rfl, ?_⟩) (by assumption) ?_
          rotate_left
          (focus (intro w hSw;(try dsimp only at hSw);go_simp;(try with_reducible rfl)))
          (try simp only [Act.put,List.setIfInBounds_toArray,List.set_cons_zero,List.set_cons_succ])
          refine wpAnyH_ready (rs:=[20]) (by kernel_rfl) (by simp) ?_
          refine AllReadyH.cons (by rw [List.getElem?_toArray];exact rfl) (fun K hK=>?_) AllReadyH.nil
          (have tok20 : True:=trivial;clear tok20;go_simp)
          have L7a:=L79.far (p:=⟨g,1,none⟩) (by show _ ≠ 3;rw [hl9.2];decide) (.slice (some ⟨g5,0,none⟩) (n + 1) cap5)
          have L10a:=L109.far (p:=⟨g,1,none⟩) (by show _ ≠ 3;rw [hl9.2];decide) (.slice (some ⟨g5,0,none⟩) (n + 1) cap5)
          refine hK.out _ _ ⟨L7a.1.cell 0 rfl,L7a.1.cell 2 rfl,L7a.1.cell 3 rfl,L7a.1.cell 4 rfl,L7a.1.cell 5 rfl,L7a.1.cell 6 rfl,L7a.1.cell 7 rfl,L10a.1.cell 0 rfl⟩ (fun hHeld=>?_)
          clear hK K
          (try simp only [Act.put,List.setIfInBounds_toArray,List.set_cons_zero,List.set_cons_succ])
          refine wpAnyH_done (by kernel_rfl) ?_ _
          (try simp only [List.getElem_toArray,List.getElem_cons_succ,List.getElem_cons_zero,List.setIfInBounds_toArray,List.set_cons_zero,List.set_cons_succ])
          have htw:=((Turn.refl (· = 2) w1 o1).alloc (.cells #[.int .i64 op,.int .i64 t1,.string tx,.bool nb,.int .u64 hi,.int .u64 lo,.int .i64 sc,.int .i64 dy] 45)).trans ht5
          have HPU:=Lib.hid (HMX.out.push (q:=[InsD.mk op t1 tx nb hi lo sc dy]) (n:=n + 1) (by rw [HN.out];rfl) (by rw [ics_one];exact hr5) htw)
          have HTU:=Lib.hid ((HTX.out.trans (htw.mono (fun l hl=>.inr hl))).setCell (p:=⟨g,1,none⟩) (.inr (.inl HGE.out)) (.slice (some ⟨g5,0,none⟩) (n + 1) cap5))
          clear hr5 ht5 htw L7a L10a L79 L109 L73 L103 hl9 hHeld c1w lgw
          go_wp2_with fail
          go_step3
          refine ⟨rfl,⟨t + 1,_,_,out2 ++ [InsD.mk op t1 tx nb hi lo sc dy],rfl,rfl,rfl,(by first | rfl | (show Value.int .i64 _ = Value.int .i64 _;congr 1;omega)),rfl,by omega,by omega,HPU,HTU,(Lib.hid (by rw [List.length_append];have:=HLN.out;show _ + 1 + _ ≤ _;omega)),(Lib.hid ⟨q0 ++ [InsD.mk op t1 tx nb hi lo sc dy],by rw [HQ0.out,List.append_assoc],HXN.out⟩)⟩, ?_⟩
          show e - (intOf (Value.int .i64 _)).toNat < e - t
          unfold intOf
          dsimp only
          omega
  ·obtain rfl : t = e:=by omega
   have HXX : Hid (X = some q0):=Lib.hid (by rw [HX0.out,unD_end (Nat.le_refl _)];show some (q0 ++ []) = _;rw [List.append_nil])
   have hge : (t : Int) ≤ t:=Int.le_refl _
   go_wp2_with fail
   simp only [Exit.jump]
   go_ret
   exact ⟨_,out2,o,by rw [HXX.out];simp,HM.out,HT.out,by have:=HLN.out;omega,fun Y hY=>by rw [HXX.out] at hY;injection hY with hY;rw [HQ0.out,hY]⟩
end Go.Proofs.YtnhmplfonkjfoaaDoor

