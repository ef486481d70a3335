/- What this law reaches beyond the common contracts, part 2. -/
import Derived.ProofKit
import Derived.OpenShut
import Derived.ShutString
import Derived.ChangeOld
import Derived.Below
import Derived.Lib.SmallJoins
import Derived.Deep.Matrix
import Derived.ChangeArms
import Derived.Lib.LaidIn
import Derived.Lib.LaidU8T
import Derived.Test.YtbnadlpkbbdgjaaGreatDoorCards
import Derived.Test.YtbnadlpkbbdgjaaGreatDoorTie
import Derived.Deep.DeepHandedRow
import Derived.LaidMore
import Derived.Lay
import Derived.SevenTiedAt
import Derived.BigQuiet
import Derived.StillTailTactics
import Derived.Test.YtbnadlpkbbdgjaaGreatDoorM10
import Derived.Test.YtbnadlpkbbdgjaaGreatDoorXAyp1
set_option linter.unusedSimpArgs false
set_option linter.unusedVariables false


namespace Go.Proofs.YtbnadlpkbbdgjaaGreatDoor
open Go.RowKit
open Go.ChangeShapes Go.WideShapes Go.ChangeAt
open Go.ChangeMaps (open_string shut_string)

theorem laidOut : laidOutB Tryz.prog = true:=by kernel_rfl

theorem bulk_pos {H : Type} (d : DataW H) : 1 ≤ Rows.uptoBulk d:=by
 cases d with
 | lit l=>cases l <;> simp [Rows.uptoBulk]
 | _=>simp [Rows.uptoBulk]
theorem bulk_map {H : Type} (D : Nat → DataW H) : ∀ (n : Nat) (L : List Nat),L.length = n → Rows.uptoBulkAll (L.map D) = (L.map fun i=>Rows.uptoBulk (D i)).sum
 | 0,[],_=>rfl
 | n + 1,x :: r,h=>by
  rw [List.map_cons,List.map_cons,Rows.uptoBulkAll,List.sum_cons,bulk_map D n r (by simpa using h)]
theorem bulk_range {H : Type} (D : Nat → DataW H) (n : Nat) : Rows.uptoBulkAll ((List.range n).map D) = ((List.range n).map fun i=>Rows.uptoBulk (D i)).sum:=bulk_map D n _ (by simp)
theorem sum_range_succ (f : Nat → Nat) (n : Nat) : ((List.range (n + 1)).map f).sum = ((List.range n).map f).sum + f n:=by
 rw [List.range_succ,List.map_append,List.sum_append];simp
theorem sum_mem (f : Nat → Nat) : ∀ (n i : Nat),i < n → f i ≤ ((List.range n).map f).sum
 | 0,i,h=>absurd h (Nat.not_lt_zero _)
 | n + 1,i,h=>by
  rw [sum_range_succ]
  rcases Nat.lt_or_ge i n with h' | h'
  ·have:=sum_mem f n i h';omega
  ·obtain rfl : i = n:=by omega
   omega
theorem sum_pos (f : Nat → Nat) (hf : ∀ i,1 ≤ f i) : ∀ n,n ≤ ((List.range n).map f).sum
 | 0=>Nat.zero_le _
 | n + 1=>by
  rw [sum_range_succ]
  have:=sum_pos f hf n
  have:=hf n
  omega
theorem vds_of {P : Nat → VD → Prop} {f : Nat → Nat} : ∀ n,(∀ i,i < n → ∃ d,P i d ∧ d.size ≤ f i) → ∃ l : List VD,l.length = n ∧ (∀ i,i < n → P i (vg l i)) ∧ sizes l ≤ ((List.range n).map f).sum
 | 0,_=>⟨[],rfl,fun i hi=>absurd hi (Nat.not_lt_zero _),by simp [sizes]⟩
 | n + 1,h=>by
  obtain ⟨l,h1,h2,h3⟩:=vds_of (P:=P) (f:=f) n (fun i hi=>h i (by omega))
  obtain ⟨d,h4,h5⟩:=h n (by omega)
  refine ⟨l ++ [d],by rw [List.length_append,h1];rfl,fun i hi=>?_, ?_⟩
  ·unfold vg
   rcases Nat.lt_or_ge i n with h' | h'
   ·rw [List.getD_eq_getElem?_getD,List.getElem?_append_left (by omega)]
    have:=h2 i h'
    unfold vg at this
    rwa [List.getD_eq_getElem?_getD] at this
   ·obtain rfl : i = n:=by omega
    rw [List.getD_eq_getElem?_getD,List.getElem?_append_right (by omega),h1,Nat.sub_self]
    exact h4
  ·rw [sizes_append,sum_range_succ]
   simp only [sizes]
   omega
theorem nms_of {P : Nat → List UInt8 → Prop} : ∀ n,(∀ i,i < n → ∃ d,P i d) → ∃ l : List (List UInt8),l.length = n ∧ ∀ i,i < n → P i (ng l i)
 | 0,_=>⟨[],rfl,fun i hi=>absurd hi (Nat.not_lt_zero _)⟩
 | n + 1,h=>by
  obtain ⟨l,h1,h2⟩:=nms_of (P:=P) n (fun i hi=>h i (by omega))
  obtain ⟨d,h4⟩:=h n (by omega)
  refine ⟨l ++ [d],by rw [List.length_append,h1];rfl,fun i hi=>?_⟩
  unfold ng
  rcases Nat.lt_or_ge i n with h' | h'
  ·rw [List.getD_eq_getElem?_getD,List.getElem?_append_left (by omega)]
   have:=h2 i h'
   unfold ng at this
   rwa [List.getD_eq_getElem?_getD] at this
  ·obtain rfl : i = n:=by omega
   rw [List.getD_eq_getElem?_getD,List.getElem?_append_right (by omega),h1,Nat.sub_self]
   exact h4
section
variable {H : Type} {enc : TypeId × Value → H} {W : World} {b0 : Nat} {sp : Nat → Bool} {held : Bool}
theorem open_names {fuel : Nat} {c : Value} {x : DataW H × List MemPlace} (h : DataW.trod enc Tryz.prog W b0 sp held fuel 28 [c] = some x) (hb : Rows.uptoBulk x.1 ≤ 1048576) :
  ∃ A C l,c = .slice A l.length C ∧ Nms W c l:=by
 rcases Deep.open_slice1 Tryz.underlying28 (by kernel_rfl) h with ⟨hc,rfl⟩ | ⟨a,len,cap,m,n,V,D,Pl,hc,_,hl,hm,hmm,rfl,hx⟩
 ·injection hc with hc
  subst hc
  exact ⟨none,0,[],rfl,none,0,rfl,⟨by simp,by simp,by unfold maxLen;omega⟩,fun r hr=>absurd hr (by simp)⟩
 ·injection hc with hc
  subst hc
  have hle : len ≤ m:=by rw [hmm];split <;> omega
  simp only [Rows.uptoBulk] at hb
  rw [bulk_range] at hb
  have hlen : len ≤ 1048576:=by
   have:=sum_pos (fun i=>Rows.uptoBulk (D i)) (fun i=>bulk_pos _) len
   omega
  obtain ⟨b,o,spot⟩:=a
  obtain ⟨l,h1,h2⟩:=nms_of (P:=fun i s=>spot = none ∧ W.cell? ⟨b,o + i,none⟩ = some (.string ⟨s.toArray⟩) ∧ s.length ≤ 1048576) len (fun i hi=>by
   obtain ⟨h3,h4⟩:=hx i (by omega)
   obtain ⟨s,e1,e2,_⟩:=DataW.trod_string Tryz.underlying9 h4
   have hspot : spot = none:=by simpa [Addr.add] using World.cell?_spot (hx 0 (by omega)).1
   subst hspot
   injection e1 with e1
   refine ⟨s.data.toList,rfl, ?_, ?_⟩
   ·rw [← add_plain,h3,e1]
   ·have:=sum_mem (fun i=>Rows.uptoBulk (D i)) len i hi
    injection e2 with e2 _
    rw [e2] at this
    simp only [Rows.uptoBulk] at this
    omega)
  refine ⟨some ⟨b,o,spot⟩,cap,l,by rw [h1],some ⟨b,o,spot⟩,cap,by rw [h1],⟨by omega,by omega,by unfold maxLen at hm ⊢;omega⟩,fun r hr=>?_⟩
  obtain ⟨h3,h4,h5⟩:=h2 r (by omega)
  subst h3
  exact ⟨b,o,rfl,h4,h5⟩
theorem wd_split2 {x y : Int} (hx : (Lit.int .u64 x).wf = true) (hy : (Lit.int .u64 y).wf = true) : ∃ n,n < 2 ^ 128 ∧ x = wd n 1 ∧ y = wd n 0:=by
 have wf : ∀ z : Int,(Lit.int .u64 z).wf = true → 0 ≤ z ∧ z < 18446744073709551616:=fun z hz=>by
  have e1 : IntKind.u64.min = 0:=rfl
  have e2 : IntKind.u64.max = 18446744073709551615:=rfl
  simp [Lit.wf,e1,e2] at hz
  omega
 obtain ⟨x0,x1⟩:=wf x hx
 obtain ⟨y0,y1⟩:=wf y hy
 obtain ⟨n,hn,_,e1,e2⟩:=wd_make x y x0 x1 y0 y1
 exact ⟨n,hn,e1,e2⟩
set_option maxRecDepth 100000 in
theorem open_dec4 {fuel : Nat} {c0 c1 c2 c3 : Value} {x : DataW H × List MemPlace} (h : DataW.trod enc Tryz.prog W b0 sp held fuel 27 [c0,c1,c2,c3] = some x) :
  ∃ (b : Bool) (c : Nat) (s : Int),c < 2 ^ 128 ∧ c0 = .bool b ∧ c1 = .int .u64 (wd c 1) ∧ c2 = .int .u64 (wd c 0) ∧ c3 = .int .i64 s:=by
 obtain ⟨xs,n,_,hx,_,hlen,hg⟩:=DataW.trod_struct Tryz.underlying27 h
 have n0 : Tryz.prog.cellsOf 4 = 1:=by kernel_rfl
 have n1 : Tryz.prog.cellsOf 25 = 2:=by kernel_rfl
 have n2 : Tryz.prog.cellsOf 3 = 1:=by kernel_rfl
 have n3 : Tryz.prog.cellsOf 23 = 1:=by kernel_rfl
 have g0:=hg 0 _ rfl
 have g1:=hg 1 _ rfl
 have g2:=hg 2 _ rfl
 clear hg hx
 match xs,hlen with
 | [y0,y1,y2],_ =>
  simp only [List.getElem_toArray,List.getElem_cons_zero,List.getElem_cons_succ,n0,n1,n2] at g0 g1 g2
  simp at g0 g1 g2
  obtain ⟨b,e0,_⟩:=DataW.trod_bool Tryz.underlying4 g0
  obtain ⟨z2,e2,_,w2⟩:=DataW.trod_int Tryz.underlying3 g2
  obtain ⟨ys,n',_,_,_,hlen2,hg2⟩:=DataW.trod_struct Tryz.underlying25 g1
  have k0:=hg2 0 _ rfl
  have k1:=hg2 1 _ rfl
  match ys,hlen2 with
  | [q0,q1],_ =>
   simp only [List.getElem_toArray,List.getElem_cons_zero,List.getElem_cons_succ,n3] at k0 k1
   simp at k0 k1
   obtain ⟨z0,f0,_,v0⟩:=DataW.trod_int Tryz.underlying23 k0
   obtain ⟨z1,f1,_,v1⟩:=DataW.trod_int Tryz.underlying23 k1
   obtain ⟨c,hc,rfl,rfl⟩:=wd_split2 v0 v1
   simp at e0 e2 f0 f1
   exact ⟨b,c,z2,hc,e0,f0,f1,e2⟩
set_option maxRecDepth 100000 in
set_option maxHeartbeats 2000000 in
theorem open_cells : ∀ (N : Nat) (fuel : Nat) (cs : List Value) (x : DataW H × List MemPlace),Rows.uptoBulk x.1 ≤ N → N ≤ 1048576 → DataW.trod enc Tryz.prog W b0 sp held fuel 30 cs = some x →
  ∃ vd A C A2 C2,cs = vd.s.cs ++ [.slice A vd.list.length C,.slice A2 vd.names.length C2] ∧ RV W (.slice A vd.list.length C) (.slice A2 vd.names.length C2) vd ∧ vd.size ≤ Rows.uptoBulk x.1
 | 0,_,_,x,h,_,_=>by have:=bulk_pos x.1;omega
 | N + 1,fuel,cs,x,hN,hN2,h=>by
  obtain ⟨xs,n,_,hx,hcl,hlen,hg⟩:=DataW.trod_struct Tryz.underlying30 h
  have n0 : Tryz.prog.cellsOf 3 = 1:=by kernel_rfl
  have n1 : Tryz.prog.cellsOf 4 = 1:=by kernel_rfl
  have n2 : Tryz.prog.cellsOf 27 = 4:=by kernel_rfl
  have n3 : Tryz.prog.cellsOf 9 = 1:=by kernel_rfl
  have n4 : Tryz.prog.cellsOf 22 = 1:=by kernel_rfl
  have n5 : Tryz.prog.cellsOf 28 = 1:=by kernel_rfl
  have n6 : Tryz.prog.cellsOf 30 = 10:=by kernel_rfl
  rw [n6] at hcl
  have g0:=hg 0 _ rfl
  have g1:=hg 1 _ rfl
  have g2:=hg 2 _ rfl
  have g3:=hg 3 _ rfl
  have g4:=hg 4 _ rfl
  have g5:=hg 5 _ rfl
  have g6:=hg 6 _ rfl
  clear hg h
  match cs,hcl with
  | [c0,c1,c2,c3,c4,c5,c6,c7,c8,c9],_ =>
   match xs,hlen with
   | [y0,y1,y2,y3,y4,y5,y6],_ =>
    simp only [List.getElem_toArray,List.getElem_cons_zero,List.getElem_cons_succ,n0,n1,n2,n3,n4,n5] at g0 g1 g2 g3 g4 g5 g6
    simp at g0 g1 g2 g3 g4 g5 g6
    obtain ⟨kind,e0,r0,_⟩:=DataW.trod_int Tryz.underlying3 g0
    obtain ⟨yes,e1,r1⟩:=DataW.trod_bool Tryz.underlying4 g1
    obtain ⟨neg,coef,sc,hcoef,e2,e3,e4,e5⟩:=open_dec4 g2
    obtain ⟨text,e6,r6,_⟩:=DataW.trod_string Tryz.underlying9 g3
    obtain ⟨day,e7,r7,_⟩:=DataW.trod_int Tryz.underlying3 g4
    simp at e0 e1 e6 e7
    subst e0 e1 e2 e3 e4 e5 e6 e7
    subst hx
    simp only [Rows.uptoBulk,List.map_cons,List.map_nil,Rows.uptoBulkAll] at hN ⊢
    have hb3 : text.data.toList.length ≤ 1048576:=by
     have : Rows.uptoBulk y3.1 = text.data.toList.length + 1:=by rw [r6];rfl
     omega
    obtain ⟨A2,C2,nm,rfl,hnm⟩:=open_names g6 (by omega)
    rcases Deep.open_slice Tryz.underlying22 g5 with ⟨hc,rfl⟩ | ⟨a,len,cap,m,n',D,Pl,hc,_,hl,hm,hmm,rfl,hxs⟩
    ·injection hc with hc
     subst hc
     refine ⟨.mk ⟨kind,yes,neg,coef,sc,text.data.toList,day⟩ [] nm,none,0,A2,C2, ?_,RV.mk (d:=.mk ⟨kind,yes,neg,coef,sc,text.data.toList,day⟩ [] nm) ⟨hcoef,hb3⟩ ⟨none,0,rfl,⟨by simp [VD.list],by simp [VD.list],by unfold maxLen;omega⟩,fun r hr=>absurd hr (by simp [VD.list])⟩ hnm, ?_⟩
     ·simp [VS.cs,VD.s,VD.list,VD.names]
     ·simp [VD.size,sizes]
    ·injection hc with hc
     subst hc
     rw [n6] at hxs
     have hle : len ≤ m:=by rw [hmm];split <;> omega
     simp only [Rows.uptoBulk] at hN ⊢
     rw [bulk_range] at hN ⊢
     have hlen2 : len ≤ 1048576:=by
      have:=sum_pos (fun i=>Rows.uptoBulk (D i)) (fun i=>bulk_pos _) len
      omega
     obtain ⟨b,o,spot⟩:=a
     obtain ⟨l,h1,h2,h3⟩:=vds_of (P:=fun i vd=>spot = none ∧ ∃ A1 C1 A2 C2,At W b (o + i * 10) (vd.s.cs ++ [.slice A1 vd.list.length C1,.slice A2 vd.names.length C2]) ∧ RV W (.slice A1 vd.list.length C1) (.slice A2 vd.names.length C2) vd) (f:=fun i=>Rows.uptoBulk (D i)) len (fun i hi=>by
      obtain ⟨cs',q1,q2⟩:=hxs i (by omega)
      have hbi:=sum_mem (fun i=>Rows.uptoBulk (D i)) len i hi
      obtain ⟨vd,A1,C1,A3,C3,e,hrv,hs⟩:=open_cells N n' cs' (D i,Pl i) (by dsimp only;omega) (by omega) q2
      obtain ⟨_,hl10,hat⟩:=World.cells?_some q1
      have hspot : spot = none:=by
       obtain ⟨cs0,p1,_⟩:=hxs 0 (by omega)
       obtain ⟨_,hl0,hat0⟩:=World.cells?_some p1
       have h0:=hat0 0 (by omega)
       rw [List.getElem?_eq_getElem (by omega)] at h0
       simpa [Addr.add] using World.cell?_spot h0
      subst hspot
      refine ⟨vd,⟨rfl,A1,C1,A3,C3,fun j hj=>?_,hrv⟩,hs⟩
      rw [← e] at hj ⊢
      rw [← hat j (by omega)]
      congr 1
      rw [show ((⟨b,o,none⟩ : Addr).add (i * 10)) = ⟨b,o + i * 10,none⟩ from add_plain ..,show ((⟨b,o + i * 10,none⟩ : Addr).add j) = ⟨b,o + i * 10 + j,none⟩ from add_plain ..])
     refine ⟨.mk ⟨kind,yes,neg,coef,sc,text.data.toList,day⟩ l nm,some ⟨b,o,spot⟩,cap,A2,C2, ?_,RV.mk (d:=.mk ⟨kind,yes,neg,coef,sc,text.data.toList,day⟩ l nm) ⟨hcoef,hb3⟩ ⟨some ⟨b,o,spot⟩,cap,rfl,⟨?_, ?_, ?_⟩,fun r hr=>?_⟩ hnm, ?_⟩
     ·simp [VS.cs,VD.s,VD.list,VD.names,h1]
     ·show l.length ≤ _;omega
     ·show l.length ≤ _;omega
     ·unfold maxLen at hm ⊢;omega
     ·have hr' : r < l.length:=hr
      obtain ⟨q0,A1,C1,A3,C3,q1,q2⟩:=h2 r (by omega)
      subst q0
      exact ⟨b,o,A1,C1,A3,C3,rfl,q1,q2⟩
     ·show 1 + sizes l ≤ _
      omega
end
end Go.Proofs.YtbnadlpkbbdgjaaGreatDoor



namespace Go.Proofs.YtbnadlpkbbdgjaaGreatDoor
open Go.RowKit
open Go.ChangeShapes Go.WideShapes Go.ChangeAt
open Go.ChangeMaps (open_string shut_string)

set_option maxRecDepth 100000 in
theorem open_val {H : Type} {enc : TypeId × Value → H} {W : World} {base b0 : Nat} {v : Value} {d : DataW H} {p : List MemPlace} {sp : Nat → Bool} {held : Bool}
  (hv : Value.okWide Tryz.prog W .any base 30 v) (h : DataW.Trod enc Tryz.prog W b0 sp held 30 v d p) (hb : Rows.uptoBulk d ≤ 1048576) :
  ∃ vd A C A2 C2,v = vargs vd A C A2 C2 ∧ VA W vd A C A2 C2 ∧ vd.size ≤ 1048576:=by
 obtain ⟨cs,rfl,hsz⟩:=Go.WideShapes.okWide_struct Tryz.underlying30 hv
 obtain ⟨fuel,hf⟩:=h
 obtain ⟨vd,A,C,A2,C2,e,hrv,hs⟩:=open_cells 1048576 fuel _ (d,p) hb (Nat.le_refl _) hf
 refine ⟨vd,A,C,A2,C2, ?_,hrv,Nat.le_trans hs hb⟩
 obtain ⟨l⟩:=cs
 have e' : l = vd.s.cs ++ [.slice A vd.list.length C,.slice A2 vd.names.length C2]:=e
 rw [e']
 rfl
theorem first_is : Rows.laid_unicode_utf8_first = Lib.firstData:=by kernel_rfl
theorem accept_is : (Rows.laid_unicode_utf8_acceptRanges : DataW Unit) = Lib.acceptData:=by kernel_rfl
theorem tabs_laid {W : World} (hL : laidMet Tryz.prog [("unicode/utf8.acceptRanges", Rows.laid_unicode_utf8_acceptRanges), ("unicode/utf8.first", Rows.laid_unicode_utf8_first)] W) : Tabs W := by
 rw [first_is,accept_is] at hL
 exact utf8Tabs_of_readsT (U8Types.of196 Tryz.lays196) ⟨by kernel_rfl,by kernel_rfl,by kernel_rfl,by kernel_rfl,by kernel_rfl,by kernel_rfl,by kernel_rfl⟩ (Lib.laidMet.reads hL (.tail _ (.head _))) (Lib.laidMet.reads hL (.head _))
@[reducible] def zargs : Value:=.agg #[.int .i64 0,.bool false,.bool false,.int .u64 0,.int .u64 0,.int .i64 0,.string ⟨#[]⟩,.int .i64 0,.slice none 0 0,.slice none 0 0]
end Go.Proofs.YtbnadlpkbbdgjaaGreatDoor



namespace Go.Proofs.YtbnadlpkbbdgjaaGreatDoor
open Go.RowKit

theorem ng_get {l : List (List UInt8)} {t : Nat} (h : t < l.length) : ng l t = l[t]:=by
 unfold ng
 rw [List.getD_eq_getElem?_getD,List.getElem?_eq_getElem h];rfl
set_option maxRecDepth 100000 in
set_option maxHeartbeats 1000000 in
theorem eqnames_any (a b : List (List UInt8)) (N M : Value) (w : World) (ha : Nms w N a) (hb : Nms w M b) :
  Calls Tryz.prog 50 #[N,M] w fun e w'=>e = .returned (.bool (decide (a = b))) ∧ ∃ nn,w' = w.drewN nn:=by
 have HA:=Lib.hid ha
 have HB:=Lib.hid hb
 obtain ⟨A,C,rfl,hl⟩:=ha.is
 obtain ⟨A2,C2,rfl,hl2⟩:=hb.is
 obtain ⟨z,hz⟩ : ∃ z,z = decide (a = b):=⟨_,rfl⟩
 rw [← hz]
 have HZ : Hid (z = true ↔ a = b):=Lib.hid (by rw [hz,decide_eq_true_eq])
 clear hz ha hb
 by_cases hlen : a.length = b.length
 ·have e1 : ((a.length : Int) != (b.length : Int)) = false:=by rw [bne_eq_false_iff_eq];omega
  have HL:=Lib.hid hlen
  clear hlen
  go_enter Tryz.func50,Tryz.ntmps50
  go_wp2_with fail
  go_loopg [13] a.length (fun k s13 wr=>∃ t : Nat,k + t = a.length ∧ s13 = .int .i64 t ∧ Hid (∀ i,i < t → ng a i = ng b i) ∧ Hid (∃ nn,wr = w.drewN nn))
  case atStart=>exact ⟨0,by omega,rfl,Lib.hid (fun i hi=>absurd hi (Nat.not_lt_zero _)),Lib.hid ⟨0,rfl⟩⟩
  case round =>
   obtain ⟨t,hk,rfl,HE,HW⟩:=hrel
   have HK:=Lib.hid hk
   have htl : t ≤ a.length:=by omega
   obtain ⟨md,hmd⟩:=HW.out
   subst hmd
   clear hk
   by_cases hlt : t < a.length
   ·obtain ⟨p,o,rfl,c1,_⟩:=HA.out.at hlt
    obtain ⟨p2,o2,rfl,c2,_⟩:=HB.out.at (show t < b.length by have:=HL.out;omega)
    have ht2 : (t : Int) < (a.length : Int):=by omega
    have ht3 : (t : Int) < (b.length : Int):=by have:=HL.out;omega
    obtain ⟨x,hx⟩ : ∃ x,x = ng a t:=⟨_,rfl⟩
    obtain ⟨y,hy⟩ : ∃ y,y = ng b t:=⟨_,rfl⟩
    rw [← hx] at c1
    rw [← hy] at c2
    have HX:=Lib.hid hx
    have HY:=Lib.hid hy
    clear hx hy
    by_cases hxy : x = y
    ·have HXY:=Lib.hid hxy
     subst hxy
     go_wp2_with fail
     go_quiet (fail)
     go_wp2_with fail
     go_roundg (gk - 1)
     case measure=>have:=HK.out;omega
     case rel=>exact ⟨t + 1,by have:=HK.out;omega,by go_num,Lib.hid (fun i hi=>by
      by_cases e : i = t
      ·subst e;rw [← HX.out,← HY.out]
      ·exact HE.out i (by omega)),Lib.hid (by first | exact ⟨_,rfl⟩ | exact ⟨_,(World.drewN_drewN _ _ _)⟩)⟩
    ·have g1 : (x == y) = false:=by simpa using hxy
     have hz : z = false:=by
      cases z with
      | false=>rfl
      | true=>exact absurd (by rw [HX.out,HY.out,HZ.out.1 rfl]) hxy
     subst hz
     go_wp2_with fail
     go_quiet (fail)
     go_wp2_with fail
     go_ret
     exact ⟨rfl,by first | exact ⟨_,rfl⟩ | exact ⟨_,(World.drewN_drewN _ _ _)⟩⟩
   ·obtain rfl : t = a.length:=by omega
    have hz : z = true:=HZ.out.2 (List.ext_getElem HL.out (fun i h1 h2=>by rw [← ng_get h1,← ng_get h2];exact HE.out i h1))
    subst hz
    clear hlt
    go_wp2_with fail
    go_ret
    exact ⟨rfl,by first | exact ⟨_,rfl⟩ | exact ⟨_,(World.drewN_drewN _ _ _)⟩⟩
 ·have e1 : ((a.length : Int) != (b.length : Int)) = true:=by rw [bne_iff_ne];omega
  have hz : z = false:=by
   cases z with
   | false=>rfl
   | true=>exact absurd (congrArg List.length (HZ.out.1 rfl)) hlen
  subst hz
  clear hlen
  go_enter Tryz.func50,Tryz.ntmps50
  go_wp2_with fail
  go_ret
  exact ⟨rfl,0,rfl⟩
def numE (s s' : VS) : Bool:=(s.neg == s'.neg) && (((wd s.coef 1 : Int) == wd s'.coef 1) && (((wd s.coef 0 : Int) == wd s'.coef 0) && (s.sc == s'.sc)))
noncomputable def sameL (a b : List VD) : Bool:=@decide (a = b) (Classical.propDecidable _)
theorem sameL_iff {a b : List VD} : sameL a b = true ↔ a = b:=by unfold sameL;exact @decide_eq_true_iff _ (Classical.propDecidable _)
def AlikeOf (R : World → Value → Value → VD → Prop) : Prop:=∀ (x y : VD) (L N L' N' : Value) (w : World),R w L N x → R w L' N' y →
 Calls Tryz.prog 30 #[vagg x.s L N,vagg y.s L' N'] w fun e w'=>e = .returned (.bool (sameB x y)) ∧ Below w.heap.size w w'
@[reducible] def alikeF : Value:=.func (.func 30) #[] #[]
set_option maxRecDepth 100000 in
set_option maxHeartbeats 1000000 in
theorem eqlist_step (R : World → Value → Value → VD → Prop) (hR : ∀ w w' L N x,R w L N x → Below w.heap.size w w' → R w' L N x) (H : AlikeOf R) (a b : List VD) (L M : Value) (w : World) (ha : Vls (R w) w L a) (hb : Vls (R w) w M b) :
  Calls Tryz.prog 51 #[L,M,alikeF] w fun e w'=>e = .returned (.bool (sameL a b)) ∧ Below w.heap.size w w':=by
 have HA:=Lib.hid ha
 have HB:=Lib.hid hb
 have HH:=Lib.hid H
 have HR:=Lib.hid hR
 obtain ⟨A,C,rfl,hl⟩:=ha.is
 obtain ⟨A2,C2,rfl,hl2⟩:=hb.is
 obtain ⟨z,hz⟩ : ∃ z,z = sameL a b:=⟨_,rfl⟩
 rw [← hz]
 have HZ : Hid (z = true ↔ a = b):=Lib.hid (by rw [hz,sameL_iff])
 clear hz ha hb H hR
 by_cases hlen : a.length = b.length
 ·have e1 : ((a.length : Int) != (b.length : Int)) = false:=by rw [bne_eq_false_iff_eq];omega
  have HL:=Lib.hid hlen
  clear hlen
  go_enter Tryz.func51,Tryz.ntmps51
  go_wp2_with fail
  go_loopg [17] a.length (fun k s17 wr=>∃ t : Nat,k + t = a.length ∧ s17 = .int .i64 t ∧ Hid (∀ i,i < t → vg a i = vg b i) ∧ w.heap.size ≤ wr.heap.size ∧ Below w.heap.size w wr)
  case atStart=>exact ⟨0,by omega,rfl,Lib.hid (fun i hi=>absurd hi (Nat.not_lt_zero _)),by omega,by exact bel⟩
  case round =>
   obtain ⟨t,hk,rfl,HE,hsz,hbel⟩:=hrel
   have HK:=Lib.hid hk
   have htl : t ≤ a.length:=by omega
   clear hk
   by_cases hlt : t < a.length
   ·obtain ⟨b1,o1,A3,C3,A4,C4,rfl,hat1,hx⟩:=(HA.out.below hbel (fun _ _ _ h=>HR.out _ _ _ _ _ h hbel)).at hlt
    obtain ⟨b2,o2,A5,C5,A6,C6,rfl,hat2,hy⟩:=(HB.out.below hbel (fun _ _ _ h=>HR.out _ _ _ _ _ h hbel)).at (show t < b.length by have:=HL.out;omega)
    obtain ⟨a0,a1,a2,a3,a4,a5,a6,a7,a8,a9⟩:=hat1.val
    obtain ⟨d0,d1,d2,d3,d4,d5,d6,d7,d8,d9⟩:=hat2.val
    have l1:=vcell_lt a0
    have l2:=vcell_lt d0
    have ht2 : (t : Int) < (a.length : Int):=by omega
    have ht3 : (t : Int) < (b.length : Int):=by have:=HL.out;omega
    obtain ⟨x,hxx⟩ : ∃ x,x = vg a t:=⟨_,rfl⟩
    obtain ⟨y,hyy⟩ : ∃ y,y = vg b t:=⟨_,rfl⟩
    rw [← hxx] at hx a0 a1 a2 a3 a4 a5 a6 a7 a8 a9
    rw [← hyy] at hy d0 d1 d2 d3 d4 d5 d6 d7 d8 d9
    have HX:=Lib.hid hxx
    have HY:=Lib.hid hyy
    obtain ⟨n1,hn1⟩ : ∃ n1,n1 = x.list.length:=⟨_,rfl⟩
    obtain ⟨n2,hn2⟩ : ∃ n2,n2 = x.names.length:=⟨_,rfl⟩
    obtain ⟨n3,hn3⟩ : ∃ n3,n3 = y.list.length:=⟨_,rfl⟩
    obtain ⟨n4,hn4⟩ : ∃ n4,n4 = y.names.length:=⟨_,rfl⟩
    rw [← hn1] at a8 hx
    rw [← hn2] at a9 hx
    rw [← hn3] at d8 hy
    rw [← hn4] at d9 hy
    have HRX:=Lib.hid hx
    have HRY:=Lib.hid hy
    have HC:=Lib.hid (fun (W : World) (hW : Below wr.heap.size wr W)=>HH.out x y (.slice A3 n1 C3) (.slice A4 n2 C4) (.slice A5 n3 C5) (.slice A6 n4 C6) W (HR.out _ _ _ _ _ HRX.out hW) (HR.out _ _ _ _ _ HRY.out hW))
    obtain ⟨q,hq⟩ : ∃ q,q = sameB x y:=⟨_,rfl⟩
    rw [← hq] at HC
    have HQ : Hid (q = true ↔ x = y):=Lib.hid (by rw [hq,sameB_iff])
    clear hat1 hat2 hx hy hxx hyy hn1 hn2 hn3 hn4 hq
    cases q with
    | true =>
     go_wp2_with ((go_at_call 30;with_reducible refine (HC.out _ (by exact bel)).mono ?_);rintro _ w2 ⟨rfl,hb2⟩;have hb2s:=hb2.size;(try simp only [wsA,wsS,wsD,wsN] at hb2s);obtain ⟨hb2c,hb2f⟩:=bcell hb2;(try have : w.heap.size < w2.heap.size:=by omega);(try have : w.heap.size + 1 < w2.heap.size:=by omega);(try have : w.heap.size + 1 + 1 < w2.heap.size:=by omega);(try have : w.heap.size + 1 + 1 + 1 < w2.heap.size:=by omega))
     go_roundg (gk - 1)
     case measure=>have:=HK.out;omega
     case rel=>exact ⟨t + 1,by have:=HK.out;omega,by go_num,Lib.hid (fun i hi=>by
      by_cases e : i = t
      ·subst e;rw [← HX.out,← HY.out];exact HQ.out.1 (by simp)
      ·exact HE.out i (by omega)),by omega,by exact bel⟩
    | false =>
     have hz : z = false:=by
      cases z with
      | false=>rfl
      | true=>exact Bool.noConfusion (HQ.out.2 (by rw [HX.out,HY.out,HZ.out.1 rfl]))
     subst hz
     go_wp2_with ((go_at_call 30;with_reducible refine (HC.out _ (by exact bel)).mono ?_);rintro _ w2 ⟨rfl,hb2⟩;have hb2s:=hb2.size;(try simp only [wsA,wsS,wsD,wsN] at hb2s);obtain ⟨hb2c,hb2f⟩:=bcell hb2;(try have : w.heap.size < w2.heap.size:=by omega);(try have : w.heap.size + 1 < w2.heap.size:=by omega);(try have : w.heap.size + 1 + 1 < w2.heap.size:=by omega);(try have : w.heap.size + 1 + 1 + 1 < w2.heap.size:=by omega))
     go_ret
     exact ⟨rfl,by exact bel⟩
   ·obtain rfl : t = a.length:=by omega
    have hz : z = true:=HZ.out.2 (List.ext_getElem HL.out (fun i h1 h2=>by rw [← vg_get h1,← vg_get h2];exact HE.out i h1))
    subst hz
    clear hlt
    go_wp2_with fail
    go_ret
    exact ⟨rfl,by exact bel⟩
 ·have e1 : ((a.length : Int) != (b.length : Int)) = true:=by rw [bne_iff_ne];omega
  have hz : z = false:=by
   cases z with
   | false=>rfl
   | true=>exact absurd (congrArg List.length (HZ.out.1 rfl)) hlen
  subst hz
  clear hlen
  go_enter Tryz.func51,Tryz.ntmps51
  go_wp2_with fail
  go_ret
  exact ⟨rfl,by exact bel⟩
end Go.Proofs.YtbnadlpkbbdgjaaGreatDoor



namespace Go.Proofs.YtbnadlpkbbdgjaaGreatDoor
open Go.RowKit

theorem same_iff {s s' : VS} {l l' : List VD} {n n' : List (List UInt8)} (h : s.ok) (h' : s'.ok) : sameB (.mk s l n) (.mk s' l' n') = true ↔ s.kind = s'.kind ∧ s.yes = s'.yes ∧ numE s s' = true ∧ s.text = s'.text ∧ s.day = s'.day ∧ n = n' ∧ l = l':=by
 rw [sameB_iff]
 constructor
 ·intro e
  injection e with e1 e2 e3
  subst e1
  exact ⟨rfl,rfl,by unfold numE;simp,rfl,rfl,e3,e2⟩
 ·rintro ⟨h1,h2,h3,h4,h5,h6,h7⟩
  unfold numE at h3
  simp only [Bool.and_eq_true,beq_iff_eq] at h3
  obtain ⟨g1,g2,g3,g4⟩:=h3
  have g5:=wd_inj h.1 h'.1 g2 g3
  obtain ⟨k,y,ne,c,sc,t,d⟩:=s
  obtain ⟨k',y',ne',c',sc',t',d'⟩:=s'
  dsimp only at h1 h2 g1 g5 g4 h4 h5
  subst h1 h2 g1 g5 g4 h4 h5 h6 h7
  rfl
set_option maxRecDepth 100000 in
set_option maxHeartbeats 4000000 in
theorem alike_step (R : World → Value → Value → VD → Prop) (hR : ∀ w w' L N x,R w L N x → Below w.heap.size w w' → R w' L N x) (H : AlikeOf R)
  (s s' : VS) (l l' : List VD) (n n' : List (List UInt8)) (L L' N N' : Value) (w : World) (hs : s.ok) (hs' : s'.ok) (hl : Vls (R w) w L l) (hl' : Vls (R w) w L' l') (hn : Nms w N n) (hn' : Nms w N' n') :
  Calls Tryz.prog 30 #[vagg s L N,vagg s' L' N'] w fun e w'=>e = .returned (.bool (sameB (.mk s l n) (.mk s' l' n'))) ∧ Below w.heap.size w w':=by
 have HL:=Lib.hid hl
 have HL':=Lib.hid hl'
 have HN:=Lib.hid hn
 have HN':=Lib.hid hn'
 have HR:=Lib.hid hR
 have HH:=Lib.hid H
 obtain ⟨A,C,rfl,q1⟩:=hl.is
 obtain ⟨A',C',rfl,q2⟩:=hl'.is
 obtain ⟨A2,C2,rfl,q3⟩:=hn.is
 obtain ⟨A2',C2',rfl,q4⟩:=hn'.is
 have hsi:=same_iff (l:=l) (l':=l') (n:=n) (n':=n') hs hs'
 obtain ⟨z,hz⟩ : ∃ z,z = sameB (.mk s l n) (.mk s' l' n'):=⟨_,rfl⟩
 rw [← hz] at hsi ⊢
 obtain ⟨nb,hnb⟩ : ∃ nb,nb = numE s s':=⟨_,rfl⟩
 rw [← hnb] at hsi
 unfold numE at hnb
 obtain ⟨k1,y1,ne1,c1,sc1,t1,d1⟩:=s
 obtain ⟨k2,y2,ne2,c2,sc2,t2,d2⟩:=s'
 unfold vagg
 dsimp only at hsi hnb ⊢
 have r1 : ∀ W,(binOp .eql 27 (.agg #[.bool ne1,.int .u64 (wd c1 1),.int .u64 (wd c1 0),.int .i64 sc1]) (.agg #[.bool ne2,.int .u64 (wd c2 1),.int .u64 (wd c2 0),.int .i64 sc2])).run Tryz.prog W = .ok (.bool nb) W:=fun W=>by rw [veq_dec,hnb]
 have r2 : ∀ W,(binOp .neq 27 (.agg #[.bool ne1,.int .u64 (wd c1 1),.int .u64 (wd c1 0),.int .i64 sc1]) (.agg #[.bool ne2,.int .u64 (wd c2 1),.int .u64 (wd c2 0),.int .i64 sc2])).run Tryz.prog W = .ok (.bool (!nb)) W:=fun W=>by rw [vneq_dec,hnb]
 obtain ⟨x1,hx1⟩ : ∃ x,x = wd c1 1:=⟨_,rfl⟩
 obtain ⟨x0,hx0⟩ : ∃ x,x = wd c1 0:=⟨_,rfl⟩
 obtain ⟨v1,hv1⟩ : ∃ x,x = wd c2 1:=⟨_,rfl⟩
 obtain ⟨v0,hv0⟩ : ∃ x,x = wd c2 0:=⟨_,rfl⟩
 rw [← hx1,← hx0,← hv1,← hv0] at r1 r2
 rw [← hx1,← hx0,← hv1,← hv0]
 have HZ : Hid ((¬ (k1 = k2 ∧ y1 = y2 ∧ nb = true ∧ t1 = t2 ∧ d1 = d2 ∧ n = n' ∧ l = l') → z = false) ∧ ((k1 = k2 ∧ y1 = y2 ∧ nb = true ∧ t1 = t2 ∧ d1 = d2 ∧ n = n' ∧ l = l') → z = true)):=Lib.hid ⟨fun h=>by
  cases z with
  | false=>rfl
  | true=>exact absurd (hsi.1 rfl) h,hsi.2⟩
 have hll : (l.length : Int) ≤ 1048576:=by omega
 have hll' : (l'.length : Int) ≤ 1048576:=by omega
 have hnl : (n.length : Int) ≤ 1048576:=by omega
 have hnl' : (n'.length : Int) ≤ 1048576:=by omega
 clear hsi hz hnb hx1 hx0 hv1 hv0 hs hs' hl hl' hn hn' hR H q1 q2 q3 q4
 by_cases hk : k1 = k2
 rotate_left
 ·have f1 : (k1 == k2) = false:=by rw [beq_eq_false_iff_ne];exact hk
  have f2 : (k1 != k2) = true:=by rw [bne_iff_ne];exact hk
  have hz : z = false:=HZ.out.1 (fun h=>hk h.1)
  subst hz
  clear HZ
  go_enter Tryz.func30,Tryz.ntmps30
  go_wp2_with fail
  all_goals (go_ret;exact ⟨rfl,by exact bel⟩)
 subst hk
 by_cases hy : y1 = y2
 rotate_left
 ·have f1 : (y1 == y2) = false:=by rw [beq_eq_false_iff_ne];exact hy
  have f2 : (y1 != y2) = true:=by rw [bne_iff_ne];exact hy
  have hz : z = false:=HZ.out.1 (fun h=>hy h.2.1)
  subst hz
  clear HZ
  go_enter Tryz.func30,Tryz.ntmps30
  go_wp2_with fail
  all_goals (go_ret;exact ⟨rfl,by exact bel⟩)
 subst hy
 cases nb with
 | false =>
  have hz : z = false:=HZ.out.1 (fun h=>by simp at h)
  subst hz
  clear HZ
  go_enter Tryz.func30,Tryz.ntmps30
  go_wp2_with fail
  all_goals (go_ret;exact ⟨rfl,by exact bel⟩)
 | true =>
  by_cases ht : t1 = t2
  rotate_left
  ·have f1 : (t1 == t2) = false:=by simpa using ht
   have hz : z = false:=HZ.out.1 (fun h=>ht h.2.2.2.1)
   subst hz
   clear HZ
   go_enter Tryz.func30,Tryz.ntmps30
   go_wp2_with fail
   all_goals (go_ret;exact ⟨rfl,by exact bel⟩)
  subst ht
  by_cases hd : d1 = d2
  rotate_left
  ·have f1 : (d1 == d2) = false:=by rw [beq_eq_false_iff_ne];exact hd
   have f2 : (d1 != d2) = true:=by rw [bne_iff_ne];exact hd
   have hz : z = false:=HZ.out.1 (fun h=>hd h.2.2.2.2.1)
   subst hz
   clear HZ
   go_enter Tryz.func30,Tryz.ntmps30
   go_wp2_with fail
   all_goals (go_ret;exact ⟨rfl,by exact bel⟩)
  subst hd
  have HE1:=Lib.hid (fun (W : World) (hW : Below w.heap.size w W)=>eqnames_any n n' (.slice A2 n.length C2) (.slice A2' n'.length C2') W (HN.out.below hW) (HN'.out.below hW))
  have HE2:=Lib.hid (fun (W : World) (hW : Below w.heap.size w W)=>eqlist_step R HR.out HH.out l l' (.slice A l.length C) (.slice A' l'.length C') W (HL.out.below hW (fun _ _ _ h=>HR.out _ _ _ _ _ h hW)) (HL'.out.below hW (fun _ _ _ h=>HR.out _ _ _ _ _ h hW)))
  obtain ⟨eN,heN⟩ : ∃ e,e = decide (n = n'):=⟨_,rfl⟩
  obtain ⟨eL,heL⟩ : ∃ e,e = sameL l l':=⟨_,rfl⟩
  rw [← heN] at HE1
  rw [← heL] at HE2
  have heN2 : eN = true ↔ n = n':=by rw [heN,decide_eq_true_eq]
  have heL2 : eL = true ↔ l = l':=by rw [heL,sameL_iff]
  have HZ2 : Hid (z = (eN && eL)):=Lib.hid (by
   rw [Bool.eq_iff_iff,Bool.and_eq_true,heN2,heL2]
   constructor
   ·intro h
    by_cases q : n = n' ∧ l = l'
    ·exact q
    ·have:=HZ.out.1 (fun h=>q ⟨h.2.2.2.2.2.1,h.2.2.2.2.2.2⟩)
     rw [this] at h;exact Bool.noConfusion h
   ·rintro ⟨a,b⟩
    exact HZ.out.2 ⟨rfl,rfl,rfl,rfl,rfl,a,b⟩)
  clear HZ heN heL heN2 heL2
  cases eN with
  | false =>
   have hz : z = false:=HZ2.out
   subst hz
   go_enter Tryz.func30,Tryz.ntmps30
   go_wp2_with (go_at_call 50;(with_reducible refine (HE1.out _ (by exact bel)).mono ?_);rintro _ _ ⟨rfl,nn,rfl⟩)
   go_ret
   exact ⟨rfl,by exact bel⟩
  | true =>
   have hz : z = eL:=by rw [HZ2.out];rfl
   subst hz
   clear HZ2
   go_enter Tryz.func30,Tryz.ntmps30
   go_wp2_with (first | (go_at_call 50;(with_reducible refine (HE1.out _ (by exact bel)).mono ?_);rintro _ _ ⟨rfl,nn,rfl⟩) | ((go_at_call 51;with_reducible refine (HE2.out _ (by exact bel)).mono ?_);rintro _ w2 ⟨rfl,hb2⟩;have hb2s:=hb2.size;(try simp only [wsA,wsS,wsD,wsN] at hb2s);obtain ⟨hb2c,hb2f⟩:=bcell hb2;(try have : w.heap.size < w2.heap.size:=by omega);(try have : w.heap.size + 1 < w2.heap.size:=by omega);(try have : w.heap.size + 1 + 1 < w2.heap.size:=by omega);(try have : w.heap.size + 1 + 1 + 1 < w2.heap.size:=by omega)))
   go_ret
   exact ⟨rfl,by exact bel⟩
theorem alike_any : ∀ n,AlikeOf (VR n)
 | 0,_,_,_,_,_,_,_,h,_=>h.elim
 | n + 1,x,y,L,N,L',N',w,h,h'=>by
  obtain ⟨s,l,nm⟩:=x
  obtain ⟨s',l',nm'⟩:=y
  exact alike_step (VR n) (fun _ _ _ _ _ h hb=>h.below hb) (alike_any n) s s' l l' nm nm' L L' N N' w h.1 h'.1 h.2.1 h'.2.1 h.2.2 h'.2.2
end Go.Proofs.YtbnadlpkbbdgjaaGreatDoor



namespace Go.Proofs.YtbnadlpkbbdgjaaGreatDoor
open Go.RowKit

section
variable {w wx w' : World} {A A2 A3 A4 : Option Addr} {n C n2 C2 n3 C3 n4 C4 : Nat}
end
theorem rv_two {w : World} {L N L' N' : Value} {x y : VD} (h : RV w L N x) (h' : RV w L' N' y) : ∃ n,VR n w L N x ∧ VR n w L' N' y:=by
 obtain ⟨n,h⟩:=h
 obtain ⟨m,h'⟩:=h'
 exact ⟨n + m,h.up n m,by rw [Nat.add_comm];exact h'.up m n⟩
theorem alike_rv : AlikeOf RV:=fun x y L N L' N' w h h'=>by
 obtain ⟨n,h1,h2⟩:=rv_two h h'
 exact alike_any n x y L N L' N' w h1 h2
end Go.Proofs.YtbnadlpkbbdgjaaGreatDoor



namespace Go.Proofs.YtbnadlpkbbdgjaaGreatDoor
open Go.RowKit
open Go.ChangeShapes Go.WideShapes Go.ChangeAt
open Go.ChangeMaps (open_string shut_string)

section
variable {H : Type} {enc : TypeId × Value → H} {W : World} {b0 : Nat} {sp : Nat → Bool} {held : Bool}
set_option maxRecDepth 100000 in
set_option maxHeartbeats 1000000 in
theorem open_vls {fuel : Nat} {c : Value} {x : DataW H × List MemPlace} (h : DataW.trod enc Tryz.prog W b0 sp held fuel 22 [c] = some x) (hN2 : Rows.uptoBulk x.1 ≤ 1048576) :
  ∃ A C l,c = .slice A l.length C ∧ Vls (RV W) W c l ∧ sizes l ≤ Rows.uptoBulk x.1:=by
 have n6 : Tryz.prog.cellsOf 30 = 10:=by kernel_rfl
 rcases Deep.open_slice Tryz.underlying22 h with ⟨hc,rfl⟩ | ⟨a,len,cap,m,n',D,Pl,hc,_,hl,hm,hmm,rfl,hxs⟩
 ·injection hc with hc
  subst hc
  exact ⟨none,0,[],rfl,⟨none,0,rfl,⟨by simp,by simp,by unfold maxLen;omega⟩,fun r hr=>absurd hr (by simp)⟩,by simp [sizes]⟩
 ·injection hc with hc
  subst hc
  rw [n6] at hxs
  have hle : len ≤ m:=by rw [hmm];split <;> omega
  simp only [Rows.uptoBulk] at hN2 ⊢
  rw [bulk_range] at hN2 ⊢
  have hlen2 : len ≤ 1048576:=by
   have:=sum_pos (fun i=>Rows.uptoBulk (D i)) (fun i=>bulk_pos _) len
   omega
  obtain ⟨b,o,spot⟩:=a
  obtain ⟨l,h1,h2,h3⟩:=vds_of (P:=fun i vd=>spot = none ∧ ∃ A1 C1 A2 C2,At W b (o + i * 10) (vd.s.cs ++ [.slice A1 vd.list.length C1,.slice A2 vd.names.length C2]) ∧ RV W (.slice A1 vd.list.length C1) (.slice A2 vd.names.length C2) vd) (f:=fun i=>Rows.uptoBulk (D i)) len (fun i hi=>by
   obtain ⟨cs',q1,q2⟩:=hxs i (by omega)
   have hbi:=sum_mem (fun i=>Rows.uptoBulk (D i)) len i hi
   obtain ⟨vd,A1,C1,A3,C3,e,hrv,hs⟩:=open_cells (Rows.uptoBulk (D i)) n' cs' (D i,Pl i) (Nat.le_refl _) (by omega) q2
   obtain ⟨_,hl10,hat⟩:=World.cells?_some q1
   have hspot : spot = none:=by
    obtain ⟨cs0,p1,_⟩:=hxs 0 (by omega)
    obtain ⟨_,hl0,hat0⟩:=World.cells?_some p1
    have h0:=hat0 0 (by omega)
    rw [List.getElem?_eq_getElem (by omega)] at h0
    simpa [Addr.add] using World.cell?_spot h0
   subst hspot
   refine ⟨vd,⟨rfl,A1,C1,A3,C3,fun j hj=>?_,hrv⟩,hs⟩
   rw [← e] at hj ⊢
   rw [← hat j (by omega)]
   congr 1
   rw [show ((⟨b,o,none⟩ : Addr).add (i * 10)) = ⟨b,o + i * 10,none⟩ from add_plain ..,show ((⟨b,o + i * 10,none⟩ : Addr).add j) = ⟨b,o + i * 10 + j,none⟩ from add_plain ..])
  refine ⟨some ⟨b,o,spot⟩,cap,l,by rw [h1],⟨some ⟨b,o,spot⟩,cap,by rw [h1],⟨by omega,by omega,by unfold maxLen at hm ⊢;omega⟩,fun r hr=>?_⟩,by omega⟩
  obtain ⟨q0,A1,C1,A3,C3,q1,q2⟩:=h2 r (by omega)
  subst q0
  exact ⟨b,o,A1,C1,A3,C3,rfl,q1,q2⟩
set_option maxRecDepth 100000 in
theorem open_vlist {base : Nat} {v : Value} {d : DataW H} {p : List MemPlace} (hv : Value.okWide Tryz.prog W .any base 22 v) (h : DataW.Trod enc Tryz.prog W b0 sp held 22 v d p) (hb : Rows.uptoBulk d ≤ 1048576) :
  ∃ A C l,v = .slice A l.length C ∧ Vls (RV W) W v l ∧ sizes l ≤ Rows.uptoBulk d:=by
 obtain ⟨a0,len,cap,rfl⟩:=okWide_slice Tryz.underlying22 hv
 obtain ⟨fuel,hf⟩:=h
 exact open_vls (x:=(d,p)) hf hb
end
end Go.Proofs.YtbnadlpkbbdgjaaGreatDoor

