/- What this law reaches beyond the common contracts, part 2. -/
import Derived.ProofKit
import Derived.OpenShut
import Derived.ShutString
import Derived.ChangeOld
import Derived.Below
import Derived.Lib.SmallJoins
import Derived.Deep.Matrix
import Derived.ChangeArms
import Derived.Lib.LaidIn
import Derived.Lib.LaidU8T
import Derived.Test.YtkjecoanlppeaaaGreatDoorM4
import Derived.Test.YtkjecoanlppeaaaGreatDoorXEb1
set_option linter.unusedSimpArgs false
set_option linter.unusedVariables false


namespace Go.Proofs.YtkjecoanlppeaaaGreatDoor
open Go.RowKit

/-- a bound that is a little nearer -/
def Tiny (n : Nat) : Prop:=True → n < 10 ^ 999
theorem ten_lt (a b : Nat) (h : a < b) : (10 : Nat) ^ a < 10 ^ b:=Nat.pow_lt_pow_right (by decide) h
theorem Tiny.small {n : Nat} (h : Tiny n) : Small n:=fun t => Nat.lt_trans (h t) (ten_lt 999 1000 (by decide))
end Go.Proofs.YtkjecoanlppeaaaGreatDoor



namespace Go.Proofs.YtkjecoanlppeaaaGreatDoor
open Go.RowKit

/-- every value of a list is small enough to be counted -/
def SmallL (l : List VD) : Prop:=∀ t,t < l.length → (vg l t).size ≤ 1048576
theorem smallL_of {l : List VD} (h : sizes l ≤ 1048576) : SmallL l:=fun t ht => Nat.le_trans (vg_size ht) h
end Go.Proofs.YtkjecoanlppeaaaGreatDoor



namespace Go.Proofs.YtkjecoanlppeaaaGreatDoor
open Go.RowKit
open Go.ChangeShapes Go.WideShapes Go.ChangeAt
open Go.ChangeMaps (open_string shut_string)

theorem bulk_pos {H : Type} (d : DataW H) : 1 ≤ Rows.uptoBulk d:=by
 cases d with
 | lit l => cases l <;> simp [Rows.uptoBulk]
 | _ => simp [Rows.uptoBulk]
theorem bulk_map {H : Type} (D : Nat → DataW H) : ∀ (n : Nat) (L : List Nat),L.length = n → Rows.uptoBulkAll (L.map D) = (L.map fun i => Rows.uptoBulk (D i)).sum
 | 0,[],_ => rfl
 | n + 1,x :: r,h => by
  rw [List.map_cons,List.map_cons,Rows.uptoBulkAll,List.sum_cons,bulk_map D n r (by simpa using h)]
theorem bulk_range {H : Type} (D : Nat → DataW H) (n : Nat) : Rows.uptoBulkAll ((List.range n).map D) = ((List.range n).map fun i => Rows.uptoBulk (D i)).sum:=bulk_map D n _ (by simp)
theorem sum_range_succ (f : Nat → Nat) (n : Nat) : ((List.range (n + 1)).map f).sum = ((List.range n).map f).sum + f n:=by
 rw [List.range_succ,List.map_append,List.sum_append];simp
theorem sum_mem (f : Nat → Nat) : ∀ (n i : Nat),i < n → f i ≤ ((List.range n).map f).sum
 | 0,i,h => absurd h (Nat.not_lt_zero _)
 | n + 1,i,h => by
  rw [sum_range_succ]
  rcases Nat.lt_or_ge i n with h' | h'
  ·have:=sum_mem f n i h';omega
  ·obtain rfl : i = n:=by omega
   omega
theorem sum_pos (f : Nat → Nat) (hf : ∀ i,1 ≤ f i) : ∀ n,n ≤ ((List.range n).map f).sum
 | 0 => Nat.zero_le _
 | n + 1 => by
  rw [sum_range_succ]
  have:=sum_pos f hf n
  have:=hf n
  omega
/-- the values of a slice, one by one -/
theorem vds_of {P : Nat → VD → Prop} {f : Nat → Nat} : ∀ n,(∀ i,i < n → ∃ d,P i d ∧ d.size ≤ f i) → ∃ l : List VD,l.length = n ∧ (∀ i,i < n → P i (vg l i)) ∧ sizes l ≤ ((List.range n).map f).sum
 | 0,_ => ⟨[],rfl,fun i hi => absurd hi (Nat.not_lt_zero _),by simp [sizes]⟩
 | n + 1,h => by
  obtain ⟨l,h1,h2,h3⟩:=vds_of (P:=P) (f:=f) n (fun i hi => h i (by omega))
  obtain ⟨d,h4,h5⟩:=h n (by omega)
  refine ⟨l ++ [d],by rw [List.length_append,h1];rfl,fun i hi => ?_, ?_⟩
  ·unfold vg
   rcases Nat.lt_or_ge i n with h' | h'
   ·rw [List.getD_eq_getElem?_getD,List.getElem?_append_left (by omega)]
    have:=h2 i h'
    unfold vg at this
    rwa [List.getD_eq_getElem?_getD] at this
   ·obtain rfl : i = n:=by omega
    rw [List.getD_eq_getElem?_getD,List.getElem?_append_right (by omega),h1,Nat.sub_self]
    exact h4
  ·rw [sizes_append,sum_range_succ]
   simp only [sizes]
   omega
theorem nms_of {P : Nat → List UInt8 → Prop} : ∀ n,(∀ i,i < n → ∃ d,P i d) → ∃ l : List (List UInt8),l.length = n ∧ ∀ i,i < n → P i (ng l i)
 | 0,_ => ⟨[],rfl,fun i hi => absurd hi (Nat.not_lt_zero _)⟩
 | n + 1,h => by
  obtain ⟨l,h1,h2⟩:=nms_of (P:=P) n (fun i hi => h i (by omega))
  obtain ⟨d,h4⟩:=h n (by omega)
  refine ⟨l ++ [d],by rw [List.length_append,h1];rfl,fun i hi => ?_⟩
  unfold ng
  rcases Nat.lt_or_ge i n with h' | h'
  ·rw [List.getD_eq_getElem?_getD,List.getElem?_append_left (by omega)]
   have:=h2 i h'
   unfold ng at this
   rwa [List.getD_eq_getElem?_getD] at this
  ·obtain rfl : i = n:=by omega
   rw [List.getD_eq_getElem?_getD,List.getElem?_append_right (by omega),h1,Nat.sub_self]
   exact h4
section
variable {H : Type} {enc : TypeId × Value → H} {W : World} {b0 : Nat} {sp : Nat → Bool} {held : Bool}
theorem open_names {fuel : Nat} {c : Value} {x : DataW H × List MemPlace} (h : DataW.trod enc Tryz.prog W b0 sp held fuel 22 [c] = some x) (hb : Rows.uptoBulk x.1 ≤ 1048576) :
  ∃ A C l,c = .slice A l.length C ∧ Nms W c l:=by
 rcases Deep.open_slice1 Tryz.underlying22 (by kernel_rfl) h with ⟨hc,rfl⟩ | ⟨a,len,cap,m,n,V,D,Pl,hc,_,hl,hm,hmm,rfl,hx⟩
 ·injection hc with hc
  subst hc
  exact ⟨none,0,[],rfl,none,0,rfl,⟨by simp,by simp,by unfold maxLen;omega⟩,fun r hr => absurd hr (by simp)⟩
 ·injection hc with hc
  subst hc
  have hle : len ≤ m:=by rw [hmm];split <;> omega
  simp only [Rows.uptoBulk] at hb
  rw [bulk_range] at hb
  have hlen : len ≤ 1048576:=by
   have:=sum_pos (fun i => Rows.uptoBulk (D i)) (fun i => bulk_pos _) len
   omega
  obtain ⟨b,o,spot⟩:=a
  obtain ⟨l,h1,h2⟩:=nms_of (P:=fun i s => spot = none ∧ W.cell? ⟨b,o + i,none⟩ = some (.string ⟨s.toArray⟩) ∧ s.length ≤ 1048576) len (fun i hi => by
   obtain ⟨h3,h4⟩:=hx i (by omega)
   obtain ⟨s,e1,e2,_⟩:=DataW.trod_string Tryz.underlying9 h4
   have hspot : spot = none:=by simpa [Addr.add] using World.cell?_spot (hx 0 (by omega)).1
   subst hspot
   injection e1 with e1
   refine ⟨s.data.toList,rfl, ?_, ?_⟩
   ·rw [← add_plain,h3,e1]
   ·have:=sum_mem (fun i => Rows.uptoBulk (D i)) len i hi
    injection e2 with e2 _
    rw [e2] at this
    simp only [Rows.uptoBulk] at this
    omega)
  refine ⟨some ⟨b,o,spot⟩,cap,l,by rw [h1],some ⟨b,o,spot⟩,cap,by rw [h1],⟨by omega,by omega,by unfold maxLen at hm ⊢;omega⟩,fun r hr => ?_⟩
  obtain ⟨h3,h4,h5⟩:=h2 r (by omega)
  subst h3
  exact ⟨b,o,rfl,h4,h5⟩
theorem wd_split2 {x y : Int} (hx : (Lit.int .u64 x).wf = true) (hy : (Lit.int .u64 y).wf = true) : ∃ n,n < 2 ^ 128 ∧ x = wd n 1 ∧ y = wd n 0:=by
 have wf : ∀ z : Int,(Lit.int .u64 z).wf = true → 0 ≤ z ∧ z < 18446744073709551616:=fun z hz => by
  have e1 : IntKind.u64.min = 0:=rfl
  have e2 : IntKind.u64.max = 18446744073709551615:=rfl
  simp [Lit.wf,e1,e2] at hz
  omega
 obtain ⟨x0,x1⟩:=wf x hx
 obtain ⟨y0,y1⟩:=wf y hy
 obtain ⟨n,hn,_,e1,e2⟩:=wd_make x y x0 x1 y0 y1
 exact ⟨n,hn,e1,e2⟩
set_option maxRecDepth 100000 in
theorem open_dec4 {fuel : Nat} {c0 c1 c2 c3 : Value} {x : DataW H × List MemPlace} (h : DataW.trod enc Tryz.prog W b0 sp held fuel 32 [c0,c1,c2,c3] = some x) :
  ∃ (b : Bool) (c : Nat) (s : Int),c < 2 ^ 128 ∧ c0 = .bool b ∧ c1 = .int .u64 (wd c 1) ∧ c2 = .int .u64 (wd c 0) ∧ c3 = .int .i64 s:=by
 obtain ⟨xs,n,_,hx,_,hlen,hg⟩:=DataW.trod_struct Tryz.underlying32 h
 have n0 : Tryz.prog.cellsOf 4 = 1:=by kernel_rfl
 have n1 : Tryz.prog.cellsOf 30 = 2:=by kernel_rfl
 have n2 : Tryz.prog.cellsOf 3 = 1:=by kernel_rfl
 have n3 : Tryz.prog.cellsOf 28 = 1:=by kernel_rfl
 have g0:=hg 0 _ rfl
 have g1:=hg 1 _ rfl
 have g2:=hg 2 _ rfl
 clear hg hx
 match xs,hlen with
 | [y0,y1,y2],_ =>
  simp only [List.getElem_toArray,List.getElem_cons_zero,List.getElem_cons_succ,n0,n1,n2] at g0 g1 g2
  simp at g0 g1 g2
  obtain ⟨b,e0,_⟩:=DataW.trod_bool Tryz.underlying4 g0
  obtain ⟨z2,e2,_,w2⟩:=DataW.trod_int Tryz.underlying3 g2
  obtain ⟨ys,n',_,_,_,hlen2,hg2⟩:=DataW.trod_struct Tryz.underlying30 g1
  have k0:=hg2 0 _ rfl
  have k1:=hg2 1 _ rfl
  match ys,hlen2 with
  | [q0,q1],_ =>
   simp only [List.getElem_toArray,List.getElem_cons_zero,List.getElem_cons_succ,n3] at k0 k1
   simp at k0 k1
   obtain ⟨z0,f0,_,v0⟩:=DataW.trod_int Tryz.underlying28 k0
   obtain ⟨z1,f1,_,v1⟩:=DataW.trod_int Tryz.underlying28 k1
   obtain ⟨c,hc,rfl,rfl⟩:=wd_split2 v0 v1
   simp at e0 e2 f0 f1
   exact ⟨b,c,z2,hc,e0,f0,f1,e2⟩
set_option maxRecDepth 100000 in
set_option maxHeartbeats 2000000 in
theorem open_cells : ∀ (N : Nat) (fuel : Nat) (cs : List Value) (x : DataW H × List MemPlace),Rows.uptoBulk x.1 ≤ N → N ≤ 1048576 → DataW.trod enc Tryz.prog W b0 sp held fuel 34 cs = some x →
  ∃ vd A C A2 C2,cs = vd.s.cs ++ [.slice A vd.list.length C,.slice A2 vd.names.length C2] ∧ RV W (.slice A vd.list.length C) (.slice A2 vd.names.length C2) vd ∧ vd.size ≤ Rows.uptoBulk x.1
 | 0,_,_,x,h,_,_ => by have:=bulk_pos x.1;omega
 | N + 1,fuel,cs,x,hN,hN2,h => by
  obtain ⟨xs,n,_,hx,hcl,hlen,hg⟩:=DataW.trod_struct Tryz.underlying34 h
  have n0 : Tryz.prog.cellsOf 3 = 1:=by kernel_rfl
  have n1 : Tryz.prog.cellsOf 4 = 1:=by kernel_rfl
  have n2 : Tryz.prog.cellsOf 32 = 4:=by kernel_rfl
  have n3 : Tryz.prog.cellsOf 9 = 1:=by kernel_rfl
  have n4 : Tryz.prog.cellsOf 24 = 1:=by kernel_rfl
  have n5 : Tryz.prog.cellsOf 22 = 1:=by kernel_rfl
  have n6 : Tryz.prog.cellsOf 34 = 10:=by kernel_rfl
  rw [n6] at hcl
  have g0:=hg 0 _ rfl
  have g1:=hg 1 _ rfl
  have g2:=hg 2 _ rfl
  have g3:=hg 3 _ rfl
  have g4:=hg 4 _ rfl
  have g5:=hg 5 _ rfl
  have g6:=hg 6 _ rfl
  clear hg h
  match cs,hcl with
  | [c0,c1,c2,c3,c4,c5,c6,c7,c8,c9],_ =>
   match xs,hlen with
   | [y0,y1,y2,y3,y4,y5,y6],_ =>
    simp only [List.getElem_toArray,List.getElem_cons_zero,List.getElem_cons_succ,n0,n1,n2,n3,n4,n5] at g0 g1 g2 g3 g4 g5 g6
    simp at g0 g1 g2 g3 g4 g5 g6
    obtain ⟨kind,e0,r0,_⟩:=DataW.trod_int Tryz.underlying3 g0
    obtain ⟨yes,e1,r1⟩:=DataW.trod_bool Tryz.underlying4 g1
    obtain ⟨neg,coef,sc,hcoef,e2,e3,e4,e5⟩:=open_dec4 g2
    obtain ⟨text,e6,r6,_⟩:=DataW.trod_string Tryz.underlying9 g3
    obtain ⟨day,e7,r7,_⟩:=DataW.trod_int Tryz.underlying3 g4
    simp at e0 e1 e6 e7
    subst e0 e1 e2 e3 e4 e5 e6 e7
    subst hx
    simp only [Rows.uptoBulk,List.map_cons,List.map_nil,Rows.uptoBulkAll] at hN ⊢
    have hb3 : text.data.toList.length ≤ 1048576:=by
     have : Rows.uptoBulk y3.1 = text.data.toList.length + 1:=by rw [r6];rfl
     omega
    obtain ⟨A2,C2,nm,rfl,hnm⟩:=open_names g6 (by omega)
    rcases Deep.open_slice Tryz.underlying24 g5 with ⟨hc,rfl⟩ | ⟨a,len,cap,m,n',D,Pl,hc,_,hl,hm,hmm,rfl,hxs⟩
    ·injection hc with hc
     subst hc
     refine ⟨.mk ⟨kind,yes,neg,coef,sc,text.data.toList,day⟩ [] nm,none,0,A2,C2, ?_,RV.mk (d:=.mk ⟨kind,yes,neg,coef,sc,text.data.toList,day⟩ [] nm) ⟨hcoef,hb3⟩ ⟨none,0,rfl,⟨by simp [VD.list],by simp [VD.list],by unfold maxLen;omega⟩,fun r hr => absurd hr (by simp [VD.list])⟩ hnm, ?_⟩
     ·simp [VS.cs,VD.s,VD.list,VD.names]
     ·simp [VD.size,sizes]
    ·injection hc with hc
     subst hc
     rw [n6] at hxs
     have hle : len ≤ m:=by rw [hmm];split <;> omega
     simp only [Rows.uptoBulk] at hN ⊢
     rw [bulk_range] at hN ⊢
     have hlen2 : len ≤ 1048576:=by
      have:=sum_pos (fun i => Rows.uptoBulk (D i)) (fun i => bulk_pos _) len
      omega
     obtain ⟨b,o,spot⟩:=a
     obtain ⟨l,h1,h2,h3⟩:=vds_of (P:=fun i vd => spot = none ∧ ∃ A1 C1 A2 C2,At W b (o + i * 10) (vd.s.cs ++ [.slice A1 vd.list.length C1,.slice A2 vd.names.length C2]) ∧ RV W (.slice A1 vd.list.length C1) (.slice A2 vd.names.length C2) vd) (f:=fun i => Rows.uptoBulk (D i)) len (fun i hi => by
      obtain ⟨cs',q1,q2⟩:=hxs i (by omega)
      have hbi:=sum_mem (fun i => Rows.uptoBulk (D i)) len i hi
      obtain ⟨vd,A1,C1,A3,C3,e,hrv,hs⟩:=open_cells N n' cs' (D i,Pl i) (by dsimp only;omega) (by omega) q2
      obtain ⟨_,hl10,hat⟩:=World.cells?_some q1
      have hspot : spot = none:=by
       obtain ⟨cs0,p1,_⟩:=hxs 0 (by omega)
       obtain ⟨_,hl0,hat0⟩:=World.cells?_some p1
       have h0:=hat0 0 (by omega)
       rw [List.getElem?_eq_getElem (by omega)] at h0
       simpa [Addr.add] using World.cell?_spot h0
      subst hspot
      refine ⟨vd,⟨rfl,A1,C1,A3,C3,fun j hj => ?_,hrv⟩,hs⟩
      rw [← e] at hj ⊢
      rw [← hat j (by omega)]
      congr 1
      rw [show ((⟨b,o,none⟩ : Addr).add (i * 10)) = ⟨b,o + i * 10,none⟩ from add_plain ..,show ((⟨b,o + i * 10,none⟩ : Addr).add j) = ⟨b,o + i * 10 + j,none⟩ from add_plain ..])
     refine ⟨.mk ⟨kind,yes,neg,coef,sc,text.data.toList,day⟩ l nm,some ⟨b,o,spot⟩,cap,A2,C2, ?_,RV.mk (d:=.mk ⟨kind,yes,neg,coef,sc,text.data.toList,day⟩ l nm) ⟨hcoef,hb3⟩ ⟨some ⟨b,o,spot⟩,cap,rfl,⟨?_, ?_, ?_⟩,fun r hr => ?_⟩ hnm, ?_⟩
     ·simp [VS.cs,VD.s,VD.list,VD.names,h1]
     ·show l.length ≤ _;omega
     ·show l.length ≤ _;omega
     ·unfold maxLen at hm ⊢;omega
     ·have hr' : r < l.length:=hr
      obtain ⟨q0,A1,C1,A3,C3,q1,q2⟩:=h2 r (by omega)
      subst q0
      exact ⟨b,o,A1,C1,A3,C3,rfl,q1,q2⟩
     ·show 1 + sizes l ≤ _
      omega
end
end Go.Proofs.YtkjecoanlppeaaaGreatDoor

