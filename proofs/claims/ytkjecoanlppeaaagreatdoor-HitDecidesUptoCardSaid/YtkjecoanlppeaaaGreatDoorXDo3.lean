/- What this law reaches beyond the common contracts, part 3. -/
import Derived.BigQuiet
import Derived.Test.YtkjecoanlppeaaaGreatDoorM4
import Derived.Test.YtkjecoanlppeaaaGreatDoorXDo2
set_option linter.unusedSimpArgs false
set_option linter.unusedVariables false


namespace Go.Proofs.YtkjecoanlppeaaaGreatDoor
open Go.RowKit

def RetB (w0 : World) (d : VD) (w : World) (e : Ending) (w' : World) : Prop:=∃ A C A2 C2,e = .returned (vargs d A C A2 C2) ∧ VB w0.heap.size w.heap.size w'.heap.size w' d A C A2 C2 ∧ Below w.heap.size w w'
theorem vls_cells {w0 : World} {b o C : Nat} {l : List VD} (h : Vls (RV w0) w0 (.slice (some ⟨b,o,none⟩) l.length C) l) :
  ∃ cs : List (List Value),cs.length = l.length ∧ (∀ i,i < l.length → ∃ A C A2 C2,cs[i]? = some (vcs (vg l i) A C A2 C2) ∧ VA w0 (vg l i) A C A2 C2) ∧ cs.flatten.length = l.length * 10 ∧ (∀ j u,cs.flatten[j]? = some u → w0.cell? ⟨b,o + j,none⟩ = some u) ∧ ∀ u ∈ cs.flatten,u.oneCell' = true:=by
 have key : ∀ n,n ≤ l.length → ∃ cs : List (List Value),cs.length = n ∧ (∀ i,i < n → ∃ A C A2 C2,cs[i]? = some (vcs (vg l i) A C A2 C2) ∧ VA w0 (vg l i) A C A2 C2) ∧ cs.flatten.length = n * 10 ∧ (∀ j u,cs.flatten[j]? = some u → w0.cell? ⟨b,o + j,none⟩ = some u) ∧ ∀ u ∈ cs.flatten,u.oneCell' = true:=fun n=>by
  induction n with
  | zero=>intro _;exact ⟨[],rfl,fun i hi=>absurd hi (Nat.not_lt_zero _),rfl,fun j u h=>by simp at h,fun u h=>by simp at h⟩
  | succ n ih =>
   intro hn
   obtain ⟨cs,h1,h2,h3,h4,h5⟩:=ih (by omega)
   obtain ⟨b',o',A,C',A2,C2,e,hat,hv⟩:=h.at (show n < l.length by omega)
   injection e with e
   injection e with e1 e2 _
   subst e1 e2
   refine ⟨cs ++ [vcs (vg l n) A C' A2 C2],by rw [List.length_append,h1];rfl,fun i hi=>?_, ?_,fun j u hj=>?_,fun u hu=>?_⟩
   ·by_cases e : i = n
    ·subst e
     exact ⟨A,C',A2,C2,by rw [List.getElem?_append_right (by omega),h1,Nat.sub_self];rfl,hv⟩
    ·obtain ⟨A',C'',A2',C2',g1,g2⟩:=h2 i (by omega)
     exact ⟨A',C'',A2',C2',by rw [List.getElem?_append_left (by omega)];exact g1,g2⟩
   ·rw [List.flatten_append,List.length_append,h3,List.flatten_singleton,vcs_len];omega
   ·rw [List.flatten_append,List.flatten_singleton] at hj
    rcases Nat.lt_or_ge j (n * 10) with hlt | hge
    ·rw [List.getElem?_append_left (by omega)] at hj
     exact h4 j u hj
    ·rw [List.getElem?_append_right (by omega),h3] at hj
     have hlt:=(List.getElem?_eq_some_iff.1 hj).1
     have hc:=hat (j - n * 10) hlt
     have e : o + n * 10 + (j - n * 10) = o + j:=by omega
     rw [e] at hc
     rw [hc];exact hj
   ·rw [List.flatten_append,List.flatten_singleton,List.mem_append] at hu
    rcases hu with hu | hu
    ·exact h5 u hu
    ·exact vcs_one _ _ _ _ _ u hu
 exact key l.length (Nat.le_refl _)
end Go.Proofs.YtkjecoanlppeaaaGreatDoor



namespace Go.Proofs.YtkjecoanlppeaaaGreatDoor
open Go.RowKit

theorem info_strO : (Tryz.prog.info? 9).map (fun i=>(i.zero,i.size,i.bytes)) = some (some (.string ⟨#[]⟩),1,16):=by kernel_rfl
theorem own_empty {w : World} {g : Nat} (hg : g = w.heap.size) (e : TypeId) (size base : Nat) (hB : base ≤ g) : (w.alloc (.cells #[] e)).ownsRow base e size (.slice (some ⟨g,0,none⟩) 0 0) 0 []:=by
 subst hg
 exact World.ownsRow_made w #[] 0 hB (by decide) (by simp)
theorem Bk.zce {w : World} {g : Nat} {t : TypeId} (h : Bk w g t zc10) : (w.cell? ⟨g,0,none⟩ = some (.int .i64 0) ∧ w.cell? ⟨g,1,none⟩ = some (.bool false) ∧ w.cell? ⟨g,2,none⟩ = some (.bool false) ∧ w.cell? ⟨g,3,none⟩ = some (.int .u64 0) ∧ w.cell? ⟨g,4,none⟩ = some (.int .u64 0) ∧ w.cell? ⟨g,5,none⟩ = some (.int .i64 0) ∧ w.cell? ⟨g,6,none⟩ = some (.string ⟨#[]⟩) ∧ w.cell? ⟨g,7,none⟩ = some (.int .i64 0) ∧ w.cell? ⟨g,8,none⟩ = some (.slice none 0 0) ∧ w.cell? ⟨g,9,none⟩ = some (.slice none 0 0)) ∧ ∀ i,w.frozen? ⟨g,i,none⟩ = false :=
 ⟨⟨h.cell 0 rfl,h.cell 1 rfl,h.cell 2 rfl,h.cell 3 rfl,h.cell 4 rfl,h.cell 5 rfl,h.cell 6 rfl,h.cell 7 rfl,h.cell 8 rfl,h.cell 9 rfl⟩,h.frozen⟩
set_option maxRecDepth 100000 in
theorem wpList_namesN {w : World} {ops : Array Oper} {rest : List Oper} {o : Oper} {a : Act} {Q : Exit → Act → World → Prop} (hgd : o.guard = none) (s x : Operand)
  (ho : o.op = .call { callee:=.builtin .append,args:=#[s,x],argTypes:=#[22,22] })
  (B : Nat) (hB : B ≤ w.heap.size) (v : Value) (hs : a.eval s = v) (hown : w.ownsRow B 9 1 v 0 []) (b q C : Nat) (l : List (List UInt8)) (hx : a.eval x = .slice (some ⟨b,q,none⟩) l.length C) (hN : Nms w (.slice (some ⟨b,q,none⟩) l.length C) l) (h0 : 0 < l.length) (hl : l.length ≤ 1000000)
  (h : ∀ g cap w',w'.ownsRow B 9 1 (.slice (some ⟨g,0,none⟩) l.length cap) l.length (l.map fun s=>Value.string ⟨s.toArray⟩) → Below B w w' → g < w'.heap.size → wpList Tryz.prog ops Q rest (a.put o.dst (.slice (some ⟨g,0,none⟩) l.length cap)) w') :
  wpList Tryz.prog ops Q (o :: rest) a w:=by
 obtain ⟨i0,hi0,hz0,hz1,hz2⟩:=info_parts info_strO
 refine wpList_append_lies w hgd s x 22 ho B 9 i0 (.string ⟨#[]⟩) 1 16 Tryz.underlying22 hi0 hz0 hz1 hz2 rfl (by decide) v 0 [] hs hown ⟨b,q,none⟩ l.length C (l.map fun s=>Value.string ⟨s.toArray⟩) hx (by simp) ?_ ?_ h0 (by unfold maxLen;omega) (by omega) hB w.heap.size rfl ?_
 ·intro j u hj
  have hjl : j < l.length:=by simpa using (List.getElem?_eq_some_iff.1 hj).1
  obtain ⟨b',o',e',hc,_⟩:=hN.at hjl
  injection e' with e'
  injection e' with e1 e2 _
  subst e1 e2
  have hadd : (⟨b,q,none⟩ : Addr).add j = ⟨b,q + j,none⟩:=by unfold Addr.add;split <;> simp_all
  rw [hadd,hc,← hj,List.getElem?_map,List.getElem?_eq_getElem hjl,ng_get hjl];rfl
 ·intro u hu
  obtain ⟨s,_,rfl⟩:=List.mem_map.1 hu
  rfl
 ·intro g cap w' k1 k2 k3 k4
  rw [Nat.zero_add] at k1 ⊢
  rw [List.nil_append] at k1
  exact h g cap w' k1 ⟨k2.os,k2.tape,k2.output,k2.size,fun k hk=>k2.block k (Nat.lt_of_lt_of_le hk hB) (fun e=>by have:=(hown.lt k e.symm).1;omega)⟩ k4
theorem wpList_valsN {w0 w : World} {ops : Array Oper} {rest : List Oper} {o : Oper} {a : Act} {Q : Exit → Act → World → Prop} (hgd : o.guard = none) (s x : Operand)
  (ho : o.op = .call { callee:=.builtin .append,args:=#[s,x],argTypes:=#[24,24] })
  (B : Nat) (hB : B ≤ w.heap.size) (h0B : w0.heap.size ≤ B) (hb0 : Below w0.heap.size w0 w) (v : Value) (hs : a.eval s = v) (hown : w.ownsRow B 34 10 v 0 []) (b q C : Nat) (l : List VD) (hx : a.eval x = .slice (some ⟨b,q,none⟩) l.length C) (hN : Vls (RV w0) w0 (.slice (some ⟨b,q,none⟩) l.length C) l) (h0 : 0 < l.length) (hl : l.length ≤ 1000000)
  (h : ∀ g cap w',OwnVs B w0.heap.size w' (.slice (some ⟨g,0,none⟩) l.length cap) l → Below B w w' → g < w'.heap.size → wpList Tryz.prog ops Q rest (a.put o.dst (.slice (some ⟨g,0,none⟩) l.length cap)) w') :
  wpList Tryz.prog ops Q (o :: rest) a w:=by
 obtain ⟨i0,hi0,hz0,hz1,hz2⟩:=info_parts info_val10
 obtain ⟨cs,c1,c2,c3,c4,c5⟩:=vls_cells hN
 refine wpList_append_lies w hgd s x 24 ho B 34 i0 _ 10 120 Tryz.underlying24 hi0 hz0 hz1 hz2 rfl (by decide) v 0 [] hs hown ⟨b,q,none⟩ l.length C cs.flatten hx c3 ?_ c5 h0 (by unfold maxLen;omega) (by omega) hB w.heap.size rfl ?_
 ·intro j u hj
  have hadd : (⟨b,q,none⟩ : Addr).add j = ⟨b,q + j,none⟩:=by unfold Addr.add;split <;> simp_all
  have hc:=c4 j u hj
  rw [hadd]
  exact (hb0.cell (p:=⟨b,q + j,none⟩) (vcell_lt hc)).trans hc
 ·intro g cap w' k1 k2 k3 k4
  rw [Nat.zero_add] at k1 ⊢
  rw [List.nil_append] at k1
  have hbel : Below B w w':=⟨k2.os,k2.tape,k2.output,k2.size,fun k hk=>k2.block k (Nat.lt_of_lt_of_le hk hB) (fun e=>by have:=(hown.lt k e.symm).1;omega)⟩
  refine h g cap w' ⟨cs,c1,k1,fun i hi=>?_⟩ hbel k4
  obtain ⟨A,C',A2,C2,g1,g2⟩:=c2 i hi
  refine ⟨A,C',A2,C2,g1,VN.base g2 (hb0.trans (hbel.mono h0B)) fun g' hg'=>?_⟩
  have:=(k1.lt g' hg').1
  omega
set_option maxRecDepth 100000 in
set_option maxHeartbeats 2000000 in
theorem rvalue18_any (names : List (List UInt8)) (row : List VD) (N R : Value) (w0 w : World) (hb : Below w0.heap.size w0 w) (hn : Nms w0 N names) (hr : Vls (RV w0) w0 R row) (h1 : 1 ≤ names.length) (h8 : names.length ≤ 8) (hl : row.length = names.length) :
  Calls Tryz.prog 45 #[N,R] w (RetB w0 (wholeD names row) w):=by
 obtain ⟨NA,NC,rfl,q1⟩:=hn.is
 obtain ⟨RA,RC,rfl,q2⟩:=hr.is
 by_cases h1 : names.length = 1
 ·have e : wholeD names row = vg row 0:=if_pos h1
  rw [e]
  obtain ⟨b,o,A,C,A2,C2,rfl,hat,hy⟩:=hr.at (show 0 < row.length by omega)
  rw [Nat.zero_mul,Nat.add_zero] at hat
  obtain ⟨a0,a1,a2,a3,a4,a5,a6,a7,a8,a9⟩:=(hat.below hb).val
  have lb:=vcell_lt a0
  have hr0 : (0 : Int) < (row.length : Int):=by omega
  unfold RetB vargs
  obtain ⟨y,hyy⟩ : ∃ y,y = vg row 0:=⟨_,rfl⟩
  rw [← hyy] at a0 a1 a2 a3 a4 a5 a6 a7 a8 a9 hy
  rw [← hyy]
  obtain ⟨n1,hn1⟩ : ∃ n,n = y.list.length:=⟨_,rfl⟩
  obtain ⟨n2,hn2⟩ : ∃ n,n = y.names.length:=⟨_,rfl⟩
  rw [← hn1] at a8 ⊢
  rw [← hn2] at a9 ⊢
  have HY:=Lib.hid hy
  have HB:=Lib.hid hb
  have h0s:=hb.size
  obtain ⟨s,hs⟩ : ∃ s,s = y.s:=⟨_,rfl⟩
  rw [← hs] at a0 a1 a2 a3 a4 a5 a6 a7 ⊢
  unfold vagg
  rw [h1]
  clear hat hyy hn1 hn2 hs hy hn hr e q1 q2 hl h1 hb
  go_enter Tryz.func45,Tryz.ntmps45
  go_wp2_with fail
  refine bodyPost_ret (by simp [results,Tryz.results45,go_sem, *];try rfl) rfl ?_
  exact ⟨A,C,A2,C2,rfl,VB.base HY.out (Below.trans HB.out (Below.mono (by (repeat' first|(with_reducible first|exact blR _ _|assumption|refine blD ?_|refine blN ?_ _)|((with_reducible first|refine blA ?_ ?_ _|refine blS ?_ ?_ _|refine blT (by assumption) ?_ ?_);focus (go_size;done)))) h0s)) _ _,by (repeat' first|(with_reducible first|exact blR _ _|assumption|refine blD ?_|refine blN ?_ _)|((with_reducible first|refine blA ?_ ?_ _|refine blS ?_ ?_ _|refine blT (by assumption) ?_ ?_);focus (go_size;done)))⟩
 ·have e : wholeD names row = .mk (kindS 6) row names:=if_neg h1
  rw [e]
  obtain ⟨rb,ro,rfl⟩ : ∃ b o,RA = some ⟨b,o,none⟩:=by
   obtain ⟨b,o,_,_,_,_,e,_⟩:=hr.at (show 0 < row.length by omega)
   exact ⟨b,o,e⟩
  obtain ⟨nb,no,rfl⟩ : ∃ b o,NA = some ⟨b,o,none⟩:=by
   obtain ⟨b,o,e,_⟩:=hn.at (show 0 < names.length by omega)
   exact ⟨b,o,e⟩
  have HN:=Lib.hid hn
  have HR:=Lib.hid hr
  have HB:=Lib.hid hb
  have h0s:=hb.size
  have f0 : ((names.length : Int) == 1) = false:=by rw [beq_eq_false_iff_ne];omega
  have hnl : (names.length : Int) ≤ 8:=by omega
  have hrl : (row.length : Int) ≤ 8:=by omega
  have HL2:=Lib.hid (show 0 < names.length by omega)
  have HL3:=Lib.hid (show 0 < row.length by omega)
  have HL4:=Lib.hid (show row.length ≤ 1000000 by omega)
  have HL5:=Lib.hid (show names.length ≤ 1000000 by omega)
  clear hn hr hb e h1 q1 q2 hl h8
  go_enter Tryz.func45,Tryz.ntmps45
  go_wp2_with (first | (at_builtin;refine wpList_namesN rfl _ _ rfl (w.heap.size + 1) (by go_size) _ rfl (own_empty (by simp only [World.size_alloc]) _ _ _ (Nat.le_refl _)) nb no NC names rfl (HN.out.below (Below.trans HB.out (Below.mono (by (repeat' first|(with_reducible first|exact blR _ _|assumption|refine blD ?_|refine blN ?_ _)|((with_reducible first|refine blA ?_ ?_ _|refine blS ?_ ?_ _|refine blT (by assumption) ?_ ?_);focus (go_size;done))) : Below w.heap.size w _) h0s))) HL2.out HL5.out ?_;intro ga ca wa hoa hba hla;have HOA:=Lib.hid hoa;clear hoa;have hsa:=hba.size;(try simp only [World.size_alloc] at hsa);have ka : Bk wa w.heap.size 34 zc10:=(by unfold zc10;(repeat (first|(with_reducible assumption)|((with_reducible refine bkW ?_);(first|rfl|(simp only [wsA,wsS,wsD,wsN];done)))|(with_reducible first|refine bkA ?_ _|refine bkD ?_|refine bkN ?_ _)|((with_reducible refine bkF ?_ ?_ _);focus (simp only [];omega))|((with_reducible refine bkB (by assumption) ?_ ?_);focus (go_size;done)))));have hbw : Below w.heap.size w wa:=Below.trans (by (repeat' first|(with_reducible first|exact blR _ _|assumption|refine blD ?_|refine blN ?_ _)|((with_reducible first|refine blA ?_ ?_ _|refine blS ?_ ?_ _|refine blT (by assumption) ?_ ?_);focus (go_size;done)))) (hba.mono (by omega))) | (at_builtin;refine wpList_valsN (w0:=w0) rfl _ _ rfl wa.heap.size (by go_size) (by omega) (HB.out.trans (Below.mono (by (repeat' first|(with_reducible first|exact blR _ _|assumption|refine blD ?_|refine blN ?_ _)|((with_reducible first|refine blA ?_ ?_ _|refine blS ?_ ?_ _|refine blT (by assumption) ?_ ?_);focus (go_size;done))) : Below w.heap.size w _) h0s)) _ rfl (own_empty rfl _ _ _ (Nat.le_refl _)) rb ro RC row rfl HR.out HL3.out HL4.out ?_;intro gb cb wb hob hbb hlb;have HOB:=Lib.hid hob;clear hob;have hsb:=hbb.size;(try simp only [World.size_alloc] at hsb);(try have : w.heap.size < wb.heap.size:=by omega);(try have : w.heap.size + 1 < wb.heap.size:=by omega);(try have : w.heap.size + 1 + 1 < wb.heap.size:=by omega);(try have : w.heap.size + 1 + 1 + 1 < wb.heap.size:=by omega);have k1 : Bk wb w.heap.size 34 zc10:=(by (repeat (first|(with_reducible assumption)|((with_reducible refine bkW ?_);(first|rfl|(simp only [wsA,wsS,wsD,wsN];done)))|(with_reducible first|refine bkA ?_ _|refine bkD ?_|refine bkN ?_ _)|((with_reducible refine bkF ?_ ?_ _);focus (simp only [];omega))|((with_reducible refine bkB (by assumption) ?_ ?_);focus (go_size;done)))));have mb : Below w.heap.size w wb:=(by (repeat' first|(with_reducible first|exact blR _ _|assumption|refine blD ?_|refine blN ?_ _)|((with_reducible first|refine blA ?_ ?_ _|refine blS ?_ ?_ _|refine blT (by assumption) ?_ ?_);focus (go_size;done))));obtain ⟨⟨z0,z1,z2,z3,z4,z5,z6,z7,z8,z9⟩,zf⟩:=k1.zce;clear k1))
  refine bodyPost_ret (by simp [results,Tryz.results45,go_sem, *];try rfl) rfl ?_
  refine ⟨some ⟨gb,0,none⟩,cb,some ⟨ga,0,none⟩,ca,by rw [vargs,vagg];simp only [VD.s,VD.list,VD.names,kindS,wd_zero], ?_,by (repeat' first|(with_reducible first|exact blR _ _|assumption|refine blD ?_|refine blN ?_ _)|((with_reducible first|refine blA ?_ ?_ _|refine blS ?_ ?_ _|refine blT (by assumption) ?_ ?_);focus (go_size;done)))⟩
  intro W' hW'
  have hfin : ∀ b,b < w0.heap.size ∨ (w.heap.size < b ∧ b < wb.heap.size) → W'.heap[b]? = wb.heap[b]?:=fun b hb'=>by
   refine (hW' b ?_).trans ?_
   ·simp only [World.size_setCell];omega
   ·repeat rw [Below.heap_setCell _ _ _ _ (by show b ≠ w.heap.size;omega)]
  refine RV.mk (d:=.mk (kindS 6) row names) (kindS_ok 6) (HOB.out.vlsR (by have:=HL4.out;omega) fun b hb'=>hfin b (by omega)) ?_
  obtain ⟨A',C',e,hNN⟩:=nms_own HOA.out (fun r hr=>by obtain ⟨_,_,_,_,q⟩:=HN.out.at hr;exact q) (by have:=HL5.out;omega)
  injection e with e1 _ e2
  subst e1 e2
  refine hNN W' fun b hb'=>(hfin b (by omega)).trans ((hbb.block b (by omega)).trans (Below.heap_alloc _ _ _ (by omega)))
end Go.Proofs.YtkjecoanlppeaaaGreatDoor



namespace Go.Proofs.YtkjecoanlppeaaaGreatDoor
open Go.RowKit

set_option maxRecDepth 100000 in
set_option maxHeartbeats 2000000 in
theorem rform18_any (names : List (List UInt8)) (order rows : List (List VD)) (other : List VD) (N O R V : Value) (w : World) (hso : ∀ t,t < order.length → SmallL (lg order t)) (hsr : ∀ t,t < rows.length → SmallL (lg rows t)) (hsv : SmallL other) (hn : Nms w N names) (ho : Lls w O order) (hr : Lls w R rows) (hv : Vls (RV w) w V other) :
  Calls Tryz.prog 23 #[N,O,R,V] w fun e w'=>e = .returned (.bool (formT names order rows other)) ∧ Below w.heap.size w w':=by
 obtain ⟨A,C,rfl,q1⟩:=hn.is
 obtain ⟨hc1,hc2⟩:=hn.caps
 obtain ⟨A4,C4,rfl,q4⟩:=hv.is
 have HN:=Lib.hid hn
 have HC:=Lib.hid (fun (W : World) (hW : Below w.heap.size w W)=>lists_any order rows O R names.length W hso hsr (ho.below hW) (hr.below hW) q1)
 have HV:=Lib.hid (fun (W : World) (hW : Below w.heap.size w W)=>rvalues_any other (.slice A4 other.length C4) W (hv.kept hW) hsv)
 obtain ⟨z,hz⟩ : ∃ z,z = formT names order rows other:=⟨_,rfl⟩
 rw [← hz]
 unfold formT at hz
 obtain ⟨f,hf⟩ : ∃ f,f = listsB order rows names.length:=⟨_,rfl⟩
 obtain ⟨y,hy⟩ : ∃ y,y = namesB names:=⟨_,rfl⟩
 obtain ⟨v,hvv⟩ : ∃ v,v = allC other:=⟨_,rfl⟩
 rw [← hf,← hy,← hvv] at hz
 rw [← hf] at HC
 rw [← hvv] at HV
 have HY : Hid (y = true ↔ ∀ i,i < names.length → nam (ng names i) = true ∧ ∀ k,k < i → ng names k ≠ ng names i):=Lib.hid (by rw [hy,namesB,decide_eq_true_eq])
 have HZ:=Lib.hid hz
 have hnl : (names.length : Int) ≤ 1048576:=by omega
 have hol : (other.length : Int) ≤ 1048576:=by omega
 clear hz hf hy hvv hn ho hr hv hso hsr hsv q1 q4
 by_cases h0 : names.length = 0
 ·have g0 : ((names.length : Int) == 0) = true:=by rw [beq_iff_eq];omega
  have hz : z = false:=by rw [HZ.out,decide_eq_false (by omega)];rfl
  subst hz
  clear h0 HZ
  go_enter Tryz.func23,Tryz.ntmps23
  go_wp2_with fail
  go_ret
  exact ⟨rfl,by (repeat' first|(with_reducible first|exact blR _ _|assumption|refine blD ?_|refine blN ?_ _)|((with_reducible first|refine blA ?_ ?_ _|refine blS ?_ ?_ _|refine blT (by assumption) ?_ ?_);focus (go_size;done)))⟩
 have g0 : ((names.length : Int) == 0) = false:=by rw [beq_eq_false_iff_ne];omega
 by_cases h8 : 8 < names.length
 ·have g8 : (8 : Int) < (names.length : Int):=by omega
  have hz : z = false:=by rw [HZ.out,decide_eq_false (by omega)];rfl
  subst hz
  clear h0 h8 HZ
  go_enter Tryz.func23,Tryz.ntmps23
  go_wp2_with fail
  go_ret
  exact ⟨rfl,by (repeat' first|(with_reducible first|exact blR _ _|assumption|refine blD ?_|refine blN ?_ _)|((with_reducible first|refine blA ?_ ?_ _|refine blS ?_ ?_ _|refine blT (by assumption) ?_ ?_);focus (go_size;done)))⟩
 have g8 : ¬ (8 : Int) < (names.length : Int):=by omega
 have hz1 : z = (f && (y && (decide (other.length = 0) || (decide (other.length = names.length) && v)))):=by rw [HZ.out,decide_eq_true ⟨by omega,by omega⟩];rfl
 have HZ1:=Lib.hid hz1
 clear HZ hz1 h0 h8
 cases f with
 | false =>
  have hz : z = false:=HZ1.out
  subst hz
  go_enter Tryz.func23,Tryz.ntmps23
  go_wp2_with ((go_at_call 29;with_reducible refine (HC.out _ (by (repeat' first|(with_reducible first|exact blR _ _|assumption|refine blD ?_|refine blN ?_ _)|((with_reducible first|refine blA ?_ ?_ _|refine blS ?_ ?_ _|refine blT (by assumption) ?_ ?_);focus (go_size;done))))).mono ?_);rintro _ w2 ⟨rfl,hb2⟩;have hb2s:=hb2.size;(try simp only [wsA,wsS,wsD,wsN] at hb2s);obtain ⟨hb2c,hb2f⟩:=bcell hb2;(try have : w.heap.size < w2.heap.size:=by omega);(try have : w.heap.size + 1 < w2.heap.size:=by omega);(try have : w.heap.size + 1 + 1 < w2.heap.size:=by omega);(try have : w.heap.size + 1 + 1 + 1 < w2.heap.size:=by omega))
  go_ret
  exact ⟨rfl,by (repeat' first|(with_reducible first|exact blR _ _|assumption|refine blD ?_|refine blN ?_ _)|((with_reducible first|refine blA ?_ ?_ _|refine blS ?_ ?_ _|refine blT (by assumption) ?_ ?_);focus (go_size;done)))⟩
 | true =>
  have HZ2 : Hid (z = (y && (decide (other.length = 0) || (decide (other.length = names.length) && v)))):=Lib.hid (by rw [HZ1.out];rfl)
  clear HZ1
  go_enter Tryz.func23,Tryz.ntmps23
  go_wp2_with ((go_at_call 29;with_reducible refine (HC.out _ (by (repeat' first|(with_reducible first|exact blR _ _|assumption|refine blD ?_|refine blN ?_ _)|((with_reducible first|refine blA ?_ ?_ _|refine blS ?_ ?_ _|refine blT (by assumption) ?_ ?_);focus (go_size;done))))).mono ?_);rintro _ w2 ⟨rfl,hb2⟩;have hb2s:=hb2.size;(try simp only [wsA,wsS,wsD,wsN] at hb2s);obtain ⟨hb2c,hb2f⟩:=bcell hb2;(try have : w.heap.size < w2.heap.size:=by omega);(try have : w.heap.size + 1 < w2.heap.size:=by omega);(try have : w.heap.size + 1 + 1 < w2.heap.size:=by omega);(try have : w.heap.size + 1 + 1 + 1 < w2.heap.size:=by omega))
  go_loopg [9] names.length (fun k i wr=>∃ t : Nat,k + t = names.length ∧ i = .int .i64 t ∧ Hid (∀ i,i < t → nam (ng names i) = true ∧ ∀ k,k < i → ng names k ≠ ng names i) ∧ w.heap.size ≤ wr.heap.size ∧ Below w.heap.size w wr)
  case atStart=>exact ⟨0,by omega,rfl,Lib.hid (fun i hi=>absurd hi (Nat.not_lt_zero _)),by omega,by (repeat' first|(with_reducible first|exact blR _ _|assumption|refine blD ?_|refine blN ?_ _)|((with_reducible first|refine blA ?_ ?_ _|refine blS ?_ ?_ _|refine blT (by assumption) ?_ ?_);focus (go_size;done)))⟩
  case round =>
   obtain ⟨t,hk,rfl,HA,hsz,hbel⟩:=hrel
   have HK:=Lib.hid hk
   have htn : t ≤ names.length:=by omega
   clear hk
   by_cases hlt : t < names.length
   ·obtain ⟨b,o,rfl,hcell,hlen⟩:=(HN.out.below hbel).at hlt
    have HNM:=Lib.hid (rname4_any (ng names t) (by omega) wr)
    have htc : (t : Int) < (names.length : Int):=by omega
    obtain ⟨p,hp⟩ : ∃ p,p = nam (ng names t):=⟨_,rfl⟩
    rw [← hp] at HNM
    have HP:=Lib.hid hp
    obtain ⟨x,hx⟩ : ∃ x,x = ng names t:=⟨_,rfl⟩
    rw [← hx] at hcell HNM
    have HX:=Lib.hid hx
    have lb:=vcell_lt hcell
    clear hp hx hlen
    cases p with
    | false =>
     have hz : z = false:=by
      rw [HZ2.out]
      cases y with
      | false=>rfl
      | true =>
       have:=(HY.out.1 rfl t hlt).1
       rw [← HP.out] at this;exact Bool.noConfusion this
     subst hz
     go_wp2_with fail
     refine HNM.out.mono ?_
     rintro _ _ ⟨rfl,rfl⟩
     go_wp2_with fail
     go_ret
     exact ⟨rfl,by (repeat' first|(with_reducible first|exact blR _ _|assumption|refine blD ?_|refine blN ?_ _)|((with_reducible first|refine blA ?_ ?_ _|refine blS ?_ ?_ _|refine blT (by assumption) ?_ ?_);focus (go_size;done)))⟩
    | true =>
     go_wp2_with fail
     refine HNM.out.mono ?_
     rintro _ _ ⟨rfl,rfl⟩
     go_wp2_with fail
     obtain ⟨wo,hwo⟩ : ∃ wo : World,wo = wr:=⟨_,rfl⟩
     obtain ⟨go,hgo⟩ : ∃ go : Nat,go = gk:=⟨_,rfl⟩
     rw [← hgo] at HK
     have HGO:=Lib.hid hgo
     clear hwo hgo
     go_loopg [10] t (fun k s4 wr=>∃ u : Nat,k + u = t ∧ s4 = .int .i64 u ∧ Hid (∀ k,k < u → ng names k ≠ ng names t) ∧ w.heap.size ≤ wr.heap.size ∧ Below w.heap.size w wr)
     case atStart=>exact ⟨0,by omega,rfl,Lib.hid (fun k hk=>absurd hk (Nat.not_lt_zero _)),hsz,hbel⟩
     case round =>
      obtain ⟨u,hk2,rfl,HB2,hsz2,hbel2⟩:=hrel
      have HK2:=Lib.hid hk2
      have hut : u ≤ t:=by omega
      clear hk2 hcell lb hsz hbel
      by_cases hlu : u < t
      ·obtain ⟨b1,o1,e1,ct,hlen⟩:=(HN.out.below hbel2).at hlt
       obtain ⟨b2,o2,e2,cu,hlen2⟩:=(HN.out.below hbel2).at (show u < names.length by omega)
       injection e1 with e1
       injection e1 with e1 e1'
       injection e2 with e2
       injection e2 with e2 e2'
       subst e1 e1' e2 e2'
       have lb:=vcell_lt ct
       obtain ⟨q,hq⟩ : ∃ q,q = ng names u:=⟨_,rfl⟩
       rw [← hq] at cu
       rw [← HX.out] at ct
       have HQ:=Lib.hid hq
       have huc : (u : Int) < (names.length : Int):=by omega
       clear hlen hlen2 hq
       by_cases hpx : q = x
       ·have hz : z = false:=by
         rw [HZ2.out]
         cases y with
         | false=>rfl
         | true =>
          exact absurd (by rw [← HQ.out,← HX.out];exact hpx) ((HY.out.1 rfl t hlt).2 u hlu)
        subst hz
        have HPX:=Lib.hid hpx
        subst hpx
        go_wp2_with fail
        go_quiet (fail)
        go_wp2_with fail
        go_ret
        exact ⟨rfl,by (repeat' first|(with_reducible first|exact blR _ _|assumption|refine blD ?_|refine blN ?_ _)|((with_reducible first|refine blA ?_ ?_ _|refine blS ?_ ?_ _|refine blT (by assumption) ?_ ?_);focus (go_size;done)))⟩
       ·have g1 : (q == x) = false:=by simpa using hpx
        have HPX:=Lib.hid hpx
        go_wp2_with fail
        go_quiet (fail)
        go_wp2_with fail
        go_roundg (gk - 1)
        case measure=>have:=HK2.out;omega
        case rel=>exact ⟨u + 1,by have:=HK2.out;omega,by go_num,Lib.hid (fun i hi e=>by
         by_cases e2 : i = u
         ·subst e2;exact HPX.out (by rw [HQ.out,HX.out];exact e)
         ·exact HB2.out i (by omega) e),by first | omega | exact hsz2,by (repeat' first|(with_reducible first|exact blR _ _|assumption|refine blD ?_|refine blN ?_ _)|((with_reducible first|refine blA ?_ ?_ _|refine blS ?_ ?_ _|refine blT (by assumption) ?_ ?_);focus (go_size;done)))⟩
      ·obtain rfl : u = t:=by omega
       go_wp2_with fail
       go_roundg (go - 1)
       case measure=>have:=HK.out;have:=HGO.out;omega
       case rel=>exact ⟨u + 1,by have:=HK.out;omega,by go_num,Lib.hid (fun i hi=>by
        by_cases e : i = u
        ·subst e;exact ⟨HP.out.symm,HB2.out⟩
        ·exact HA.out i (by omega)),hsz2,hbel2⟩
   ·obtain rfl : t = names.length:=by omega
    have hy : y = true:=HY.out.2 HA.out
    have hz3 : z = (decide (other.length = 0) || (decide (other.length = names.length) && v)):=by rw [HZ2.out,hy];rfl
    clear HZ2 HY hy hlt
    by_cases o0 : other.length = 0
    ·have p0 : ((other.length : Int) == 0) = true:=by rw [beq_iff_eq];omega
     have hz : z = true:=by rw [hz3,decide_eq_true o0];rfl
     clear hz3 o0
     subst hz
     go_wp2_with fail
     go_ret
     exact ⟨rfl,by (repeat' first|(with_reducible first|exact blR _ _|assumption|refine blD ?_|refine blN ?_ _)|((with_reducible first|refine blA ?_ ?_ _|refine blS ?_ ?_ _|refine blT (by assumption) ?_ ?_);focus (go_size;done)))⟩
    ·have p0 : ((other.length : Int) == 0) = false:=by rw [beq_eq_false_iff_ne];omega
     rw [decide_eq_false o0,Bool.false_or] at hz3
     by_cases o1 : other.length = names.length
     ·have p1 : ((other.length : Int) == (names.length : Int)) = true:=by rw [beq_iff_eq];omega
      have hz : z = v:=by rw [hz3,decide_eq_true o1];rfl
      clear hz3 o0 o1
      subst hz
      go_wp2_with ((go_at_call 43;with_reducible refine (HV.out _ (by (repeat' first|(with_reducible first|exact blR _ _|assumption|refine blD ?_|refine blN ?_ _)|((with_reducible first|refine blA ?_ ?_ _|refine blS ?_ ?_ _|refine blT (by assumption) ?_ ?_);focus (go_size;done))))).mono ?_);rintro _ w3 ⟨rfl,hb3⟩;have hb3s:=hb3.size;(try simp only [wsA,wsS,wsD,wsN] at hb3s);obtain ⟨hb3c,hb3f⟩:=bcell hb3;(try have : w.heap.size < w3.heap.size:=by omega);(try have : w.heap.size + 1 < w3.heap.size:=by omega);(try have : w.heap.size + 1 + 1 < w3.heap.size:=by omega);(try have : w.heap.size + 1 + 1 + 1 < w3.heap.size:=by omega))
      go_ret
      exact ⟨rfl,by (repeat' first|(with_reducible first|exact blR _ _|assumption|refine blD ?_|refine blN ?_ _)|((with_reducible first|refine blA ?_ ?_ _|refine blS ?_ ?_ _|refine blT (by assumption) ?_ ?_);focus (go_size;done)))⟩
     ·have p1 : ((other.length : Int) == (names.length : Int)) = false:=by rw [beq_eq_false_iff_ne];omega
      have hz : z = false:=by rw [hz3,decide_eq_false o1];rfl
      clear hz3 o0 o1
      subst hz
      go_wp2_with fail
      go_ret
      exact ⟨rfl,by (repeat' first|(with_reducible first|exact blR _ _|assumption|refine blD ?_|refine blN ?_ _)|((with_reducible first|refine blA ?_ ?_ _|refine blS ?_ ?_ _|refine blT (by assumption) ?_ ?_);focus (go_size;done)))⟩
end Go.Proofs.YtkjecoanlppeaaaGreatDoor

