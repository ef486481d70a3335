/- The contracts of the functions that the laws reach, part 5: what each returns and what becomes of memory. -/
import Derived.Test.YtkjecoanlppeaaaGreatDoorSs
import Derived.Deep.Cut
import Derived.Deep.CutRange
import Derived.Test.YtkjecoanlppeaaaGreatDoorM4
set_option linter.unusedSimpArgs false
set_option linter.unusedVariables false


namespace Go.Proofs.YtkjecoanlppeaaaGreatDoor
open Go.RowKit

theorem below_sort {n : Nat} (W : World) (blk m : Nat) (hblk : blk < W.heap.size) (d : Array (Fin n)) [Inhabited (Fin n)] (os : Array Obj) : Below blk W (sortWorld encF W blk 0 m d os):=by
 have hs : (sortWorld encF W blk 0 m d os).heap = (Go.Sort.putRow encF (Go.Sort.ahead W m) blk 0 d).heap ++ os:=rfl
 have hz : (Go.Sort.putRow encF (Go.Sort.ahead W m) blk 0 d).heap.size = W.heap.size:=Go.Sort.size_putRow ..
 refine ⟨rfl,rfl,rfl, ?_,fun k hk => ?_⟩
 ·rw [hs,Array.size_append,hz];omega
 ·have e : (Go.Sort.putRow encF (Go.Sort.ahead W m) blk 0 d).heap[k]? = W.heap[k]?:=by
   unfold Go.Sort.putRow Go.Sort.mapBlock
   simp only [Array.getElem?_modify]
   rw [if_neg (by omega)];rfl
  rw [hs]
  rw [Array.getElem?_append_left (by rw [hz];omega)];exact e
def plain (n : Nat) : List Value:=(List.range n).map fun (i : Nat) => Value.int .i64 (i : Int)
theorem plain_at {n i : Nat} (h : i < n) : (plain n)[i]? = some (.int .i64 (i : Int)):=by
 unfold plain
 rw [List.getElem?_map,List.getElem?_range h];rfl
theorem sort_call (n : Nat) (hn0 : 0 < n) (hn : n ≤ 60) (rk : Nat → List Nat) (hl : ∀ a b,(rk a).length = (rk b).length) (q blk : Nat) (W : World) (hbox : RankBoxN W q n rk blk) (hrow : Bk W blk 3 (plain n)) :
  Calls Tryz.prog 54 #[.slice (some ⟨blk,0,none⟩) n n,.func (.func 55) #[] #[.pointer (some ⟨q,0,none⟩)]] W fun e w' => e = .returned (.tuple #[]) ∧ Ilst w' (.slice (some ⟨blk,0,none⟩) n n) (srt rk n) ∧ Below blk W w':=by
 haveI : Inhabited (Fin n):=⟨⟨0,hn0⟩⟩
 obtain ⟨d,hd⟩ : ∃ d : Array (Fin n),d = (List.finRange n).toArray:=⟨_,rfl⟩
 have hds : d.size = n:=by rw [hd,List.size_toArray,List.length_finRange]
 have hdl : d.toList = List.finRange n:=by rw [hd]
 have hH : Go.Sort.Holds encF W blk 0 d:=fun j hj => by
  refine ⟨?_,hrow.frozen _⟩
  rw [Nat.zero_add,hrow.cell j (plain_at (by omega))]
  have e : d[j]! = ⟨j,by omega⟩:=by
   rw [getElem!_pos _ j hj]
   subst hd
   simp
  rw [e];rfl
 have h:=Tryz.slices_SortFunc_total (α:=Fin n) encF (fun _ => rfl) (fun a b => cfR rk a.val b.val) (sorted_swo n rk) 55 #[.pointer (some ⟨q,0,none⟩)] blk 0 n d W (enters_of Tryz.func55 (by kernel_rfl) rfl) (by rw [hds];exact sorted_lays n rk q blk 0 W (by omega) hl hbox) hH hrow.lt (by omega) (sorted_total n rk)
 rw [hds] at h
 refine h.mono ?_
 rintro _ _ ⟨he,m,os,rfl⟩
 refine ⟨he, ?_,below_sort _ _ _ hrow.lt _ _⟩
 rw [sorted_eq rk n d hdl]
 exact sorted_ilst rk n (by omega) W blk m os d hH hds hrow.lt
theorem sort_none (v : Value) (A : Option Addr) (C : Nat) (W : World) : Calls Tryz.prog 54 #[.slice A 0 C,v] W fun e w' => e = .returned (.tuple #[]) ∧ w' = W:=Tryz.slices_SortFunc_none (α:=Nat) A C v W
end Go.Proofs.YtkjecoanlppeaaaGreatDoor



namespace Go.Proofs.YtkjecoanlppeaaaGreatDoor
open Go.RowKit

theorem Bk.zeros (W : World) (t : TypeId) (n : Nat) (z : Value) {g : Nat} (hg : g = W.heap.size) : Bk (W.alloc (.cells (Array.replicate n z) t)) g t (List.replicate n z):=by
 subst hg
 have:=Bk.new W t (List.replicate n z)
 rw [List.toArray_replicate] at this
 exact this
theorem info_rowO : (Tryz.prog.info? 43).map (fun i => (i.zero,i.size,i.bytes)) = some (some (.slice none 0 0),1,24):=by kernel_rfl
theorem make_rows (n : Nat) (hn : n ≤ 60) : ∀ W : World,(Instr.makeSlice 74 (.int .i64 (n : Int)) (.int .i64 (n : Int))).run Tryz.prog W = .ok (.slice (some ⟨W.heap.size,0,none⟩) n n) (W.alloc (.cells (Array.replicate n (.slice none 0 0)) 43)):=fun W => by
 obtain ⟨ir,hir,hzr,hsr,hbr⟩:=info_parts info_rowO
 have:=run_make (P:=Tryz.prog) W 74 43 ir (.slice none 0 0) Tryz.underlying74 hir hzr .i64 .i64 (n : Int) (n : Int) (by omega) (by omega) (by rw [hbr];omega) (by omega)
 rw [this]
 have e : ((n : Int)).toNat = n:=by omega
 have e2 : madeCells (Value.slice none 0 0).cells (n * 1) = Array.replicate n (.slice none 0 0):=by
  rw [Nat.mul_one,← List.toArray_replicate,← toList_madeCells_one]
  rfl
 rw [e,hsr,e2]
theorem make_intsO (n : Nat) (hn : n ≤ 60) : ∀ W : World,(Instr.makeSlice 43 (.int .i64 (n : Int)) (.int .i64 (n : Int))).run Tryz.prog W = .ok (.slice (some ⟨W.heap.size,0,none⟩) n n) (W.alloc (.cells (Array.replicate n (.int .i64 0)) 3)):=fun W => by
 obtain ⟨ir,hir,hzr,hsr,hbr⟩:=info_parts info_intO
 have:=run_make (P:=Tryz.prog) W 43 3 ir (.int .i64 0) Tryz.underlying43 hir hzr .i64 .i64 (n : Int) (n : Int) (by omega) (by omega) (by rw [hbr];omega) (by omega)
 rw [this]
 have e : ((n : Int)).toNat = n:=by omega
 have e2 : madeCells (Value.int .i64 0).cells (n * 1) = Array.replicate n (.int .i64 0):=by
  rw [Nat.mul_one,← List.toArray_replicate,← toList_madeCells_one]
  rfl
 rw [e,hsr,e2]
/-- a list of ints in a block that is not below lo -/
def IlstB (w : World) (v : Value) (l : List Nat) (lo : Nat) : Prop:=∃ A C,v = .slice A l.length C ∧ (l.length ≤ 1048576 ∧ l.length ≤ C ∧ C ≤ maxLen) ∧ ∀ r,r < l.length → ∃ b o,A = some ⟨b,o,none⟩ ∧ lo ≤ b ∧ w.cell? ⟨b,o + r,none⟩ = some (.int .i64 (ag l r))
theorem IlstB.keeps {w w' : World} {v : Value} {l : List Nat} {lo : Nat} (h : IlstB w v l lo) (hk : ∀ b i,lo ≤ b → b < w.heap.size → w'.cell? ⟨b,i,none⟩ = w.cell? ⟨b,i,none⟩) : IlstB w' v l lo:=by
 obtain ⟨A,C,e,hb,hr⟩:=h
 refine ⟨A,C,e,hb,fun r hr' => ?_⟩
 obtain ⟨b,o,ea,hlo,hc⟩:=hr r hr'
 exact ⟨b,o,ea,hlo,(hk b _ hlo (vcell_lt hc)).trans hc⟩
theorem Own.readB {w : World} {B : Nat} {v : Value} {l : List Nat} (h : Own w B v l) (hl : l.length ≤ 1048576) : IlstB w v l B:=by
 obtain ⟨A,C,e,hb,hr⟩:=h.read hl
 refine ⟨A,C,e,hb,fun r hr' => ?_⟩
 obtain ⟨b,o,ea,hc⟩:=hr r hr'
 refine ⟨b,o,ea, ?_,hc⟩
 subst e
 exact (h.lt b (by rw [ea];rfl)).1
theorem IlstB.lo {w : World} {v : Value} {l : List Nat} {lo lo' : Nat} (h : IlstB w v l lo) (hl : lo' ≤ lo) : IlstB w v l lo':=by
 obtain ⟨A,C,e,hb,hr⟩:=h
 refine ⟨A,C,e,hb,fun r hr' => ?_⟩
 obtain ⟨b,o,ea,hlo,hc⟩:=hr r hr'
 exact ⟨b,o,ea,Nat.le_trans hl hlo,hc⟩
theorem Ilst.empty (w : World) (A : Option Addr) (C : Nat) (hC : C ≤ maxLen:=by decide) : Ilst w (.slice A 0 C) []:=⟨A,C,rfl,⟨by simp,by simp,hC⟩,fun r hr => absurd hr (Nat.not_lt_zero _)⟩
/-- the two rows while they are filled -/
structure Fill (w0 w : World) (rk : Nat → List Nat) (n t : Nat) : Prop where
 box : Bk w (w0.heap.size + 1) 74 [.slice (some ⟨w0.heap.size,0,none⟩) n n]
 ranks : ∃ cs,Bk w w0.heap.size 43 cs ∧ cs.length = n ∧ ∀ i,i < t → ∃ B D,cs[i]? = some (.slice B (rk i).length D) ∧ IlstB w (.slice B (rk i).length D) (rk i) (w0.heap.size + 3)
 out : ∃ cs,Bk w (w0.heap.size + 1 + 1) 3 cs ∧ cs.length = n ∧ ∀ i,i < t → cs[i]? = some (.int .i64 (i : Int))
set_option maxRecDepth 100000 in
set_option maxHeartbeats 4000000 in
theorem hsorted_any (order rows : List (List VD)) (O R : Value) (w : World) (hT : Tabs w) (ho : Lls w O order) (hr : Lls w R rows) (hco : ∀ t,t < order.length → allC (lg order t) = true) (hcr : ∀ t,t < rows.length → allC (lg rows t) = true) (hle : ∀ t,t < rows.length → order.length ≤ (lg rows t).length) (hmax : order.length ≤ 1000000) (hn : rows.length ≤ 60) :
  Calls Tryz.prog 32 #[O,R] w fun e w' => ∃ v,e = .returned v ∧ Ilst w' v (srt (rankF order ∘ lg rows) rows.length) ∧ Below w.heap.size w w' ∧ ∃ g,v = .slice (some ⟨g,0,none⟩) rows.length rows.length ∧ w.heap.size ≤ g:=by
 obtain ⟨A,C,rfl,q1,_,_⟩:=ho.is
 obtain ⟨RA,RC,rfl,q2,_,_⟩:=hr.is
 have HO:=Lib.hid ho
 have HR:=Lib.hid hr
 have HT:=Lib.hid hT
 have HCO:=Lib.hid hco
 have HCR:=Lib.hid hcr
 have HLE:=Lib.hid hle
 clear ho hr hT hco hcr q1 q2 hle
 obtain ⟨n,hnn⟩ : ∃ n,n = rows.length:=⟨_,rfl⟩
 rw [← hnn] at hn ⊢
 have HN:=Lib.hid hnn
 clear hnn
 obtain ⟨rk,hrk⟩ : ∃ rk,rk = rankF order ∘ lg rows:=⟨_,rfl⟩
 rw [← hrk]
 have HRL : Hid (∀ a b,(rk a).length = (rk b).length):=Lib.hid (fun a b => by rw [hrk];exact rankT_len order _ _ _)
 have HRK : Hid (∀ i,rankF order (lg rows i) = rk i):=Lib.hid (fun i => by rw [hrk];rfl)
 clear hrk
 have hnc : (n : Int) ≤ 60:=by omega
 have hn0 : (0 : Int) ≤ (n : Int):=by omega
 have hmk1:=make_rows n hn
 have hmk2:=make_intsO n hn
 go_enter Tryz.func32,Tryz.ntmps32
 go_wp2_with fail
 clear hmk1 hmk2
 go_loopg [17] n (fun k s17 wr => ∃ t : Nat,k + t = n ∧ s17 = .int .i64 t ∧ Hid (Fill w wr rk n t) ∧ w.heap.size + 3 ≤ wr.heap.size ∧ Below w.heap.size w wr)
 case atStart =>
  refine ⟨0,by omega,rfl,Lib.hid ⟨?_,⟨List.replicate n (.slice none 0 0), ?_,by simp,fun i hi => absurd hi (Nat.not_lt_zero _)⟩,⟨List.replicate n (.int .i64 0), ?_,by simp,fun i hi => absurd hi (Nat.not_lt_zero _)⟩⟩,by go_size,by (repeat' first|(with_reducible first|exact blR _ _|assumption|refine blD ?_|refine blN ?_ _)|((with_reducible first|refine blA ?_ ?_ _|refine blS ?_ ?_ _|refine blT (by assumption) ?_ ?_);focus (go_size;done)))⟩
  ·(repeat (first|(with_reducible assumption)|((with_reducible refine bkW ?_);(first|rfl|(simp only [wsA,wsS,wsD,wsN];done)))|(with_reducible first|refine bkA ?_ _|refine bkD ?_|refine bkN ?_ _)|((with_reducible refine bkF ?_ ?_ _);focus (simp only [];omega))|((with_reducible refine bkB (by assumption) ?_ ?_);focus (go_size;done))))
  ·exact ((Bk.zeros w 43 n (.slice none 0 0) rfl).alloc _).alloc _
  ·exact Bk.zeros ((w.alloc (.cells (Array.replicate n (.slice none 0 0)) 43)).alloc (.cells #[.slice (some ⟨w.heap.size,0,none⟩) n n] 74)) 3 n (.int .i64 0) (by simp only [World.size_alloc])
 case round =>
  obtain ⟨t,hk,rfl,HM,hsz,hbel⟩:=hrel
  have HK:=Lib.hid hk
  have htl : t ≤ n:=by omega
  clear hk
  by_cases hlt : t < n
  ·obtain ⟨b,o,B1,D1,rfl,hcell0,hv⟩:=HR.out.at (show t < rows.length by rw [← HN.out];exact hlt)
   have hcell:=(hbel.cell (p:=⟨b,o + t,none⟩) (vcell_lt hcell0)).trans hcell0
   clear hcell0
   have lb:=vcell_lt hcell
   have htc : (t : Int) < (n : Int):=by omega
   obtain ⟨hbox,⟨cs,hB1,hl1,hr1⟩,⟨cs2,hB2,hl2,hr2⟩⟩:=id HM.out
   obtain ⟨x,hxx⟩ : ∃ x,x = lg rows t:=⟨_,rfl⟩
   rw [← hxx] at hcell hv
   obtain ⟨n1,hn1⟩ : ∃ n1,n1 = x.length:=⟨_,rfl⟩
   rw [← hn1] at hcell hv
   have HX:=Lib.hid hxx
   have HRX : Hid (rankF order x = rk t):=Lib.hid (by rw [hxx];exact HRK.out t)
   have HN1:=Lib.hid hn1
   have hv2:=Lib.hid hv
   obtain ⟨c0,hc0⟩ : ∃ c,wr.cell? ⟨w.heap.size,t,none⟩ = some c:=⟨_,by rw [hB1.cell];exact List.getElem?_eq_getElem (by omega)⟩
   obtain ⟨c1,hc1⟩ : ∃ c,wr.cell? ⟨w.heap.size + 1 + 1,t,none⟩ = some c:=⟨_,by rw [hB2.cell];exact List.getElem?_eq_getElem (by omega)⟩
   have cbox : wr.cell? ⟨w.heap.size + 1,0,none⟩ = some (.slice (some ⟨w.heap.size,0,none⟩) n n):=by rw [hbox.cell];rfl
   have hlen : (rankF order x).length ≤ 1048576:=Nat.le_trans (rankT_le order x order.length) (by omega)
   have hl1c : t < cs.length:=by omega
   have hl2c : t < cs2.length:=by omega
   have HR1:=Lib.hid hr1
   have HR2:=Lib.hid hr2
   have HC:=Lib.hid (fun (W : World) (hW : Below w.heap.size w W) => hrank_any order x (.slice A order.length C) (.slice B1 n1 D1) W (tabs_below HT.out hW) (HO.out.below hW) (hv2.out.kept hW) HCO.out (by rw [HX.out];exact HCR.out t (by rw [← HN.out];exact hlt)) (by rw [HX.out];exact HLE.out t (by rw [← HN.out];exact hlt)) hmax)
   have f0:=hB1.frozen t
   have f1:=hB2.frozen t
   clear hxx hn1 hv hr1 hr2 HM
   (try have : w.heap.size < wr.heap.size:=by omega);(try have : w.heap.size + 1 < wr.heap.size:=by omega);(try have : w.heap.size + 1 + 1 < wr.heap.size:=by omega);(try have : w.heap.size + 1 + 1 + 1 < wr.heap.size:=by omega)
   go_wp2_with fail
   go_region_held3 (fun w' => w'.cell? ⟨w.heap.size + 1,0,none⟩ = some (.slice (some ⟨w.heap.size,0,none⟩) n n)) (first | (with_reducible exact e0) | (first | (go_keep;done) | (simp [go_sem];done) | ((try dsimp only);(repeat' apply And.intro) <;> (first | (with_reducible assumption) | ((rw [World.cell?_alloc_lt _ _ _ (by show _ < _;omega)]);go_split_ands;(first | with_reducible assumption | (refine (World.cell?_alloc_lt _ _ _ (by show _ < _;omega)).symm.trans ?_;with_reducible assumption))) | ((rw [World.cell?_setCell_other _ _ _ _ (by intro e;injection e;omega)]);with_reducible assumption) | (go_keep;done) | (simp [go_sem];done) | (simp (disch:=go_size) [*,World.cell?_alloc_some,World.cell?_setCell_far];done))))) (first | (go_at_call 53;(with_reducible refine (HC.out _ (by (repeat' first|(with_reducible first|exact blR _ _|assumption|refine blD ?_|refine blN ?_ _)|((with_reducible first|refine blA ?_ ?_ _|refine blS ?_ ?_ _|refine blT (by assumption) ?_ ?_);focus (go_size;done))))).mono ?_);rintro _ w2 ⟨v,rfl,hov,hb2⟩;have hq:=hov.readB hlen;obtain ⟨VA,VC,e',hvl,hvr⟩:=id hq;subst e';have HVR:=Lib.hid hq;clear hov hvr hq;have HB2:=Lib.hid hb2;have hb2s:=hb2.size;(try simp only [World.size_drew,World.size_setCell] at hb2s);(try have : w.heap.size < w2.heap.size:=by omega);(try have : w.heap.size + 1 < w2.heap.size:=by omega);(try have : w.heap.size + 1 + 1 < w2.heap.size:=by omega);(try have : w.heap.size + 1 + 1 + 1 < w2.heap.size:=by omega);obtain ⟨hb2c,hb2f⟩:=bcell hb2;have k0 : Bk w2 (w.heap.size + 1) 74 [.slice (some ⟨w.heap.size,0,none⟩) n n]:=(by (repeat (first|(with_reducible assumption)|((with_reducible refine bkW ?_);(first|rfl|(simp only [wsA,wsS,wsD,wsN];done)))|(with_reducible first|refine bkA ?_ _|refine bkD ?_|refine bkN ?_ _)|((with_reducible refine bkF ?_ ?_ _);focus (simp only [];omega))|((with_reducible refine bkB (by assumption) ?_ ?_);focus (go_size;done)))));have k1 : Bk w2 w.heap.size 43 cs:=(by (repeat (first|(with_reducible assumption)|((with_reducible refine bkW ?_);(first|rfl|(simp only [wsA,wsS,wsD,wsN];done)))|(with_reducible first|refine bkA ?_ _|refine bkD ?_|refine bkN ?_ _)|((with_reducible refine bkF ?_ ?_ _);focus (simp only [];omega))|((with_reducible refine bkB (by assumption) ?_ ?_);focus (go_size;done)))));have k2 : Bk w2 (w.heap.size + 1 + 1) 3 cs2:=(by (repeat (first|(with_reducible assumption)|((with_reducible refine bkW ?_);(first|rfl|(simp only [wsA,wsS,wsD,wsN];done)))|(with_reducible first|refine bkA ?_ _|refine bkD ?_|refine bkN ?_ _)|((with_reducible refine bkF ?_ ?_ _);focus (simp only [];omega))|((with_reducible refine bkB (by assumption) ?_ ?_);focus (go_size;done)))));have e0 : w2.cell? ⟨w.heap.size + 1,0,none⟩ = some (.slice (some ⟨w.heap.size,0,none⟩) n n):=(by rw [k0.cell];rfl);obtain ⟨c1',e1⟩ : ∃ c,w2.cell? ⟨w.heap.size,t,none⟩ = some c:=⟨_,by rw [k1.cell];exact List.getElem?_eq_getElem hl1c⟩;obtain ⟨c2',e2⟩ : ∃ c,w2.cell? ⟨w.heap.size + 1 + 1,t,none⟩ = some c:=⟨_,by rw [k2.cell];exact List.getElem?_eq_getElem (by omega)⟩;have f0':=k1.frozen t;have f1':=k2.frozen t;clear hb2c hb2f))
   go_wp2_with fail
   go_roundg (gk - 1)
   case measure => have:=HK.out;omega
   case rel =>
    refine ⟨t + 1,by have:=HK.out;omega,by go_num,Lib.hid ?_,by go_size,by (repeat' first|(with_reducible first|exact blR _ _|assumption|refine blD ?_|refine blN ?_ _)|((with_reducible first|refine blA ?_ ?_ _|refine blS ?_ ?_ _|refine blT (by assumption) ?_ ?_);focus (go_size;done)))⟩
    have hkeep : ∀ b i,w.heap.size + 3 ≤ b → ((w2.setCell ⟨w.heap.size,t,none⟩ (.slice VA (rankF order x).length VC)).setCell ⟨w.heap.size + 1 + 1,t,none⟩ (.int .i64 t)).cell? ⟨b,i,none⟩ = w2.cell? ⟨b,i,none⟩:=fun b i hb => by
     rw [World.cell?_setCell_other _ _ _ _ (by intro e;injection e;omega),World.cell?_setCell_other _ _ _ _ (by intro e;injection e;omega)]
    have hold : ∀ b i,w.heap.size + 3 ≤ b → b < wr.heap.size → w2.cell? ⟨b,i,none⟩ = wr.cell? ⟨b,i,none⟩:=fun b i _ hb => HB2.out.cell (p:=⟨b,i,none⟩) hb
    refine ⟨?_,⟨cs.set t (.slice VA (rankF order x).length VC), ?_,by rw [List.length_set];exact hl1,fun i hi => ?_⟩,⟨cs2.set t (.int .i64 t), ?_,by rw [List.length_set];exact hl2,fun i hi => ?_⟩⟩
    ·(repeat (first|(with_reducible assumption)|((with_reducible refine bkW ?_);(first|rfl|(simp only [wsA,wsS,wsD,wsN];done)))|(with_reducible first|refine bkA ?_ _|refine bkD ?_|refine bkN ?_ _)|((with_reducible refine bkF ?_ ?_ _);focus (simp only [];omega))|((with_reducible refine bkB (by assumption) ?_ ?_);focus (go_size;done))))
    ·exact (k1.set_ t _).far (by show w.heap.size ≠ w.heap.size + 1 + 1;omega) _
    ·by_cases e : t = i
     ·subst e
      refine ⟨VA,VC, ?_, ?_⟩
      ·rw [List.getElem?_set_self hl1c,HRX.out]
      ·rw [← HRX.out]
       exact (HVR.out.lo (by show w.heap.size + 3 ≤ wr.heap.size;exact hsz)).keeps fun b i hb _ => hkeep b i hb
     ·obtain ⟨B,D,g1,g2⟩:=HR1.out i (by omega)
      refine ⟨B,D, ?_,g2.keeps fun b i hb hlt => (hkeep b i hb).trans (hold b i hb hlt)⟩
      rw [List.getElem?_set_ne e];exact g1
    ·exact (k2.far (by show w.heap.size + 1 + 1 ≠ w.heap.size;omega) _).set_ t _
    ·by_cases e : t = i
     ·subst e
      rw [List.getElem?_set_self hl2c]
     ·rw [List.getElem?_set_ne e];exact HR2.out i (by omega)
  ·obtain rfl : t = n:=by omega
   clear hlt
   obtain ⟨hbox,⟨cs,hB1,hl1,hr1⟩,⟨cs2,hB2,hl2,hr2⟩⟩:=id HM.out
   by_cases h0 : t = 0
   ·subst h0
    have HS:=Lib.hid (fun A C v (W : World) => sort_none v A C W)
    have he : srt rk 0 = []:=List.eq_nil_of_length_eq_zero (srt_len rk 0)
    have HE:=Lib.hid he
    clear hB1 hl1 hr1 hB2 hl2 hr2 hbox HM he
    go_wp2_with (go_at_call 54;(with_reducible refine (HS.out _ _ _ _).mono ?_);rintro _ _ ⟨rfl,rfl⟩)
    go_ret
    exact ⟨_,rfl,by rw [HE.out];exact Ilst.empty _ _ _,by (repeat' first|(with_reducible first|exact blR _ _|assumption|refine blD ?_|refine blN ?_ _)|((with_reducible first|refine blA ?_ ?_ _|refine blS ?_ ?_ _|refine blT (by assumption) ?_ ?_);focus (go_size;done))),_,rfl,by omega⟩
   ·have hcs : cs2 = plain t:=by
     refine List.ext_getElem? fun j => ?_
     by_cases hj : j < t
     ·rw [hr2 j hj,plain_at hj]
     ·rw [List.getElem?_eq_none (by omega),List.getElem?_eq_none (by unfold plain;simp;omega)]
    subst hcs
    have hN : RankBoxN wr (w.heap.size + 1) t rk (w.heap.size + 1 + 1):=by
     refine ⟨by omega,some ⟨w.heap.size,0,none⟩,t,by rw [hbox.cell];rfl,Nat.le_refl _,by unfold maxLen;omega,fun i hi => ?_⟩
     obtain ⟨B,D,g1,g2⟩:=hr1 i hi
     refine ⟨w.heap.size,0,B,D,rfl,by omega, ?_, ?_⟩
     ·rw [Nat.zero_add];exact hB1.cell i g1
     ·obtain ⟨A',C',e',hb',hr'⟩:=g2
      refine ⟨A',C',e',hb',fun r hr => ?_⟩
      obtain ⟨b,o,ea,hlo,hc⟩:=hr' r hr
      exact ⟨b,o,ea,by omega,hc⟩
    have HS:=Lib.hid (sort_call t (by omega) hn rk HRL.out (w.heap.size + 1) (w.heap.size + 1 + 1) wr hN hB2)
    clear hB1 hl1 hr1 hB2 hl2 hr2 hbox HM hN
    go_wp2_with (go_at_call 54;(with_reducible refine HS.out.mono ?_);rintro _ w2 ⟨rfl,hil,hb2⟩;have HIL:=Lib.hid hil;clear hil)
    go_ret
    exact ⟨_,rfl,HIL.out,hbel.trans (hb2.mono (by omega)),_,rfl,by omega⟩
end Go.Proofs.YtkjecoanlppeaaaGreatDoor



namespace Go.Proofs.YtkjecoanlppeaaaGreatDoor
open Go.RowKit

/-- a list of ints in blocks that are not bl -/
def IlstF (w : World) (v : Value) (l : List Nat) (bl : Option Nat) : Prop:=∃ A C,v = .slice A l.length C ∧ (l.length ≤ 1048576 ∧ l.length ≤ C ∧ C ≤ maxLen) ∧ ∀ r,r < l.length → ∃ b o,A = some ⟨b,o,none⟩ ∧ some b ≠ bl ∧ w.cell? ⟨b,o + r,none⟩ = some (.int .i64 (ag l r))
theorem IlstF.ilst {w : World} {v : Value} {l : List Nat} {bl : Option Nat} (h : IlstF w v l bl) : Ilst w v l:=by
 obtain ⟨A,C,e,hb,hr⟩:=h
 refine ⟨A,C,e,hb,fun r hr' => ?_⟩
 obtain ⟨b,o,ea,_,hc⟩:=hr r hr'
 exact ⟨b,o,ea,hc⟩
theorem IlstF.kept {w w' : World} {v : Value} {l : List Nat} {bl bl' : Option Nat} (h : IlstF w v l bl) (hk : ∀ b i,b < w.heap.size → some b ≠ bl → w'.cell? ⟨b,i,none⟩ = w.cell? ⟨b,i,none⟩ ∧ some b ≠ bl') : IlstF w' v l bl':=by
 obtain ⟨A,C,e,hb,hr⟩:=h
 refine ⟨A,C,e,hb,fun r hr' => ?_⟩
 obtain ⟨b,o,ea,hne,hc⟩:=hr r hr'
 obtain ⟨h1,h2⟩:=hk b (o + r) (vcell_lt hc) hne
 exact ⟨b,o,ea,h2,h1.trans hc⟩
theorem IlstF.of {w : World} {v : Value} {l : List Nat} {lo : Nat} {bl : Option Nat} (h : IlstB w v l lo) (hb : ∀ g,bl = some g → g < lo) : IlstF w v l bl:=by
 obtain ⟨A,C,e,hbd,hr⟩:=h
 refine ⟨A,C,e,hbd,fun r hr' => ?_⟩
 obtain ⟨b,o,ea,hlo,hc⟩:=hr r hr'
 exact ⟨b,o,ea,fun e => by have:=hb b e.symm;omega,hc⟩
/-- rows of ints, gathered -/
def RankRows (w : World) (B : Nat) (v : Value) (rk : Nat → List Nat) (t : Nat) : Prop:=∃ cs,w.ownsRow B 43 1 v t cs ∧ ∀ i,i < t → ∃ A D,cs[i]? = some (.slice A (rk i).length D) ∧ IlstF w (.slice A (rk i).length D) (rk i) v.ownBlock
theorem RankRows.nil (w : World) (B : Nat) (rk : Nat → List Nat) : RankRows w B (.slice none 0 0) rk 0:=⟨[],World.ownsRow_nil _ _ _ _,fun i hi => absurd hi (Nat.not_lt_zero _)⟩
theorem RankRows.below {w w' : World} {B : Nat} {v : Value} {rk : Nat → List Nat} {t : Nat} (h : RankRows w B v rk t) (hb : Below w.heap.size w w') : RankRows w' B v rk t:=by
 obtain ⟨cs,h1,h2⟩:=h
 refine ⟨cs,h1.kept (row:=none) ⟨hb.os,hb.tape,hb.output,hb.size,fun k hk _ => hb.block k hk⟩ ?_,fun i hi => ?_⟩
 ·cases e : v.ownBlock with
  | none => exact .inl rfl
  | some k => exact .inr (by simp)
 ·obtain ⟨A,D,h3,h4⟩:=h2 i hi
  exact ⟨A,D,h3,h4.kept fun b i hb' hne => ⟨hb.cell (p:=⟨b,i,none⟩) hb',hne⟩⟩
theorem RankRows.is {w : World} {B : Nat} {v : Value} {rk : Nat → List Nat} {t : Nat} (h : RankRows w B v rk t) (ht : t ≤ 1000000) : ∃ A C,v = .slice A t C ∧ t ≤ C ∧ C ≤ maxLen:=by
 obtain ⟨cs,h1,h2⟩:=h
 rcases h1.2 with ⟨rfl,rfl⟩ | ⟨g,cap,cur,rfl,_,_,h3,h4,_⟩
 ·exact ⟨none,0,rfl,Nat.le_refl _,by decide⟩
 ·exact ⟨_,_,rfl,h3,h4⟩
theorem RankRows.at {w : World} {B : Nat} {A : Option Addr} {t C : Nat} {rk : Nat → List Nat} (h : RankRows w B (.slice A t C) rk t) {i : Nat} (hi : i < t) : ∃ g o A' D,A = some ⟨g,o,none⟩ ∧ w.cell? ⟨g,o + i,none⟩ = some (.slice A' (rk i).length D) ∧ Ilst w (.slice A' (rk i).length D) (rk i):=by
 obtain ⟨cs,h1,h2⟩:=h
 obtain ⟨A',D,h3,h4⟩:=h2 i hi
 rcases h1.2 with ⟨_,rfl⟩ | ⟨g,cap,cur,e,_,hg,h5,h6,h7,h8⟩
 ·omega
 ·injection e with e1 e2 e3
  subst e1
  refine ⟨g,0,A',D,rfl, ?_,h4.ilst⟩
  rw [Nat.zero_add,cell_of_row w g i cur _ (0,0) hg]
  rw [← h8,Nat.mul_one,List.getElem?_take_of_lt hi] at h3
  rw [← h3];simp
theorem RankRows.lt {w : World} {B : Nat} {v : Value} {rk : Nat → List Nat} {t : Nat} (h : RankRows w B v rk t) (g : Nat) (hg : v.ownBlock = some g) : g < w.heap.size:=by
 obtain ⟨cs,h1,_⟩:=h
 exact (h1.lt g hg).2
theorem IlstF.below {w w' : World} {v : Value} {l : List Nat} {bl : Option Nat} (h : IlstF w v l bl) (hb : Below w.heap.size w w') : IlstF w' v l bl:=h.kept fun b i hb' hne => ⟨hb.cell (p:=⟨b,i,none⟩) hb',hne⟩
theorem Own.is {w : World} {B : Nat} {v : Value} {l : List Nat} (h : Own w B v l) : ∃ A C,v = .slice A l.length C:=by
 rcases h.2 with ⟨rfl,h0⟩ | ⟨g,cap,cur,rfl,_⟩
 ·exact ⟨none,0,by rw [h0]⟩
 ·exact ⟨_,_,rfl⟩
theorem Own.alloc {w : World} {B : Nat} {v : Value} {l : List Nat} (h : Own w B v l) (o : Obj) : Own (w.alloc o) B v l:=World.ownsRow.alloc h o
end Go.Proofs.YtkjecoanlppeaaaGreatDoor



namespace Go.Proofs.YtkjecoanlppeaaaGreatDoor
open Go.RowKit

/-- a value and an error are handed back; the value's lists lie in the memory of w0 -/
def RetQ (w0 : World) (r : VD × Int) (w : World) (e : Ending) (w' : World) : Prop:=∃ A C A2 C2,e = .returned (.tuple #[vargs r.1 A C A2 C2,.int .i64 r.2]) ∧ VA w0 r.1 A C A2 C2 ∧ Below w.heap.size w w'
/-- a region's condition may be made stronger on the way -/
theorem wpAnyH_strong {P : Program} {ops : Array Oper} {Q : Exit → Act → World → Prop} {md : Region.Mode} {S S' : World → Prop} (hS : ∀ w,S' w → S w) :
  ∀ (fuel : Nat) (listed : Array Bool) (a : Act) (w : World),wpAnyH P md ops Q S' fuel listed a w → wpAnyH P md ops Q S fuel listed a w
 | 0,_,_,_,h => h
 | fuel + 1,_,_,_,h => ⟨h.1,fun i hi => wpOp_mono (fun a' w' h' => ⟨hS _ h'.1,wpAnyH_strong hS fuel _ a' w' h'.2⟩) (h.2 i hi)⟩
/-- the tail of rows -/
theorem rows_tail_run (b o n C m D : Nat) (h1 : n = m + 1) (h2 : C = D + 1) (h3 : m ≤ D) : ∃ q,(0 < m → q = o + 1) ∧ ∀ W : World,(Instr.slice 23 (.slice (some ⟨b,o,none⟩) n C) (some (.int .i64 1)) none none).run Tryz.prog W = .ok (.slice (some ⟨b,q,none⟩) m D) W:=by
 subst h1 h2
 refine ⟨if D + 1 = 1 then o else o + 1,fun h => if_neg (by omega),fun W => ?_⟩
 have hn : (1 : Int) ≤ ((m + 1 : Nat) : Int):=by omega
 by_cases hC : D + 1 = 1
 ·obtain rfl : D = 0:=by omega
  obtain rfl : m = 0:=by omega
  go_simp
 ·rw [if_neg hC]
  go_simp
  rw [if_pos (by omega),if_neg (by omega)]
/-- rows of one width are the same just if they are cell by cell -/
theorem whole_same {names : List (List UInt8)} {r r' : List VD} (hr : r.length = names.length) (hr' : r'.length = names.length) : sameB (wholeD names r) (wholeD names r') = true ↔ ∀ i,i < names.length → sameB (vg r i) (vg r' i) = true:=by
 rw [sameB_iff]
 unfold wholeD
 by_cases h1 : names.length = 1
 ·rw [if_pos h1,if_pos h1,h1]
  constructor
  ·intro h i hi
   obtain rfl : i = 0:=by omega
   exact sameB_iff.2 h
  ·intro h
   exact sameB_iff.1 (h 0 (by omega))
 ·rw [if_neg h1,if_neg h1]
  constructor
  ·intro h i hi
   injection h with _ h _
   rw [h];exact sameB_self _
  ·intro h
   congr 1
   refine List.ext_getElem (by omega) fun i h1 h2 => ?_
   have:=sameB_iff.1 (h i (by omega))
   rwa [vg_get h1,vg_get h2] at this
theorem allSame_iff {l : List VD} : allSame l = true ↔ ∀ t,t < l.length → sameB (vg l t) (vg l 0) = true:=by
 unfold allSame
 rw [List.all_eq_true]
 constructor
 ·intro h t ht
  have:=h (vg l t) (by rw [vg_get ht];exact List.getElem_mem _)
  exact this
 ·intro h x hx
  obtain ⟨i,hi,rfl⟩:=List.getElem_of_mem hx
  have:=h i hi
  rwa [vg_get hi] at this
/-- what is asked of rows that are decided -/
structure InForm (names : List (List UInt8)) (order rows : List (List VD)) : Prop where
 n1 : 1 ≤ names.length
 n8 : names.length ≤ 8
 ol : order.length = names.length
 o60 : ∀ t,t < order.length → (lg order t).length ≤ 60
 oc : ∀ t,t < order.length → allC (lg order t) = true
 r60 : rows.length ≤ 60
 rl : ∀ t,t < rows.length → (lg rows t).length = names.length
 rc : ∀ t,t < rows.length → allC (lg rows t) = true
end Go.Proofs.YtkjecoanlppeaaaGreatDoor



namespace Go.Proofs.YtkjecoanlppeaaaGreatDoor
open Go.RowKit

set_option maxRecDepth 100000 in
set_option maxHeartbeats 4000000 in
theorem values18_any (names : List (List UInt8)) (rows : List (List VD)) (pl : List Nat) (N O R P : Value) (w0 w : World) (hb : Below w0.heap.size w0 w) (hn : Nms w0 N names) (hr : Lls w0 R rows) (hO : ∃ A n C,O = .slice A n C) (hP : Ilst w P pl) (hpl : ∀ i,i < pl.length → ag pl i < rows.length)
  (hw : names.length = 1 → ∀ t,t < rows.length → 0 < (lg rows t).length) (hlen : pl.length ≤ 1000000) :
  Calls Tryz.prog 64 #[.agg #[N,O,R],P] w fun e w' => ∃ v,e = .returned v ∧ OwnVs w.heap.size w0.heap.size w' v (pl.map fun i => wholeD names (lg rows i)) ∧ Below w.heap.size w w':=by
 obtain ⟨NA,NC,rfl,q1⟩:=hn.is
 obtain ⟨RA,RC,rfl,q2,_,_⟩:=hr.is
 obtain ⟨OA,on,OC,rfl⟩:=hO
 obtain ⟨PA,PC,rfl,q3,_,_⟩:=hP.is
 have HB:=Lib.hid hb
 have HN:=Lib.hid hn
 have HR:=Lib.hid hr
 have HP:=Lib.hid hP
 have HPL:=Lib.hid hpl
 have HW:=Lib.hid hw
 have h0s:=hb.size
 have hpc : (pl.length : Int) ≤ 1000000:=by omega
 have hrc : (rows.length : Int) ≤ 1048576:=by omega
 clear hb hn hr hP hpl hw
 go_enter Tryz.func64,Tryz.ntmps64
 go_wp2_with fail
 go_loopg [5,10] pl.length (fun k s5 s10 wr => ∃ t : Nat,k + t = pl.length ∧ s10 = .int .i64 t ∧ Hid (OwnVs (w.heap.size + 1) w0.heap.size wr s5 ((pl.take t).map fun i => wholeD names (lg rows i))) ∧ Bk wr w.heap.size 63 [.slice NA names.length NC,.slice OA on OC,.slice RA rows.length RC] ∧ w.heap.size + 1 ≤ wr.heap.size ∧ Below w.heap.size w wr)
 case atStart => exact ⟨0,by omega,rfl,Lib.hid (OwnVs.nil _ _ _),by (repeat (first|(with_reducible assumption)|((with_reducible refine bkW ?_);(first|rfl|(simp only [wsA,wsS,wsD,wsN];done)))|(with_reducible first|refine bkA ?_ _|refine bkD ?_|refine bkN ?_ _)|((with_reducible refine bkF ?_ ?_ _);focus (simp only [];omega))|((with_reducible refine bkB (by assumption) ?_ ?_);focus (go_size;done)))),by go_size,by (repeat' first|(with_reducible first|exact blR _ _|assumption|refine blD ?_|refine blN ?_ _)|((with_reducible first|refine blA ?_ ?_ _|refine blS ?_ ?_ _|refine blT (by assumption) ?_ ?_);focus (go_size;done)))⟩
 case round =>
  obtain ⟨t,hk,rfl,HV,hbk,hsz,hbel⟩:=hrel
  have HK:=Lib.hid hk
  have htl : t ≤ pl.length:=by omega
  have HBK:=Lib.hid hbk
  have b0:=hbk.cell 0 rfl
  have b1:=hbk.cell 1 rfl
  have b2:=hbk.cell 2 rfl
  clear hk hbk
  by_cases hlt : t < pl.length
  ·obtain ⟨b,o,rfl,hc0⟩:=HP.out.at hlt
   have hcp:=(hbel.cell (p:=⟨b,o + t,none⟩) (vcell_lt hc0)).trans hc0
   have lb:=vcell_lt hcp
   have htc : (t : Int) < (pl.length : Int):=by omega
   have hi:=HPL.out t hlt
   have htk : (pl.take (t + 1)).map (fun i => wholeD names (lg rows i)) = (pl.take t).map (fun i => wholeD names (lg rows i)) ++ [wholeD names (lg rows (ag pl t))]:=by
    rw [List.take_succ_eq_append_getElem hlt,List.map_append,ag_get hlt];rfl
   obtain ⟨i,hii⟩ : ∃ i,i = ag pl t:=⟨_,rfl⟩
   rw [← hii] at hcp hi htk
   have HTK:=Lib.hid htk
   obtain ⟨b',o',A',D',rfl,hcr0,hv⟩:=HR.out.at hi
   have hcr:=((HB.out.trans (hbel.mono h0s)).cell (p:=⟨b',o' + i,none⟩) (vcell_lt hcr0)).trans hcr0
   have lb':=vcell_lt hcr
   have hcw:=(HB.out.cell (p:=⟨b',o' + i,none⟩) (vcell_lt hcr0)).trans hcr0
   have lw':=vcell_lt hcw
   have hic : (i : Int) < (rows.length : Int):=by omega
   have HC:=Lib.hid (fun (W : World) (hW : Below w.heap.size w W) => whole18_any names (lg rows i) (.slice NA names.length NC) (.slice A' (lg rows i).length D') w0 W (HB.out.trans (hW.mono h0s)) HN.out hv (fun h => HW.out h i hi))
   obtain ⟨d,hd⟩ : ∃ d,d = wholeD names (lg rows i):=⟨_,rfl⟩
   rw [← hd] at HC HTK
   obtain ⟨n1,hn1⟩ : ∃ n,n = (lg rows i).length:=⟨_,rfl⟩
   rw [← hn1] at hcr hcw HC
   have HCW:=Lib.hid hcw
   clear hcw
   have HL : Hid (((pl.take t).map fun i => wholeD names (lg rows i)).length = t):=Lib.hid (by rw [List.length_map,List.length_take];omega)
   clear hc0 hii hcr0 hv hd hn1 htk
   (try have : w.heap.size < wr.heap.size:=by omega);(try have : w.heap.size + 1 < wr.heap.size:=by omega);(try have : w.heap.size + 1 + 1 < wr.heap.size:=by omega);(try have : w.heap.size + 1 + 1 + 1 < wr.heap.size:=by omega)
   go_wp2_with fail
   go_region_held3 (fun w' => w'.cell? ⟨w.heap.size,0,none⟩ = some (.slice NA names.length NC) ∧ w'.cell? ⟨w.heap.size,2,none⟩ = some (.slice (some ⟨b',o',none⟩) rows.length RC) ∧ w'.cell? ⟨b',o' + i,none⟩ = some (.slice A' n1 D')) (first | (with_reducible exact hS3) | (first | (go_keep;done) | (simp [go_sem];done) | ((try dsimp only);(repeat' apply And.intro) <;> (first | (with_reducible assumption) | ((rw [World.cell?_alloc_lt _ _ _ (by show _ < _;omega)]);go_split_ands;(first | with_reducible assumption | (refine (World.cell?_alloc_lt _ _ _ (by show _ < _;omega)).symm.trans ?_;with_reducible assumption))) | ((rw [World.cell?_setCell_other _ _ _ _ (by intro e;injection e;omega)]);with_reducible assumption) | (go_keep;done) | (simp [go_sem];done) | (simp (disch:=go_size) [*,World.cell?_alloc_some,World.cell?_setCell_far];done))))) (first | (go_at_call 89;(with_reducible refine (HC.out _ (by (repeat' first|(with_reducible first|exact blR _ _|assumption|refine blD ?_|refine blN ?_ _)|((with_reducible first|refine blA ?_ ?_ _|refine blS ?_ ?_ _|refine blT (by assumption) ?_ ?_);focus (go_size;done))))).mono ?_);rintro _ w2 ⟨VA,VC,VA2,VC2,rfl,hva,hb2⟩;have HVA:=Lib.hid hva;clear hva;have hb2s:=hb2.size;(try simp only [World.size_drew] at hb2s);(try have : w.heap.size < w2.heap.size:=by omega);(try have : w.heap.size + 1 < w2.heap.size:=by omega);(try have : w.heap.size + 1 + 1 < w2.heap.size:=by omega);(try have : w.heap.size + 1 + 1 + 1 < w2.heap.size:=by omega);obtain ⟨hb2c,hb2f⟩:=bcell hb2) | (refine step_pushX rfl _ _ (by rfl) (w.heap.size + 1) w0.heap.size (by omega) (by go_size) u5 _ (by rfl) (HV.out.below (by omega) (by (repeat' first|(with_reducible first|exact blR _ _|assumption|refine blD ?_|refine blN ?_ _)|((with_reducible first|refine blA ?_ ?_ _|refine blS ?_ ?_ _|refine blT (by assumption) ?_ ?_);focus (go_size;done))))) w2.heap.size d VA VC VA2 VC2 (by rfl) (At.new w2 (vcs d VA VC VA2 VC2) _ rfl) (VN.base HVA.out (HB.out.trans (Below.mono (by (repeat' first|(with_reducible first|exact blR _ _|assumption|refine blD ?_|refine blN ?_ _)|((with_reducible first|refine blA ?_ ?_ _|refine blS ?_ ?_ _|refine blT (by assumption) ?_ ?_);focus (go_size;done))) : Below w.heap.size w _) h0s)) (fun g hg => by have:=HV.out.lt g hg;omega)) (by rw [HL.out];omega) ?_;intro g cap w3 ho3 hb3 hlt3;have HO3:=Lib.hid ho3;have hs3:=hb3.size;(try simp only [World.size_alloc] at hs3);have hbw3 : Below w.heap.size w w3:=Below.trans (by (repeat' first|(with_reducible first|exact blR _ _|assumption|refine blD ?_|refine blN ?_ _)|((with_reducible first|refine blA ?_ ?_ _|refine blS ?_ ?_ _|refine blT (by assumption) ?_ ?_);focus (go_size;done)))) (hb3.mono (by omega));have hk3 : Bk w3 w.heap.size 63 [.slice NA names.length NC,.slice OA on OC,.slice (some ⟨b',o',none⟩) rows.length RC]:=((HBK.out.drew.below hb2 (by simp only [World.size_drew];omega)).alloc _).below hb3 (by omega);have hS3 : w3.cell? ⟨w.heap.size,0,none⟩ = some (.slice NA names.length NC) ∧ w3.cell? ⟨w.heap.size,2,none⟩ = some (.slice (some ⟨b',o',none⟩) rows.length RC) ∧ w3.cell? ⟨b',o' + i,none⟩ = some (.slice A' n1 D'):=⟨hk3.cell 0 rfl,hk3.cell 2 rfl,(hbw3.cell (p:=⟨b',o' + i,none⟩) lw').trans HCW.out⟩;have HK3:=Lib.hid hk3;clear ho3 hk3))
   go_wp2_with fail
   go_roundg (gk - 1)
   case measure => have:=HK.out;omega
   case rel => exact ⟨t + 1,by have:=HK.out;omega,by go_num,Lib.hid (by have e:=HO3.out;rw [HL.out] at e;rw [HTK.out];exact e),HK3.out,by omega,hbw3⟩
  ·obtain rfl : t = pl.length:=by omega
   clear hlt
   go_wp2_with fail
   go_ret
   refine ⟨_,rfl, ?_,by (repeat' first|(with_reducible first|exact blR _ _|assumption|refine blD ?_|refine blN ?_ _)|((with_reducible first|refine blA ?_ ?_ _|refine blS ?_ ?_ _|refine blT (by assumption) ?_ ?_);focus (go_size;done)))⟩
   have e:=HV.out
   rw [List.take_of_length_le (Nat.le_refl _)] at e
   exact e.mono (by omega)
set_option maxRecDepth 100000 in
set_option maxHeartbeats 2000000 in
theorem places18_any (rows : List (List VD)) (N O R : Value) (w : World) (hr : Lls w R rows) (hN : ∃ A n C,N = .slice A n C) (hO : ∃ A n C,O = .slice A n C) (hlen : rows.length ≤ 1000000) :
  Calls Tryz.prog 65 #[.agg #[N,O,R]] w fun e w' => ∃ v,e = .returned v ∧ Own w' w.heap.size v (List.range rows.length) ∧ Below w.heap.size w w':=by
 obtain ⟨RA,RC,rfl,q2,_,_⟩:=hr.is
 obtain ⟨NA,nn,NC,rfl⟩:=hN
 obtain ⟨OA,on,OC,rfl⟩:=hO
 have hrc : (rows.length : Int) ≤ 1048576:=by omega
 clear hr
 obtain ⟨n,hnn⟩ : ∃ n,n = rows.length:=⟨_,rfl⟩
 have hn6 : n ≤ 1000000:=by omega
 have hnc : (n : Int) ≤ 1000000:=by omega
 rw [← hnn]
 clear hnn
 go_enter Tryz.func65,Tryz.ntmps65
 go_wp2_with fail
 go_loopg [3,8] n (fun k s3 s8 wr => ∃ t : Nat,k + t = n ∧ s8 = .int .i64 t ∧ Hid (Own wr (w.heap.size + 1) s3 (List.range t)) ∧ w.heap.size + 1 ≤ wr.heap.size ∧ Below w.heap.size w wr)
 case atStart => exact ⟨0,by omega,rfl,Lib.hid (Own.nil _ _),by go_size,by (repeat' first|(with_reducible first|exact blR _ _|assumption|refine blD ?_|refine blN ?_ _)|((with_reducible first|refine blA ?_ ?_ _|refine blS ?_ ?_ _|refine blT (by assumption) ?_ ?_);focus (go_size;done)))⟩
 case round =>
  obtain ⟨t,hk,rfl,HV,hsz,hbel⟩:=hrel
  have HK:=Lib.hid hk
  have htl : t ≤ n:=by omega
  clear hk
  by_cases hlt : t < n
  ·have htc : (t : Int) < (n : Int):=by omega
   have HRT:=Lib.hid (show (List.range t).length ≤ 1000000 by rw [List.length_range];omega)
   go_wp2_with (at_builtin;refine wpList_pushO rfl _ _ 43 rfl Tryz.underlying43 (w.heap.size + 1) (by go_size) u3 _ rfl (HV.out.alloc _) wr.heap.size t rfl (by simp) HRT.out ?_;intro g cap w3 ho3 hb3 hlt3;have hs3:=hb3.size;(simp only [World.size_alloc] at hs3);have hbw3 : Below w.heap.size w w3:=Below.trans (by (repeat' first|(with_reducible first|exact blR _ _|assumption|refine blD ?_|refine blN ?_ _)|((with_reducible first|refine blA ?_ ?_ _|refine blS ?_ ?_ _|refine blT (by assumption) ?_ ?_);focus (go_size;done)))) (hb3.mono (Nat.le_succ _));have HO3:=Lib.hid ho3;clear ho3 hb3)
   go_roundg (gk - 1)
   case measure => have:=HK.out;omega
   case rel => exact ⟨t + 1,by have:=HK.out;omega,by go_num,Lib.hid (by have e:=HO3.out;rw [List.length_range] at e;rw [List.range_succ];exact e),by omega,hbw3⟩
  ·obtain rfl : t = n:=by omega
   clear hlt
   go_wp2_with fail
   go_ret
   exact ⟨_,rfl,HV.out.mono (by omega),by (repeat' first|(with_reducible first|exact blR _ _|assumption|refine blD ?_|refine blN ?_ _)|((with_reducible first|refine blA ?_ ?_ _|refine blS ?_ ?_ _|refine blT (by assumption) ?_ ?_);focus (go_size;done)))⟩
end Go.Proofs.YtkjecoanlppeaaaGreatDoor



namespace Go.Proofs.YtkjecoanlppeaaaGreatDoor
open Go.RowKit

theorem ofv_nat (n : Nat) : OfV (n : Int) = .agg #[.bool false,.int .u64 (wd n 1),.int .u64 (wd n 0),.int .i64 0]:=by
 unfold OfV absN
 rw [decide_eq_false (by omega),Int.natAbs_natCast]
theorem plain_map (f : Nat → VD) (n : Nat) (ls : List (List VD)) (g : List VD → VD) (hn : ls.length = n) (h : ∀ i,i < n → f i = g (lg ls i)) : (List.range n).map f = ls.map g:=by
 refine List.ext_getElem (by simp [hn]) fun i h1 h2 => ?_
 simp only [List.getElem_map,List.getElem_range]
 rw [h i (by simpa using h1)]
 congr 1
 unfold lg
 rw [List.getD_eq_getElem?_getD,List.getElem?_eq_getElem (by simpa using h2)];rfl
theorem Bk.zcd {w : World} {g : Nat} {t : TypeId} (h : Bk w g t zc10) : (w.cell? ⟨g,0,none⟩ = some (.int .i64 0) ∧ w.cell? ⟨g,1,none⟩ = some (.bool false) ∧ w.cell? ⟨g,2,none⟩ = some (.bool false) ∧ w.cell? ⟨g,3,none⟩ = some (.int .u64 0) ∧ w.cell? ⟨g,4,none⟩ = some (.int .u64 0) ∧ w.cell? ⟨g,5,none⟩ = some (.int .i64 0) ∧ w.cell? ⟨g,6,none⟩ = some (.string ⟨#[]⟩) ∧ w.cell? ⟨g,7,none⟩ = some (.int .i64 0) ∧ w.cell? ⟨g,8,none⟩ = some (.slice none 0 0) ∧ w.cell? ⟨g,9,none⟩ = some (.slice none 0 0)) ∧ ∀ i,w.frozen? ⟨g,i,none⟩ = false :=
 ⟨⟨h.cell 0 rfl,h.cell 1 rfl,h.cell 2 rfl,h.cell 3 rfl,h.cell 4 rfl,h.cell 5 rfl,h.cell 6 rfl,h.cell 7 rfl,h.cell 8 rfl,h.cell 9 rfl⟩,h.frozen⟩
theorem vls_list {w : World} {A : Option Addr} {C : Nat} {l : List VD} (h : Vls (RV w) w (.slice A l.length C) l) : VA w (.mk (kindS 5) l []) A C none 0 :=
 vls_sub (d:=VD.zero) h ⟨none,0,rfl,⟨by simp,by simp,by decide⟩,fun r hr => absurd hr (Nat.not_lt_zero _)⟩
theorem list_vargs (l : List VD) (A : Option Addr) (C : Nat) : vargs (.mk (kindS 5) l []) A C none 0 = .agg #[.int .i64 5,.bool false,.bool false,.int .u64 0,.int .u64 0,.int .i64 0,.string ⟨#[]⟩,.int .i64 0,.slice A l.length C,.slice none 0 0]:=by
 rw [vargs,vagg]
 simp only [kindS,VD.s,VD.list,VD.names,wd_zero];rfl
set_option maxRecDepth 100000 in
set_option maxHeartbeats 2000000 in
theorem dec_list (p : Int) (hp : p = 5 ∨ p = 7) (names : List (List UInt8)) (order rows : List (List VD)) (N O R : Value) (w0 w : World) (hb : Below w0.heap.size w0 w) (hT : Tabs w0) (hn : Nms w0 N names) (ho : Lls w0 O order) (hr : Lls w0 R rows) (hf : InForm names order rows) :
  Calls Tryz.prog 39 #[.agg #[N,O,R],.int .i64 p] w (RetP (.mk (kindS 5) (rows.map (wholeD names)) [],0) w):=by
 obtain ⟨NA,NC,rfl,q1⟩:=hn.is
 obtain ⟨OA,OC,rfl,q3,_,_⟩:=ho.is
 obtain ⟨RA,RC,rfl,q2,hcap1,hcap2⟩:=hr.is
 have HB:=Lib.hid hb
 have HT:=Lib.hid hT
 have HN:=Lib.hid hn
 have HO:=Lib.hid ho
 have HR:=Lib.hid hr
 have HF:=Lib.hid hf
 have h0s:=hb.size
 have hr60:=hf.r60
 have hrc : (rows.length : Int) ≤ 60:=by omega
 have HPC:=Lib.hid (fun (W : World) (hW : Below w.heap.size w W) => places18_any rows (.slice NA names.length NC) (.slice OA order.length OC) (.slice RA rows.length RC) W (hr.below (hb.trans (hW.mono h0s))) ⟨_,_,_,rfl⟩ ⟨_,_,_,rfl⟩ (by omega))
 have HVC:=Lib.hid (fun (pl : List Nat) (P : Value) (W : World) (hW : Below w.heap.size w W) (hP : Ilst W P pl) (hpl : ∀ i,i < pl.length → ag pl i < rows.length) (hl : pl.length ≤ 1000000) => values18_any names rows pl (.slice NA names.length NC) (.slice OA order.length OC) (.slice RA rows.length RC) P w0 W (hb.trans (hW.mono h0s)) hn hr ⟨_,_,_,rfl⟩ hP hpl (fun _ t ht => by rw [hf.rl t ht];have:=hf.n1;omega) hl)
 have HSC:=Lib.hid (fun (W : World) (hW : Below w.heap.size w W) => hsorted_any order rows (.slice OA order.length OC) (.slice RA rows.length RC) W (tabs_below hT (hb.trans (hW.mono h0s))) (ho.below (hb.trans (hW.mono h0s))) (hr.below (hb.trans (hW.mono h0s))) hf.oc hf.rc (fun t ht => by rw [hf.rl t ht,hf.ol];exact Nat.le_refl _) (by rw [hf.ol];have:=hf.n8;omega) hr60)
 have HMP:=Lib.hid (plain_map (fun i => wholeD names (lg rows i)) rows.length rows (wholeD names) rfl (fun _ _ => rfl))
 obtain ⟨ln,hln⟩ : ∃ x,x = names.length:=⟨_,rfl⟩
 obtain ⟨lo,hlo⟩ : ∃ x,x = order.length:=⟨_,rfl⟩
 obtain ⟨n,hnn⟩ : ∃ x,x = rows.length:=⟨_,rfl⟩
 have HLN:=Lib.hid hln
 have HLO:=Lib.hid hlo
 have HNN:=Lib.hid hnn
 simp only [← hln,← hlo,← hnn] at HPC
 simp only [← hln,← hlo,← hnn] at HVC
 simp only [← hlo,← hnn] at HSC
 rw [← hnn] at hr60 hrc
 rw [← hln,← hlo,← hnn]
 clear hb hT hn ho hr hf q1 q2 q3 hln hlo hnn
 rw [← HNN.out] at HMP
 rcases hp with rfl | rfl
 ·go_enter Tryz.func39,Tryz.ntmps39
  go_wp2_with fail
  go_region_held3 (fun w' => w'.cell? ⟨w.heap.size,0,none⟩ = some (.slice NA ln NC) ∧ w'.cell? ⟨w.heap.size,1,none⟩ = some (.slice OA lo OC) ∧ w'.cell? ⟨w.heap.size,2,none⟩ = some (.slice RA n RC)) (first | (first | (go_keep;done) | (simp [go_sem];done) | ((try dsimp only);(repeat' apply And.intro) <;> (first | (with_reducible assumption) | ((rw [World.cell?_alloc_lt _ _ _ (by show _ < _;omega)]);go_split_ands;(first | with_reducible assumption | (refine (World.cell?_alloc_lt _ _ _ (by show _ < _;omega)).symm.trans ?_;with_reducible assumption))) | ((rw [World.cell?_setCell_other _ _ _ _ (by intro e;injection e;omega)]);with_reducible assumption) | (go_keep;done) | (simp [go_sem];done) | (simp (disch:=go_size) [*,World.cell?_alloc_some,World.cell?_setCell_far];done))))) (first | (go_at_call 65;(with_reducible refine (HPC.out _ (by (repeat' first|(with_reducible first|exact blR _ _|assumption|refine blD ?_|refine blN ?_ _)|((with_reducible first|refine blA ?_ ?_ _|refine blS ?_ ?_ _|refine blT (by assumption) ?_ ?_);focus (go_size;done))))).mono ?_);rintro _ w2 ⟨v,rfl,hov,hb2⟩;have hil:=hov.read (by rw [List.length_range];omega);have HIL:=Lib.hid hil;clear hov hil;have hb2s:=hb2.size;(try simp only [World.size_drew,World.size_alloc] at hb2s);(try have : w.heap.size < w2.heap.size:=by omega);(try have : w.heap.size + 1 < w2.heap.size:=by omega);(try have : w.heap.size + 1 + 1 < w2.heap.size:=by omega);(try have : w.heap.size + 1 + 1 + 1 < w2.heap.size:=by omega);obtain ⟨hb2c,hb2f⟩:=bcell hb2) | (go_at_call 64;(with_reducible refine (HVC.out (List.range n) v _ (by (repeat' first|(with_reducible first|exact blR _ _|assumption|refine blD ?_|refine blN ?_ _)|((with_reducible first|refine blA ?_ ?_ _|refine blS ?_ ?_ _|refine blT (by assumption) ?_ ?_);focus (go_size;done)))) HIL.out (fun i hi => by have hi2 : i < n:=(by rw [List.length_range] at hi;exact hi);rw [ag_get hi,List.getElem_range];exact hi2) (by rw [List.length_range];omega)).mono ?_);rintro _ w3 ⟨v3,rfl,hov3,hb3⟩;obtain ⟨A3,C3,e3,_,_⟩:=hov3.is;subst e3;have HOV:=Lib.hid hov3;clear hov3;have hb3s:=hb3.size;(try have : w.heap.size < w3.heap.size:=by omega);(try have : w.heap.size + 1 < w3.heap.size:=by omega);(try have : w.heap.size + 1 + 1 < w3.heap.size:=by omega);(try have : w.heap.size + 1 + 1 + 1 < w3.heap.size:=by omega);have k0 : Bk w3 w.heap.size 63 [.slice NA ln NC,.slice OA lo OC,.slice RA n RC]:=(by (repeat (first|(with_reducible assumption)|((with_reducible refine bkW ?_);(first|rfl|(simp only [wsA,wsS,wsD,wsN];done)))|(with_reducible first|refine bkA ?_ _|refine bkD ?_|refine bkN ?_ _)|((with_reducible refine bkF ?_ ?_ _);focus (simp only [];omega))|((with_reducible refine bkB (by assumption) ?_ ?_);focus (go_size;done)))));have k1 : Bk w3 (w.heap.size + 1) 34 zc10:=(by unfold zc10;(repeat (first|(with_reducible assumption)|((with_reducible refine bkW ?_);(first|rfl|(simp only [wsA,wsS,wsD,wsN];done)))|(with_reducible first|refine bkA ?_ _|refine bkD ?_|refine bkN ?_ _)|((with_reducible refine bkF ?_ ?_ _);focus (simp only [];omega))|((with_reducible refine bkB (by assumption) ?_ ?_);focus (go_size;done)))));have mb : Below w.heap.size w w3:=(by (repeat' first|(with_reducible first|exact blR _ _|assumption|refine blD ?_|refine blN ?_ _)|((with_reducible first|refine blA ?_ ?_ _|refine blS ?_ ?_ _|refine blT (by assumption) ?_ ?_);focus (go_size;done))));have s0:=k0.cell 0 rfl;have s1:=k0.cell 1 rfl;have s2:=k0.cell 2 rfl;obtain ⟨⟨z0,z1,z2,z3,z4,z5,z6,z7,z8,z9⟩,zf⟩:=k1.zcd;clear k0 k1 hb2c hb2f hb2 hb3))
  have HVV:=Lib.hid (fun (W : World) (hW : Agr w0.heap.size w2.heap.size w3.heap.size w3 W) => HOV.out.vlsR (by rw [List.length_map,List.length_range];omega) hW)
  rw [HMP.out] at HVV
  simp only [List.length_map,← HNN.out] at HVV
  go_wp2_with fail
  refine bodyPost_ret (by simp [results,Tryz.results39,go_sem, *];try rfl) rfl ?_
  refine ⟨A3,C3,none,0, ?_, ?_,by (repeat' first|(with_reducible first|exact blR _ _|assumption|refine blD ?_|refine blN ?_ _)|((with_reducible first|refine blA ?_ ?_ _|refine blS ?_ ?_ _|refine blT (by assumption) ?_ ?_);focus (go_size;done)))⟩
  ·rw [list_vargs,List.length_map,← HNN.out]
  ·refine vls_list ?_
   rw [List.length_map,← HNN.out]
   refine HVV.out _ (fun b hb => ?_)
   repeat rw [Below.heap_setCell _ _ _ _ (by show b ≠ w.heap.size + 1;omega)]
 ·go_enter Tryz.func39,Tryz.ntmps39
  go_wp2_with fail
  go_region_held3 (fun w' => w'.cell? ⟨w.heap.size,0,none⟩ = some (.slice NA ln NC) ∧ w'.cell? ⟨w.heap.size,1,none⟩ = some (.slice OA lo OC) ∧ w'.cell? ⟨w.heap.size,2,none⟩ = some (.slice RA n RC)) (first | (first | (go_keep;done) | (simp [go_sem];done) | ((try dsimp only);(repeat' apply And.intro) <;> (first | (with_reducible assumption) | ((rw [World.cell?_alloc_lt _ _ _ (by show _ < _;omega)]);go_split_ands;(first | with_reducible assumption | (refine (World.cell?_alloc_lt _ _ _ (by show _ < _;omega)).symm.trans ?_;with_reducible assumption))) | ((rw [World.cell?_setCell_other _ _ _ _ (by intro e;injection e;omega)]);with_reducible assumption) | (go_keep;done) | (simp [go_sem];done) | (simp (disch:=go_size) [*,World.cell?_alloc_some,World.cell?_setCell_far];done))))) (first | (go_at_call 65;(with_reducible refine (HPC.out _ (by (repeat' first|(with_reducible first|exact blR _ _|assumption|refine blD ?_|refine blN ?_ _)|((with_reducible first|refine blA ?_ ?_ _|refine blS ?_ ?_ _|refine blT (by assumption) ?_ ?_);focus (go_size;done))))).mono ?_);rintro _ w2 ⟨v,rfl,hov,hb2⟩;have hil:=hov.read (by rw [List.length_range];omega);have HIL:=Lib.hid hil;clear hov hil;have hb2s:=hb2.size;(try simp only [World.size_drew,World.size_alloc] at hb2s);(try have : w.heap.size < w2.heap.size:=by omega);(try have : w.heap.size + 1 < w2.heap.size:=by omega);(try have : w.heap.size + 1 + 1 < w2.heap.size:=by omega);(try have : w.heap.size + 1 + 1 + 1 < w2.heap.size:=by omega);obtain ⟨hb2c,hb2f⟩:=bcell hb2) | (go_at_call 64;(with_reducible refine (HVC.out (List.range n) v _ (by (repeat' first|(with_reducible first|exact blR _ _|assumption|refine blD ?_|refine blN ?_ _)|((with_reducible first|refine blA ?_ ?_ _|refine blS ?_ ?_ _|refine blT (by assumption) ?_ ?_);focus (go_size;done)))) HIL.out (fun i hi => by have hi2 : i < n:=(by rw [List.length_range] at hi;exact hi);rw [ag_get hi,List.getElem_range];exact hi2) (by rw [List.length_range];omega)).mono ?_);rintro _ w3 ⟨v3,rfl,hov3,hb3⟩;obtain ⟨A3,C3,e3,_,_⟩:=hov3.is;subst e3;have HOV:=Lib.hid hov3;clear hov3;have hb3s:=hb3.size;(try have : w.heap.size < w3.heap.size:=by omega);(try have : w.heap.size + 1 < w3.heap.size:=by omega);(try have : w.heap.size + 1 + 1 < w3.heap.size:=by omega);(try have : w.heap.size + 1 + 1 + 1 < w3.heap.size:=by omega);have k0 : Bk w3 w.heap.size 63 [.slice NA ln NC,.slice OA lo OC,.slice RA n RC]:=(by (repeat (first|(with_reducible assumption)|((with_reducible refine bkW ?_);(first|rfl|(simp only [wsA,wsS,wsD,wsN];done)))|(with_reducible first|refine bkA ?_ _|refine bkD ?_|refine bkN ?_ _)|((with_reducible refine bkF ?_ ?_ _);focus (simp only [];omega))|((with_reducible refine bkB (by assumption) ?_ ?_);focus (go_size;done)))));have k1 : Bk w3 (w.heap.size + 1) 34 zc10:=(by unfold zc10;(repeat (first|(with_reducible assumption)|((with_reducible refine bkW ?_);(first|rfl|(simp only [wsA,wsS,wsD,wsN];done)))|(with_reducible first|refine bkA ?_ _|refine bkD ?_|refine bkN ?_ _)|((with_reducible refine bkF ?_ ?_ _);focus (simp only [];omega))|((with_reducible refine bkB (by assumption) ?_ ?_);focus (go_size;done)))));have mb : Below w.heap.size w w3:=(by (repeat' first|(with_reducible first|exact blR _ _|assumption|refine blD ?_|refine blN ?_ _)|((with_reducible first|refine blA ?_ ?_ _|refine blS ?_ ?_ _|refine blT (by assumption) ?_ ?_);focus (go_size;done))));have s0:=k0.cell 0 rfl;have s1:=k0.cell 1 rfl;have s2:=k0.cell 2 rfl;obtain ⟨⟨z0,z1,z2,z3,z4,z5,z6,z7,z8,z9⟩,zf⟩:=k1.zcd;clear k0 k1 hb2c hb2f hb2 hb3))
  have HVV:=Lib.hid (fun (W : World) (hW : Agr w0.heap.size w2.heap.size w3.heap.size w3 W) => HOV.out.vlsR (by rw [List.length_map,List.length_range];omega) hW)
  rw [HMP.out] at HVV
  simp only [List.length_map,← HNN.out] at HVV
  go_wp2_with fail
  refine bodyPost_ret (by simp [results,Tryz.results39,go_sem, *];try rfl) rfl ?_
  refine ⟨A3,C3,none,0, ?_, ?_,by (repeat' first|(with_reducible first|exact blR _ _|assumption|refine blD ?_|refine blN ?_ _)|((with_reducible first|refine blA ?_ ?_ _|refine blS ?_ ?_ _|refine blT (by assumption) ?_ ?_);focus (go_size;done)))⟩
  ·rw [list_vargs,List.length_map,← HNN.out]
  ·refine vls_list ?_
   rw [List.length_map,← HNN.out]
   refine HVV.out _ (fun b hb => ?_)
   repeat rw [Below.heap_setCell _ _ _ _ (by show b ≠ w.heap.size + 1;omega)]
theorem srt_lt_n {rk : Nat → List Nat} {n i : Nat} (h : i < (srt rk n).length) : ag (srt rk n) i < n:=by
 rw [ag_get h]
 exact srt_mem.1 (List.getElem_mem h)
set_option maxRecDepth 100000 in
set_option maxHeartbeats 2000000 in
theorem dec_out (names : List (List UInt8)) (order rows : List (List VD)) (N O R : Value) (w0 w : World) (hb : Below w0.heap.size w0 w) (hT : Tabs w0) (hn : Nms w0 N names) (ho : Lls w0 O order) (hr : Lls w0 R rows) (hf : InForm names order rows) :
  Calls Tryz.prog 39 #[.agg #[N,O,R],.int .i64 6] w (RetP (.mk (kindS 5) ((plD order rows).map (vg (rows.map (wholeD names)))) [],0) w):=by
 obtain ⟨NA,NC,rfl,q1⟩:=hn.is
 obtain ⟨OA,OC,rfl,q3,_,_⟩:=ho.is
 obtain ⟨RA,RC,rfl,q2,hcap1,hcap2⟩:=hr.is
 have HB:=Lib.hid hb
 have HT:=Lib.hid hT
 have HN:=Lib.hid hn
 have HO:=Lib.hid ho
 have HR:=Lib.hid hr
 have HF:=Lib.hid hf
 have h0s:=hb.size
 have hr60:=hf.r60
 have hrc : (rows.length : Int) ≤ 60:=by omega
 have HPC:=Lib.hid (fun (W : World) (hW : Below w.heap.size w W) => places18_any rows (.slice NA names.length NC) (.slice OA order.length OC) (.slice RA rows.length RC) W (hr.below (hb.trans (hW.mono h0s))) ⟨_,_,_,rfl⟩ ⟨_,_,_,rfl⟩ (by omega))
 have HVC:=Lib.hid (fun (pl : List Nat) (P : Value) (W : World) (hW : Below w.heap.size w W) (hP : Ilst W P pl) (hpl : ∀ i,i < pl.length → ag pl i < rows.length) (hl : pl.length ≤ 1000000) => values18_any names rows pl (.slice NA names.length NC) (.slice OA order.length OC) (.slice RA rows.length RC) P w0 W (hb.trans (hW.mono h0s)) hn hr ⟨_,_,_,rfl⟩ hP hpl (fun _ t ht => by rw [hf.rl t ht];have:=hf.n1;omega) hl)
 have HSC:=Lib.hid (fun (W : World) (hW : Below w.heap.size w W) => hsorted_any order rows (.slice OA order.length OC) (.slice RA rows.length RC) W (tabs_below hT (hb.trans (hW.mono h0s))) (ho.below (hb.trans (hW.mono h0s))) (hr.below (hb.trans (hW.mono h0s))) hf.oc hf.rc (fun t ht => by rw [hf.rl t ht,hf.ol];exact Nat.le_refl _) (by rw [hf.ol];have:=hf.n8;omega) hr60)
 obtain ⟨pl,hpl⟩ : ∃ pl,pl = plD order rows:=⟨_,rfl⟩
 have hpl2 : srt (rankF order ∘ lg rows) rows.length = pl:=hpl.symm
 rw [hpl2] at HSC
 have HPL : Hid (pl.length = rows.length):=Lib.hid (by rw [hpl];exact srt_len _ _)
 have HPI : Hid (∀ i,i < pl.length → ag pl i < rows.length):=Lib.hid (by rw [hpl];exact fun i hi => srt_lt_n hi)
 have HMP : Hid (pl.map (fun i => wholeD names (lg rows i)) = pl.map (vg (rows.map (wholeD names)))):=Lib.hid (List.map_congr_left fun i hi => by
  obtain ⟨j,hj,rfl⟩:=List.getElem_of_mem hi
  rw [vg_map _ _ (by have:=HPI.out j hj;rwa [ag_get hj] at this)])
 rw [← hpl]
 clear hpl hpl2
 obtain ⟨ln,hln⟩ : ∃ x,x = names.length:=⟨_,rfl⟩
 obtain ⟨lo,hlo⟩ : ∃ x,x = order.length:=⟨_,rfl⟩
 obtain ⟨n,hnn⟩ : ∃ x,x = rows.length:=⟨_,rfl⟩
 have HLN:=Lib.hid hln
 have HLO:=Lib.hid hlo
 have HNN:=Lib.hid hnn
 simp only [← hln,← hlo,← hnn] at HPC
 simp only [← hln,← hlo,← hnn] at HVC
 simp only [← hlo,← hnn] at HSC
 rw [← hnn] at hr60 hrc
 rw [← hln,← hlo,← hnn]
 clear hb hT hn ho hr hf q1 q2 q3 hln hlo hnn
 rw [← HNN.out] at HPL HPI
 go_enter Tryz.func39,Tryz.ntmps39
 go_wp2_with fail
 go_region_held3 (fun w' => w'.cell? ⟨w.heap.size,0,none⟩ = some (.slice NA ln NC) ∧ w'.cell? ⟨w.heap.size,1,none⟩ = some (.slice OA lo OC) ∧ w'.cell? ⟨w.heap.size,2,none⟩ = some (.slice RA n RC)) (first | (first | (go_keep;done) | (simp [go_sem];done) | ((try dsimp only);(repeat' apply And.intro) <;> (first | (with_reducible assumption) | ((rw [World.cell?_alloc_lt _ _ _ (by show _ < _;omega)]);go_split_ands;(first | with_reducible assumption | (refine (World.cell?_alloc_lt _ _ _ (by show _ < _;omega)).symm.trans ?_;with_reducible assumption))) | ((rw [World.cell?_setCell_other _ _ _ _ (by intro e;injection e;omega)]);with_reducible assumption) | (go_keep;done) | (simp [go_sem];done) | (simp (disch:=go_size) [*,World.cell?_alloc_some,World.cell?_setCell_far];done))))) (first | (go_at_call 32;(with_reducible refine (HSC.out _ (by (repeat' first|(with_reducible first|exact blR _ _|assumption|refine blD ?_|refine blN ?_ _)|((with_reducible first|refine blA ?_ ?_ _|refine blS ?_ ?_ _|refine blT (by assumption) ?_ ?_);focus (go_size;done))))).mono ?_);rintro _ w2 ⟨v,rfl,hil,hb2,gs,hvs,_⟩;subst hvs;have HIL:=Lib.hid hil;clear hil;have hb2s:=hb2.size;(try simp only [World.size_drew,World.size_alloc] at hb2s);(try have : w.heap.size < w2.heap.size:=by omega);(try have : w.heap.size + 1 < w2.heap.size:=by omega);(try have : w.heap.size + 1 + 1 < w2.heap.size:=by omega);(try have : w.heap.size + 1 + 1 + 1 < w2.heap.size:=by omega);obtain ⟨hb2c,hb2f⟩:=bcell hb2) | (go_at_call 64;(with_reducible refine (HVC.out pl _ _ (by (repeat' first|(with_reducible first|exact blR _ _|assumption|refine blD ?_|refine blN ?_ _)|((with_reducible first|refine blA ?_ ?_ _|refine blS ?_ ?_ _|refine blT (by assumption) ?_ ?_);focus (go_size;done)))) HIL.out HPI.out (by rw [HPL.out];omega)).mono ?_);rintro _ w3 ⟨v3,rfl,hov3,hb3⟩;obtain ⟨A3,C3,e3,_,_⟩:=hov3.is;subst e3;have HOV:=Lib.hid hov3;clear hov3;have hb3s:=hb3.size;(try have : w.heap.size < w3.heap.size:=by omega);(try have : w.heap.size + 1 < w3.heap.size:=by omega);(try have : w.heap.size + 1 + 1 < w3.heap.size:=by omega);(try have : w.heap.size + 1 + 1 + 1 < w3.heap.size:=by omega);have k0 : Bk w3 w.heap.size 63 [.slice NA ln NC,.slice OA lo OC,.slice RA n RC]:=(by (repeat (first|(with_reducible assumption)|((with_reducible refine bkW ?_);(first|rfl|(simp only [wsA,wsS,wsD,wsN];done)))|(with_reducible first|refine bkA ?_ _|refine bkD ?_|refine bkN ?_ _)|((with_reducible refine bkF ?_ ?_ _);focus (simp only [];omega))|((with_reducible refine bkB (by assumption) ?_ ?_);focus (go_size;done)))));have k1 : Bk w3 (w.heap.size + 1) 34 zc10:=(by unfold zc10;(repeat (first|(with_reducible assumption)|((with_reducible refine bkW ?_);(first|rfl|(simp only [wsA,wsS,wsD,wsN];done)))|(with_reducible first|refine bkA ?_ _|refine bkD ?_|refine bkN ?_ _)|((with_reducible refine bkF ?_ ?_ _);focus (simp only [];omega))|((with_reducible refine bkB (by assumption) ?_ ?_);focus (go_size;done)))));have mb : Below w.heap.size w w3:=(by (repeat' first|(with_reducible first|exact blR _ _|assumption|refine blD ?_|refine blN ?_ _)|((with_reducible first|refine blA ?_ ?_ _|refine blS ?_ ?_ _|refine blT (by assumption) ?_ ?_);focus (go_size;done))));have s0:=k0.cell 0 rfl;have s1:=k0.cell 1 rfl;have s2:=k0.cell 2 rfl;obtain ⟨⟨z0,z1,z2,z3,z4,z5,z6,z7,z8,z9⟩,zf⟩:=k1.zcd;clear k0 k1 hb2c hb2f hb2 hb3))
 have HVV:=Lib.hid (fun (W : World) (hW : Agr w0.heap.size w2.heap.size w3.heap.size w3 W) => HOV.out.vlsR (by rw [List.length_map,HPL.out];omega) hW)
 rw [HMP.out] at HVV
 simp only [List.length_map,HPL.out] at HVV
 go_wp2_with fail
 refine bodyPost_ret (by simp [results,Tryz.results39,go_sem, *];try rfl) rfl ?_
 refine ⟨A3,C3,none,0, ?_, ?_,by (repeat' first|(with_reducible first|exact blR _ _|assumption|refine blD ?_|refine blN ?_ _)|((with_reducible first|refine blA ?_ ?_ _|refine blS ?_ ?_ _|refine blT (by assumption) ?_ ?_);focus (go_size;done)))⟩
 ·rw [list_vargs,List.length_map,HPL.out]
 ·refine vls_list ?_
  rw [List.length_map,HPL.out]
  refine HVV.out _ (fun b hb => ?_)
  repeat rw [Below.heap_setCell _ _ _ _ (by show b ≠ w.heap.size + 1;omega)]
set_option maxRecDepth 100000 in
set_option maxHeartbeats 2000000 in
theorem dec_num (names : List (List UInt8)) (order rows : List (List VD)) (N O R : Value) (w0 w : World) (hb : Below w0.heap.size w0 w) (hT : Tabs w0) (hn : Nms w0 N names) (ho : Lls w0 O order) (hr : Lls w0 R rows) (hf : InForm names order rows) :
  Calls Tryz.prog 39 #[.agg #[N,O,R],.int .i64 11] w (RetP (.mk (numS false rows.length 0) [] [],0) w):=by
 obtain ⟨NA,NC,rfl,q1⟩:=hn.is
 obtain ⟨OA,OC,rfl,q3,_,_⟩:=ho.is
 obtain ⟨RA,RC,rfl,q2,hcap1,hcap2⟩:=hr.is
 have HB:=Lib.hid hb
 have HT:=Lib.hid hT
 have HN:=Lib.hid hn
 have HO:=Lib.hid ho
 have HR:=Lib.hid hr
 have HF:=Lib.hid hf
 have h0s:=hb.size
 have hr60:=hf.r60
 have hrc : (rows.length : Int) ≤ 60:=by omega
 have HPC:=Lib.hid (fun (W : World) (hW : Below w.heap.size w W) => places18_any rows (.slice NA names.length NC) (.slice OA order.length OC) (.slice RA rows.length RC) W (hr.below (hb.trans (hW.mono h0s))) ⟨_,_,_,rfl⟩ ⟨_,_,_,rfl⟩ (by omega))
 have HVC:=Lib.hid (fun (pl : List Nat) (P : Value) (W : World) (hW : Below w.heap.size w W) (hP : Ilst W P pl) (hpl : ∀ i,i < pl.length → ag pl i < rows.length) (hl : pl.length ≤ 1000000) => values18_any names rows pl (.slice NA names.length NC) (.slice OA order.length OC) (.slice RA rows.length RC) P w0 W (hb.trans (hW.mono h0s)) hn hr ⟨_,_,_,rfl⟩ hP hpl (fun _ t ht => by rw [hf.rl t ht];have:=hf.n1;omega) hl)
 have HSC:=Lib.hid (fun (W : World) (hW : Below w.heap.size w W) => hsorted_any order rows (.slice OA order.length OC) (.slice RA rows.length RC) W (tabs_below hT (hb.trans (hW.mono h0s))) (ho.below (hb.trans (hW.mono h0s))) (hr.below (hb.trans (hW.mono h0s))) hf.oc hf.rc (fun t ht => by rw [hf.rl t ht,hf.ol];exact Nat.le_refl _) (by rw [hf.ol];have:=hf.n8;omega) hr60)
 have HOF:=Lib.hid (fun (W : World) => of2_any (rows.length : Int) ⟨by omega,by omega⟩ W)
 rw [ofv_nat] at HOF
 obtain ⟨ln,hln⟩ : ∃ x,x = names.length:=⟨_,rfl⟩
 obtain ⟨lo,hlo⟩ : ∃ x,x = order.length:=⟨_,rfl⟩
 obtain ⟨n,hnn⟩ : ∃ x,x = rows.length:=⟨_,rfl⟩
 have HLN:=Lib.hid hln
 have HLO:=Lib.hid hlo
 have HNN:=Lib.hid hnn
 simp only [← hln,← hlo,← hnn] at HPC
 simp only [← hln,← hlo,← hnn] at HVC
 simp only [← hlo,← hnn] at HSC
 rw [← hnn] at hr60 hrc
 rw [← hln,← hlo,← hnn]
 clear hb hT hn ho hr hf q1 q2 q3 hln hlo hnn
 simp only [← HNN.out] at HOF
 have hn128 : n < 2 ^ 128:=Nat.lt_of_le_of_lt hr60 (by decide)
 have HN128:=Far.mk hn128
 clear hn128 HPC HVC HSC
 go_enter Tryz.func39,Tryz.ntmps39
 go_wp2_with ((go_at_call 66;with_reducible refine (HOF.out _).mono ?_);rintro _ w2 ⟨rfl,hb2⟩;have hb2s:=hb2.size;(try simp only [wsA,wsS,wsD,wsN] at hb2s);obtain ⟨hb2c,hb2f⟩:=bcell hb2;(try have : w.heap.size < w2.heap.size:=by omega);(try have : w.heap.size + 1 < w2.heap.size:=by omega);(try have : w.heap.size + 1 + 1 < w2.heap.size:=by omega);(try have : w.heap.size + 1 + 1 + 1 < w2.heap.size:=by omega))
 refine bodyPost_ret (by simp [results,Tryz.results39,go_sem, *];try rfl) rfl ?_
 exact ⟨none,0,none,0,by rw [num_vargs],va_flat (numS_ok HN128.out),by (repeat' first|(with_reducible first|exact blR _ _|assumption|refine blD ?_|refine blN ?_ _)|((with_reducible first|refine blA ?_ ?_ _|refine blS ?_ ?_ _|refine blT (by assumption) ?_ ?_);focus (go_size;done)))⟩
set_option maxRecDepth 100000 in
set_option maxHeartbeats 2000000 in
theorem dec_none (p : Int) (hp : p = 1 ∨ p = 2 ∨ p = 3 ∨ p = 4 ∨ p = 8 ∨ p = 9 ∨ p = 10) (names : List (List UInt8)) (order rows : List (List VD)) (N O R : Value) (w0 w : World) (hb : Below w0.heap.size w0 w) (hT : Tabs w0) (hn : Nms w0 N names) (ho : Lls w0 O order) (hr : Lls w0 R rows) (hf : InForm names order rows) (h0 : rows.length = 0) :
  Calls Tryz.prog 39 #[.agg #[N,O,R],.int .i64 p] w (RetP (VD.zero,0) w):=by
 obtain ⟨NA,NC,rfl,q1⟩:=hn.is
 obtain ⟨OA,OC,rfl,q3,_,_⟩:=ho.is
 obtain ⟨RA,RC,rfl,q2,hcap1,hcap2⟩:=hr.is
 have HB:=Lib.hid hb
 have HT:=Lib.hid hT
 have HN:=Lib.hid hn
 have HO:=Lib.hid ho
 have HR:=Lib.hid hr
 have HF:=Lib.hid hf
 have h0s:=hb.size
 have hr60:=hf.r60
 have hrc : (rows.length : Int) ≤ 60:=by omega
 have HPC:=Lib.hid (fun (W : World) (hW : Below w.heap.size w W) => places18_any rows (.slice NA names.length NC) (.slice OA order.length OC) (.slice RA rows.length RC) W (hr.below (hb.trans (hW.mono h0s))) ⟨_,_,_,rfl⟩ ⟨_,_,_,rfl⟩ (by omega))
 have HVC:=Lib.hid (fun (pl : List Nat) (P : Value) (W : World) (hW : Below w.heap.size w W) (hP : Ilst W P pl) (hpl : ∀ i,i < pl.length → ag pl i < rows.length) (hl : pl.length ≤ 1000000) => values18_any names rows pl (.slice NA names.length NC) (.slice OA order.length OC) (.slice RA rows.length RC) P w0 W (hb.trans (hW.mono h0s)) hn hr ⟨_,_,_,rfl⟩ hP hpl (fun _ t ht => by rw [hf.rl t ht];have:=hf.n1;omega) hl)
 have HSC:=Lib.hid (fun (W : World) (hW : Below w.heap.size w W) => hsorted_any order rows (.slice OA order.length OC) (.slice RA rows.length RC) W (tabs_below hT (hb.trans (hW.mono h0s))) (ho.below (hb.trans (hW.mono h0s))) (hr.below (hb.trans (hW.mono h0s))) hf.oc hf.rc (fun t ht => by rw [hf.rl t ht,hf.ol];exact Nat.le_refl _) (by rw [hf.ol];have:=hf.n8;omega) hr60)
 obtain ⟨ln,hln⟩ : ∃ x,x = names.length:=⟨_,rfl⟩
 obtain ⟨lo,hlo⟩ : ∃ x,x = order.length:=⟨_,rfl⟩
 obtain ⟨n,hnn⟩ : ∃ x,x = rows.length:=⟨_,rfl⟩
 have HLN:=Lib.hid hln
 have HLO:=Lib.hid hlo
 have HNN:=Lib.hid hnn
 simp only [← hln,← hlo,← hnn] at HPC
 simp only [← hln,← hlo,← hnn] at HVC
 simp only [← hlo,← hnn] at HSC
 rw [← hnn] at hr60 hrc
 rw [← hln,← hlo,← hnn]
 clear hb hT hn ho hr hf q1 q2 q3 hln hlo hnn
 rw [← HNN.out] at h0
 subst h0
 clear HPC HVC HSC
 rcases hp with rfl | rfl | rfl | rfl | rfl | rfl | rfl
 all_goals
  go_enter Tryz.func39,Tryz.ntmps39
  go_wp2_with fail
  refine bodyPost_ret (by simp [results,Tryz.results39,go_sem, *];try rfl) rfl ?_
  exact ⟨none,0,none,0,by rw [zero_vargs],va_flat VS.zero_ok,by (repeat' first|(with_reducible first|exact blR _ _|assumption|refine blD ?_|refine blN ?_ _)|((with_reducible first|refine blA ?_ ?_ _|refine blS ?_ ?_ _|refine blT (by assumption) ?_ ?_);focus (go_size;done)))⟩
theorem numGo_flat (p : Int) : ∀ (l : List VD) (d : Bool × Nat × Nat),(numGo p d l).1.list = [] ∧ (numGo p d l).1.names = []
 | [],d => ⟨rfl,rfl⟩
 | x :: r,d => by
  unfold numGo
  split
  ·exact ⟨rfl,rfl⟩
  ·exact numGo_flat p r _
theorem numD_flat (p : Int) (l : List VD) : (numD p l).1.list = [] ∧ (numD p l).1.names = []:=by
 unfold numD
 split
 ·exact numGo_flat p _ _
 ·exact ⟨rfl,rfl⟩
theorem va_move_flat {w W : World} {d : VD} {A : Option Addr} {C : Nat} {A2 : Option Addr} {C2 : Nat} (h : VA w d A C A2 C2) (hl : d.list = []) (hn : d.names = []) : VA W d A C A2 C2:=by
 obtain ⟨h1,h2,h3⟩:=RV.list h
 have c2:=h2.caps
 have c3:=h3.caps
 refine RV.mk h1 ⟨A,C,rfl,⟨by rw [hl];decide,c2⟩,fun r hr => ?_⟩ ⟨A2,C2,rfl,⟨by rw [hn];decide,c3⟩,fun r hr => ?_⟩
 ·rw [hl] at hr;exact absurd hr (Nat.not_lt_zero _)
 ·rw [hn] at hr;exact absurd hr (Nat.not_lt_zero _)
set_option maxRecDepth 100000 in
set_option maxHeartbeats 2000000 in
theorem dec_reck (p : Int) (hp : p = 8 ∨ p = 9 ∨ p = 10) (names : List (List UInt8)) (order rows : List (List VD)) (N O R : Value) (w0 w : World) (hb : Below w0.heap.size w0 w) (hT : Tabs w0) (hn : Nms w0 N names) (ho : Lls w0 O order) (hr : Lls w0 R rows) (hf : InForm names order rows) (h0 : 0 < rows.length) (h1 : names.length = 1) :
  Calls Tryz.prog 39 #[.agg #[N,O,R],.int .i64 p] w (RetP (numD p (rows.map (wholeD names))) w):=by
 obtain ⟨NA,NC,rfl,q1⟩:=hn.is
 obtain ⟨OA,OC,rfl,q3,_,_⟩:=ho.is
 obtain ⟨RA,RC,rfl,q2,hcap1,hcap2⟩:=hr.is
 have HB:=Lib.hid hb
 have HT:=Lib.hid hT
 have HN:=Lib.hid hn
 have HO:=Lib.hid ho
 have HR:=Lib.hid hr
 have HF:=Lib.hid hf
 have h0s:=hb.size
 have hr60:=hf.r60
 have hrc : (rows.length : Int) ≤ 60:=by omega
 have HPC:=Lib.hid (fun (W : World) (hW : Below w.heap.size w W) => places18_any rows (.slice NA names.length NC) (.slice OA order.length OC) (.slice RA rows.length RC) W (hr.below (hb.trans (hW.mono h0s))) ⟨_,_,_,rfl⟩ ⟨_,_,_,rfl⟩ (by omega))
 have HVC:=Lib.hid (fun (pl : List Nat) (P : Value) (W : World) (hW : Below w.heap.size w W) (hP : Ilst W P pl) (hpl : ∀ i,i < pl.length → ag pl i < rows.length) (hl : pl.length ≤ 1000000) => values18_any names rows pl (.slice NA names.length NC) (.slice OA order.length OC) (.slice RA rows.length RC) P w0 W (hb.trans (hW.mono h0s)) hn hr ⟨_,_,_,rfl⟩ hP hpl (fun _ t ht => by rw [hf.rl t ht];have:=hf.n1;omega) hl)
 have HSC:=Lib.hid (fun (W : World) (hW : Below w.heap.size w W) => hsorted_any order rows (.slice OA order.length OC) (.slice RA rows.length RC) W (tabs_below hT (hb.trans (hW.mono h0s))) (ho.below (hb.trans (hW.mono h0s))) (hr.below (hb.trans (hW.mono h0s))) hf.oc hf.rc (fun t ht => by rw [hf.rl t ht,hf.ol];exact Nat.le_refl _) (by rw [hf.ol];have:=hf.n8;omega) hr60)
 have HMP:=Lib.hid (plain_map (fun i => wholeD names (lg rows i)) rows.length rows (wholeD names) rfl (fun _ _ => rfl))
 have HRK:=Lib.hid (fun (v : Value) (W : World) (hv : Vls (RV W) W v (rows.map (wholeD names))) => reckon18_any p (rows.map (wholeD names)) v W hp hv (by rw [List.length_map];exact h0) (by rw [List.length_map];omega) (fun t ht => by
  rw [List.length_map] at ht
  rw [vg_map _ _ ht]
  unfold wholeD
  rw [if_pos h1]
  exact allC_iff.1 (hf.rc t ht) 0 (by rw [hf.rl t ht];omega)))
 unfold RetP at HRK
 obtain ⟨f1,f2⟩:=numD_flat p (rows.map (wholeD names))
 obtain ⟨Z,hZ⟩ : ∃ Z,Z = numD p (rows.map (wholeD names)):=⟨_,rfl⟩
 rw [← hZ] at f1 f2 ⊢
 simp only [← hZ] at HRK
 have HF1:=Lib.hid f1
 have HF2:=Lib.hid f2
 clear f1 f2 hZ
 obtain ⟨ln,hln⟩ : ∃ x,x = names.length:=⟨_,rfl⟩
 obtain ⟨lo,hlo⟩ : ∃ x,x = order.length:=⟨_,rfl⟩
 obtain ⟨n,hnn⟩ : ∃ x,x = rows.length:=⟨_,rfl⟩
 have HLN:=Lib.hid hln
 have HLO:=Lib.hid hlo
 have HNN:=Lib.hid hnn
 simp only [← hln,← hlo,← hnn] at HPC
 simp only [← hln,← hlo,← hnn] at HVC
 simp only [← hlo,← hnn] at HSC
 rw [← hnn] at hr60 hrc
 rw [← hln,← hlo,← hnn]
 clear hb hT hn ho hr hf q1 q2 q3 hln hlo hnn
 rw [← HNN.out] at HMP h0
 have hn0 : ((n : Int) == 0) = false:=by rw [beq_eq_false_iff_ne];omega
 clear h1
 rcases hp with rfl | rfl | rfl
 all_goals
  go_enter Tryz.func39,Tryz.ntmps39
  go_wp2_with fail
  go_region_held3 (fun w' => w'.cell? ⟨w.heap.size,0,none⟩ = some (.slice NA ln NC) ∧ w'.cell? ⟨w.heap.size,1,none⟩ = some (.slice OA lo OC) ∧ w'.cell? ⟨w.heap.size,2,none⟩ = some (.slice RA n RC)) (first | (first | (go_keep;done) | (simp [go_sem];done) | ((try dsimp only);(repeat' apply And.intro) <;> (first | (with_reducible assumption) | ((rw [World.cell?_alloc_lt _ _ _ (by show _ < _;omega)]);go_split_ands;(first | with_reducible assumption | (refine (World.cell?_alloc_lt _ _ _ (by show _ < _;omega)).symm.trans ?_;with_reducible assumption))) | ((rw [World.cell?_setCell_other _ _ _ _ (by intro e;injection e;omega)]);with_reducible assumption) | (go_keep;done) | (simp [go_sem];done) | (simp (disch:=go_size) [*,World.cell?_alloc_some,World.cell?_setCell_far];done))))) (first | (go_at_call 65;(with_reducible refine (HPC.out _ (by (repeat' first|(with_reducible first|exact blR _ _|assumption|refine blD ?_|refine blN ?_ _)|((with_reducible first|refine blA ?_ ?_ _|refine blS ?_ ?_ _|refine blT (by assumption) ?_ ?_);focus (go_size;done))))).mono ?_);rintro _ w2 ⟨v,rfl,hov,hb2⟩;have hil:=hov.read (by rw [List.length_range];omega);have HIL:=Lib.hid hil;clear hov hil;have hb2s:=hb2.size;(try simp only [World.size_drew,World.size_alloc] at hb2s);(try have : w.heap.size < w2.heap.size:=by omega);(try have : w.heap.size + 1 < w2.heap.size:=by omega);(try have : w.heap.size + 1 + 1 < w2.heap.size:=by omega);(try have : w.heap.size + 1 + 1 + 1 < w2.heap.size:=by omega);obtain ⟨hb2c,hb2f⟩:=bcell hb2) | (go_at_call 64;(with_reducible refine (HVC.out (List.range n) v _ (by (repeat' first|(with_reducible first|exact blR _ _|assumption|refine blD ?_|refine blN ?_ _)|((with_reducible first|refine blA ?_ ?_ _|refine blS ?_ ?_ _|refine blT (by assumption) ?_ ?_);focus (go_size;done)))) HIL.out (fun i hi => by have hi2 : i < n:=(by rw [List.length_range] at hi;exact hi);rw [ag_get hi,List.getElem_range];exact hi2) (by rw [List.length_range];omega)).mono ?_);rintro _ w3 ⟨v3,rfl,hov3,hb3⟩;have hvl:=hov3.vls (by rw [List.length_map,List.length_range];omega);rw [HMP.out] at hvl;have HVL:=Lib.hid hvl;clear hov3 hvl;have hb3s:=hb3.size;(try have : w.heap.size < w3.heap.size:=by omega);(try have : w.heap.size + 1 < w3.heap.size:=by omega);(try have : w.heap.size + 1 + 1 < w3.heap.size:=by omega);(try have : w.heap.size + 1 + 1 + 1 < w3.heap.size:=by omega);obtain ⟨hb3c,hb3f⟩:=bcell hb3) | (go_at_call 67;(with_reducible refine (HRK.out _ _ HVL.out).mono ?_);rintro _ w4 ⟨VA,VC,VA2,VC2,rfl,hva,hb4⟩;have HVA:=Lib.hid hva;clear hva;have hb4s:=hb4.size;(try have : w.heap.size < w4.heap.size:=by omega);(try have : w.heap.size + 1 < w4.heap.size:=by omega);(try have : w.heap.size + 1 + 1 < w4.heap.size:=by omega);(try have : w.heap.size + 1 + 1 + 1 < w4.heap.size:=by omega);have k0 : Bk w4 w.heap.size 63 [.slice NA ln NC,.slice OA lo OC,.slice RA n RC]:=(by (repeat (first|(with_reducible assumption)|((with_reducible refine bkW ?_);(first|rfl|(simp only [wsA,wsS,wsD,wsN];done)))|(with_reducible first|refine bkA ?_ _|refine bkD ?_|refine bkN ?_ _)|((with_reducible refine bkF ?_ ?_ _);focus (simp only [];omega))|((with_reducible refine bkB (by assumption) ?_ ?_);focus (go_size;done)))));have k1 : Bk w4 (w.heap.size + 1) 34 zc10:=(by unfold zc10;(repeat (first|(with_reducible assumption)|((with_reducible refine bkW ?_);(first|rfl|(simp only [wsA,wsS,wsD,wsN];done)))|(with_reducible first|refine bkA ?_ _|refine bkD ?_|refine bkN ?_ _)|((with_reducible refine bkF ?_ ?_ _);focus (simp only [];omega))|((with_reducible refine bkB (by assumption) ?_ ?_);focus (go_size;done)))));have mb : Below w.heap.size w w4:=(by (repeat' first|(with_reducible first|exact blR _ _|assumption|refine blD ?_|refine blN ?_ _)|((with_reducible first|refine blA ?_ ?_ _|refine blS ?_ ?_ _|refine blT (by assumption) ?_ ?_);focus (go_size;done))));have s0:=k0.cell 0 rfl;have s1:=k0.cell 1 rfl;have s2:=k0.cell 2 rfl;obtain ⟨⟨z0,z1,z2,z3,z4,z5,z6,z7,z8,z9⟩,zf⟩:=k1.zcd;clear k0 k1 hb2c hb2f hb2 hb3 hb3c hb3f hb4))
  go_wp2_with fail
  refine bodyPost_ret (by simp [results,Tryz.results39,go_sem, *];try rfl) rfl ?_
  exact ⟨VA,VC,VA2,VC2,rfl,va_move_flat HVA.out HF1.out HF2.out,by (repeat' first|(with_reducible first|exact blR _ _|assumption|refine blD ?_|refine blN ?_ _)|((with_reducible first|refine blA ?_ ?_ _|refine blS ?_ ?_ _|refine blT (by assumption) ?_ ?_);focus (go_size;done)))⟩
end Go.Proofs.YtkjecoanlppeaaaGreatDoor



namespace Go.Proofs.YtkjecoanlppeaaaGreatDoor
open Go.RowKit

theorem Bk.tens {w : World} {g : Nat} {t : TypeId} {c0 c1 c2 c3 c4 c5 c6 c7 c8 c9 u0 u1 u2 u3 u4 u5 u6 u7 u8 u9 : Value} (h : Bk w g t [c0,c1,c2,c3,c4,c5,c6,c7,c8,c9]) :
  Bk ((((((((((w.setCell ⟨g,0,none⟩ u0).setCell ⟨g,1,none⟩ u1).setCell ⟨g,2,none⟩ u2).setCell ⟨g,3,none⟩ u3).setCell ⟨g,4,none⟩ u4).setCell ⟨g,5,none⟩ u5).setCell ⟨g,6,none⟩ u6).setCell ⟨g,7,none⟩ u7).setCell ⟨g,8,none⟩ u8).setCell ⟨g,9,none⟩ u9) g t [u0,u1,u2,u3,u4,u5,u6,u7,u8,u9] :=
 (((((((((h.set_ 0 u0).set_ 1 u1).set_ 2 u2).set_ 3 u3).set_ 4 u4).set_ 5 u5).set_ 6 u6).set_ 7 u7).set_ 8 u8).set_ 9 u9
theorem Bk.tensV {w : World} {g : Nat} {t : TypeId} (d : VD) (A : Option Addr) (C : Nat) (A2 : Option Addr) (C2 : Nat) (h : Bk w g t zc10) :
  Bk ((((((((((w.setCell ⟨g,0,none⟩ (.int .i64 d.s.kind)).setCell ⟨g,1,none⟩ (.bool d.s.yes)).setCell ⟨g,2,none⟩ (.bool d.s.neg)).setCell ⟨g,3,none⟩ (.int .u64 (wd d.s.coef 1))).setCell ⟨g,4,none⟩ (.int .u64 (wd d.s.coef 0))).setCell ⟨g,5,none⟩ (.int .i64 d.s.sc)).setCell ⟨g,6,none⟩ (.string ⟨d.s.text.toArray⟩)).setCell ⟨g,7,none⟩ (.int .i64 d.s.day)).setCell ⟨g,8,none⟩ (.slice A d.list.length C)).setCell ⟨g,9,none⟩ (.slice A2 d.names.length C2)) g t (vcs d A C A2 C2):=h.tens
theorem Bk.tensV2 {w : World} {g : Nat} {t : TypeId} {d0 : VD} {B : Option Addr} {D : Nat} {B2 : Option Addr} {D2 : Nat} (d : VD) (A : Option Addr) (C : Nat) (A2 : Option Addr) (C2 : Nat) (h : Bk w g t (vcs d0 B D B2 D2)) :
  Bk ((((((((((w.setCell ⟨g,0,none⟩ (.int .i64 d.s.kind)).setCell ⟨g,1,none⟩ (.bool d.s.yes)).setCell ⟨g,2,none⟩ (.bool d.s.neg)).setCell ⟨g,3,none⟩ (.int .u64 (wd d.s.coef 1))).setCell ⟨g,4,none⟩ (.int .u64 (wd d.s.coef 0))).setCell ⟨g,5,none⟩ (.int .i64 d.s.sc)).setCell ⟨g,6,none⟩ (.string ⟨d.s.text.toArray⟩)).setCell ⟨g,7,none⟩ (.int .i64 d.s.day)).setCell ⟨g,8,none⟩ (.slice A d.list.length C)).setCell ⟨g,9,none⟩ (.slice A2 d.names.length C2)) g t (vcs d A C A2 C2):=by
 unfold vcs VS.cs at h
 exact Bk.tens h
theorem Bk.newV (w : World) (t : TypeId) (d : VD) (A : Option Addr) (C : Nat) (A2 : Option Addr) (C2 : Nat) :
  Bk (w.alloc (.cells #[.int .i64 d.s.kind,.bool d.s.yes,.bool d.s.neg,.int .u64 (wd d.s.coef 1),.int .u64 (wd d.s.coef 0),.int .i64 d.s.sc,.string ⟨d.s.text.toArray⟩,.int .i64 d.s.day,.slice A d.list.length C,.slice A2 d.names.length C2] t)) w.heap.size t (vcs d A C A2 C2):=Bk.new w t (vcs d A C A2 C2)
theorem Bk.vals {w : World} {g : Nat} {t : TypeId} {d : VD} {A : Option Addr} {C : Nat} {A2 : Option Addr} {C2 : Nat} (h : Bk w g t (vcs d A C A2 C2)) : (w.cell? ⟨g,0,none⟩ = some (.int .i64 d.s.kind) ∧ w.cell? ⟨g,1,none⟩ = some (.bool d.s.yes) ∧ w.cell? ⟨g,2,none⟩ = some (.bool d.s.neg) ∧ w.cell? ⟨g,3,none⟩ = some (.int .u64 (wd d.s.coef 1)) ∧ w.cell? ⟨g,4,none⟩ = some (.int .u64 (wd d.s.coef 0)) ∧ w.cell? ⟨g,5,none⟩ = some (.int .i64 d.s.sc) ∧ w.cell? ⟨g,6,none⟩ = some (.string ⟨d.s.text.toArray⟩) ∧ w.cell? ⟨g,7,none⟩ = some (.int .i64 d.s.day) ∧ w.cell? ⟨g,8,none⟩ = some (.slice A d.list.length C) ∧ w.cell? ⟨g,9,none⟩ = some (.slice A2 d.names.length C2)) ∧ ∀ i,w.frozen? ⟨g,i,none⟩ = false :=
 ⟨⟨h.cell 0 rfl,h.cell 1 rfl,h.cell 2 rfl,h.cell 3 rfl,h.cell 4 rfl,h.cell 5 rfl,h.cell 6 rfl,h.cell 7 rfl,h.cell 8 rfl,h.cell 9 rfl⟩,h.frozen⟩
theorem Bk.zc {w : World} {g : Nat} {t : TypeId} (h : Bk w g t zc10) : (w.cell? ⟨g,0,none⟩ = some (.int .i64 0) ∧ w.cell? ⟨g,1,none⟩ = some (.bool false) ∧ w.cell? ⟨g,2,none⟩ = some (.bool false) ∧ w.cell? ⟨g,3,none⟩ = some (.int .u64 0) ∧ w.cell? ⟨g,4,none⟩ = some (.int .u64 0) ∧ w.cell? ⟨g,5,none⟩ = some (.int .i64 0) ∧ w.cell? ⟨g,6,none⟩ = some (.string ⟨#[]⟩) ∧ w.cell? ⟨g,7,none⟩ = some (.int .i64 0) ∧ w.cell? ⟨g,8,none⟩ = some (.slice none 0 0) ∧ w.cell? ⟨g,9,none⟩ = some (.slice none 0 0)) ∧ ∀ i,w.frozen? ⟨g,i,none⟩ = false :=
 ⟨⟨h.cell 0 rfl,h.cell 1 rfl,h.cell 2 rfl,h.cell 3 rfl,h.cell 4 rfl,h.cell 5 rfl,h.cell 6 rfl,h.cell 7 rfl,h.cell 8 rfl,h.cell 9 rfl⟩,h.frozen⟩
set_option maxRecDepth 100000 in
set_option maxHeartbeats 8000000 in
theorem single18_any (p : Int) (names : List (List UInt8)) (order rows : List (List VD)) (N O R : Value) (w0 w : World) (hp : p = 1 ∨ p = 2 ∨ p = 3 ∨ p = 4) (hb : Below w0.heap.size w0 w) (hT : Tabs w0) (hn : Nms w0 N names) (ho : Lls w0 O order) (hr : Lls w0 R rows) (hf : InForm names order rows) (hpos : 0 < rows.length) :
  Calls Tryz.prog 68 #[.agg #[N,O,R],.int .i64 p] w (RetQ w0 (decD p (rows.map (wholeD names)) (plD order rows)) w):=by
 obtain ⟨NA,NC,rfl,q1⟩:=hn.is
 obtain ⟨OA,OC,rfl,q3,_,_⟩:=ho.is
 obtain ⟨RA,RC,rfl,q2,hcap1,hcap2⟩:=hr.is
 have HB:=Lib.hid hb
 have HT:=Lib.hid hT
 have HN:=Lib.hid hn
 have HO:=Lib.hid ho
 have HR:=Lib.hid hr
 have HF:=Lib.hid hf
 have h0s:=hb.size
 have hr60:=hf.r60
 have hrc : (rows.length : Int) ≤ 60:=by omega
 have hr0 : (0 : Int) < (rows.length : Int):=by omega
 obtain ⟨b,o,B0,D0,rfl,hc0,hv0⟩:=hr.at hpos
 rw [Nat.add_zero] at hc0
 have hcw:=(hb.cell (p:=⟨b,o,none⟩) (vcell_lt hc0)).trans hc0
 have lbw:=vcell_lt hcw
 have HC:=Lib.hid (fun (W : World) (hW : Below w.heap.size w W) => whole18_any names (lg rows 0) (.slice NA names.length NC) (.slice B0 (lg rows 0).length D0) w0 W (hb.trans (hW.mono h0s)) hn hv0 (fun _ => by rw [hf.rl 0 hpos];have:=hf.n1;omega))
 obtain ⟨d0,hd0⟩ : ∃ d,d = wholeD names (lg rows 0):=⟨_,rfl⟩
 rw [← hd0] at HC
 have HD0:=Lib.hid hd0
 obtain ⟨n0,hn0⟩ : ∃ n,n = (lg rows 0).length:=⟨_,rfl⟩
 rw [← hn0] at hcw hc0 HC hv0
 have HN0:=Lib.hid hn0
 have HV0:=Lib.hid hv0
 obtain ⟨Z,hZ⟩ : ∃ Z,Z = decD p (rows.map (wholeD names)) (plD order rows):=⟨_,rfl⟩
 rw [← hZ]
 have HZ:=Lib.hid hZ
 obtain ⟨ln,hln⟩ : ∃ n,n = names.length:=⟨_,rfl⟩
 have HLN:=Lib.hid hln
 rw [← hln] at HC ⊢
 obtain ⟨lo,hlo⟩ : ∃ n,n = order.length:=⟨_,rfl⟩
 have HLO:=Lib.hid hlo
 rw [← hlo]
 clear hb hT hn ho hr hf hd0 hn0 hv0 hZ hc0 q1 q2 q3 hln hlo
 have HLB:=Lib.hid (fun (W : World) (hW : Below w.heap.size w W) => (hW.cell (p:=⟨b,o,none⟩) lbw).trans hcw)
 have HCA:=Lib.hid (fun (W : World) (hW : Below w.heap.size w W) (k6 : Bk W (w.heap.size + 1 + 1) 34 zc10) => (HC.out W hW).mono (R':=fun e w' => RetW w0 d0 W e w' ∧ Bk w' (w.heap.size + 1 + 1) 34 zc10) fun e w' hq => ⟨hq,by obtain ⟨_,_,_,_,_,_,q⟩:=hq;exact k6.below q k6.lt⟩)
 unfold RetW at HCA
 go_enter Tryz.func68,Tryz.ntmps68
 go_upto_region 1 with (fail)
 go_cut [6] from 11 (fun s6 wx => ∃ g6 A C A2 C2,s6 = .pointer (some ⟨g6,0,none⟩) ∧ Hid (Bk wx g6 34 (vcs d0 A C A2 C2)) ∧ Hid (VA w0 d0 A C A2 C2) ∧ Hid (Bk wx w.heap.size 63 [.slice NA ln NC,.slice OA lo OC,.slice (some ⟨b,o,none⟩) rows.length RC]) ∧ Hid (Bk wx (w.heap.size + 1) 34 zc10) ∧ w.heap.size + 2 ≤ g6 ∧ Below w.heap.size w wx)
 case first =>
  go_region_held3 (fun w' => w'.cell? ⟨w.heap.size,0,none⟩ = some (.slice NA ln NC) ∧ w'.cell? ⟨w.heap.size,2,none⟩ = some (.slice (some ⟨b,o,none⟩) rows.length RC) ∧ w'.cell? ⟨b,o,none⟩ = some (.slice B0 n0 D0)) (first | (refine ⟨?_, ?_, ?_⟩ <;> first | (with_reducible assumption) | ((with_reducible refine HLB.out _ ?_);((repeat' first|(with_reducible first|exact blR _ _|assumption|refine blD ?_|refine blN ?_ _)|((with_reducible first|refine blA ?_ ?_ _|refine blS ?_ ?_ _|refine blT (by assumption) ?_ ?_);focus (go_size;done))));done) | (first | (go_keep;done) | (simp [go_sem];done) | ((try dsimp only);(repeat' apply And.intro) <;> (first | (with_reducible assumption) | ((rw [World.cell?_alloc_lt _ _ _ (by show _ < _;omega)]);go_split_ands;(first | with_reducible assumption | (refine (World.cell?_alloc_lt _ _ _ (by show _ < _;omega)).symm.trans ?_;with_reducible assumption))) | ((rw [World.cell?_setCell_other _ _ _ _ (by intro e;injection e;omega)]);with_reducible assumption) | (go_keep;done) | (simp [go_sem];done) | (simp (disch:=go_size) [*,World.cell?_alloc_some,World.cell?_setCell_far];done))))) | (with_reducible exact ⟨(World.cell?_alloc_lt _ _ _ (by show _ < _;omega)).trans e0,(World.cell?_alloc_lt _ _ _ (by show _ < _;omega)).trans e2,(World.cell?_alloc_lt _ _ _ (by show _ < _;omega)).trans e3⟩) | (first | (go_keep;done) | (simp [go_sem];done) | ((try dsimp only);(repeat' apply And.intro) <;> (first | (with_reducible assumption) | ((rw [World.cell?_alloc_lt _ _ _ (by show _ < _;omega)]);go_split_ands;(first | with_reducible assumption | (refine (World.cell?_alloc_lt _ _ _ (by show _ < _;omega)).symm.trans ?_;with_reducible assumption))) | ((rw [World.cell?_setCell_other _ _ _ _ (by intro e;injection e;omega)]);with_reducible assumption) | (go_keep;done) | (simp [go_sem];done) | (simp (disch:=go_size) [*,World.cell?_alloc_some,World.cell?_setCell_far];done))))) (first | (go_at_call 89;(with_reducible refine Calls.mono (HCA.out _ ?_ ?_) ?_);(focus (((repeat' first|(with_reducible first|exact blR _ _|assumption|refine blD ?_|refine blN ?_ _)|((with_reducible first|refine blA ?_ ?_ _|refine blS ?_ ?_ _|refine blT (by assumption) ?_ ?_);focus (go_size;done))));done));(focus ((unfold zc10;(repeat (first|(with_reducible assumption)|((with_reducible refine bkW ?_);(first|rfl|(simp only [wsA,wsS,wsD,wsN];done)))|(with_reducible first|refine bkA ?_ _|refine bkD ?_|refine bkN ?_ _)|((with_reducible refine bkF ?_ ?_ _);focus (simp only [];omega))|((with_reducible refine bkB (by assumption) ?_ ?_);focus (go_size;done)))));done));rintro _ w2 ⟨⟨VA,VC,VA2,VC2,rfl,hva,hb2⟩,k6⟩;have K6:=Lib.hid k6;obtain ⟨⟨z0,z1,z2,z3,z4,z5,z6,z7,z8,z9⟩,zf⟩:=k6.zc;clear k6;have HVA:=Lib.hid hva;clear hva;have hb2s:=hb2.size;(try simp only [World.size_drew,World.size_alloc] at hb2s);(try have : w.heap.size < w2.heap.size:=by omega);(try have : w.heap.size + 1 < w2.heap.size:=by omega);(try have : w.heap.size + 1 + 1 < w2.heap.size:=by omega);(try have : w.heap.size + 1 + 1 + 1 < w2.heap.size:=by omega);obtain ⟨hb2c,hb2f⟩:=bcell hb2;have k0 : Bk w2 w.heap.size 63 [.slice NA ln NC,.slice OA lo OC,.slice (some ⟨b,o,none⟩) rows.length RC]:=(by (repeat (first|(with_reducible assumption)|((with_reducible refine bkW ?_);(first|rfl|(simp only [wsA,wsS,wsD,wsN];done)))|(with_reducible first|refine bkA ?_ _|refine bkD ?_|refine bkN ?_ _)|((with_reducible refine bkF ?_ ?_ _);focus (simp only [];omega))|((with_reducible refine bkB (by assumption) ?_ ?_);focus (go_size;done)))));have k1 : Bk w2 (w.heap.size + 1) 34 zc10:=(by unfold zc10;(repeat (first|(with_reducible assumption)|((with_reducible refine bkW ?_);(first|rfl|(simp only [wsA,wsS,wsD,wsN];done)))|(with_reducible first|refine bkA ?_ _|refine bkD ?_|refine bkN ?_ _)|((with_reducible refine bkF ?_ ?_ _);focus (simp only [];omega))|((with_reducible refine bkB (by assumption) ?_ ?_);focus (go_size;done)))));have hbw : Below w.heap.size w w2:=(by (repeat' first|(with_reducible first|exact blR _ _|assumption|refine blD ?_|refine blN ?_ _)|((with_reducible first|refine blA ?_ ?_ _|refine blS ?_ ?_ _|refine blT (by assumption) ?_ ?_);focus (go_size;done))));have e0:=k0.cell 0 rfl;have e2:=k0.cell 2 rfl;have e3:=(hbw.cell (p:=⟨b,o,none⟩) lbw).trans hcw;have K0:=Lib.hid k0;have K1:=Lib.hid k1;clear k0 k1;clear hb2c hb2f) | (go_at_call 89;(with_reducible refine (HC.out _ (by (repeat' first|(with_reducible first|exact blR _ _|assumption|refine blD ?_|refine blN ?_ _)|((with_reducible first|refine blA ?_ ?_ _|refine blS ?_ ?_ _|refine blT (by assumption) ?_ ?_);focus (go_size;done))))).mono ?_);rintro _ w2 ⟨VA,VC,VA2,VC2,rfl,hva,hb2⟩;have HVA:=Lib.hid hva;clear hva;have hb2s:=hb2.size;(try simp only [World.size_drew,World.size_alloc] at hb2s);(try have : w.heap.size < w2.heap.size:=by omega);(try have : w.heap.size + 1 < w2.heap.size:=by omega);(try have : w.heap.size + 1 + 1 < w2.heap.size:=by omega);(try have : w.heap.size + 1 + 1 + 1 < w2.heap.size:=by omega);obtain ⟨hb2c,hb2f⟩:=bcell hb2;have k0 : Bk w2 w.heap.size 63 [.slice NA ln NC,.slice OA lo OC,.slice (some ⟨b,o,none⟩) rows.length RC]:=(by (repeat (first|(with_reducible assumption)|((with_reducible refine bkW ?_);(first|rfl|(simp only [wsA,wsS,wsD,wsN];done)))|(with_reducible first|refine bkA ?_ _|refine bkD ?_|refine bkN ?_ _)|((with_reducible refine bkF ?_ ?_ _);focus (simp only [];omega))|((with_reducible refine bkB (by assumption) ?_ ?_);focus (go_size;done)))));have k1 : Bk w2 (w.heap.size + 1) 34 zc10:=(by unfold zc10;(repeat (first|(with_reducible assumption)|((with_reducible refine bkW ?_);(first|rfl|(simp only [wsA,wsS,wsD,wsN];done)))|(with_reducible first|refine bkA ?_ _|refine bkD ?_|refine bkN ?_ _)|((with_reducible refine bkF ?_ ?_ _);focus (simp only [];omega))|((with_reducible refine bkB (by assumption) ?_ ?_);focus (go_size;done)))));have hbw : Below w.heap.size w w2:=(by (repeat' first|(with_reducible first|exact blR _ _|assumption|refine blD ?_|refine blN ?_ _)|((with_reducible first|refine blA ?_ ?_ _|refine blS ?_ ?_ _|refine blT (by assumption) ?_ ?_);focus (go_size;done))));have e0:=k0.cell 0 rfl;have e2:=k0.cell 2 rfl;have e3:=(hbw.cell (p:=⟨b,o,none⟩) lbw).trans hcw;have K0:=Lib.hid k0;have K1:=Lib.hid k1;clear k0 k1;clear hb2c hb2f))
  all_goals go_wp2_with fail
  all_goals go_meet
  all_goals refine ⟨_,VA,VC,VA2,VC2,rfl,Lib.hid ?_,HVA,Lib.hid ?_,Lib.hid ?_,by omega, ?_⟩
  all_goals first | (with_reducible exact Bk.newV _ _ _ _ _ _ _) | (with_reducible exact Bk.tensV _ _ _ _ _ K6.out) | (have k0:=K0.out;((repeat (first|(with_reducible assumption)|((with_reducible refine bkW ?_);(first|rfl|(simp only [wsA,wsS,wsD,wsN];done)))|(with_reducible first|refine bkA ?_ _|refine bkD ?_|refine bkN ?_ _)|((with_reducible refine bkF ?_ ?_ _);focus (simp only [];omega))|((with_reducible refine bkB (by assumption) ?_ ?_);focus (go_size;done)))));done) | (have k1:=K1.out;((repeat (first|(with_reducible assumption)|((with_reducible refine bkW ?_);(first|rfl|(simp only [wsA,wsS,wsD,wsN];done)))|(with_reducible first|refine bkA ?_ _|refine bkD ?_|refine bkN ?_ _)|((with_reducible refine bkF ?_ ?_ _);focus (simp only [];omega))|((with_reducible refine bkB (by assumption) ?_ ?_);focus (go_size;done)))));done) | (((repeat' first|(with_reducible first|exact blR _ _|assumption|refine blD ?_|refine blN ?_ _)|((with_reducible first|refine blA ?_ ?_ _|refine blS ?_ ?_ _|refine blT (by assumption) ?_ ?_);focus (go_size;done))));done)
 case rest =>
  obtain ⟨g6,A,C,A2,C2,rfl,K6,HVA,K0,K1,hg6,hbel⟩:=hcut
  have hlt6:=K6.out.lt
  have e0:=K0.out.cell 0 rfl
  have e1:=K0.out.cell 1 rfl
  have e2:=K0.out.cell 2 rfl
  have e3:=HLB.out _ hbel
  have lb3:=vcell_lt e3
  obtain ⟨⟨z0,z1,z2,z3,z4,z5,z6,z7,z8,z9⟩,zf⟩:=K1.out.zc
  obtain ⟨⟨y0,y1,y2,y3,y4,y5,y6,y7,y8,y9⟩,yf⟩:=K6.out.vals
  have hvg0 : vg (rows.map (wholeD names)) 0 = d0:=by rw [vg_map _ _ hpos,HD0.out]
  have HVG:=Lib.hid hvg0
  clear hvg0
  rcases hp with h1 | h2 | h3 | h4
  ·subst h1
   by_cases hn1 : 1 < rows.length
   ·have hz : Z = (VD.zero,14):=by rw [HZ.out];unfold decD;rw [if_pos rfl,if_pos (by rw [List.length_map];exact hn1)]
    have hn1c : (1 : Int) < (rows.length : Int):=by omega
    subst hz
    go_wp2_with fail
    refine bodyPost_ret (by simp [results,Tryz.results68,go_sem, *];try rfl) rfl ?_
    exact ⟨none,0,none,0,by rw [zero_vargs],va_flat VS.zero_ok,by (repeat' first|(with_reducible first|exact blR _ _|assumption|refine blD ?_|refine blN ?_ _)|((with_reducible first|refine blA ?_ ?_ _|refine blS ?_ ?_ _|refine blT (by assumption) ?_ ?_);focus (go_size;done)))⟩
   ·have hz : Z = (d0,0):=by rw [HZ.out];unfold decD;rw [if_pos rfl,if_neg (by rw [List.length_map];exact hn1),HVG.out]
    have hn1c : ¬ (1 : Int) < (rows.length : Int):=by omega
    subst hz
    go_wp2_with fail
    refine bodyPost_ret (by simp [results,Tryz.results68,go_sem, *];try rfl) rfl ?_
    exact ⟨A,C,A2,C2,rfl,HVA.out,by (repeat' first|(with_reducible first|exact blR _ _|assumption|refine blD ?_|refine blN ?_ _)|((with_reducible first|refine blA ?_ ?_ _|refine blS ?_ ?_ _|refine blT (by assumption) ?_ ?_);focus (go_size;done)))⟩
  ·subst h2
   have hZ2 : Z = if allSame (rows.map (wholeD names)) = true then (d0,0) else (VD.zero,15):=by rw [HZ.out];unfold decD;rw [if_neg (by decide),if_pos rfl,HVG.out]
   have HZ2:=Lib.hid hZ2
   have hall : allSame (rows.map (wholeD names)) = true ↔ ∀ j,j < rows.length → ∀ c,c < ln → sameB (vg (lg rows j) c) (vg (lg rows 0) c) = true:=by
    rw [allSame_iff,List.length_map]
    constructor
    ·intro h j hj c hc
     have:=h j hj
     rw [vg_map _ _ hj,vg_map _ _ hpos] at this
     exact (whole_same (HF.out.rl j hj) (HF.out.rl 0 hpos)).1 this c (by rw [← HLN.out];exact hc)
    ·intro h j hj
     rw [vg_map _ _ hj,vg_map _ _ hpos]
     exact (whole_same (HF.out.rl j hj) (HF.out.rl 0 hpos)).2 fun c hc => h j hj c (by rw [HLN.out];exact hc)
   have HAL:=Lib.hid hall
   obtain ⟨m,hm⟩ : ∃ m,rows.length = m + 1:=⟨rows.length - 1,by omega⟩
   obtain ⟨D,hD⟩ : ∃ D,RC = D + 1:=⟨RC - 1,by omega⟩
   obtain ⟨q,hq,hsl⟩:=rows_tail_run b o rows.length RC m D hm hD (by omega)
   have HM:=Lib.hid hm
   have HQ:=Lib.hid hq
   have HDD:=Lib.hid hD
   have hln8 : ln ≤ 8:=by rw [HLN.out];exact HF.out.n8
   have hlnc : (ln : Int) ≤ 8:=by omega
   have hmc : (m : Int) ≤ 60:=by omega
   clear hZ2 hall hm hq hD
   go_wp2_with fail
   clear hsl
   go_loopg [32] m (fun k s32 wr => ∃ i : Nat,k + i = m ∧ s32 = .int .i64 i ∧ Hid (∀ j,j ≤ i → ∀ c,c < ln → sameB (vg (lg rows j) c) (vg (lg rows 0) c) = true) ∧ Hid (Bk wr w.heap.size 63 [.slice NA ln NC,.slice OA lo OC,.slice (some ⟨b,o,none⟩) rows.length RC]) ∧ Hid (Bk wr (w.heap.size + 1) 34 zc10) ∧ Hid (Bk wr g6 34 (vcs d0 A C A2 C2)) ∧ g6 < wr.heap.size ∧ Below w.heap.size w wr)
   case atStart => exact ⟨0,by omega,rfl,Lib.hid (fun j hj c _ => by have e : j = 0:=Nat.le_zero.1 hj;rw [e];exact sameB_self _),K0,K1,K6,hlt6,hbel⟩
   case round =>
    clear e0 e1 e2 e3 z0 z1 z2 z3 z4 z5 z6 z7 z8 z9 zf y0 y1 y2 y3 y4 y5 y6 y7 y8 y9 yf hlt6 lb3 hbel
    obtain ⟨i,hk,rfl,HSM,K0,K1,K6,hlt6,hbel⟩:=hrel
    have HK:=Lib.hid hk
    have him : i ≤ m:=by omega
    clear hk
    by_cases hlt : i < m
    ·have hi1 : i + 1 < rows.length:=by have:=HM.out;omega
     obtain ⟨b',o',B1,D1,hA,hc1,hv1⟩:=HR.out.at hi1
     injection hA with hA
     injection hA with ea eb _
     subst ea eb
     have hqo : o + (i + 1) = q + i:=by rw [HQ.out (by omega)];omega
     rw [hqo] at hc1
     have hc1r:=((HB.out.trans (hbel.mono h0s)).cell (p:=⟨b,q + i,none⟩) (vcell_lt hc1)).trans hc1
     have lb1:=vcell_lt hc1r
     obtain ⟨n1,hn1⟩ : ∃ n,n = (lg rows (i + 1)).length:=⟨_,rfl⟩
     have hn1l : n1 = ln:=by rw [hn1,HF.out.rl _ hi1,HLN.out]
     rw [← hn1,hn1l] at hc1r
     rw [← hn1,hn1l] at hv1
     have HV1:=Lib.hid hv1
     have HI1:=Lib.hid hi1
     have hic : (i : Int) < (m : Int):=by omega
     clear hc1 hv1 hn1 hn1l hqo hi1
     have e2:=K0.out.cell 2 rfl
     go_wp2_with fail
     clear e2
     obtain ⟨ww,hww⟩ : ∃ ww,ww = wr:=⟨_,rfl⟩
     subst hww
     obtain ⟨g2,hg2⟩ : ∃ g,g = gk:=⟨_,rfl⟩
     subst hg2
     go_loopg [38] ln (fun k s38 wr => ∃ c : Nat,k + c = ln ∧ s38 = .int .i64 c ∧ Hid (∀ x,x < c → sameB (vg (lg rows (i + 1)) x) (vg (lg rows 0) x) = true) ∧ Hid (Bk wr w.heap.size 63 [.slice NA ln NC,.slice OA lo OC,.slice (some ⟨b,o,none⟩) rows.length RC]) ∧ Hid (Bk wr (w.heap.size + 1) 34 zc10) ∧ Hid (Bk wr g6 34 (vcs d0 A C A2 C2)) ∧ g6 < wr.heap.size ∧ Below w.heap.size w wr)
     case atStart => exact ⟨0,by omega,rfl,Lib.hid (fun x hx => absurd hx (Nat.not_lt_zero _)),K0,K1,K6,hlt6,hbel⟩
     case round =>
      clear hlt6 hbel hc1r lb1
      obtain ⟨c,hk2,rfl,HSC,K0,K1,K6,hlt6,hbel⟩:=hrel
      have HK2:=Lib.hid hk2
      have hcl : c ≤ ln:=by omega
      clear hk2
      by_cases hlc : c < ln
      ·have hr1l : (lg rows (i + 1)).length = ln:=by rw [HF.out.rl _ HI1.out,HLN.out]
       have hr0l : (lg rows 0).length = ln:=by rw [HF.out.rl _ hpos,HLN.out]
       obtain ⟨b1,o1,A1,C1,A1',C1',hB1,hat1,hx1⟩:=HV1.out.at (show c < (lg rows (i + 1)).length by rw [hr1l];exact hlc)
       subst hB1
       obtain ⟨b2,o2,A3,C3,A3',C3',hB2,hat2,hx2⟩:=HV0.out.at (show c < (lg rows 0).length by rw [hr0l];exact hlc)
       subst hB2
       have h0w:=HB.out.trans (hbel.mono h0s)
       obtain ⟨a0,a1,a2,a3,a4,a5,a6,a7,a8,a9⟩:=(hat1.below h0w).val
       obtain ⟨c0,c1,c2,c3,c4,c5,c6,c7,c8,c9⟩:=(hat2.below h0w).val
       have lb1:=vcell_lt a0
       have lb2:=vcell_lt c0
       have hcc : (c : Int) < (ln : Int):=by omega
       have hn0l : n0 = ln:=by rw [HN0.out];exact hr0l
       have hch1 : chkV (vg (lg rows (i + 1)) c) = 0:=allC_iff.1 (HF.out.rc _ HI1.out) c (by rw [hr1l];exact hlc)
       have hch2 : chkV (vg (lg rows 0) c) = 0:=allC_iff.1 (HF.out.rc _ hpos) c (by rw [hr0l];exact hlc)
       have HSV:=Lib.hid (sameV_form hch1 hch2)
       have e2:=K0.out.cell 2 rfl
       have e3:=HLB.out _ hbel
       have lb3:=vcell_lt e3
       obtain ⟨x,hx⟩ : ∃ x,x = vg (lg rows (i + 1)) c:=⟨_,rfl⟩
       obtain ⟨y,hy⟩ : ∃ y,y = vg (lg rows 0) c:=⟨_,rfl⟩
       rw [← hx] at a0 a1 a2 a3 a4 a5 a6 a7 a8 a9 hx1 HSV
       rw [← hy] at c0 c1 c2 c3 c4 c5 c6 c7 c8 c9 hx2 HSV
       have HC2:=Lib.hid (fun (W : World) (hW : Below w0.heap.size w0 W) => vsame_any x y A1 C1 A1' C1' A3 C3 A3' C3' W (tabs_below HT.out hW) (RV.below hx1 hW) (RV.below hx2 hW))
       rw [HSV.out] at HC2
       obtain ⟨sm,hsm⟩ : ∃ s,s = sameB x y:=⟨_,rfl⟩
       rw [← hsm] at HC2
       have HSM2:=Lib.hid hsm
       have HX:=Lib.hid hx
       have HY:=Lib.hid hy
       unfold vargs at HC2
       obtain ⟨m1,hm1⟩ : ∃ n,n = x.list.length:=⟨_,rfl⟩
       obtain ⟨m2,hm2⟩ : ∃ n,n = x.names.length:=⟨_,rfl⟩
       obtain ⟨m3,hm3⟩ : ∃ n,n = y.list.length:=⟨_,rfl⟩
       obtain ⟨m4,hm4⟩ : ∃ n,n = y.names.length:=⟨_,rfl⟩
       rw [← hm1,← hm2,← hm3,← hm4] at HC2
       rw [← hm1] at a8
       rw [← hm2] at a9
       rw [← hm3] at c8
       rw [← hm4] at c9
       obtain ⟨u,hu⟩ : ∃ u,u = x.s:=⟨_,rfl⟩
       obtain ⟨v,hv⟩ : ∃ u,u = y.s:=⟨_,rfl⟩
       rw [← hu,← hv] at HC2
       rw [← hu] at a0 a1 a2 a3 a4 a5 a6 a7
       rw [← hv] at c0 c1 c2 c3 c4 c5 c6 c7
       unfold vagg at HC2
       have HN0l:=Lib.hid hn0l
       clear hat1 hat2 hx1 hx2 h0w hr1l hr0l hn0l hch1 hch2 hsm hx hy hm1 hm2 hm3 hm4 hu hv
       have hcn : (c : Int) < (n0 : Int):=by have:=HN0l.out;omega
       (try have : w.heap.size < wr.heap.size:=by omega);(try have : w.heap.size + 1 < wr.heap.size:=by omega);(try have : w.heap.size + 1 + 1 < wr.heap.size:=by omega);(try have : w.heap.size + 1 + 1 + 1 < wr.heap.size:=by omega)
       cases sm with
       | true =>
        go_wp2_with fail
        go_region_held3 (fun w' => w'.cell? ⟨w.heap.size,2,none⟩ = some (.slice (some ⟨b,o,none⟩) rows.length RC) ∧ w'.cell? ⟨b,o,none⟩ = some (.slice (some ⟨b2,o2,none⟩) n0 D0) ∧ w'.cell? ⟨wr.heap.size,0,none⟩ = some (.int .i64 u.kind) ∧ w'.cell? ⟨wr.heap.size,1,none⟩ = some (.bool u.yes) ∧ w'.cell? ⟨wr.heap.size,2,none⟩ = some (.bool u.neg) ∧ w'.cell? ⟨wr.heap.size,3,none⟩ = some (.int .u64 (wd u.coef 1)) ∧ w'.cell? ⟨wr.heap.size,4,none⟩ = some (.int .u64 (wd u.coef 0)) ∧ w'.cell? ⟨wr.heap.size,5,none⟩ = some (.int .i64 u.sc) ∧ w'.cell? ⟨wr.heap.size,6,none⟩ = some (.string ⟨u.text.toArray⟩) ∧ w'.cell? ⟨wr.heap.size,7,none⟩ = some (.int .i64 u.day) ∧ w'.cell? ⟨wr.heap.size,8,none⟩ = some (.slice A1 m1 C1) ∧ w'.cell? ⟨wr.heap.size,9,none⟩ = some (.slice A1' m2 C1') ∧ w'.cell? ⟨b2,o2 + c * 10,none⟩ = some (.int .i64 v.kind) ∧ w'.cell? ⟨b2,o2 + c * 10 + 1,none⟩ = some (.bool v.yes) ∧ w'.cell? ⟨b2,o2 + c * 10 + 2,none⟩ = some (.bool v.neg) ∧ w'.cell? ⟨b2,o2 + c * 10 + 3,none⟩ = some (.int .u64 (wd v.coef 1)) ∧ w'.cell? ⟨b2,o2 + c * 10 + 4,none⟩ = some (.int .u64 (wd v.coef 0)) ∧ w'.cell? ⟨b2,o2 + c * 10 + 5,none⟩ = some (.int .i64 v.sc) ∧ w'.cell? ⟨b2,o2 + c * 10 + 6,none⟩ = some (.string ⟨v.text.toArray⟩) ∧ w'.cell? ⟨b2,o2 + c * 10 + 7,none⟩ = some (.int .i64 v.day) ∧ w'.cell? ⟨b2,o2 + c * 10 + 8,none⟩ = some (.slice A3 m3 C3) ∧ w'.cell? ⟨b2,o2 + c * 10 + 9,none⟩ = some (.slice A3' m4 C3')) (first | (first | (go_keep;done) | (simp [go_sem];done) | ((try dsimp only);(repeat' apply And.intro) <;> (first | (with_reducible assumption) | ((rw [World.cell?_alloc_lt _ _ _ (by show _ < _;omega)]);go_split_ands;(first | with_reducible assumption | (refine (World.cell?_alloc_lt _ _ _ (by show _ < _;omega)).symm.trans ?_;with_reducible assumption))) | ((rw [World.cell?_setCell_other _ _ _ _ (by intro e;injection e;omega)]);with_reducible assumption) | (go_keep;done) | (simp [go_sem];done) | (simp (disch:=go_size) [*,World.cell?_alloc_some,World.cell?_setCell_far];done))))) (first | ((go_at_call 13;with_reducible refine (HC2.out _ (Below.trans (HB.out) (Below.mono (by (repeat' first|(with_reducible first|exact blR _ _|assumption|refine blD ?_|refine blN ?_ _)|((with_reducible first|refine blA ?_ ?_ _|refine blS ?_ ?_ _|refine blT (by assumption) ?_ ?_);focus (go_size;done))) : Below w.heap.size w _) h0s))).mono ?_);rintro _ w2 ⟨rfl,hb2⟩;have hb2s:=hb2.size;(try simp only [wsA,wsS,wsD,wsN] at hb2s);obtain ⟨hb2c,hb2f⟩:=bcell hb2;(try have : w.heap.size < w2.heap.size:=by omega);(try have : w.heap.size + 1 < w2.heap.size:=by omega);(try have : w.heap.size + 1 + 1 < w2.heap.size:=by omega);(try have : w.heap.size + 1 + 1 + 1 < w2.heap.size:=by omega)))
        go_wp2_with fail
        go_roundg (gk - 1)
        case measure => have:=HK2.out;omega
        case rel => exact ⟨c + 1,by have:=HK2.out;omega,by go_num,Lib.hid (fun z hz => by
         by_cases e : z = c
         ·subst e;rw [← HX.out,← HY.out,← HSM2.out]
         ·exact HSC.out z (by omega)),Lib.hid (by have k:=K0.out;(repeat (first|(with_reducible assumption)|((with_reducible refine bkW ?_);(first|rfl|(simp only [wsA,wsS,wsD,wsN];done)))|(with_reducible first|refine bkA ?_ _|refine bkD ?_|refine bkN ?_ _)|((with_reducible refine bkF ?_ ?_ _);focus (simp only [];omega))|((with_reducible refine bkB (by assumption) ?_ ?_);focus (go_size;done))))),Lib.hid (by have k:=K1.out;(repeat (first|(with_reducible assumption)|((with_reducible refine bkW ?_);(first|rfl|(simp only [wsA,wsS,wsD,wsN];done)))|(with_reducible first|refine bkA ?_ _|refine bkD ?_|refine bkN ?_ _)|((with_reducible refine bkF ?_ ?_ _);focus (simp only [];omega))|((with_reducible refine bkB (by assumption) ?_ ?_);focus (go_size;done))))),Lib.hid (by have k:=K6.out;(repeat (first|(with_reducible assumption)|((with_reducible refine bkW ?_);(first|rfl|(simp only [wsA,wsS,wsD,wsN];done)))|(with_reducible first|refine bkA ?_ _|refine bkD ?_|refine bkN ?_ _)|((with_reducible refine bkF ?_ ?_ _);focus (simp only [];omega))|((with_reducible refine bkB (by assumption) ?_ ?_);focus (go_size;done))))),by omega,by (repeat' first|(with_reducible first|exact blR _ _|assumption|refine blD ?_|refine blN ?_ _)|((with_reducible first|refine blA ?_ ?_ _|refine blS ?_ ?_ _|refine blT (by assumption) ?_ ?_);focus (go_size;done)))⟩
       | false =>
        have hz : Z = (VD.zero,15):=by
         rw [HZ2.out,if_neg]
         intro h
         have:=HAL.out.1 h (i + 1) HI1.out c hlc
         rw [← HX.out,← HY.out,← HSM2.out] at this
         exact Bool.noConfusion this
        subst hz
        go_upto_if 52 with (fail)
        go_region_held3 (fun w' => w'.cell? ⟨w.heap.size,2,none⟩ = some (.slice (some ⟨b,o,none⟩) rows.length RC) ∧ w'.cell? ⟨b,o,none⟩ = some (.slice (some ⟨b2,o2,none⟩) n0 D0) ∧ w'.cell? ⟨wr.heap.size,0,none⟩ = some (.int .i64 u.kind) ∧ w'.cell? ⟨wr.heap.size,1,none⟩ = some (.bool u.yes) ∧ w'.cell? ⟨wr.heap.size,2,none⟩ = some (.bool u.neg) ∧ w'.cell? ⟨wr.heap.size,3,none⟩ = some (.int .u64 (wd u.coef 1)) ∧ w'.cell? ⟨wr.heap.size,4,none⟩ = some (.int .u64 (wd u.coef 0)) ∧ w'.cell? ⟨wr.heap.size,5,none⟩ = some (.int .i64 u.sc) ∧ w'.cell? ⟨wr.heap.size,6,none⟩ = some (.string ⟨u.text.toArray⟩) ∧ w'.cell? ⟨wr.heap.size,7,none⟩ = some (.int .i64 u.day) ∧ w'.cell? ⟨wr.heap.size,8,none⟩ = some (.slice A1 m1 C1) ∧ w'.cell? ⟨wr.heap.size,9,none⟩ = some (.slice A1' m2 C1') ∧ w'.cell? ⟨b2,o2 + c * 10,none⟩ = some (.int .i64 v.kind) ∧ w'.cell? ⟨b2,o2 + c * 10 + 1,none⟩ = some (.bool v.yes) ∧ w'.cell? ⟨b2,o2 + c * 10 + 2,none⟩ = some (.bool v.neg) ∧ w'.cell? ⟨b2,o2 + c * 10 + 3,none⟩ = some (.int .u64 (wd v.coef 1)) ∧ w'.cell? ⟨b2,o2 + c * 10 + 4,none⟩ = some (.int .u64 (wd v.coef 0)) ∧ w'.cell? ⟨b2,o2 + c * 10 + 5,none⟩ = some (.int .i64 v.sc) ∧ w'.cell? ⟨b2,o2 + c * 10 + 6,none⟩ = some (.string ⟨v.text.toArray⟩) ∧ w'.cell? ⟨b2,o2 + c * 10 + 7,none⟩ = some (.int .i64 v.day) ∧ w'.cell? ⟨b2,o2 + c * 10 + 8,none⟩ = some (.slice A3 m3 C3) ∧ w'.cell? ⟨b2,o2 + c * 10 + 9,none⟩ = some (.slice A3' m4 C3')) (first | (first | (go_keep;done) | (simp [go_sem];done) | ((try dsimp only);(repeat' apply And.intro) <;> (first | (with_reducible assumption) | ((rw [World.cell?_alloc_lt _ _ _ (by show _ < _;omega)]);go_split_ands;(first | with_reducible assumption | (refine (World.cell?_alloc_lt _ _ _ (by show _ < _;omega)).symm.trans ?_;with_reducible assumption))) | ((rw [World.cell?_setCell_other _ _ _ _ (by intro e;injection e;omega)]);with_reducible assumption) | (go_keep;done) | (simp [go_sem];done) | (simp (disch:=go_size) [*,World.cell?_alloc_some,World.cell?_setCell_far];done))))) (first | ((go_at_call 13;with_reducible refine (HC2.out _ (Below.trans (HB.out) (Below.mono (by (repeat' first|(with_reducible first|exact blR _ _|assumption|refine blD ?_|refine blN ?_ _)|((with_reducible first|refine blA ?_ ?_ _|refine blS ?_ ?_ _|refine blT (by assumption) ?_ ?_);focus (go_size;done))) : Below w.heap.size w _) h0s))).mono ?_);rintro _ w2 ⟨rfl,hb2⟩;have hb2s:=hb2.size;(try simp only [wsA,wsS,wsD,wsN] at hb2s);obtain ⟨hb2c,hb2f⟩:=bcell hb2;(try have : w.heap.size < w2.heap.size:=by omega);(try have : w.heap.size + 1 < w2.heap.size:=by omega);(try have : w.heap.size + 1 + 1 < w2.heap.size:=by omega);(try have : w.heap.size + 1 + 1 + 1 < w2.heap.size:=by omega)))
        have k1 : Bk w2 (w.heap.size + 1) 34 zc10:=by
         have k:=K1.out
         (repeat (first|(with_reducible assumption)|((with_reducible refine bkW ?_);(first|rfl|(simp only [wsA,wsS,wsD,wsN];done)))|(with_reducible first|refine bkA ?_ _|refine bkD ?_|refine bkN ?_ _)|((with_reducible refine bkF ?_ ?_ _);focus (simp only [];omega))|((with_reducible refine bkB (by assumption) ?_ ?_);focus (go_size;done))))
        have mb : Below w.heap.size w w2:=by (repeat' first|(with_reducible first|exact blR _ _|assumption|refine blD ?_|refine blN ?_ _)|((with_reducible first|refine blA ?_ ?_ _|refine blS ?_ ?_ _|refine blT (by assumption) ?_ ?_);focus (go_size;done)))
        clear hb2c hb2f hb2
        obtain ⟨⟨z0,z1,z2,z3,z4,z5,z6,z7,z8,z9⟩,zf⟩:=k1.zc
        clear k1 a0 a1 a2 a3 a4 a5 a6 a7 a8 a9 c0 c1 c2 c3 c4 c5 c6 c7 c8 c9
        go_wp2_with fail
        refine bodyPost_ret (by simp [results,Tryz.results68,go_sem, *];try rfl) rfl ?_
        exact ⟨none,0,none,0,by rw [zero_vargs],va_flat VS.zero_ok,by (repeat' first|(with_reducible first|exact blR _ _|assumption|refine blD ?_|refine blN ?_ _)|((with_reducible first|refine blA ?_ ?_ _|refine blS ?_ ?_ _|refine blT (by assumption) ?_ ?_);focus (go_size;done)))⟩
      ·obtain rfl : c = ln:=by omega
       clear hlc
       go_wp2_with fail
       go_roundg (g2 - 1)
       case measure => have:=HK.out;omega
       case rel =>
        refine ⟨i + 1,by have:=HK.out;omega,by go_num,Lib.hid (fun j hj x hx => ?_),K0,K1,K6,hlt6,hbel⟩
        by_cases e : j = i + 1
        ·subst e;exact HSC.out x hx
        ·exact HSM.out j (by omega) x hx
    ·obtain rfl : i = m:=by omega
     clear hlt
     have hz : Z = (d0,0):=by
      rw [HZ2.out,if_pos]
      exact HAL.out.2 fun j hj c hc => HSM.out j (by have:=HM.out;omega) c hc
     have e0:=K0.out.cell 0 rfl
     have e1:=K0.out.cell 1 rfl
     have e2:=K0.out.cell 2 rfl
     obtain ⟨⟨z0,z1,z2,z3,z4,z5,z6,z7,z8,z9⟩,zf⟩:=K1.out.zc
     obtain ⟨⟨y0,y1,y2,y3,y4,y5,y6,y7,y8,y9⟩,yf⟩:=K6.out.vals
     subst hz
     go_wp2_with fail
     refine bodyPost_ret (by simp [results,Tryz.results68,go_sem, *];try rfl) rfl ?_
     exact ⟨A,C,A2,C2,rfl,HVA.out,by (repeat' first|(with_reducible first|exact blR _ _|assumption|refine blD ?_|refine blN ?_ _)|((with_reducible first|refine blA ?_ ?_ _|refine blS ?_ ?_ _|refine blT (by assumption) ?_ ?_);focus (go_size;done)))⟩
  ·subst h3
   have hpl : (plD order rows).length = rows.length:=srt_len _ _
   have hz0 : ag (plD order rows) 0 < rows.length:=by
    have h:=srt_mem (rk:=rankF order ∘ lg rows) (n:=rows.length) (i:=ag (plD order rows) 0)
    refine h.1 ?_
    rw [ag_get (by rw [hpl];exact hpos)]
    exact List.getElem_mem _
   have HSRT:=Lib.hid (fun (W : World) (hW : Below w0.heap.size w0 W) => hsorted_any order rows _ _ W (tabs_below HT.out hW) (HO.out.below hW) (HR.out.below hW) HF.out.oc HF.out.rc (fun t ht => by rw [HF.out.rl t ht,HF.out.ol];exact Nat.le_refl _) (by rw [HF.out.ol];have:=HF.out.n8;omega) hr60)
   rw [← HLO.out] at HSRT
   obtain ⟨z,hz⟩ : ∃ z,z = ag (plD order rows) 0:=⟨_,rfl⟩
   rw [← hz] at hz0
   have HZZ:=Lib.hid hz
   have HPL:=Lib.hid hpl
   obtain ⟨b',o',Bz,Dz,hA,hcz,hvz⟩:=HR.out.at hz0
   injection hA with hA
   injection hA with ea eb _
   subst ea eb
   have hczw:=(HB.out.cell (p:=⟨b,o + z,none⟩) (vcell_lt hcz)).trans hcz
   have lbz:=vcell_lt hczw
   have HCZ:=Lib.hid (fun (W : World) (hW : Below w.heap.size w W) => whole18_any names (lg rows z) (.slice NA names.length NC) (.slice Bz (lg rows z).length Dz) w0 W (HB.out.trans (hW.mono h0s)) HN.out hvz (fun _ => by rw [HF.out.rl z hz0];have:=HF.out.n1;omega))
   rw [← HLN.out] at HCZ
   obtain ⟨dz,hdz⟩ : ∃ d,d = wholeD names (lg rows z):=⟨_,rfl⟩
   rw [← hdz] at HCZ
   have hZ3 : Z = (dz,0):=by
    rw [HZ.out];unfold decD
    rw [if_neg (by decide),if_neg (by decide),if_pos rfl,vg_map _ _ (by rw [← hz];exact hz0),← hz,hdz]
   obtain ⟨nz,hnz⟩ : ∃ n,n = (lg rows z).length:=⟨_,rfl⟩
   rw [← hnz] at hczw HCZ
   have hzc : (z : Int) < (rows.length : Int):=by omega
   have HCZW:=Lib.hid (fun (W : World) (hW : Below w.heap.size w W) => (hW.cell (p:=⟨b,o + z,none⟩) lbz).trans hczw)
   clear hz hpl hcz hvz hdz hnz hczw
   subst hZ3
   go_upto_region 18 with (fail)
   refine wp_region_noPanic ?_
   refine wp_region_held_drew (S:=fun w' => w'.cell? ⟨w.heap.size,0,none⟩ = some (.slice NA ln NC) ∧ w'.cell? ⟨w.heap.size,1,none⟩ = some (.slice OA lo OC) ∧ w'.cell? ⟨w.heap.size,2,none⟩ = some (.slice (some ⟨b,o,none⟩) rows.length RC)) (by kernel_rfl) ⟨e0,e1,e2⟩ (fun hHeld => ?_)
   refine wpAnyH_take (i:=0) (v:=?_) rfl (by kernel_rfl) (by kernel_rfl) (by kernel_rfl) (fun _ _ _ h => h) (Or.inl ⟨by rfl, ?_⟩) (by assumption) ?_
   rotate_left
   (focus (intro w hSw;(try dsimp only at hSw);go_simp;(try with_reducible rfl)))
   (try simp only [Act.put,List.setIfInBounds_toArray,List.set_cons_zero,List.set_cons_succ])
   refine wpAnyH_take (i:=1) (v:=?_) rfl (by kernel_rfl) (by kernel_rfl) (by kernel_rfl) (fun _ _ _ h => h) (Or.inl ⟨by rfl, ?_⟩) (by assumption) ?_
   rotate_left
   (focus (intro w hSw;(try dsimp only at hSw);go_simp;(try with_reducible rfl)))
   (try simp only [Act.put,List.setIfInBounds_toArray,List.set_cons_zero,List.set_cons_succ])
   refine wpAnyH_take (i:=2) (v:=?_) rfl (by kernel_rfl) (by kernel_rfl) (by kernel_rfl) (fun _ _ _ h => h) (Or.inl ⟨by rfl, ?_⟩) (by assumption) ?_
   rotate_left
   (focus (intro w hSw;(try dsimp only at hSw);go_simp;(try with_reducible rfl)))
   (try simp only [Act.put,List.setIfInBounds_toArray,List.set_cons_zero,List.set_cons_succ])
   refine wpAnyH_take (i:=3) (v:=?_) rfl (by kernel_rfl) (by kernel_rfl) (by kernel_rfl) (fun _ _ _ h => h) (Or.inl ⟨by rfl, ?_⟩) (by assumption) ?_
   rotate_left
   (focus (intro w hSw;(try dsimp only at hSw);go_simp;(try with_reducible rfl)))
   (try simp only [Act.put,List.setIfInBounds_toArray,List.set_cons_zero,List.set_cons_succ])
   refine wpAnyH_take (i:=4) (v:=?_) rfl (by kernel_rfl) (by kernel_rfl) (by kernel_rfl) (fun _ _ _ h => h) (Or.inl ⟨by rfl, ?_⟩) (by assumption) ?_
   rotate_left
   (focus (intro w hSw;(try dsimp only at hSw);go_simp;(try with_reducible rfl)))
   (try simp only [Act.put,List.setIfInBounds_toArray,List.set_cons_zero,List.set_cons_succ])
   refine wpAnyH_take (i:=5) (v:=?_) rfl (by kernel_rfl) (by kernel_rfl) (by kernel_rfl) (fun _ _ _ h => h) (Or.inl ⟨by rfl, ?_⟩) (by assumption) ?_
   rotate_left
   (focus (intro w hSw;(try dsimp only at hSw);go_simp;(try with_reducible rfl)))
   (try simp only [Act.put,List.setIfInBounds_toArray,List.set_cons_zero,List.set_cons_succ])
   refine wpAnyH_take (i:=6) (v:=?_) rfl (by kernel_rfl) (by kernel_rfl) (by kernel_rfl) (fun _ _ _ h => h) (Or.inl ⟨by rfl, ?_⟩) (by assumption) ?_
   rotate_left
   (focus (intro w hSw;(try dsimp only at hSw);go_simp;(try with_reducible rfl)))
   (try simp only [Act.put,List.setIfInBounds_toArray,List.set_cons_zero,List.set_cons_succ])
   refine wpAnyH_take (i:=7) (v:=?_) rfl (by kernel_rfl) (by kernel_rfl) (by kernel_rfl) (fun _ _ _ h => h) (Or.inl ⟨by rfl, ?_⟩) (by assumption) ?_
   rotate_left
   (focus (intro w hSw;(try dsimp only at hSw);go_simp;(try with_reducible rfl)))
   (try simp only [Act.put,List.setIfInBounds_toArray,List.set_cons_zero,List.set_cons_succ])
   refine wpAnyH_ready (rs:=[8]) (by kernel_rfl) (by simp) ?_
   refine AllReadyH.cons (by rw [List.getElem?_toArray];exact rfl) (fun K hK => ?_) AllReadyH.nil
   go_simp
   go_at_call 32
   (with_reducible refine (HSRT.out _ (Below.trans HB.out (Below.mono ?hbs h0s))).mono ?_)
   case hbs => (repeat' first|(with_reducible first|exact blR _ _|assumption|refine blD ?_|refine blN ?_ _)|((with_reducible first|refine blA ?_ ?_ _|refine blS ?_ ?_ _|refine blT (by assumption) ?_ ?_);focus (go_size;done)))
   rintro _ w2 ⟨v,rfl,hil,hb2,gs,hv5,hgs⟩
   change Ilst w2 v (plD order rows) at hil
   subst hv5
   obtain ⟨b3,o3,hA5,hc3⟩:=hil.at (show 0 < (plD order rows).length by rw [HPL.out];exact hpos)
   injection hA5 with hA5
   injection hA5 with eb3 eo3 _
   subst eb3 eo3
   rw [Nat.add_zero,← HZZ.out] at hc3
   have hgs6 : g6 < gs:=by (try simp only [World.size_drew] at hgs);omega
   clear hil
   have hb2s:=hb2.size
   (try simp only [World.size_drew] at hb2s)
   have k0 : Bk w2 w.heap.size 63 [.slice NA ln NC,.slice OA lo OC,.slice (some ⟨b,o,none⟩) rows.length RC]:=by
    have k:=K0.out
    (repeat (first|(with_reducible assumption)|((with_reducible refine bkW ?_);(first|rfl|(simp only [wsA,wsS,wsD,wsN];done)))|(with_reducible first|refine bkA ?_ _|refine bkD ?_|refine bkN ?_ _)|((with_reducible refine bkF ?_ ?_ _);focus (simp only [];omega))|((with_reducible refine bkB (by assumption) ?_ ?_);focus (go_size;done))))
   have k1 : Bk w2 (w.heap.size + 1) 34 zc10:=by
    have k:=K1.out
    (repeat (first|(with_reducible assumption)|((with_reducible refine bkW ?_);(first|rfl|(simp only [wsA,wsS,wsD,wsN];done)))|(with_reducible first|refine bkA ?_ _|refine bkD ?_|refine bkN ?_ _)|((with_reducible refine bkF ?_ ?_ _);focus (simp only [];omega))|((with_reducible refine bkB (by assumption) ?_ ?_);focus (go_size;done))))
   have k6 : Bk w2 g6 34 (vcs d0 A C A2 C2):=by
    have k:=K6.out
    (repeat (first|(with_reducible assumption)|((with_reducible refine bkW ?_);(first|rfl|(simp only [wsA,wsS,wsD,wsN];done)))|(with_reducible first|refine bkA ?_ _|refine bkD ?_|refine bkN ?_ _)|((with_reducible refine bkF ?_ ?_ _);focus (simp only [];omega))|((with_reducible refine bkB (by assumption) ?_ ?_);focus (go_size;done))))
   have hbel2 : Below w.heap.size w w2:=by (repeat' first|(with_reducible first|exact blR _ _|assumption|refine blD ?_|refine blN ?_ _)|((with_reducible first|refine blA ?_ ?_ _|refine blS ?_ ?_ _|refine blT (by assumption) ?_ ?_);focus (go_size;done)))
   have lb32:=vcell_lt hc3
   have hczW:=HCZW.out _ hbel2
   have K0':=Lib.hid k0
   have K1':=Lib.hid k1
   have K6':=Lib.hid k6
   have s1:=k0.cell 0 rfl
   have s2:=k0.cell 1 rfl
   have s3:=k0.cell 2 rfl
   clear k0 k1 k6 e0 e1 e2 e3 z0 z1 z2 z3 z4 z5 z6 z7 z8 z9 zf y0 y1 y2 y3 y4 y5 y6 y7 y8 y9 yf hHeld hb2
   dsimp only
   refine hK.out _ _ ⟨s1,s2,s3⟩ (fun hHeld0 => ?_)
   clear hK K hHeld0
   (try simp only [Act.put,List.setIfInBounds_toArray,List.set_cons_zero,List.set_cons_succ])
   refine wpAnyH_strong (S':=fun w' => (w'.cell? ⟨w.heap.size,0,none⟩ = some (.slice NA ln NC) ∧ w'.cell? ⟨w.heap.size,1,none⟩ = some (.slice OA lo OC) ∧ w'.cell? ⟨w.heap.size,2,none⟩ = some (.slice (some ⟨b,o,none⟩) rows.length RC)) ∧ w'.cell? ⟨gs,0,none⟩ = some (.int .i64 z) ∧ w'.cell? ⟨b,o + z,none⟩ = some (.slice Bz nz Dz)) (fun _ h => h.1) _ _ _ _ ?_
   have hHeld : (fun w' : World => (w'.cell? ⟨w.heap.size,0,none⟩ = some (.slice NA ln NC) ∧ w'.cell? ⟨w.heap.size,1,none⟩ = some (.slice OA lo OC) ∧ w'.cell? ⟨w.heap.size,2,none⟩ = some (.slice (some ⟨b,o,none⟩) rows.length RC)) ∧ w'.cell? ⟨gs,0,none⟩ = some (.int .i64 z) ∧ w'.cell? ⟨b,o + z,none⟩ = some (.slice Bz nz Dz)) w2:=⟨⟨s1,s2,s3⟩,hc3,hczW⟩
   refine wpAnyH_take (i:=9) (v:=?_) rfl (by kernel_rfl) (by kernel_rfl) (by kernel_rfl) (fun _ _ _ h => h) (Or.inl ⟨by rfl, ?_⟩) (by assumption) ?_
   rotate_left
   (focus (intro w hSw;(try dsimp only at hSw);go_simp;(try with_reducible rfl)))
   (try simp only [Act.put,List.setIfInBounds_toArray,List.set_cons_zero,List.set_cons_succ])
   refine wpAnyH_take (i:=10) (v:=?_) rfl (by kernel_rfl) (by kernel_rfl) (by kernel_rfl) (fun _ _ _ h => h) (Or.inl ⟨by rfl, ?_⟩) (by assumption) ?_
   rotate_left
   (focus (intro w hSw;(try dsimp only at hSw);go_simp;(try with_reducible rfl)))
   (try simp only [Act.put,List.setIfInBounds_toArray,List.set_cons_zero,List.set_cons_succ])
   refine wpAnyH_take (i:=11) (v:=?_) rfl (by kernel_rfl) (by kernel_rfl) (by kernel_rfl) (fun _ _ _ h => h) (Or.inl ⟨by rfl, ?_⟩) (by assumption) ?_
   rotate_left
   (focus (intro w hSw;(try dsimp only at hSw);go_simp;(try with_reducible rfl)))
   (try simp only [Act.put,List.setIfInBounds_toArray,List.set_cons_zero,List.set_cons_succ])
   refine wpAnyH_take (i:=12) (v:=?_) rfl (by kernel_rfl) (by kernel_rfl) (by kernel_rfl) (fun _ _ _ h => h) (Or.inl ⟨by rfl, ?_⟩) (by assumption) ?_
   rotate_left
   (focus (intro w hSw;(try dsimp only at hSw);go_simp;(try with_reducible rfl)))
   (try simp only [Act.put,List.setIfInBounds_toArray,List.set_cons_zero,List.set_cons_succ])
   refine wpAnyH_ready (rs:=[13]) (by kernel_rfl) (by simp) ?_
   refine AllReadyH.cons (by rw [List.getElem?_toArray];exact rfl) (fun K hK => ?_) AllReadyH.nil
   go_simp
   go_at_call 89
   (with_reducible refine (HCZ.out _ hbel2).mono ?_)
   rintro _ w3 ⟨ZA,ZC,ZA2,ZC2,rfl,hva,hb3⟩
   have HVZ:=Lib.hid hva
   have hb3s:=hb3.size
   have k0:=K0'.out.below hb3 (by omega)
   have k1:=K1'.out.below hb3 (by omega)
   have k6:=K6'.out.below hb3 (by omega)
   have hbel3 : Below w.heap.size w w3:=by (repeat' first|(with_reducible first|exact blR _ _|assumption|refine blD ?_|refine blN ?_ _)|((with_reducible first|refine blA ?_ ?_ _|refine blS ?_ ?_ _|refine blT (by assumption) ?_ ?_);focus (go_size;done)))
   have e1':=(hb3.cell (p:=⟨gs,0,none⟩) lb32).trans hc3
   have e2':=HCZW.out _ hbel3
   have K0'':=Lib.hid k0
   have K1'':=Lib.hid k1
   have K6'':=Lib.hid k6
   have t1:=k0.cell 0 rfl
   have t2:=k0.cell 1 rfl
   have t3:=k0.cell 2 rfl
   obtain ⟨⟨y0,y1,y2,y3,y4,y5,y6,y7,y8,y9⟩,yf⟩:=k6.vals
   clear k0 k1 k6 s1 s2 s3 hc3 hczW hva hb3 hHeld
   dsimp only
   refine hK.out _ _ ⟨⟨t1,t2,t3⟩,e1',e2'⟩ (fun hHeld => ?_)
   clear hK K
   (try simp only [Act.put,List.setIfInBounds_toArray,List.set_cons_zero,List.set_cons_succ])
   refine wpAnyH_ready (rs:=[14]) (by kernel_rfl) (by simp) ?_
   refine AllReadyH.cons (by rw [List.getElem?_toArray];exact rfl) (fun K hK => ?_) AllReadyH.nil
   go_simp
   have hfar : ∀ b i,b ≠ g6 → (((((((((((w3.setCell ⟨g6,0,none⟩ (.int .i64 dz.s.kind)).setCell ⟨g6,1,none⟩ (.bool dz.s.yes)).setCell ⟨g6,2,none⟩ (.bool dz.s.neg)).setCell ⟨g6,3,none⟩ (.int .u64 (wd dz.s.coef 1))).setCell ⟨g6,4,none⟩ (.int .u64 (wd dz.s.coef 0))).setCell ⟨g6,5,none⟩ (.int .i64 dz.s.sc)).setCell ⟨g6,6,none⟩ (.string ⟨dz.s.text.toArray⟩)).setCell ⟨g6,7,none⟩ (.int .i64 dz.s.day)).setCell ⟨g6,8,none⟩ (.slice ZA dz.list.length ZC)).setCell ⟨g6,9,none⟩ (.slice ZA2 dz.names.length ZC2))).cell? ⟨b,i,none⟩ = w3.cell? ⟨b,i,none⟩:=fun b i hb => by
    refine World.cell?_of_block (a:=⟨b,i,none⟩) ?_
    repeat rw [Below.heap_setCell _ _ _ _ (by show b ≠ g6;exact hb)]
   have kz : Bk (((((((((((w3.setCell ⟨g6,0,none⟩ (.int .i64 dz.s.kind)).setCell ⟨g6,1,none⟩ (.bool dz.s.yes)).setCell ⟨g6,2,none⟩ (.bool dz.s.neg)).setCell ⟨g6,3,none⟩ (.int .u64 (wd dz.s.coef 1))).setCell ⟨g6,4,none⟩ (.int .u64 (wd dz.s.coef 0))).setCell ⟨g6,5,none⟩ (.int .i64 dz.s.sc)).setCell ⟨g6,6,none⟩ (.string ⟨dz.s.text.toArray⟩)).setCell ⟨g6,7,none⟩ (.int .i64 dz.s.day)).setCell ⟨g6,8,none⟩ (.slice ZA dz.list.length ZC)).setCell ⟨g6,9,none⟩ (.slice ZA2 dz.names.length ZC2))) g6 34 (vcs dz ZA ZC ZA2 ZC2):=Bk.tensV2 dz ZA ZC ZA2 ZC2 K6''.out
   have k1 : Bk (((((((((((w3.setCell ⟨g6,0,none⟩ (.int .i64 dz.s.kind)).setCell ⟨g6,1,none⟩ (.bool dz.s.yes)).setCell ⟨g6,2,none⟩ (.bool dz.s.neg)).setCell ⟨g6,3,none⟩ (.int .u64 (wd dz.s.coef 1))).setCell ⟨g6,4,none⟩ (.int .u64 (wd dz.s.coef 0))).setCell ⟨g6,5,none⟩ (.int .i64 dz.s.sc)).setCell ⟨g6,6,none⟩ (.string ⟨dz.s.text.toArray⟩)).setCell ⟨g6,7,none⟩ (.int .i64 dz.s.day)).setCell ⟨g6,8,none⟩ (.slice ZA dz.list.length ZC)).setCell ⟨g6,9,none⟩ (.slice ZA2 dz.names.length ZC2))) (w.heap.size + 1) 34 zc10:=by
    have k:=K1''.out
    (repeat (first|(with_reducible assumption)|((with_reducible refine bkW ?_);(first|rfl|(simp only [wsA,wsS,wsD,wsN];done)))|(with_reducible first|refine bkA ?_ _|refine bkD ?_|refine bkN ?_ _)|((with_reducible refine bkF ?_ ?_ _);focus (simp only [];omega))|((with_reducible refine bkB (by assumption) ?_ ?_);focus (go_size;done))))
   have mb : Below w.heap.size w (((((((((((w3.setCell ⟨g6,0,none⟩ (.int .i64 dz.s.kind)).setCell ⟨g6,1,none⟩ (.bool dz.s.yes)).setCell ⟨g6,2,none⟩ (.bool dz.s.neg)).setCell ⟨g6,3,none⟩ (.int .u64 (wd dz.s.coef 1))).setCell ⟨g6,4,none⟩ (.int .u64 (wd dz.s.coef 0))).setCell ⟨g6,5,none⟩ (.int .i64 dz.s.sc)).setCell ⟨g6,6,none⟩ (.string ⟨dz.s.text.toArray⟩)).setCell ⟨g6,7,none⟩ (.int .i64 dz.s.day)).setCell ⟨g6,8,none⟩ (.slice ZA dz.list.length ZC)).setCell ⟨g6,9,none⟩ (.slice ZA2 dz.names.length ZC2))):=by (repeat' first|(with_reducible first|exact blR _ _|assumption|refine blD ?_|refine blN ?_ _)|((with_reducible first|refine blA ?_ ?_ _|refine blS ?_ ?_ _|refine blT (by assumption) ?_ ?_);focus (go_size;done)))
   generalize ((((((((((w3.setCell ⟨g6,0,none⟩ (.int .i64 dz.s.kind)).setCell ⟨g6,1,none⟩ (.bool dz.s.yes)).setCell ⟨g6,2,none⟩ (.bool dz.s.neg)).setCell ⟨g6,3,none⟩ (.int .u64 (wd dz.s.coef 1))).setCell ⟨g6,4,none⟩ (.int .u64 (wd dz.s.coef 0))).setCell ⟨g6,5,none⟩ (.int .i64 dz.s.sc)).setCell ⟨g6,6,none⟩ (.string ⟨dz.s.text.toArray⟩)).setCell ⟨g6,7,none⟩ (.int .i64 dz.s.day)).setCell ⟨g6,8,none⟩ (.slice ZA dz.list.length ZC)).setCell ⟨g6,9,none⟩ (.slice ZA2 dz.names.length ZC2)) = W at *
   refine hK.out _ _ ⟨⟨(hfar _ _ (by omega)).trans t1,(hfar _ _ (by omega)).trans t2,(hfar _ _ (by omega)).trans t3⟩,(hfar _ _ (by omega)).trans e1',(hfar _ _ (by omega)).trans e2'⟩ (fun hHeld => ?_)
   clear hK K
   (try simp only [Act.put,List.setIfInBounds_toArray,List.set_cons_zero,List.set_cons_succ])
   refine wpAnyH_done (by kernel_rfl) ?_ _
   have KZ:=Lib.hid kz
   have K1z:=Lib.hid k1
   have hlt6W:=kz.lt
   clear kz k1 hfar hHeld t1 t2 t3 e1' e2' y0 y1 y2 y3 y4 y5 y6 y7 y8 y9 yf
   obtain ⟨⟨z0,z1,z2,z3,z4,z5,z6,z7,z8,z9⟩,zf⟩:=K1z.out.zc
   obtain ⟨⟨y0,y1,y2,y3,y4,y5,y6,y7,y8,y9⟩,yf⟩:=KZ.out.vals
   unfold NoPanic
   dsimp only
   go_wp2_with fail
   refine bodyPost_ret (by simp [results,Tryz.results68,go_sem, *];try rfl) rfl ?_
   exact ⟨ZA,ZC,ZA2,ZC2,rfl,HVZ.out,by (repeat' first|(with_reducible first|exact blR _ _|assumption|refine blD ?_|refine blN ?_ _)|((with_reducible first|refine blA ?_ ?_ _|refine blS ?_ ?_ _|refine blT (by assumption) ?_ ?_);focus (go_size;done)))⟩
  ·subst h4
   have hz : Z = (d0,0):=by rw [HZ.out];unfold decD;rw [if_neg (by decide),if_neg (by decide),if_neg (by decide),if_pos rfl,HVG.out]
   subst hz
   go_wp2_with fail
   refine bodyPost_ret (by simp [results,Tryz.results68,go_sem, *];try rfl) rfl ?_
   exact ⟨A,C,A2,C2,rfl,HVA.out,by (repeat' first|(with_reducible first|exact blR _ _|assumption|refine blD ?_|refine blN ?_ _)|((with_reducible first|refine blA ?_ ?_ _|refine blS ?_ ?_ _|refine blT (by assumption) ?_ ?_);focus (go_size;done)))⟩
end Go.Proofs.YtkjecoanlppeaaaGreatDoor



namespace Go.Proofs.YtkjecoanlppeaaaGreatDoor
open Go.RowKit

set_option maxRecDepth 100000 in
set_option maxHeartbeats 2000000 in
theorem dec_sing (p : Int) (hp : p = 1 ∨ p = 2 ∨ p = 3 ∨ p = 4) (names : List (List UInt8)) (order rows : List (List VD)) (N O R : Value) (w0 w : World) (hb : Below w0.heap.size w0 w) (hT : Tabs w0) (hn : Nms w0 N names) (ho : Lls w0 O order) (hr : Lls w0 R rows) (hf : InForm names order rows) (h0 : 0 < rows.length) :
  Calls Tryz.prog 39 #[.agg #[N,O,R],.int .i64 p] w (RetP (decD p (rows.map (wholeD names)) (plD order rows)) w):=by
 obtain ⟨NA,NC,rfl,q1⟩:=hn.is
 obtain ⟨OA,OC,rfl,q3,_,_⟩:=ho.is
 obtain ⟨RA,RC,rfl,q2,hcap1,hcap2⟩:=hr.is
 have HB:=Lib.hid hb
 have HT:=Lib.hid hT
 have HN:=Lib.hid hn
 have HO:=Lib.hid ho
 have HR:=Lib.hid hr
 have HF:=Lib.hid hf
 have h0s:=hb.size
 have hr60:=hf.r60
 have hrc : (rows.length : Int) ≤ 60:=by omega
 have HPC:=Lib.hid (fun (W : World) (hW : Below w.heap.size w W) => places18_any rows (.slice NA names.length NC) (.slice OA order.length OC) (.slice RA rows.length RC) W (hr.below (hb.trans (hW.mono h0s))) ⟨_,_,_,rfl⟩ ⟨_,_,_,rfl⟩ (by omega))
 have HVC:=Lib.hid (fun (pl : List Nat) (P : Value) (W : World) (hW : Below w.heap.size w W) (hP : Ilst W P pl) (hpl : ∀ i,i < pl.length → ag pl i < rows.length) (hl : pl.length ≤ 1000000) => values18_any names rows pl (.slice NA names.length NC) (.slice OA order.length OC) (.slice RA rows.length RC) P w0 W (hb.trans (hW.mono h0s)) hn hr ⟨_,_,_,rfl⟩ hP hpl (fun _ t ht => by rw [hf.rl t ht];have:=hf.n1;omega) hl)
 have HSC:=Lib.hid (fun (W : World) (hW : Below w.heap.size w W) => hsorted_any order rows (.slice OA order.length OC) (.slice RA rows.length RC) W (tabs_below hT (hb.trans (hW.mono h0s))) (ho.below (hb.trans (hW.mono h0s))) (hr.below (hb.trans (hW.mono h0s))) hf.oc hf.rc (fun t ht => by rw [hf.rl t ht,hf.ol];exact Nat.le_refl _) (by rw [hf.ol];have:=hf.n8;omega) hr60)
 have HSG:=Lib.hid (fun (W : World) (hW : Below w.heap.size w W) => single18_any p names order rows (.slice NA names.length NC) (.slice OA order.length OC) (.slice RA rows.length RC) w0 W hp (hb.trans (hW.mono h0s)) hT hn ho hr hf h0)
 unfold RetQ at HSG
 obtain ⟨Z,hZ⟩ : ∃ Z,Z = decD p (rows.map (wholeD names)) (plD order rows):=⟨_,rfl⟩
 rw [← hZ]
 simp only [← hZ] at HSG
 clear hZ HPC HVC HSC
 obtain ⟨ln,hln⟩ : ∃ x,x = names.length:=⟨_,rfl⟩
 obtain ⟨lo,hlo⟩ : ∃ x,x = order.length:=⟨_,rfl⟩
 obtain ⟨n,hnn⟩ : ∃ x,x = rows.length:=⟨_,rfl⟩
 simp only [← hln,← hlo,← hnn] at HSG
 rw [← hnn] at hr60 hrc h0
 rw [← hln,← hlo,← hnn]
 clear hb hT hn ho hr hf q1 q2 q3 hln hlo hnn
 have hn0 : ((n : Int) == 0) = false:=by rw [beq_eq_false_iff_ne];omega
 rcases hp with rfl | rfl | rfl | rfl
 all_goals
  go_enter Tryz.func39,Tryz.ntmps39
  go_wp2_with (go_at_call 68;(with_reducible refine (HSG.out _ (by (repeat' first|(with_reducible first|exact blR _ _|assumption|refine blD ?_|refine blN ?_ _)|((with_reducible first|refine blA ?_ ?_ _|refine blS ?_ ?_ _|refine blT (by assumption) ?_ ?_);focus (go_size;done))))).mono ?_);rintro _ w2 ⟨VA,VC,VA2,VC2,rfl,hva,hb2⟩;have HVA:=Lib.hid hva;clear hva;have hb2s:=hb2.size;(try simp only [World.size_drew,World.size_alloc] at hb2s);(try have : w.heap.size < w2.heap.size:=by omega);(try have : w.heap.size + 1 < w2.heap.size:=by omega);(try have : w.heap.size + 1 + 1 < w2.heap.size:=by omega);(try have : w.heap.size + 1 + 1 + 1 < w2.heap.size:=by omega);have k1 : Bk w2 (w.heap.size + 1) 34 zc10:=(by unfold zc10;(repeat (first|(with_reducible assumption)|((with_reducible refine bkW ?_);(first|rfl|(simp only [wsA,wsS,wsD,wsN];done)))|(with_reducible first|refine bkA ?_ _|refine bkD ?_|refine bkN ?_ _)|((with_reducible refine bkF ?_ ?_ _);focus (simp only [];omega))|((with_reducible refine bkB (by assumption) ?_ ?_);focus (go_size;done)))));have mb : Below w.heap.size w w2:=(by (repeat' first|(with_reducible first|exact blR _ _|assumption|refine blD ?_|refine blN ?_ _)|((with_reducible first|refine blA ?_ ?_ _|refine blS ?_ ?_ _|refine blT (by assumption) ?_ ?_);focus (go_size;done))));obtain ⟨⟨z0,z1,z2,z3,z4,z5,z6,z7,z8,z9⟩,zf⟩:=k1.zcd;clear k1 hb2)
  refine bodyPost_ret (by simp [results,Tryz.results39,go_sem, *];try rfl) rfl ?_
  exact ⟨VA,VC,VA2,VC2,rfl,RV.below HVA.out (Below.trans HB.out (Below.mono (by (repeat' first|(with_reducible first|exact blR _ _|assumption|refine blD ?_|refine blN ?_ _)|((with_reducible first|refine blA ?_ ?_ _|refine blS ?_ ?_ _|refine blT (by assumption) ?_ ?_);focus (go_size;done)))) h0s)),by (repeat' first|(with_reducible first|exact blR _ _|assumption|refine blD ?_|refine blN ?_ _)|((with_reducible first|refine blA ?_ ?_ _|refine blS ?_ ?_ _|refine blT (by assumption) ?_ ?_);focus (go_size;done)))⟩
theorem decide18_any (p : Int) (h1 : 1 ≤ p) (h11 : p ≤ 11) (names : List (List UInt8)) (order rows : List (List VD)) (N O R : Value) (w0 w : World) (hb : Below w0.heap.size w0 w) (hT : Tabs w0) (hn : Nms w0 N names) (ho : Lls w0 O order) (hr : Lls w0 R rows) (hf : InForm names order rows) (h8 : 8 ≤ p → names.length = 1) :
  Calls Tryz.prog 39 #[.agg #[N,O,R],.int .i64 p] w (RetP (decR p names order rows) w):=by
 unfold decR
 by_cases h0 : rows.length = 0
 ·have hnil : rows = []:=List.eq_nil_of_length_eq_zero h0
  rw [if_pos h0]
  by_cases h57 : p = 5 ∨ p = 7
  ·have e : noneD p = .mk (kindS 5) (rows.map (wholeD names)) []:=by rw [hnil];unfold noneD;rw [if_pos (by omega)];rfl
   rw [e]
   exact dec_list p h57 names order rows N O R w0 w hb hT hn ho hr hf
  ·by_cases h6 : p = 6
   ·subst h6
    have e : noneD 6 = .mk (kindS 5) ((plD order rows).map (vg (rows.map (wholeD names)))) []:=by
     have e2 : plD order rows = []:=List.eq_nil_of_length_eq_zero (by rw [show (plD order rows).length = rows.length from srt_len _ _,h0])
     rw [e2];unfold noneD;rw [if_pos (by omega)];rfl
    rw [e]
    exact dec_out names order rows N O R w0 w hb hT hn ho hr hf
   ·by_cases hp11 : p = 11
    ·subst hp11
     have e : noneD 11 = .mk (numS false rows.length 0) [] []:=by rw [h0];rfl
     rw [e]
     exact dec_num names order rows N O R w0 w hb hT hn ho hr hf
    ·have e : noneD p = VD.zero:=by unfold noneD;rw [if_neg (by omega),if_neg (by omega)]
     rw [e]
     exact dec_none p (by omega) names order rows N O R w0 w hb hT hn ho hr hf h0
 ·rw [if_neg h0]
  by_cases h57 : p = 5 ∨ p = 7
  ·have e : decD p (rows.map (wholeD names)) (plD order rows) = (.mk (kindS 5) (rows.map (wholeD names)) [],0):=by
    unfold decD
    rw [if_neg (by omega),if_neg (by omega),if_neg (by omega),if_neg (by omega),if_neg (by omega),if_neg (by omega),if_neg (by omega)]
   rw [e]
   exact dec_list p h57 names order rows N O R w0 w hb hT hn ho hr hf
  ·by_cases h6 : p = 6
   ·subst h6
    have e : decD 6 (rows.map (wholeD names)) (plD order rows) = (.mk (kindS 5) ((plD order rows).map (vg (rows.map (wholeD names)))) [],0):=rfl
    rw [e]
    exact dec_out names order rows N O R w0 w hb hT hn ho hr hf
   ·by_cases hp11 : p = 11
    ·subst hp11
     have e : decD 11 (rows.map (wholeD names)) (plD order rows) = (.mk (numS false rows.length 0) [] [],0):=by
      have : decD 11 (rows.map (wholeD names)) (plD order rows) = (.mk (numS false (rows.map (wholeD names)).length 0) [] [],0):=rfl
      rw [this,List.length_map]
     rw [e]
     exact dec_num names order rows N O R w0 w hb hT hn ho hr hf
    ·by_cases h8p : 8 ≤ p
     ·have e : decD p (rows.map (wholeD names)) (plD order rows) = numD p (rows.map (wholeD names)):=by
       unfold decD
       rw [if_neg (by omega),if_neg (by omega),if_neg (by omega),if_neg (by omega),if_neg (by omega),if_neg (by omega),if_pos (by omega)]
      rw [e]
      exact dec_reck p (by omega) names order rows N O R w0 w hb hT hn ho hr hf (by omega) (h8 h8p)
     ·exact dec_sing p (by omega) names order rows N O R w0 w hb hT hn ho hr hf (by omega)
end Go.Proofs.YtkjecoanlppeaaaGreatDoor



namespace Go.Proofs.YtkjecoanlppeaaaGreatDoor
open Go.RowKit

theorem va_below {w w' : World} {d : VD} {A : Option Addr} {C : Nat} {A2 : Option Addr} {C2 : Nat} (h : VA w d A C A2 C2) (hb : Below w.heap.size w w') : VA w' d A C A2 C2:=VA.below h hb
theorem bcell0 {B : Nat} {W w1 : World} (hb : Below B W w1) : (∀ b o,b < B → w1.cell? ⟨b,o,none⟩ = W.cell? ⟨b,o,none⟩) ∧ (∀ b o,b < B → w1.frozen? ⟨b,o,none⟩ = W.frozen? ⟨b,o,none⟩) :=
 ⟨fun b o h => hb.cell (p:=⟨b,o,none⟩) h,fun b o h => hb.frozen (p:=⟨b,o,none⟩) h⟩
theorem form_in {p : Int} {names : List (List UInt8)} {order rows : List (List VD)} {other : List VD} (h : formP p names order rows other = true) :
  InForm names order (rowsD rows other) ∧ (8 ≤ p → names.length = 1):=by
 unfold formP formT at h
 simp only [Bool.and_eq_true,Bool.not_eq_true',Bool.or_eq_true,decide_eq_true_eq] at h
 obtain ⟨⟨⟨n1,n8⟩,hl,hnm,ho⟩,hp⟩:=h
 obtain ⟨l1,l2,l3,l4⟩:=listsB_iff.1 hl
 refine ⟨⟨n1,n8,l1,fun t ht => (l3 t ht).1,fun t ht => (l3 t ht).2, ?_,fun t ht => ?_,fun t ht => ?_⟩,fun h8 => ?_⟩
 ·unfold rowsD;split
  ·simp
  ·exact l2
 ·unfold rowsD at ht ⊢
  split
  ·rename_i h
   rw [if_pos h] at ht
   obtain rfl : t = 0:=by simp at ht;omega
   rcases ho with ho | ho
   ·omega
   ·exact ho.1
  ·rename_i h
   rw [if_neg h] at ht
   exact (l4 t ht).1
 ·unfold rowsD at ht ⊢
  split
  ·rename_i h
   rw [if_pos h] at ht
   obtain rfl : t = 0:=by simp at ht;omega
   rcases ho with ho | ho
   ·omega
   ·exact ho.2
  ·rename_i h
   rw [if_neg h] at ht
   exact (l4 t ht).2
 ·rw [Bool.and_eq_false_iff] at hp
  rcases hp with hp | hp
  ·exact absurd h8 (of_decide_eq_false hp)
  ·have:=of_decide_eq_false hp;omega
theorem lls_one {w : World} {A : Option Addr} {C : Nat} {l : List VD} (t : TypeId) (h : Vls (RV w) w (.slice A l.length C) l) : Lls (w.alloc (.cells #[.slice A l.length C] t)) (.slice (some ⟨w.heap.size,0,none⟩) 1 1) [l]:=by
 refine ⟨_,_,rfl,⟨by simp,by simp,by decide⟩,fun r hr => ?_⟩
 obtain rfl : r = 0:=by simp at hr;omega
 refine ⟨w.heap.size,0,A,C,rfl, ?_,h.kept ((Below.refl _ _).alloc (Nat.le_refl _) _)⟩
 exact (Bk.new w t [.slice A l.length C]).cell 0 rfl
set_option maxRecDepth 100000 in
set_option maxHeartbeats 20000000 in
theorem hdecide_any (p : Int) (names : List (List UInt8)) (order rows : List (List VD)) (other : List VD) (N O R V : Value) (w : World) (hT : Tabs w) (hn : Nms w N names) (ho : Lls w O order) (hr : Lls w R rows) (hv : Vls (RV w) w V other) :
  Calls Tryz.prog 22 #[.int .i64 p,N,O,R,V] w (RetX 0 w.heap.size (decAll p names order rows other) w):=by
 have HFM:=Lib.hid (fun (W : World) (hW : Below w.heap.size w W) => formed_any names order rows other N O R V W (tabs_below hT hW) (hn.below hW) (ho.below hW) (hr.below hW) (hv.kept hW))
 obtain ⟨NA,NC,rfl,q1⟩:=hn.is
 obtain ⟨OA,OC,rfl,q3,_,_⟩:=ho.is
 obtain ⟨RA,RC,rfl,q2,_,_⟩:=hr.is
 obtain ⟨VA0,VC0,rfl,q4⟩:=hv.is
 have HT:=Lib.hid hT
 have HN:=Lib.hid hn
 have HO:=Lib.hid ho
 have HR:=Lib.hid hr
 have HV:=Lib.hid hv
 have hnc : (names.length : Int) ≤ 1048576:=by omega
 have hrc : (rows.length : Int) ≤ 1048576:=by omega
 have hvc : (other.length : Int) ≤ 1048576:=by omega
 by_cases hp : policyB p = true
 ·unfold policyB at hp
  rw [Bool.and_eq_true,decide_eq_true_eq,decide_eq_true_eq] at hp
  obtain ⟨p1,p11⟩:=hp
  have hp1 : ¬ p < 1:=by omega
  have hp2 : ¬ 11 < p:=by omega
  have hpb : policyB p = true:=by unfold policyB;rw [decide_eq_true p1,decide_eq_true p11];rfl
  by_cases hfp : formP p names order rows other = true
  ·obtain ⟨hin,h8⟩:=form_in hfp
   have hfT : formT names order rows other = true:=by
    unfold formP at hfp
    rw [Bool.and_eq_true] at hfp
    exact hfp.1
   rw [hfT] at HFM
   have h8f : ¬ (8 ≤ p ∧ 1 < names.length):=fun ⟨a,b⟩ => by have:=h8 a;omega
   have hZ : decAll p names order rows other = endD (decR p names order (rowsD rows other)):=by unfold decAll;rw [if_neg (by rw [hpb];decide),if_neg (by rw [hfp];decide)]
   rw [hZ]
   have hcase : p < 8 ∨ (8 ≤ p ∧ names.length ≤ 1):=by
    by_cases h : p < 8
    ·exact .inl h
    ·exact .inr ⟨by omega,by rw [h8 (by omega)];exact Nat.le_refl _⟩
   have HCS:=Lib.hid hcase
   by_cases hrow : rows.length = 0 ∧ 0 < other.length
   ·have hro : rowsD rows other = [other]:=by unfold rowsD;rw [if_pos hrow]
    rw [hro] at hin ⊢
    have HDC:=Lib.hid (fun (W : World) (t : TypeId) (hW : Below w.heap.size w W) => decide18_any p p1 p11 names order [other] (.slice NA names.length NC) (.slice OA order.length OC) (.slice (some ⟨W.heap.size,0,none⟩) 1 1) _ _ (Below.refl _ _) (tabs_below hT (hW.alloc hW.size (.cells #[.slice VA0 other.length VC0] t))) (hn.below (hW.alloc hW.size _)) (ho.below (hW.alloc hW.size _)) (lls_one t (hv.kept hW)) hin h8)
    have hrow2 : (0 : Int) < (other.length : Int):=by omega
    rw [hrow.1] at HFM hrc ⊢
    clear hrow
    have HCS2:=HCS
    generalize decR p names order _ = Z0 at HDC ⊢
    obtain ⟨d,e⟩:=Z0
    unfold RetP at HDC
    dsimp only at HDC
    clear hfp hfT hpb hZ hcase h8f hin h8 hT hn ho hr hv q1 q2 q3 q4 hro
    by_cases he : e = 0
    ·subst he
     obtain ⟨c,hc⟩ : ∃ c,c = chkV d:=⟨_,rfl⟩
     have HCK:=Lib.hid (fun (A : Option Addr) (C : Nat) (A2 : Option Addr) (C2 : Nat) (W : World) (hT : Tabs W) (hv : VA W d A C A2 C2) => vcheck_any d A C A2 C2 W hT hv)
     rw [← hc] at HCK
     by_cases hc0 : c = 0
     ·have hE : endD (d,0) = (d,0):=by unfold endD;rw [if_neg (by simp),if_neg (by rw [← hc];simp [hc0])]
      have h6 : d.size ≤ 1000000:=by
       rw [hc0] at hc
       unfold chkV at hc
       split at hc
       ·omega
       ·omega
      have HCP:=Lib.hid (fun (A : Option Addr) (C : Nat) (A2 : Option Addr) (C2 : Nat) (W : World) (hv : VA W d A C A2 C2) => copied_any d A C A2 C2 W h6 hv)
      unfold RetC at HCP
      rw [hE]
      clear hE h6 hc
      subst hc0
      go_enter Tryz.func22,Tryz.ntmps22
      go_upto_region 3 with (fail)
      go_cut [35] from 14 (fun s35 wx => s35 = .bool false ∧ Below w.heap.size w wx ∧ w.heap.size < wx.heap.size ∧ Hid (Bk wx w.heap.size 34 zc10))
      case first =>
       rcases HCS.out with hq | ⟨hq,hq2⟩
       ·go_wp2_with (go_at_call 38;(with_reducible refine (HFM.out _ (by (repeat' first|(with_reducible first|exact blR _ _|assumption|refine blD ?_|refine blN ?_ _)|((with_reducible first|refine blA ?_ ?_ _|refine blS ?_ ?_ _|refine blT (by assumption) ?_ ?_);focus (go_size;done))))).mono ?_);rintro _ w2 ⟨rfl,hb2⟩;have hb2s:=hb2.size;(try simp only [World.size_alloc] at hb2s);(try have : w.heap.size < w2.heap.size:=by omega);(try have : w.heap.size + 1 < w2.heap.size:=by omega);(try have : w.heap.size + 1 + 1 < w2.heap.size:=by omega);(try have : w.heap.size + 1 + 1 + 1 < w2.heap.size:=by omega);obtain ⟨hb2c,hb2f⟩:=bcell hb2)
        go_meet
        exact ⟨rfl,by (repeat' first|(with_reducible first|exact blR _ _|assumption|refine blD ?_|refine blN ?_ _)|((with_reducible first|refine blA ?_ ?_ _|refine blS ?_ ?_ _|refine blT (by assumption) ?_ ?_);focus (go_size;done))),by omega,Lib.hid (by unfold zc10;(repeat (first|(with_reducible assumption)|((with_reducible refine bkW ?_);(first|rfl|(simp only [wsA,wsS,wsD,wsN];done)))|(with_reducible first|refine bkA ?_ _|refine bkD ?_|refine bkN ?_ _)|((with_reducible refine bkF ?_ ?_ _);focus (simp only [];omega))|((with_reducible refine bkB (by assumption) ?_ ?_);focus (go_size;done)))))⟩
       ·have hq3 : decide ((1 : Int) < (names.length : Int)) = false:=decide_eq_false (by omega)
        go_wp2_with (go_at_call 38;(with_reducible refine (HFM.out _ (by (repeat' first|(with_reducible first|exact blR _ _|assumption|refine blD ?_|refine blN ?_ _)|((with_reducible first|refine blA ?_ ?_ _|refine blS ?_ ?_ _|refine blT (by assumption) ?_ ?_);focus (go_size;done))))).mono ?_);rintro _ w2 ⟨rfl,hb2⟩;have hb2s:=hb2.size;(try simp only [World.size_alloc] at hb2s);(try have : w.heap.size < w2.heap.size:=by omega);(try have : w.heap.size + 1 < w2.heap.size:=by omega);(try have : w.heap.size + 1 + 1 < w2.heap.size:=by omega);(try have : w.heap.size + 1 + 1 + 1 < w2.heap.size:=by omega);obtain ⟨hb2c,hb2f⟩:=bcell hb2)
        go_meet
        exact ⟨rfl,by (repeat' first|(with_reducible first|exact blR _ _|assumption|refine blD ?_|refine blN ?_ _)|((with_reducible first|refine blA ?_ ?_ _|refine blS ?_ ?_ _|refine blT (by assumption) ?_ ?_);focus (go_size;done))),by omega,Lib.hid (by unfold zc10;(repeat (first|(with_reducible assumption)|((with_reducible refine bkW ?_);(first|rfl|(simp only [wsA,wsS,wsD,wsN];done)))|(with_reducible first|refine bkA ?_ _|refine bkD ?_|refine bkN ?_ _)|((with_reducible refine bkF ?_ ?_ _);focus (simp only [];omega))|((with_reducible refine bkB (by assumption) ?_ ?_);focus (go_size;done)))))⟩
      case rest =>
       obtain ⟨rfl,hb2,hb2s,hz2⟩:=hcut
       generalize wc = w2 at *
       obtain ⟨hb2c,hb2f⟩:=bcell0 hb2
       go_wp2_with (first | (go_at_call 39;(with_reducible refine (HDC.out _ _ (by (repeat' first|(with_reducible first|exact blR _ _|assumption|refine blD ?_|refine blN ?_ _)|((with_reducible first|refine blA ?_ ?_ _|refine blS ?_ ?_ _|refine blT (by assumption) ?_ ?_);focus (go_size;done))))).mono ?_);rintro _ w3 ⟨VA,VC,VA2,VC2,rfl,hva,hb3⟩;have HVA:=Lib.hid hva;clear hva;have hb3s:=hb3.size;(try simp only [World.size_alloc] at hb3s);(try have : w.heap.size < w3.heap.size:=by omega);(try have : w.heap.size + 1 < w3.heap.size:=by omega);(try have : w.heap.size + 1 + 1 < w3.heap.size:=by omega);(try have : w.heap.size + 1 + 1 + 1 < w3.heap.size:=by omega);obtain ⟨hb3c,hb3f⟩:=bcell hb3;(skip)) | (go_at_call 40;(with_reducible refine (HCK.out VA VC VA2 VC2 _ (tabs_below HT.out (by (repeat' first|(with_reducible first|exact blR _ _|assumption|refine blD ?_|refine blN ?_ _)|((with_reducible first|refine blA ?_ ?_ _|refine blS ?_ ?_ _|refine blT (by assumption) ?_ ?_);focus (go_size;done))))) (va_below HVA.out (by (repeat' first|(with_reducible first|exact blR _ _|assumption|refine blD ?_|refine blN ?_ _)|((with_reducible first|refine blA ?_ ?_ _|refine blS ?_ ?_ _|refine blT (by assumption) ?_ ?_);focus (go_size;done)))))).mono ?_);rintro _ w4 ⟨rfl,hb4⟩;have hb4s:=hb4.size;(try simp only [World.size_alloc] at hb4s);(try have : w.heap.size < w4.heap.size:=by omega);(try have : w.heap.size + 1 < w4.heap.size:=by omega);(try have : w.heap.size + 1 + 1 < w4.heap.size:=by omega);(try have : w.heap.size + 1 + 1 + 1 < w4.heap.size:=by omega);(try have : w3.heap.size < w4.heap.size:=by omega);(try have : w3.heap.size + 1 < w4.heap.size:=by omega);(try have : w3.heap.size + 1 + 1 < w4.heap.size:=by omega);(try have : w3.heap.size + 1 + 1 + 1 < w4.heap.size:=by omega);obtain ⟨hb4c,hb4f⟩:=bcell hb4;(skip)) | (go_at_call 41;(with_reducible refine (HCP.out VA VC VA2 VC2 _ (va_below HVA.out (by (repeat' first|(with_reducible first|exact blR _ _|assumption|refine blD ?_|refine blN ?_ _)|((with_reducible first|refine blA ?_ ?_ _|refine blS ?_ ?_ _|refine blT (by assumption) ?_ ?_);focus (go_size;done)))))).mono ?_);rintro _ w5 ⟨XA,XC,XA2,XC2,rfl,hvb,hb5⟩;have HVB:=Lib.hid hvb;clear hvb;have hb5s:=hb5.size;(try simp only [World.size_alloc] at hb5s);(try have : w.heap.size < w5.heap.size:=by omega);(try have : w.heap.size + 1 < w5.heap.size:=by omega);(try have : w.heap.size + 1 + 1 < w5.heap.size:=by omega);(try have : w.heap.size + 1 + 1 + 1 < w5.heap.size:=by omega);have k0:=hz2.out;have k1 : Bk w5 w.heap.size 34 zc10:=(by (repeat (first|(with_reducible assumption)|((with_reducible refine bkW ?_);(first|rfl|(simp only [wsA,wsS,wsD,wsN];done)))|(with_reducible first|refine bkA ?_ _|refine bkD ?_|refine bkN ?_ _)|((with_reducible refine bkF ?_ ?_ _);focus (simp only [];omega))|((with_reducible refine bkB (by assumption) ?_ ?_);focus (go_size;done)))));have mb : Below w.heap.size w w5:=(by (repeat' first|(with_reducible first|exact blR _ _|assumption|refine blD ?_|refine blN ?_ _)|((with_reducible first|refine blA ?_ ?_ _|refine blS ?_ ?_ _|refine blT (by assumption) ?_ ?_);focus (go_size;done))));obtain ⟨⟨z0,z1,z2,z3,z4,z5,z6,z7,z8,z9⟩,zf⟩:=k1.zcd;clear k1))
       refine bodyPost_ret (by simp [results,Tryz.results22,go_sem, *];try rfl) rfl ?_
       refine ⟨XA,XC,XA2,XC2,rfl,fun W' hW' => HVB.out _ (fun b hb => (hW' b (by simp only [World.size_setCell];omega)).trans ?_),by (repeat' first|(with_reducible first|exact blR _ _|assumption|refine blD ?_|refine blN ?_ _)|((with_reducible first|refine blA ?_ ?_ _|refine blS ?_ ?_ _|refine blT (by assumption) ?_ ?_);focus (go_size;done)))⟩
       repeat rw [Below.heap_setCell _ _ _ _ (by show b ≠ w.heap.size;omega)]
     ·have hE : endD (d,0) = (VD.zero,c):=by unfold endD;rw [if_neg (by simp),if_pos (by rw [← hc];exact hc0),hc]
      have hc1 : (c == 0) = false:=by rw [beq_eq_false_iff_ne];exact hc0
      have hc2 : (c != 0) = true:=by rw [bne_iff_ne];exact hc0
      rw [hE]
      clear hE hc hc0
      go_enter Tryz.func22,Tryz.ntmps22
      go_upto_region 3 with (fail)
      go_cut [35] from 14 (fun s35 wx => s35 = .bool false ∧ Below w.heap.size w wx ∧ w.heap.size < wx.heap.size ∧ Hid (Bk wx w.heap.size 34 zc10))
      case first =>
       rcases HCS.out with hq | ⟨hq,hq2⟩
       ·go_wp2_with (go_at_call 38;(with_reducible refine (HFM.out _ (by (repeat' first|(with_reducible first|exact blR _ _|assumption|refine blD ?_|refine blN ?_ _)|((with_reducible first|refine blA ?_ ?_ _|refine blS ?_ ?_ _|refine blT (by assumption) ?_ ?_);focus (go_size;done))))).mono ?_);rintro _ w2 ⟨rfl,hb2⟩;have hb2s:=hb2.size;(try simp only [World.size_alloc] at hb2s);(try have : w.heap.size < w2.heap.size:=by omega);(try have : w.heap.size + 1 < w2.heap.size:=by omega);(try have : w.heap.size + 1 + 1 < w2.heap.size:=by omega);(try have : w.heap.size + 1 + 1 + 1 < w2.heap.size:=by omega);obtain ⟨hb2c,hb2f⟩:=bcell hb2)
        go_meet
        exact ⟨rfl,by (repeat' first|(with_reducible first|exact blR _ _|assumption|refine blD ?_|refine blN ?_ _)|((with_reducible first|refine blA ?_ ?_ _|refine blS ?_ ?_ _|refine blT (by assumption) ?_ ?_);focus (go_size;done))),by omega,Lib.hid (by unfold zc10;(repeat (first|(with_reducible assumption)|((with_reducible refine bkW ?_);(first|rfl|(simp only [wsA,wsS,wsD,wsN];done)))|(with_reducible first|refine bkA ?_ _|refine bkD ?_|refine bkN ?_ _)|((with_reducible refine bkF ?_ ?_ _);focus (simp only [];omega))|((with_reducible refine bkB (by assumption) ?_ ?_);focus (go_size;done)))))⟩
       ·have hq3 : decide ((1 : Int) < (names.length : Int)) = false:=decide_eq_false (by omega)
        go_wp2_with (go_at_call 38;(with_reducible refine (HFM.out _ (by (repeat' first|(with_reducible first|exact blR _ _|assumption|refine blD ?_|refine blN ?_ _)|((with_reducible first|refine blA ?_ ?_ _|refine blS ?_ ?_ _|refine blT (by assumption) ?_ ?_);focus (go_size;done))))).mono ?_);rintro _ w2 ⟨rfl,hb2⟩;have hb2s:=hb2.size;(try simp only [World.size_alloc] at hb2s);(try have : w.heap.size < w2.heap.size:=by omega);(try have : w.heap.size + 1 < w2.heap.size:=by omega);(try have : w.heap.size + 1 + 1 < w2.heap.size:=by omega);(try have : w.heap.size + 1 + 1 + 1 < w2.heap.size:=by omega);obtain ⟨hb2c,hb2f⟩:=bcell hb2)
        go_meet
        exact ⟨rfl,by (repeat' first|(with_reducible first|exact blR _ _|assumption|refine blD ?_|refine blN ?_ _)|((with_reducible first|refine blA ?_ ?_ _|refine blS ?_ ?_ _|refine blT (by assumption) ?_ ?_);focus (go_size;done))),by omega,Lib.hid (by unfold zc10;(repeat (first|(with_reducible assumption)|((with_reducible refine bkW ?_);(first|rfl|(simp only [wsA,wsS,wsD,wsN];done)))|(with_reducible first|refine bkA ?_ _|refine bkD ?_|refine bkN ?_ _)|((with_reducible refine bkF ?_ ?_ _);focus (simp only [];omega))|((with_reducible refine bkB (by assumption) ?_ ?_);focus (go_size;done)))))⟩
      case rest =>
       obtain ⟨rfl,hb2,hb2s,hz2⟩:=hcut
       generalize wc = w2 at *
       obtain ⟨hb2c,hb2f⟩:=bcell0 hb2
       go_wp2_with (first | (go_at_call 39;(with_reducible refine (HDC.out _ _ (by (repeat' first|(with_reducible first|exact blR _ _|assumption|refine blD ?_|refine blN ?_ _)|((with_reducible first|refine blA ?_ ?_ _|refine blS ?_ ?_ _|refine blT (by assumption) ?_ ?_);focus (go_size;done))))).mono ?_);rintro _ w3 ⟨VA,VC,VA2,VC2,rfl,hva,hb3⟩;have HVA:=Lib.hid hva;clear hva;have hb3s:=hb3.size;(try simp only [World.size_alloc] at hb3s);(try have : w.heap.size < w3.heap.size:=by omega);(try have : w.heap.size + 1 < w3.heap.size:=by omega);(try have : w.heap.size + 1 + 1 < w3.heap.size:=by omega);(try have : w.heap.size + 1 + 1 + 1 < w3.heap.size:=by omega);obtain ⟨hb3c,hb3f⟩:=bcell hb3;(skip)) | (go_at_call 40;(with_reducible refine (HCK.out VA VC VA2 VC2 _ (tabs_below HT.out (by (repeat' first|(with_reducible first|exact blR _ _|assumption|refine blD ?_|refine blN ?_ _)|((with_reducible first|refine blA ?_ ?_ _|refine blS ?_ ?_ _|refine blT (by assumption) ?_ ?_);focus (go_size;done))))) (va_below HVA.out (by (repeat' first|(with_reducible first|exact blR _ _|assumption|refine blD ?_|refine blN ?_ _)|((with_reducible first|refine blA ?_ ?_ _|refine blS ?_ ?_ _|refine blT (by assumption) ?_ ?_);focus (go_size;done)))))).mono ?_);rintro _ w4 ⟨rfl,hb4⟩;have hb4s:=hb4.size;(try simp only [World.size_alloc] at hb4s);(try have : w.heap.size < w4.heap.size:=by omega);(try have : w.heap.size + 1 < w4.heap.size:=by omega);(try have : w.heap.size + 1 + 1 < w4.heap.size:=by omega);(try have : w.heap.size + 1 + 1 + 1 < w4.heap.size:=by omega);(try have : w3.heap.size < w4.heap.size:=by omega);(try have : w3.heap.size + 1 < w4.heap.size:=by omega);(try have : w3.heap.size + 1 + 1 < w4.heap.size:=by omega);(try have : w3.heap.size + 1 + 1 + 1 < w4.heap.size:=by omega);obtain ⟨hb4c,hb4f⟩:=bcell hb4;(have k0:=hz2.out;have k1 : Bk w4 w.heap.size 34 zc10:=(by (repeat (first|(with_reducible assumption)|((with_reducible refine bkW ?_);(first|rfl|(simp only [wsA,wsS,wsD,wsN];done)))|(with_reducible first|refine bkA ?_ _|refine bkD ?_|refine bkN ?_ _)|((with_reducible refine bkF ?_ ?_ _);focus (simp only [];omega))|((with_reducible refine bkB (by assumption) ?_ ?_);focus (go_size;done)))));have mb : Below w.heap.size w w4:=(by (repeat' first|(with_reducible first|exact blR _ _|assumption|refine blD ?_|refine blN ?_ _)|((with_reducible first|refine blA ?_ ?_ _|refine blS ?_ ?_ _|refine blT (by assumption) ?_ ?_);focus (go_size;done))));obtain ⟨⟨z0,z1,z2,z3,z4,z5,z6,z7,z8,z9⟩,zf⟩:=k1.zcd;clear k1;clear hb4c hb4f)))
       refine bodyPost_ret (by simp [results,Tryz.results22,go_sem, *];try rfl) rfl ?_
       exact ⟨none,0,none,0,by rw [zero_vargs],fun _ _ => va_flat VS.zero_ok,by (repeat' first|(with_reducible first|exact blR _ _|assumption|refine blD ?_|refine blN ?_ _)|((with_reducible first|refine blA ?_ ?_ _|refine blS ?_ ?_ _|refine blT (by assumption) ?_ ?_);focus (go_size;done)))⟩
    ·have hE : endD (d,e) = (VD.zero,e):=by unfold endD;rw [if_pos (by exact he)]
     have hc1 : (e == 0) = false:=by rw [beq_eq_false_iff_ne];exact he
     have hc2 : (e != 0) = true:=by rw [bne_iff_ne];exact he
     rw [hE]
     clear hE he
     go_enter Tryz.func22,Tryz.ntmps22
     go_upto_region 3 with (fail)
     go_cut [35] from 14 (fun s35 wx => s35 = .bool false ∧ Below w.heap.size w wx ∧ w.heap.size < wx.heap.size ∧ Hid (Bk wx w.heap.size 34 zc10))
     case first =>
      rcases HCS.out with hq | ⟨hq,hq2⟩
      ·go_wp2_with (go_at_call 38;(with_reducible refine (HFM.out _ (by (repeat' first|(with_reducible first|exact blR _ _|assumption|refine blD ?_|refine blN ?_ _)|((with_reducible first|refine blA ?_ ?_ _|refine blS ?_ ?_ _|refine blT (by assumption) ?_ ?_);focus (go_size;done))))).mono ?_);rintro _ w2 ⟨rfl,hb2⟩;have hb2s:=hb2.size;(try simp only [World.size_alloc] at hb2s);(try have : w.heap.size < w2.heap.size:=by omega);(try have : w.heap.size + 1 < w2.heap.size:=by omega);(try have : w.heap.size + 1 + 1 < w2.heap.size:=by omega);(try have : w.heap.size + 1 + 1 + 1 < w2.heap.size:=by omega);obtain ⟨hb2c,hb2f⟩:=bcell hb2)
       go_meet
       exact ⟨rfl,by (repeat' first|(with_reducible first|exact blR _ _|assumption|refine blD ?_|refine blN ?_ _)|((with_reducible first|refine blA ?_ ?_ _|refine blS ?_ ?_ _|refine blT (by assumption) ?_ ?_);focus (go_size;done))),by omega,Lib.hid (by unfold zc10;(repeat (first|(with_reducible assumption)|((with_reducible refine bkW ?_);(first|rfl|(simp only [wsA,wsS,wsD,wsN];done)))|(with_reducible first|refine bkA ?_ _|refine bkD ?_|refine bkN ?_ _)|((with_reducible refine bkF ?_ ?_ _);focus (simp only [];omega))|((with_reducible refine bkB (by assumption) ?_ ?_);focus (go_size;done)))))⟩
      ·have hq3 : decide ((1 : Int) < (names.length : Int)) = false:=decide_eq_false (by omega)
       go_wp2_with (go_at_call 38;(with_reducible refine (HFM.out _ (by (repeat' first|(with_reducible first|exact blR _ _|assumption|refine blD ?_|refine blN ?_ _)|((with_reducible first|refine blA ?_ ?_ _|refine blS ?_ ?_ _|refine blT (by assumption) ?_ ?_);focus (go_size;done))))).mono ?_);rintro _ w2 ⟨rfl,hb2⟩;have hb2s:=hb2.size;(try simp only [World.size_alloc] at hb2s);(try have : w.heap.size < w2.heap.size:=by omega);(try have : w.heap.size + 1 < w2.heap.size:=by omega);(try have : w.heap.size + 1 + 1 < w2.heap.size:=by omega);(try have : w.heap.size + 1 + 1 + 1 < w2.heap.size:=by omega);obtain ⟨hb2c,hb2f⟩:=bcell hb2)
       go_meet
       exact ⟨rfl,by (repeat' first|(with_reducible first|exact blR _ _|assumption|refine blD ?_|refine blN ?_ _)|((with_reducible first|refine blA ?_ ?_ _|refine blS ?_ ?_ _|refine blT (by assumption) ?_ ?_);focus (go_size;done))),by omega,Lib.hid (by unfold zc10;(repeat (first|(with_reducible assumption)|((with_reducible refine bkW ?_);(first|rfl|(simp only [wsA,wsS,wsD,wsN];done)))|(with_reducible first|refine bkA ?_ _|refine bkD ?_|refine bkN ?_ _)|((with_reducible refine bkF ?_ ?_ _);focus (simp only [];omega))|((with_reducible refine bkB (by assumption) ?_ ?_);focus (go_size;done)))))⟩
     case rest =>
      obtain ⟨rfl,hb2,hb2s,hz2⟩:=hcut
      generalize wc = w2 at *
      obtain ⟨hb2c,hb2f⟩:=bcell0 hb2
      go_upto_if 57 with (go_at_call 39;(with_reducible refine (HDC.out _ _ (by (repeat' first|(with_reducible first|exact blR _ _|assumption|refine blD ?_|refine blN ?_ _)|((with_reducible first|refine blA ?_ ?_ _|refine blS ?_ ?_ _|refine blT (by assumption) ?_ ?_);focus (go_size;done))))).mono ?_);rintro _ w3 ⟨VA,VC,VA2,VC2,rfl,hva,hb3⟩;have HVA:=Lib.hid hva;clear hva;have hb3s:=hb3.size;(try simp only [World.size_alloc] at hb3s);(try have : w.heap.size < w3.heap.size:=by omega);(try have : w.heap.size + 1 < w3.heap.size:=by omega);(try have : w.heap.size + 1 + 1 < w3.heap.size:=by omega);(try have : w.heap.size + 1 + 1 + 1 < w3.heap.size:=by omega);obtain ⟨hb3c,hb3f⟩:=bcell hb3;(skip))
      generalize hW : w3.alloc _ = W
      have k0:=hz2.out
      have k1 : Bk W w.heap.size 34 zc10:=by
       rw [← hW]
       (repeat (first|(with_reducible assumption)|((with_reducible refine bkW ?_);(first|rfl|(simp only [wsA,wsS,wsD,wsN];done)))|(with_reducible first|refine bkA ?_ _|refine bkD ?_|refine bkN ?_ _)|((with_reducible refine bkF ?_ ?_ _);focus (simp only [];omega))|((with_reducible refine bkB (by assumption) ?_ ?_);focus (go_size;done))))
      have mb : Below w.heap.size w W:=by
       rw [← hW]
       (repeat' first|(with_reducible first|exact blR _ _|assumption|refine blD ?_|refine blN ?_ _)|((with_reducible first|refine blA ?_ ?_ _|refine blS ?_ ?_ _|refine blT (by assumption) ?_ ?_);focus (go_size;done)))
      clear hb3c hb3f hb2c hb2f hb3 hb2 hW
      obtain ⟨⟨z0,z1,z2,z3,z4,z5,z6,z7,z8,z9⟩,zf⟩:=k1.zcd
      clear k1 k0
      go_wp2_with fail
      refine bodyPost_ret (by simp [results,Tryz.results22,go_sem, *];try rfl) rfl ?_
      exact ⟨none,0,none,0,by rw [zero_vargs],fun _ _ => va_flat VS.zero_ok,by (repeat' first|(with_reducible first|exact blR _ _|assumption|refine blD ?_|refine blN ?_ _)|((with_reducible first|refine blA ?_ ?_ _|refine blS ?_ ?_ _|refine blT (by assumption) ?_ ?_);focus (go_size;done)))⟩
   ·have hro : rowsD rows other = rows:=by unfold rowsD;rw [if_neg hrow]
    rw [hro] at hin ⊢
    have HDC:=Lib.hid (fun (W : World) (hW : Below w.heap.size w W) => decide18_any p p1 p11 names order rows (.slice NA names.length NC) (.slice OA order.length OC) (.slice RA rows.length RC) W W (Below.refl _ _) (tabs_below hT hW) (hn.below hW) (ho.below hW) (hr.below hW) hin h8)
    by_cases hr0 : rows.length = 0
    ·have hv0 : other.length = 0:=by omega
     rw [hr0] at HFM HDC hrc ⊢
     rw [hv0] at HFM hvc ⊢
     clear hr0 hv0 hrow
     have HCS2:=HCS
     generalize decR p names order _ = Z0 at HDC ⊢
     obtain ⟨d,e⟩:=Z0
     unfold RetP at HDC
     dsimp only at HDC
     clear hfp hfT hpb hZ hcase h8f hin h8 hT hn ho hr hv q1 q2 q3 q4 hro
     by_cases he : e = 0
     ·subst he
      obtain ⟨c,hc⟩ : ∃ c,c = chkV d:=⟨_,rfl⟩
      have HCK:=Lib.hid (fun (A : Option Addr) (C : Nat) (A2 : Option Addr) (C2 : Nat) (W : World) (hT : Tabs W) (hv : VA W d A C A2 C2) => vcheck_any d A C A2 C2 W hT hv)
      rw [← hc] at HCK
      by_cases hc0 : c = 0
      ·have hE : endD (d,0) = (d,0):=by unfold endD;rw [if_neg (by simp),if_neg (by rw [← hc];simp [hc0])]
       have h6 : d.size ≤ 1000000:=by
        rw [hc0] at hc
        unfold chkV at hc
        split at hc
        ·omega
        ·omega
       have HCP:=Lib.hid (fun (A : Option Addr) (C : Nat) (A2 : Option Addr) (C2 : Nat) (W : World) (hv : VA W d A C A2 C2) => copied_any d A C A2 C2 W h6 hv)
       unfold RetC at HCP
       rw [hE]
       clear hE h6 hc
       subst hc0
       go_enter Tryz.func22,Tryz.ntmps22
       go_upto_region 3 with (fail)
       go_cut [35] from 14 (fun s35 wx => s35 = .bool false ∧ Below w.heap.size w wx ∧ w.heap.size < wx.heap.size ∧ Hid (Bk wx w.heap.size 34 zc10))
       case first =>
        rcases HCS.out with hq | ⟨hq,hq2⟩
        ·go_wp2_with (go_at_call 38;(with_reducible refine (HFM.out _ (by (repeat' first|(with_reducible first|exact blR _ _|assumption|refine blD ?_|refine blN ?_ _)|((with_reducible first|refine blA ?_ ?_ _|refine blS ?_ ?_ _|refine blT (by assumption) ?_ ?_);focus (go_size;done))))).mono ?_);rintro _ w2 ⟨rfl,hb2⟩;have hb2s:=hb2.size;(try simp only [World.size_alloc] at hb2s);(try have : w.heap.size < w2.heap.size:=by omega);(try have : w.heap.size + 1 < w2.heap.size:=by omega);(try have : w.heap.size + 1 + 1 < w2.heap.size:=by omega);(try have : w.heap.size + 1 + 1 + 1 < w2.heap.size:=by omega);obtain ⟨hb2c,hb2f⟩:=bcell hb2)
         go_meet
         exact ⟨rfl,by (repeat' first|(with_reducible first|exact blR _ _|assumption|refine blD ?_|refine blN ?_ _)|((with_reducible first|refine blA ?_ ?_ _|refine blS ?_ ?_ _|refine blT (by assumption) ?_ ?_);focus (go_size;done))),by omega,Lib.hid (by unfold zc10;(repeat (first|(with_reducible assumption)|((with_reducible refine bkW ?_);(first|rfl|(simp only [wsA,wsS,wsD,wsN];done)))|(with_reducible first|refine bkA ?_ _|refine bkD ?_|refine bkN ?_ _)|((with_reducible refine bkF ?_ ?_ _);focus (simp only [];omega))|((with_reducible refine bkB (by assumption) ?_ ?_);focus (go_size;done)))))⟩
        ·have hq3 : decide ((1 : Int) < (names.length : Int)) = false:=decide_eq_false (by omega)
         go_wp2_with (go_at_call 38;(with_reducible refine (HFM.out _ (by (repeat' first|(with_reducible first|exact blR _ _|assumption|refine blD ?_|refine blN ?_ _)|((with_reducible first|refine blA ?_ ?_ _|refine blS ?_ ?_ _|refine blT (by assumption) ?_ ?_);focus (go_size;done))))).mono ?_);rintro _ w2 ⟨rfl,hb2⟩;have hb2s:=hb2.size;(try simp only [World.size_alloc] at hb2s);(try have : w.heap.size < w2.heap.size:=by omega);(try have : w.heap.size + 1 < w2.heap.size:=by omega);(try have : w.heap.size + 1 + 1 < w2.heap.size:=by omega);(try have : w.heap.size + 1 + 1 + 1 < w2.heap.size:=by omega);obtain ⟨hb2c,hb2f⟩:=bcell hb2)
         go_meet
         exact ⟨rfl,by (repeat' first|(with_reducible first|exact blR _ _|assumption|refine blD ?_|refine blN ?_ _)|((with_reducible first|refine blA ?_ ?_ _|refine blS ?_ ?_ _|refine blT (by assumption) ?_ ?_);focus (go_size;done))),by omega,Lib.hid (by unfold zc10;(repeat (first|(with_reducible assumption)|((with_reducible refine bkW ?_);(first|rfl|(simp only [wsA,wsS,wsD,wsN];done)))|(with_reducible first|refine bkA ?_ _|refine bkD ?_|refine bkN ?_ _)|((with_reducible refine bkF ?_ ?_ _);focus (simp only [];omega))|((with_reducible refine bkB (by assumption) ?_ ?_);focus (go_size;done)))))⟩
       case rest =>
        obtain ⟨rfl,hb2,hb2s,hz2⟩:=hcut
        generalize wc = w2 at *
        obtain ⟨hb2c,hb2f⟩:=bcell0 hb2
        go_wp2_with (first | (go_at_call 39;(with_reducible refine (HDC.out _ (by (repeat' first|(with_reducible first|exact blR _ _|assumption|refine blD ?_|refine blN ?_ _)|((with_reducible first|refine blA ?_ ?_ _|refine blS ?_ ?_ _|refine blT (by assumption) ?_ ?_);focus (go_size;done))))).mono ?_);rintro _ w3 ⟨VA,VC,VA2,VC2,rfl,hva,hb3⟩;have HVA:=Lib.hid hva;clear hva;have hb3s:=hb3.size;(try have : w.heap.size < w3.heap.size:=by omega);(try have : w.heap.size + 1 < w3.heap.size:=by omega);(try have : w.heap.size + 1 + 1 < w3.heap.size:=by omega);(try have : w.heap.size + 1 + 1 + 1 < w3.heap.size:=by omega);obtain ⟨hb3c,hb3f⟩:=bcell hb3;(skip)) | (go_at_call 40;(with_reducible refine (HCK.out VA VC VA2 VC2 _ (tabs_below HT.out (by (repeat' first|(with_reducible first|exact blR _ _|assumption|refine blD ?_|refine blN ?_ _)|((with_reducible first|refine blA ?_ ?_ _|refine blS ?_ ?_ _|refine blT (by assumption) ?_ ?_);focus (go_size;done))))) (va_below HVA.out (by (repeat' first|(with_reducible first|exact blR _ _|assumption|refine blD ?_|refine blN ?_ _)|((with_reducible first|refine blA ?_ ?_ _|refine blS ?_ ?_ _|refine blT (by assumption) ?_ ?_);focus (go_size;done)))))).mono ?_);rintro _ w4 ⟨rfl,hb4⟩;have hb4s:=hb4.size;(try simp only [World.size_alloc] at hb4s);(try have : w.heap.size < w4.heap.size:=by omega);(try have : w.heap.size + 1 < w4.heap.size:=by omega);(try have : w.heap.size + 1 + 1 < w4.heap.size:=by omega);(try have : w.heap.size + 1 + 1 + 1 < w4.heap.size:=by omega);(try have : w3.heap.size < w4.heap.size:=by omega);(try have : w3.heap.size + 1 < w4.heap.size:=by omega);(try have : w3.heap.size + 1 + 1 < w4.heap.size:=by omega);(try have : w3.heap.size + 1 + 1 + 1 < w4.heap.size:=by omega);obtain ⟨hb4c,hb4f⟩:=bcell hb4;(skip)) | (go_at_call 41;(with_reducible refine (HCP.out VA VC VA2 VC2 _ (va_below HVA.out (by (repeat' first|(with_reducible first|exact blR _ _|assumption|refine blD ?_|refine blN ?_ _)|((with_reducible first|refine blA ?_ ?_ _|refine blS ?_ ?_ _|refine blT (by assumption) ?_ ?_);focus (go_size;done)))))).mono ?_);rintro _ w5 ⟨XA,XC,XA2,XC2,rfl,hvb,hb5⟩;have HVB:=Lib.hid hvb;clear hvb;have hb5s:=hb5.size;(try simp only [World.size_alloc] at hb5s);(try have : w.heap.size < w5.heap.size:=by omega);(try have : w.heap.size + 1 < w5.heap.size:=by omega);(try have : w.heap.size + 1 + 1 < w5.heap.size:=by omega);(try have : w.heap.size + 1 + 1 + 1 < w5.heap.size:=by omega);have k0:=hz2.out;have k1 : Bk w5 w.heap.size 34 zc10:=(by (repeat (first|(with_reducible assumption)|((with_reducible refine bkW ?_);(first|rfl|(simp only [wsA,wsS,wsD,wsN];done)))|(with_reducible first|refine bkA ?_ _|refine bkD ?_|refine bkN ?_ _)|((with_reducible refine bkF ?_ ?_ _);focus (simp only [];omega))|((with_reducible refine bkB (by assumption) ?_ ?_);focus (go_size;done)))));have mb : Below w.heap.size w w5:=(by (repeat' first|(with_reducible first|exact blR _ _|assumption|refine blD ?_|refine blN ?_ _)|((with_reducible first|refine blA ?_ ?_ _|refine blS ?_ ?_ _|refine blT (by assumption) ?_ ?_);focus (go_size;done))));obtain ⟨⟨z0,z1,z2,z3,z4,z5,z6,z7,z8,z9⟩,zf⟩:=k1.zcd;clear k1))
        refine bodyPost_ret (by simp [results,Tryz.results22,go_sem, *];try rfl) rfl ?_
        refine ⟨XA,XC,XA2,XC2,rfl,fun W' hW' => HVB.out _ (fun b hb => (hW' b (by simp only [World.size_setCell];omega)).trans ?_),by (repeat' first|(with_reducible first|exact blR _ _|assumption|refine blD ?_|refine blN ?_ _)|((with_reducible first|refine blA ?_ ?_ _|refine blS ?_ ?_ _|refine blT (by assumption) ?_ ?_);focus (go_size;done)))⟩
        repeat rw [Below.heap_setCell _ _ _ _ (by show b ≠ w.heap.size;omega)]
      ·have hE : endD (d,0) = (VD.zero,c):=by unfold endD;rw [if_neg (by simp),if_pos (by rw [← hc];exact hc0),hc]
       have hc1 : (c == 0) = false:=by rw [beq_eq_false_iff_ne];exact hc0
       have hc2 : (c != 0) = true:=by rw [bne_iff_ne];exact hc0
       rw [hE]
       clear hE hc hc0
       go_enter Tryz.func22,Tryz.ntmps22
       go_upto_region 3 with (fail)
       go_cut [35] from 14 (fun s35 wx => s35 = .bool false ∧ Below w.heap.size w wx ∧ w.heap.size < wx.heap.size ∧ Hid (Bk wx w.heap.size 34 zc10))
       case first =>
        rcases HCS.out with hq | ⟨hq,hq2⟩
        ·go_wp2_with (go_at_call 38;(with_reducible refine (HFM.out _ (by (repeat' first|(with_reducible first|exact blR _ _|assumption|refine blD ?_|refine blN ?_ _)|((with_reducible first|refine blA ?_ ?_ _|refine blS ?_ ?_ _|refine blT (by assumption) ?_ ?_);focus (go_size;done))))).mono ?_);rintro _ w2 ⟨rfl,hb2⟩;have hb2s:=hb2.size;(try simp only [World.size_alloc] at hb2s);(try have : w.heap.size < w2.heap.size:=by omega);(try have : w.heap.size + 1 < w2.heap.size:=by omega);(try have : w.heap.size + 1 + 1 < w2.heap.size:=by omega);(try have : w.heap.size + 1 + 1 + 1 < w2.heap.size:=by omega);obtain ⟨hb2c,hb2f⟩:=bcell hb2)
         go_meet
         exact ⟨rfl,by (repeat' first|(with_reducible first|exact blR _ _|assumption|refine blD ?_|refine blN ?_ _)|((with_reducible first|refine blA ?_ ?_ _|refine blS ?_ ?_ _|refine blT (by assumption) ?_ ?_);focus (go_size;done))),by omega,Lib.hid (by unfold zc10;(repeat (first|(with_reducible assumption)|((with_reducible refine bkW ?_);(first|rfl|(simp only [wsA,wsS,wsD,wsN];done)))|(with_reducible first|refine bkA ?_ _|refine bkD ?_|refine bkN ?_ _)|((with_reducible refine bkF ?_ ?_ _);focus (simp only [];omega))|((with_reducible refine bkB (by assumption) ?_ ?_);focus (go_size;done)))))⟩
        ·have hq3 : decide ((1 : Int) < (names.length : Int)) = false:=decide_eq_false (by omega)
         go_wp2_with (go_at_call 38;(with_reducible refine (HFM.out _ (by (repeat' first|(with_reducible first|exact blR _ _|assumption|refine blD ?_|refine blN ?_ _)|((with_reducible first|refine blA ?_ ?_ _|refine blS ?_ ?_ _|refine blT (by assumption) ?_ ?_);focus (go_size;done))))).mono ?_);rintro _ w2 ⟨rfl,hb2⟩;have hb2s:=hb2.size;(try simp only [World.size_alloc] at hb2s);(try have : w.heap.size < w2.heap.size:=by omega);(try have : w.heap.size + 1 < w2.heap.size:=by omega);(try have : w.heap.size + 1 + 1 < w2.heap.size:=by omega);(try have : w.heap.size + 1 + 1 + 1 < w2.heap.size:=by omega);obtain ⟨hb2c,hb2f⟩:=bcell hb2)
         go_meet
         exact ⟨rfl,by (repeat' first|(with_reducible first|exact blR _ _|assumption|refine blD ?_|refine blN ?_ _)|((with_reducible first|refine blA ?_ ?_ _|refine blS ?_ ?_ _|refine blT (by assumption) ?_ ?_);focus (go_size;done))),by omega,Lib.hid (by unfold zc10;(repeat (first|(with_reducible assumption)|((with_reducible refine bkW ?_);(first|rfl|(simp only [wsA,wsS,wsD,wsN];done)))|(with_reducible first|refine bkA ?_ _|refine bkD ?_|refine bkN ?_ _)|((with_reducible refine bkF ?_ ?_ _);focus (simp only [];omega))|((with_reducible refine bkB (by assumption) ?_ ?_);focus (go_size;done)))))⟩
       case rest =>
        obtain ⟨rfl,hb2,hb2s,hz2⟩:=hcut
        generalize wc = w2 at *
        obtain ⟨hb2c,hb2f⟩:=bcell0 hb2
        go_wp2_with (first | (go_at_call 39;(with_reducible refine (HDC.out _ (by (repeat' first|(with_reducible first|exact blR _ _|assumption|refine blD ?_|refine blN ?_ _)|((with_reducible first|refine blA ?_ ?_ _|refine blS ?_ ?_ _|refine blT (by assumption) ?_ ?_);focus (go_size;done))))).mono ?_);rintro _ w3 ⟨VA,VC,VA2,VC2,rfl,hva,hb3⟩;have HVA:=Lib.hid hva;clear hva;have hb3s:=hb3.size;(try have : w.heap.size < w3.heap.size:=by omega);(try have : w.heap.size + 1 < w3.heap.size:=by omega);(try have : w.heap.size + 1 + 1 < w3.heap.size:=by omega);(try have : w.heap.size + 1 + 1 + 1 < w3.heap.size:=by omega);obtain ⟨hb3c,hb3f⟩:=bcell hb3;(skip)) | (go_at_call 40;(with_reducible refine (HCK.out VA VC VA2 VC2 _ (tabs_below HT.out (by (repeat' first|(with_reducible first|exact blR _ _|assumption|refine blD ?_|refine blN ?_ _)|((with_reducible first|refine blA ?_ ?_ _|refine blS ?_ ?_ _|refine blT (by assumption) ?_ ?_);focus (go_size;done))))) (va_below HVA.out (by (repeat' first|(with_reducible first|exact blR _ _|assumption|refine blD ?_|refine blN ?_ _)|((with_reducible first|refine blA ?_ ?_ _|refine blS ?_ ?_ _|refine blT (by assumption) ?_ ?_);focus (go_size;done)))))).mono ?_);rintro _ w4 ⟨rfl,hb4⟩;have hb4s:=hb4.size;(try simp only [World.size_alloc] at hb4s);(try have : w.heap.size < w4.heap.size:=by omega);(try have : w.heap.size + 1 < w4.heap.size:=by omega);(try have : w.heap.size + 1 + 1 < w4.heap.size:=by omega);(try have : w.heap.size + 1 + 1 + 1 < w4.heap.size:=by omega);(try have : w3.heap.size < w4.heap.size:=by omega);(try have : w3.heap.size + 1 < w4.heap.size:=by omega);(try have : w3.heap.size + 1 + 1 < w4.heap.size:=by omega);(try have : w3.heap.size + 1 + 1 + 1 < w4.heap.size:=by omega);obtain ⟨hb4c,hb4f⟩:=bcell hb4;(have k0:=hz2.out;have k1 : Bk w4 w.heap.size 34 zc10:=(by (repeat (first|(with_reducible assumption)|((with_reducible refine bkW ?_);(first|rfl|(simp only [wsA,wsS,wsD,wsN];done)))|(with_reducible first|refine bkA ?_ _|refine bkD ?_|refine bkN ?_ _)|((with_reducible refine bkF ?_ ?_ _);focus (simp only [];omega))|((with_reducible refine bkB (by assumption) ?_ ?_);focus (go_size;done)))));have mb : Below w.heap.size w w4:=(by (repeat' first|(with_reducible first|exact blR _ _|assumption|refine blD ?_|refine blN ?_ _)|((with_reducible first|refine blA ?_ ?_ _|refine blS ?_ ?_ _|refine blT (by assumption) ?_ ?_);focus (go_size;done))));obtain ⟨⟨z0,z1,z2,z3,z4,z5,z6,z7,z8,z9⟩,zf⟩:=k1.zcd;clear k1;clear hb4c hb4f)))
        refine bodyPost_ret (by simp [results,Tryz.results22,go_sem, *];try rfl) rfl ?_
        exact ⟨none,0,none,0,by rw [zero_vargs],fun _ _ => va_flat VS.zero_ok,by (repeat' first|(with_reducible first|exact blR _ _|assumption|refine blD ?_|refine blN ?_ _)|((with_reducible first|refine blA ?_ ?_ _|refine blS ?_ ?_ _|refine blT (by assumption) ?_ ?_);focus (go_size;done)))⟩
     ·have hE : endD (d,e) = (VD.zero,e):=by unfold endD;rw [if_pos (by exact he)]
      have hc1 : (e == 0) = false:=by rw [beq_eq_false_iff_ne];exact he
      have hc2 : (e != 0) = true:=by rw [bne_iff_ne];exact he
      rw [hE]
      clear hE he
      go_enter Tryz.func22,Tryz.ntmps22
      go_upto_region 3 with (fail)
      go_cut [35] from 14 (fun s35 wx => s35 = .bool false ∧ Below w.heap.size w wx ∧ w.heap.size < wx.heap.size ∧ Hid (Bk wx w.heap.size 34 zc10))
      case first =>
       rcases HCS.out with hq | ⟨hq,hq2⟩
       ·go_wp2_with (go_at_call 38;(with_reducible refine (HFM.out _ (by (repeat' first|(with_reducible first|exact blR _ _|assumption|refine blD ?_|refine blN ?_ _)|((with_reducible first|refine blA ?_ ?_ _|refine blS ?_ ?_ _|refine blT (by assumption) ?_ ?_);focus (go_size;done))))).mono ?_);rintro _ w2 ⟨rfl,hb2⟩;have hb2s:=hb2.size;(try simp only [World.size_alloc] at hb2s);(try have : w.heap.size < w2.heap.size:=by omega);(try have : w.heap.size + 1 < w2.heap.size:=by omega);(try have : w.heap.size + 1 + 1 < w2.heap.size:=by omega);(try have : w.heap.size + 1 + 1 + 1 < w2.heap.size:=by omega);obtain ⟨hb2c,hb2f⟩:=bcell hb2)
        go_meet
        exact ⟨rfl,by (repeat' first|(with_reducible first|exact blR _ _|assumption|refine blD ?_|refine blN ?_ _)|((with_reducible first|refine blA ?_ ?_ _|refine blS ?_ ?_ _|refine blT (by assumption) ?_ ?_);focus (go_size;done))),by omega,Lib.hid (by unfold zc10;(repeat (first|(with_reducible assumption)|((with_reducible refine bkW ?_);(first|rfl|(simp only [wsA,wsS,wsD,wsN];done)))|(with_reducible first|refine bkA ?_ _|refine bkD ?_|refine bkN ?_ _)|((with_reducible refine bkF ?_ ?_ _);focus (simp only [];omega))|((with_reducible refine bkB (by assumption) ?_ ?_);focus (go_size;done)))))⟩
       ·have hq3 : decide ((1 : Int) < (names.length : Int)) = false:=decide_eq_false (by omega)
        go_wp2_with (go_at_call 38;(with_reducible refine (HFM.out _ (by (repeat' first|(with_reducible first|exact blR _ _|assumption|refine blD ?_|refine blN ?_ _)|((with_reducible first|refine blA ?_ ?_ _|refine blS ?_ ?_ _|refine blT (by assumption) ?_ ?_);focus (go_size;done))))).mono ?_);rintro _ w2 ⟨rfl,hb2⟩;have hb2s:=hb2.size;(try simp only [World.size_alloc] at hb2s);(try have : w.heap.size < w2.heap.size:=by omega);(try have : w.heap.size + 1 < w2.heap.size:=by omega);(try have : w.heap.size + 1 + 1 < w2.heap.size:=by omega);(try have : w.heap.size + 1 + 1 + 1 < w2.heap.size:=by omega);obtain ⟨hb2c,hb2f⟩:=bcell hb2)
        go_meet
        exact ⟨rfl,by (repeat' first|(with_reducible first|exact blR _ _|assumption|refine blD ?_|refine blN ?_ _)|((with_reducible first|refine blA ?_ ?_ _|refine blS ?_ ?_ _|refine blT (by assumption) ?_ ?_);focus (go_size;done))),by omega,Lib.hid (by unfold zc10;(repeat (first|(with_reducible assumption)|((with_reducible refine bkW ?_);(first|rfl|(simp only [wsA,wsS,wsD,wsN];done)))|(with_reducible first|refine bkA ?_ _|refine bkD ?_|refine bkN ?_ _)|((with_reducible refine bkF ?_ ?_ _);focus (simp only [];omega))|((with_reducible refine bkB (by assumption) ?_ ?_);focus (go_size;done)))))⟩
      case rest =>
       obtain ⟨rfl,hb2,hb2s,hz2⟩:=hcut
       generalize wc = w2 at *
       obtain ⟨hb2c,hb2f⟩:=bcell0 hb2
       go_upto_if 57 with (go_at_call 39;(with_reducible refine (HDC.out _ (by (repeat' first|(with_reducible first|exact blR _ _|assumption|refine blD ?_|refine blN ?_ _)|((with_reducible first|refine blA ?_ ?_ _|refine blS ?_ ?_ _|refine blT (by assumption) ?_ ?_);focus (go_size;done))))).mono ?_);rintro _ w3 ⟨VA,VC,VA2,VC2,rfl,hva,hb3⟩;have HVA:=Lib.hid hva;clear hva;have hb3s:=hb3.size;(try have : w.heap.size < w3.heap.size:=by omega);(try have : w.heap.size + 1 < w3.heap.size:=by omega);(try have : w.heap.size + 1 + 1 < w3.heap.size:=by omega);(try have : w.heap.size + 1 + 1 + 1 < w3.heap.size:=by omega);obtain ⟨hb3c,hb3f⟩:=bcell hb3;(skip))
       generalize hW : w3.alloc _ = W
       have k0:=hz2.out
       have k1 : Bk W w.heap.size 34 zc10:=by
        rw [← hW]
        (repeat (first|(with_reducible assumption)|((with_reducible refine bkW ?_);(first|rfl|(simp only [wsA,wsS,wsD,wsN];done)))|(with_reducible first|refine bkA ?_ _|refine bkD ?_|refine bkN ?_ _)|((with_reducible refine bkF ?_ ?_ _);focus (simp only [];omega))|((with_reducible refine bkB (by assumption) ?_ ?_);focus (go_size;done))))
       have mb : Below w.heap.size w W:=by
        rw [← hW]
        (repeat' first|(with_reducible first|exact blR _ _|assumption|refine blD ?_|refine blN ?_ _)|((with_reducible first|refine blA ?_ ?_ _|refine blS ?_ ?_ _|refine blT (by assumption) ?_ ?_);focus (go_size;done)))
       clear hb3c hb3f hb2c hb2f hb3 hb2 hW
       obtain ⟨⟨z0,z1,z2,z3,z4,z5,z6,z7,z8,z9⟩,zf⟩:=k1.zcd
       clear k1 k0
       go_wp2_with fail
       refine bodyPost_ret (by simp [results,Tryz.results22,go_sem, *];try rfl) rfl ?_
       exact ⟨none,0,none,0,by rw [zero_vargs],fun _ _ => va_flat VS.zero_ok,by (repeat' first|(with_reducible first|exact blR _ _|assumption|refine blD ?_|refine blN ?_ _)|((with_reducible first|refine blA ?_ ?_ _|refine blS ?_ ?_ _|refine blT (by assumption) ?_ ?_);focus (go_size;done)))⟩
    ·have hrf : ((rows.length : Int) == 0) = false:=by rw [beq_eq_false_iff_ne];omega
     clear hr0 hrow
     have HCS2:=HCS
     generalize decR p names order _ = Z0 at HDC ⊢
     obtain ⟨d,e⟩:=Z0
     unfold RetP at HDC
     dsimp only at HDC
     clear hfp hfT hpb hZ hcase h8f hin h8 hT hn ho hr hv q1 q2 q3 q4 hro
     by_cases he : e = 0
     ·subst he
      obtain ⟨c,hc⟩ : ∃ c,c = chkV d:=⟨_,rfl⟩
      have HCK:=Lib.hid (fun (A : Option Addr) (C : Nat) (A2 : Option Addr) (C2 : Nat) (W : World) (hT : Tabs W) (hv : VA W d A C A2 C2) => vcheck_any d A C A2 C2 W hT hv)
      rw [← hc] at HCK
      by_cases hc0 : c = 0
      ·have hE : endD (d,0) = (d,0):=by unfold endD;rw [if_neg (by simp),if_neg (by rw [← hc];simp [hc0])]
       have h6 : d.size ≤ 1000000:=by
        rw [hc0] at hc
        unfold chkV at hc
        split at hc
        ·omega
        ·omega
       have HCP:=Lib.hid (fun (A : Option Addr) (C : Nat) (A2 : Option Addr) (C2 : Nat) (W : World) (hv : VA W d A C A2 C2) => copied_any d A C A2 C2 W h6 hv)
       unfold RetC at HCP
       rw [hE]
       clear hE h6 hc
       subst hc0
       go_enter Tryz.func22,Tryz.ntmps22
       go_upto_region 3 with (fail)
       go_cut [35] from 14 (fun s35 wx => s35 = .bool false ∧ Below w.heap.size w wx ∧ w.heap.size < wx.heap.size ∧ Hid (Bk wx w.heap.size 34 zc10))
       case first =>
        rcases HCS.out with hq | ⟨hq,hq2⟩
        ·go_wp2_with (go_at_call 38;(with_reducible refine (HFM.out _ (by (repeat' first|(with_reducible first|exact blR _ _|assumption|refine blD ?_|refine blN ?_ _)|((with_reducible first|refine blA ?_ ?_ _|refine blS ?_ ?_ _|refine blT (by assumption) ?_ ?_);focus (go_size;done))))).mono ?_);rintro _ w2 ⟨rfl,hb2⟩;have hb2s:=hb2.size;(try simp only [World.size_alloc] at hb2s);(try have : w.heap.size < w2.heap.size:=by omega);(try have : w.heap.size + 1 < w2.heap.size:=by omega);(try have : w.heap.size + 1 + 1 < w2.heap.size:=by omega);(try have : w.heap.size + 1 + 1 + 1 < w2.heap.size:=by omega);obtain ⟨hb2c,hb2f⟩:=bcell hb2)
         go_meet
         exact ⟨rfl,by (repeat' first|(with_reducible first|exact blR _ _|assumption|refine blD ?_|refine blN ?_ _)|((with_reducible first|refine blA ?_ ?_ _|refine blS ?_ ?_ _|refine blT (by assumption) ?_ ?_);focus (go_size;done))),by omega,Lib.hid (by unfold zc10;(repeat (first|(with_reducible assumption)|((with_reducible refine bkW ?_);(first|rfl|(simp only [wsA,wsS,wsD,wsN];done)))|(with_reducible first|refine bkA ?_ _|refine bkD ?_|refine bkN ?_ _)|((with_reducible refine bkF ?_ ?_ _);focus (simp only [];omega))|((with_reducible refine bkB (by assumption) ?_ ?_);focus (go_size;done)))))⟩
        ·have hq3 : decide ((1 : Int) < (names.length : Int)) = false:=decide_eq_false (by omega)
         go_wp2_with (go_at_call 38;(with_reducible refine (HFM.out _ (by (repeat' first|(with_reducible first|exact blR _ _|assumption|refine blD ?_|refine blN ?_ _)|((with_reducible first|refine blA ?_ ?_ _|refine blS ?_ ?_ _|refine blT (by assumption) ?_ ?_);focus (go_size;done))))).mono ?_);rintro _ w2 ⟨rfl,hb2⟩;have hb2s:=hb2.size;(try simp only [World.size_alloc] at hb2s);(try have : w.heap.size < w2.heap.size:=by omega);(try have : w.heap.size + 1 < w2.heap.size:=by omega);(try have : w.heap.size + 1 + 1 < w2.heap.size:=by omega);(try have : w.heap.size + 1 + 1 + 1 < w2.heap.size:=by omega);obtain ⟨hb2c,hb2f⟩:=bcell hb2)
         go_meet
         exact ⟨rfl,by (repeat' first|(with_reducible first|exact blR _ _|assumption|refine blD ?_|refine blN ?_ _)|((with_reducible first|refine blA ?_ ?_ _|refine blS ?_ ?_ _|refine blT (by assumption) ?_ ?_);focus (go_size;done))),by omega,Lib.hid (by unfold zc10;(repeat (first|(with_reducible assumption)|((with_reducible refine bkW ?_);(first|rfl|(simp only [wsA,wsS,wsD,wsN];done)))|(with_reducible first|refine bkA ?_ _|refine bkD ?_|refine bkN ?_ _)|((with_reducible refine bkF ?_ ?_ _);focus (simp only [];omega))|((with_reducible refine bkB (by assumption) ?_ ?_);focus (go_size;done)))))⟩
       case rest =>
        obtain ⟨rfl,hb2,hb2s,hz2⟩:=hcut
        generalize wc = w2 at *
        obtain ⟨hb2c,hb2f⟩:=bcell0 hb2
        go_wp2_with (first | (go_at_call 39;(with_reducible refine (HDC.out _ (by (repeat' first|(with_reducible first|exact blR _ _|assumption|refine blD ?_|refine blN ?_ _)|((with_reducible first|refine blA ?_ ?_ _|refine blS ?_ ?_ _|refine blT (by assumption) ?_ ?_);focus (go_size;done))))).mono ?_);rintro _ w3 ⟨VA,VC,VA2,VC2,rfl,hva,hb3⟩;have HVA:=Lib.hid hva;clear hva;have hb3s:=hb3.size;(try have : w.heap.size < w3.heap.size:=by omega);(try have : w.heap.size + 1 < w3.heap.size:=by omega);(try have : w.heap.size + 1 + 1 < w3.heap.size:=by omega);(try have : w.heap.size + 1 + 1 + 1 < w3.heap.size:=by omega);obtain ⟨hb3c,hb3f⟩:=bcell hb3;(skip)) | (go_at_call 40;(with_reducible refine (HCK.out VA VC VA2 VC2 _ (tabs_below HT.out (by (repeat' first|(with_reducible first|exact blR _ _|assumption|refine blD ?_|refine blN ?_ _)|((with_reducible first|refine blA ?_ ?_ _|refine blS ?_ ?_ _|refine blT (by assumption) ?_ ?_);focus (go_size;done))))) (va_below HVA.out (by (repeat' first|(with_reducible first|exact blR _ _|assumption|refine blD ?_|refine blN ?_ _)|((with_reducible first|refine blA ?_ ?_ _|refine blS ?_ ?_ _|refine blT (by assumption) ?_ ?_);focus (go_size;done)))))).mono ?_);rintro _ w4 ⟨rfl,hb4⟩;have hb4s:=hb4.size;(try simp only [World.size_alloc] at hb4s);(try have : w.heap.size < w4.heap.size:=by omega);(try have : w.heap.size + 1 < w4.heap.size:=by omega);(try have : w.heap.size + 1 + 1 < w4.heap.size:=by omega);(try have : w.heap.size + 1 + 1 + 1 < w4.heap.size:=by omega);(try have : w3.heap.size < w4.heap.size:=by omega);(try have : w3.heap.size + 1 < w4.heap.size:=by omega);(try have : w3.heap.size + 1 + 1 < w4.heap.size:=by omega);(try have : w3.heap.size + 1 + 1 + 1 < w4.heap.size:=by omega);obtain ⟨hb4c,hb4f⟩:=bcell hb4;(skip)) | (go_at_call 41;(with_reducible refine (HCP.out VA VC VA2 VC2 _ (va_below HVA.out (by (repeat' first|(with_reducible first|exact blR _ _|assumption|refine blD ?_|refine blN ?_ _)|((with_reducible first|refine blA ?_ ?_ _|refine blS ?_ ?_ _|refine blT (by assumption) ?_ ?_);focus (go_size;done)))))).mono ?_);rintro _ w5 ⟨XA,XC,XA2,XC2,rfl,hvb,hb5⟩;have HVB:=Lib.hid hvb;clear hvb;have hb5s:=hb5.size;(try simp only [World.size_alloc] at hb5s);(try have : w.heap.size < w5.heap.size:=by omega);(try have : w.heap.size + 1 < w5.heap.size:=by omega);(try have : w.heap.size + 1 + 1 < w5.heap.size:=by omega);(try have : w.heap.size + 1 + 1 + 1 < w5.heap.size:=by omega);have k0:=hz2.out;have k1 : Bk w5 w.heap.size 34 zc10:=(by (repeat (first|(with_reducible assumption)|((with_reducible refine bkW ?_);(first|rfl|(simp only [wsA,wsS,wsD,wsN];done)))|(with_reducible first|refine bkA ?_ _|refine bkD ?_|refine bkN ?_ _)|((with_reducible refine bkF ?_ ?_ _);focus (simp only [];omega))|((with_reducible refine bkB (by assumption) ?_ ?_);focus (go_size;done)))));have mb : Below w.heap.size w w5:=(by (repeat' first|(with_reducible first|exact blR _ _|assumption|refine blD ?_|refine blN ?_ _)|((with_reducible first|refine blA ?_ ?_ _|refine blS ?_ ?_ _|refine blT (by assumption) ?_ ?_);focus (go_size;done))));obtain ⟨⟨z0,z1,z2,z3,z4,z5,z6,z7,z8,z9⟩,zf⟩:=k1.zcd;clear k1))
        refine bodyPost_ret (by simp [results,Tryz.results22,go_sem, *];try rfl) rfl ?_
        refine ⟨XA,XC,XA2,XC2,rfl,fun W' hW' => HVB.out _ (fun b hb => (hW' b (by simp only [World.size_setCell];omega)).trans ?_),by (repeat' first|(with_reducible first|exact blR _ _|assumption|refine blD ?_|refine blN ?_ _)|((with_reducible first|refine blA ?_ ?_ _|refine blS ?_ ?_ _|refine blT (by assumption) ?_ ?_);focus (go_size;done)))⟩
        repeat rw [Below.heap_setCell _ _ _ _ (by show b ≠ w.heap.size;omega)]
      ·have hE : endD (d,0) = (VD.zero,c):=by unfold endD;rw [if_neg (by simp),if_pos (by rw [← hc];exact hc0),hc]
       have hc1 : (c == 0) = false:=by rw [beq_eq_false_iff_ne];exact hc0
       have hc2 : (c != 0) = true:=by rw [bne_iff_ne];exact hc0
       rw [hE]
       clear hE hc hc0
       go_enter Tryz.func22,Tryz.ntmps22
       go_upto_region 3 with (fail)
       go_cut [35] from 14 (fun s35 wx => s35 = .bool false ∧ Below w.heap.size w wx ∧ w.heap.size < wx.heap.size ∧ Hid (Bk wx w.heap.size 34 zc10))
       case first =>
        rcases HCS.out with hq | ⟨hq,hq2⟩
        ·go_wp2_with (go_at_call 38;(with_reducible refine (HFM.out _ (by (repeat' first|(with_reducible first|exact blR _ _|assumption|refine blD ?_|refine blN ?_ _)|((with_reducible first|refine blA ?_ ?_ _|refine blS ?_ ?_ _|refine blT (by assumption) ?_ ?_);focus (go_size;done))))).mono ?_);rintro _ w2 ⟨rfl,hb2⟩;have hb2s:=hb2.size;(try simp only [World.size_alloc] at hb2s);(try have : w.heap.size < w2.heap.size:=by omega);(try have : w.heap.size + 1 < w2.heap.size:=by omega);(try have : w.heap.size + 1 + 1 < w2.heap.size:=by omega);(try have : w.heap.size + 1 + 1 + 1 < w2.heap.size:=by omega);obtain ⟨hb2c,hb2f⟩:=bcell hb2)
         go_meet
         exact ⟨rfl,by (repeat' first|(with_reducible first|exact blR _ _|assumption|refine blD ?_|refine blN ?_ _)|((with_reducible first|refine blA ?_ ?_ _|refine blS ?_ ?_ _|refine blT (by assumption) ?_ ?_);focus (go_size;done))),by omega,Lib.hid (by unfold zc10;(repeat (first|(with_reducible assumption)|((with_reducible refine bkW ?_);(first|rfl|(simp only [wsA,wsS,wsD,wsN];done)))|(with_reducible first|refine bkA ?_ _|refine bkD ?_|refine bkN ?_ _)|((with_reducible refine bkF ?_ ?_ _);focus (simp only [];omega))|((with_reducible refine bkB (by assumption) ?_ ?_);focus (go_size;done)))))⟩
        ·have hq3 : decide ((1 : Int) < (names.length : Int)) = false:=decide_eq_false (by omega)
         go_wp2_with (go_at_call 38;(with_reducible refine (HFM.out _ (by (repeat' first|(with_reducible first|exact blR _ _|assumption|refine blD ?_|refine blN ?_ _)|((with_reducible first|refine blA ?_ ?_ _|refine blS ?_ ?_ _|refine blT (by assumption) ?_ ?_);focus (go_size;done))))).mono ?_);rintro _ w2 ⟨rfl,hb2⟩;have hb2s:=hb2.size;(try simp only [World.size_alloc] at hb2s);(try have : w.heap.size < w2.heap.size:=by omega);(try have : w.heap.size + 1 < w2.heap.size:=by omega);(try have : w.heap.size + 1 + 1 < w2.heap.size:=by omega);(try have : w.heap.size + 1 + 1 + 1 < w2.heap.size:=by omega);obtain ⟨hb2c,hb2f⟩:=bcell hb2)
         go_meet
         exact ⟨rfl,by (repeat' first|(with_reducible first|exact blR _ _|assumption|refine blD ?_|refine blN ?_ _)|((with_reducible first|refine blA ?_ ?_ _|refine blS ?_ ?_ _|refine blT (by assumption) ?_ ?_);focus (go_size;done))),by omega,Lib.hid (by unfold zc10;(repeat (first|(with_reducible assumption)|((with_reducible refine bkW ?_);(first|rfl|(simp only [wsA,wsS,wsD,wsN];done)))|(with_reducible first|refine bkA ?_ _|refine bkD ?_|refine bkN ?_ _)|((with_reducible refine bkF ?_ ?_ _);focus (simp only [];omega))|((with_reducible refine bkB (by assumption) ?_ ?_);focus (go_size;done)))))⟩
       case rest =>
        obtain ⟨rfl,hb2,hb2s,hz2⟩:=hcut
        generalize wc = w2 at *
        obtain ⟨hb2c,hb2f⟩:=bcell0 hb2
        go_wp2_with (first | (go_at_call 39;(with_reducible refine (HDC.out _ (by (repeat' first|(with_reducible first|exact blR _ _|assumption|refine blD ?_|refine blN ?_ _)|((with_reducible first|refine blA ?_ ?_ _|refine blS ?_ ?_ _|refine blT (by assumption) ?_ ?_);focus (go_size;done))))).mono ?_);rintro _ w3 ⟨VA,VC,VA2,VC2,rfl,hva,hb3⟩;have HVA:=Lib.hid hva;clear hva;have hb3s:=hb3.size;(try have : w.heap.size < w3.heap.size:=by omega);(try have : w.heap.size + 1 < w3.heap.size:=by omega);(try have : w.heap.size + 1 + 1 < w3.heap.size:=by omega);(try have : w.heap.size + 1 + 1 + 1 < w3.heap.size:=by omega);obtain ⟨hb3c,hb3f⟩:=bcell hb3;(skip)) | (go_at_call 40;(with_reducible refine (HCK.out VA VC VA2 VC2 _ (tabs_below HT.out (by (repeat' first|(with_reducible first|exact blR _ _|assumption|refine blD ?_|refine blN ?_ _)|((with_reducible first|refine blA ?_ ?_ _|refine blS ?_ ?_ _|refine blT (by assumption) ?_ ?_);focus (go_size;done))))) (va_below HVA.out (by (repeat' first|(with_reducible first|exact blR _ _|assumption|refine blD ?_|refine blN ?_ _)|((with_reducible first|refine blA ?_ ?_ _|refine blS ?_ ?_ _|refine blT (by assumption) ?_ ?_);focus (go_size;done)))))).mono ?_);rintro _ w4 ⟨rfl,hb4⟩;have hb4s:=hb4.size;(try simp only [World.size_alloc] at hb4s);(try have : w.heap.size < w4.heap.size:=by omega);(try have : w.heap.size + 1 < w4.heap.size:=by omega);(try have : w.heap.size + 1 + 1 < w4.heap.size:=by omega);(try have : w.heap.size + 1 + 1 + 1 < w4.heap.size:=by omega);(try have : w3.heap.size < w4.heap.size:=by omega);(try have : w3.heap.size + 1 < w4.heap.size:=by omega);(try have : w3.heap.size + 1 + 1 < w4.heap.size:=by omega);(try have : w3.heap.size + 1 + 1 + 1 < w4.heap.size:=by omega);obtain ⟨hb4c,hb4f⟩:=bcell hb4;(have k0:=hz2.out;have k1 : Bk w4 w.heap.size 34 zc10:=(by (repeat (first|(with_reducible assumption)|((with_reducible refine bkW ?_);(first|rfl|(simp only [wsA,wsS,wsD,wsN];done)))|(with_reducible first|refine bkA ?_ _|refine bkD ?_|refine bkN ?_ _)|((with_reducible refine bkF ?_ ?_ _);focus (simp only [];omega))|((with_reducible refine bkB (by assumption) ?_ ?_);focus (go_size;done)))));have mb : Below w.heap.size w w4:=(by (repeat' first|(with_reducible first|exact blR _ _|assumption|refine blD ?_|refine blN ?_ _)|((with_reducible first|refine blA ?_ ?_ _|refine blS ?_ ?_ _|refine blT (by assumption) ?_ ?_);focus (go_size;done))));obtain ⟨⟨z0,z1,z2,z3,z4,z5,z6,z7,z8,z9⟩,zf⟩:=k1.zcd;clear k1;clear hb4c hb4f)))
        refine bodyPost_ret (by simp [results,Tryz.results22,go_sem, *];try rfl) rfl ?_
        exact ⟨none,0,none,0,by rw [zero_vargs],fun _ _ => va_flat VS.zero_ok,by (repeat' first|(with_reducible first|exact blR _ _|assumption|refine blD ?_|refine blN ?_ _)|((with_reducible first|refine blA ?_ ?_ _|refine blS ?_ ?_ _|refine blT (by assumption) ?_ ?_);focus (go_size;done)))⟩
     ·have hE : endD (d,e) = (VD.zero,e):=by unfold endD;rw [if_pos (by exact he)]
      have hc1 : (e == 0) = false:=by rw [beq_eq_false_iff_ne];exact he
      have hc2 : (e != 0) = true:=by rw [bne_iff_ne];exact he
      rw [hE]
      clear hE he
      go_enter Tryz.func22,Tryz.ntmps22
      go_upto_region 3 with (fail)
      go_cut [35] from 14 (fun s35 wx => s35 = .bool false ∧ Below w.heap.size w wx ∧ w.heap.size < wx.heap.size ∧ Hid (Bk wx w.heap.size 34 zc10))
      case first =>
       rcases HCS.out with hq | ⟨hq,hq2⟩
       ·go_wp2_with (go_at_call 38;(with_reducible refine (HFM.out _ (by (repeat' first|(with_reducible first|exact blR _ _|assumption|refine blD ?_|refine blN ?_ _)|((with_reducible first|refine blA ?_ ?_ _|refine blS ?_ ?_ _|refine blT (by assumption) ?_ ?_);focus (go_size;done))))).mono ?_);rintro _ w2 ⟨rfl,hb2⟩;have hb2s:=hb2.size;(try simp only [World.size_alloc] at hb2s);(try have : w.heap.size < w2.heap.size:=by omega);(try have : w.heap.size + 1 < w2.heap.size:=by omega);(try have : w.heap.size + 1 + 1 < w2.heap.size:=by omega);(try have : w.heap.size + 1 + 1 + 1 < w2.heap.size:=by omega);obtain ⟨hb2c,hb2f⟩:=bcell hb2)
        go_meet
        exact ⟨rfl,by (repeat' first|(with_reducible first|exact blR _ _|assumption|refine blD ?_|refine blN ?_ _)|((with_reducible first|refine blA ?_ ?_ _|refine blS ?_ ?_ _|refine blT (by assumption) ?_ ?_);focus (go_size;done))),by omega,Lib.hid (by unfold zc10;(repeat (first|(with_reducible assumption)|((with_reducible refine bkW ?_);(first|rfl|(simp only [wsA,wsS,wsD,wsN];done)))|(with_reducible first|refine bkA ?_ _|refine bkD ?_|refine bkN ?_ _)|((with_reducible refine bkF ?_ ?_ _);focus (simp only [];omega))|((with_reducible refine bkB (by assumption) ?_ ?_);focus (go_size;done)))))⟩
       ·have hq3 : decide ((1 : Int) < (names.length : Int)) = false:=decide_eq_false (by omega)
        go_wp2_with (go_at_call 38;(with_reducible refine (HFM.out _ (by (repeat' first|(with_reducible first|exact blR _ _|assumption|refine blD ?_|refine blN ?_ _)|((with_reducible first|refine blA ?_ ?_ _|refine blS ?_ ?_ _|refine blT (by assumption) ?_ ?_);focus (go_size;done))))).mono ?_);rintro _ w2 ⟨rfl,hb2⟩;have hb2s:=hb2.size;(try simp only [World.size_alloc] at hb2s);(try have : w.heap.size < w2.heap.size:=by omega);(try have : w.heap.size + 1 < w2.heap.size:=by omega);(try have : w.heap.size + 1 + 1 < w2.heap.size:=by omega);(try have : w.heap.size + 1 + 1 + 1 < w2.heap.size:=by omega);obtain ⟨hb2c,hb2f⟩:=bcell hb2)
        go_meet
        exact ⟨rfl,by (repeat' first|(with_reducible first|exact blR _ _|assumption|refine blD ?_|refine blN ?_ _)|((with_reducible first|refine blA ?_ ?_ _|refine blS ?_ ?_ _|refine blT (by assumption) ?_ ?_);focus (go_size;done))),by omega,Lib.hid (by unfold zc10;(repeat (first|(with_reducible assumption)|((with_reducible refine bkW ?_);(first|rfl|(simp only [wsA,wsS,wsD,wsN];done)))|(with_reducible first|refine bkA ?_ _|refine bkD ?_|refine bkN ?_ _)|((with_reducible refine bkF ?_ ?_ _);focus (simp only [];omega))|((with_reducible refine bkB (by assumption) ?_ ?_);focus (go_size;done)))))⟩
      case rest =>
       obtain ⟨rfl,hb2,hb2s,hz2⟩:=hcut
       generalize wc = w2 at *
       obtain ⟨hb2c,hb2f⟩:=bcell0 hb2
       go_upto_if 57 with (go_at_call 39;(with_reducible refine (HDC.out _ (by (repeat' first|(with_reducible first|exact blR _ _|assumption|refine blD ?_|refine blN ?_ _)|((with_reducible first|refine blA ?_ ?_ _|refine blS ?_ ?_ _|refine blT (by assumption) ?_ ?_);focus (go_size;done))))).mono ?_);rintro _ w3 ⟨VA,VC,VA2,VC2,rfl,hva,hb3⟩;have HVA:=Lib.hid hva;clear hva;have hb3s:=hb3.size;(try have : w.heap.size < w3.heap.size:=by omega);(try have : w.heap.size + 1 < w3.heap.size:=by omega);(try have : w.heap.size + 1 + 1 < w3.heap.size:=by omega);(try have : w.heap.size + 1 + 1 + 1 < w3.heap.size:=by omega);obtain ⟨hb3c,hb3f⟩:=bcell hb3;(skip))
       generalize hW : w3.alloc _ = W
       have k0:=hz2.out
       have k1 : Bk W w.heap.size 34 zc10:=by
        rw [← hW]
        (repeat (first|(with_reducible assumption)|((with_reducible refine bkW ?_);(first|rfl|(simp only [wsA,wsS,wsD,wsN];done)))|(with_reducible first|refine bkA ?_ _|refine bkD ?_|refine bkN ?_ _)|((with_reducible refine bkF ?_ ?_ _);focus (simp only [];omega))|((with_reducible refine bkB (by assumption) ?_ ?_);focus (go_size;done))))
       have mb : Below w.heap.size w W:=by
        rw [← hW]
        (repeat' first|(with_reducible first|exact blR _ _|assumption|refine blD ?_|refine blN ?_ _)|((with_reducible first|refine blA ?_ ?_ _|refine blS ?_ ?_ _|refine blT (by assumption) ?_ ?_);focus (go_size;done)))
       clear hb3c hb3f hb2c hb2f hb3 hb2 hW
       obtain ⟨⟨z0,z1,z2,z3,z4,z5,z6,z7,z8,z9⟩,zf⟩:=k1.zcd
       clear k1 k0
       go_wp2_with fail
       refine bodyPost_ret (by simp [results,Tryz.results22,go_sem, *];try rfl) rfl ?_
       exact ⟨none,0,none,0,by rw [zero_vargs],fun _ _ => va_flat VS.zero_ok,by (repeat' first|(with_reducible first|exact blR _ _|assumption|refine blD ?_|refine blN ?_ _)|((with_reducible first|refine blA ?_ ?_ _|refine blS ?_ ?_ _|refine blT (by assumption) ?_ ?_);focus (go_size;done)))⟩
  ·have hZ : decAll p names order rows other = (VD.zero,2):=by unfold decAll;rw [if_neg (by rw [hpb];decide),if_pos (by simpa using hfp)]
   rw [hZ]
   obtain ⟨z,hz⟩ : ∃ z,z = formT names order rows other:=⟨_,rfl⟩
   rw [← hz] at HFM
   have hcase : z = false ∨ (z = true ∧ 8 ≤ p ∧ 1 < names.length):=by
    unfold formP at hfp
    rw [← hz] at hfp
    cases z with
    | false => exact .inl rfl
    | true =>
     right
     simp only [Bool.true_and,Bool.not_eq_true',Bool.not_eq_false,Bool.and_eq_true,decide_eq_true_eq] at hfp
     exact ⟨rfl,hfp⟩
   clear hfp hZ hz hT hn ho hr hv q1 q2 q3 q4 hpb
   rcases hcase with rfl | ⟨rfl,h8,hn1⟩
   ·go_enter Tryz.func22,Tryz.ntmps22
    go_wp2_with ((go_at_call 38;with_reducible refine (HFM.out _ (by (repeat' first|(with_reducible first|exact blR _ _|assumption|refine blD ?_|refine blN ?_ _)|((with_reducible first|refine blA ?_ ?_ _|refine blS ?_ ?_ _|refine blT (by assumption) ?_ ?_);focus (go_size;done))))).mono ?_);rintro _ w2 ⟨rfl,hb2⟩;have hb2s:=hb2.size;(try simp only [wsA,wsS,wsD,wsN] at hb2s);obtain ⟨hb2c,hb2f⟩:=bcell hb2;(try have : w.heap.size < w2.heap.size:=by omega);(try have : w.heap.size + 1 < w2.heap.size:=by omega);(try have : w.heap.size + 1 + 1 < w2.heap.size:=by omega);(try have : w.heap.size + 1 + 1 + 1 < w2.heap.size:=by omega))
    refine bodyPost_ret (by simp [results,Tryz.results22,go_sem, *];try rfl) rfl ?_
    exact ⟨none,0,none,0,by rw [zero_vargs],fun _ _ => va_flat VS.zero_ok,by (repeat' first|(with_reducible first|exact blR _ _|assumption|refine blD ?_|refine blN ?_ _)|((with_reducible first|refine blA ?_ ?_ _|refine blS ?_ ?_ _|refine blT (by assumption) ?_ ?_);focus (go_size;done)))⟩
   ·have hn1c : (1 : Int) < (names.length : Int):=by omega
    go_enter Tryz.func22,Tryz.ntmps22
    go_wp2_with ((go_at_call 38;with_reducible refine (HFM.out _ (by (repeat' first|(with_reducible first|exact blR _ _|assumption|refine blD ?_|refine blN ?_ _)|((with_reducible first|refine blA ?_ ?_ _|refine blS ?_ ?_ _|refine blT (by assumption) ?_ ?_);focus (go_size;done))))).mono ?_);rintro _ w2 ⟨rfl,hb2⟩;have hb2s:=hb2.size;(try simp only [wsA,wsS,wsD,wsN] at hb2s);obtain ⟨hb2c,hb2f⟩:=bcell hb2;(try have : w.heap.size < w2.heap.size:=by omega);(try have : w.heap.size + 1 < w2.heap.size:=by omega);(try have : w.heap.size + 1 + 1 < w2.heap.size:=by omega);(try have : w.heap.size + 1 + 1 + 1 < w2.heap.size:=by omega))
    refine bodyPost_ret (by simp [results,Tryz.results22,go_sem, *];try rfl) rfl ?_
    exact ⟨none,0,none,0,by rw [zero_vargs],fun _ _ => va_flat VS.zero_ok,by (repeat' first|(with_reducible first|exact blR _ _|assumption|refine blD ?_|refine blN ?_ _)|((with_reducible first|refine blA ?_ ?_ _|refine blS ?_ ?_ _|refine blT (by assumption) ?_ ?_);focus (go_size;done)))⟩
 ·have hZ : decAll p names order rows other = (VD.zero,1):=by unfold decAll;rw [if_pos (by simpa using hp)]
  rw [hZ]
  have hcase : p < 1 ∨ (¬ p < 1 ∧ 11 < p):=by
   unfold policyB at hp
   by_cases h : p < 1
   ·exact .inl h
   ·refine .inr ⟨h, ?_⟩
    by_cases h2 : 11 < p
    ·exact h2
    ·exact absurd (by rw [decide_eq_true (show 1 ≤ p by omega),decide_eq_true (show p ≤ 11 by omega)];rfl) hp
  clear hp hZ hT hn ho hr hv q1 q2 q3 q4 HFM
  rcases hcase with h1 | ⟨h1,h2⟩
  ·go_enter Tryz.func22,Tryz.ntmps22
   go_wp2_with fail
   refine bodyPost_ret (by simp [results,Tryz.results22,go_sem, *];try rfl) rfl ?_
   exact ⟨none,0,none,0,by rw [zero_vargs],fun _ _ => va_flat VS.zero_ok,by (repeat' first|(with_reducible first|exact blR _ _|assumption|refine blD ?_|refine blN ?_ _)|((with_reducible first|refine blA ?_ ?_ _|refine blS ?_ ?_ _|refine blT (by assumption) ?_ ?_);focus (go_size;done)))⟩
  ·go_enter Tryz.func22,Tryz.ntmps22
   go_wp2_with fail
   refine bodyPost_ret (by simp [results,Tryz.results22,go_sem, *];try rfl) rfl ?_
   exact ⟨none,0,none,0,by rw [zero_vargs],fun _ _ => va_flat VS.zero_ok,by (repeat' first|(with_reducible first|exact blR _ _|assumption|refine blD ?_|refine blN ?_ _)|((with_reducible first|refine blA ?_ ?_ _|refine blS ?_ ?_ _|refine blT (by assumption) ?_ ?_);focus (go_size;done)))⟩
end Go.Proofs.YtkjecoanlppeaaaGreatDoor



namespace Go.Proofs.YtkjecoanlppeaaaGreatDoor
open Go.RowKit

def nd (n : Nat) : VD:=.mk (numS false n 0) [] []
@[reducible] def ncs (n : Int) : List Value:=[.int .i64 2,.bool false,.bool false,.int .u64 0,.int .u64 n,.int .i64 0,.string ⟨#[]⟩,.int .i64 0,.slice none 0 0,.slice none 0 0]
theorem nd_ok (n : Nat) (h : n < 2 ^ 128) : (numS false n 0).ok:=numS_ok h
theorem nd_vcs1 : vcs (nd 1) none 0 none 0 = ncs 1:=by kernel_rfl
theorem nd_vcs2 : vcs (nd 2) none 0 none 0 = ncs 2:=by kernel_rfl
theorem nd_vargs3 (A : Option Addr) (C : Nat) (A2 : Option Addr) (C2 : Nat) : vargs (nd 3) A C A2 C2 = .agg #[.int .i64 2,.bool false,.bool false,.int .u64 0,.int .u64 3,.int .i64 0,.string ⟨#[]⟩,.int .i64 0,.slice A 0 C,.slice A2 0 C2]:=by kernel_rfl
set_option maxHeartbeats 400000 in
theorem num18_any (n : Int) (w : World) : Calls Tryz.prog 20 #[.int .u64 n] w fun e w' => e = .returned (.agg #[.int .i64 2,.bool false,.bool false,.int .u64 0,.int .u64 n,.int .i64 0,.string ⟨#[]⟩,.int .i64 0,.slice none 0 0,.slice none 0 0]) ∧ Below w.heap.size w w':=by
 go_enter Tryz.func20,Tryz.ntmps20
 go_wp2_with fail
 refine bodyPost_ret (by simp [results,Tryz.results20,go_sem, *];try rfl) rfl ?_
 exact ⟨rfl,by (repeat' first|(with_reducible first|exact blR _ _|assumption|refine blD ?_|refine blN ?_ _)|((with_reducible first|refine blA ?_ ?_ _|refine blS ?_ ?_ _|refine blT (by assumption) ?_ ?_);focus (go_size;done)))⟩
theorem nms_one {W : World} {g : Nat} {t : TypeId} {s : List UInt8} (h : Bk W g t [.string ⟨s.toArray⟩]) (hs : s.length ≤ 1048576) : Nms W (.slice (some ⟨g,0,none⟩) 1 1) [s]:=by
 refine ⟨_,_,rfl,⟨by simp,by simp,by decide⟩,fun r hr => ?_⟩
 obtain rfl : r = 0:=by simp at hr;omega
 exact ⟨g,0,rfl,h.cell 0 rfl,hs⟩
theorem vls_nil (W : World) : Vls (RV W) W (.slice none 0 0) []:=⟨none,0,rfl,⟨by simp,by simp,by decide⟩,fun r hr => absurd hr (Nat.not_lt_zero _)⟩
theorem lls_nil1 {W : World} {g : Nat} {t : TypeId} (h : Bk W g t [.slice none 0 0]) : Lls W (.slice (some ⟨g,0,none⟩) 1 1) [[]]:=by
 refine ⟨_,_,rfl,⟨by simp,by simp,by decide⟩,fun r hr => ?_⟩
 obtain rfl : r = 0:=by simp at hr;omega
 exact ⟨g,0,none,0,rfl,h.cell 0 rfl,vls_nil W⟩
theorem vls_oneB {W : World} {g : Nat} {t : TypeId} {d : VD} (h : Bk W g t (vcs d none 0 none 0)) (hv : VA W d none 0 none 0) : Vls (RV W) W (.slice (some ⟨g,0,none⟩) 1 1) [d]:=by
 refine ⟨_,_,rfl,⟨by simp,by simp,by decide⟩,fun r hr => ?_⟩
 obtain rfl : r = 0:=by simp at hr;omega
 refine ⟨g,0,none,0,none,0,rfl,fun j hj => ?_,hv⟩
 have hj10 : j < 10:=hj
 simp only [Nat.zero_mul,Nat.zero_add]
 have e:=h.cell j (List.getElem?_eq_getElem (show j < (vcs d none 0 none 0).length from hj10))
 exact e.trans (List.getElem?_eq_getElem (show j < (vcs d none 0 none 0).length from hj10)).symm
theorem lls_two {W : World} {g a b : Nat} {t : TypeId} {x y : List VD} (h : Bk W g t [.slice (some ⟨a,0,none⟩) 1 1,.slice (some ⟨b,0,none⟩) 1 1]) (hx1 : x.length = 1) (hy1 : y.length = 1) (hx : Vls (RV W) W (.slice (some ⟨a,0,none⟩) 1 1) x) (hy : Vls (RV W) W (.slice (some ⟨b,0,none⟩) 1 1) y) : Lls W (.slice (some ⟨g,0,none⟩) 2 2) [x,y]:=by
 refine ⟨_,_,rfl,⟨by simp,by simp,by decide⟩,fun r hr => ?_⟩
 have hr2 : r < 2:=hr
 have hcase : r = 0 ∨ r = 1:=by omega
 rcases hcase with rfl | rfl
 ·exact ⟨g,0,some ⟨a,0,none⟩,1,rfl,by show _ = some (Value.slice _ x.length 1);rw [hx1];exact h.cell 0 rfl,by show Vls _ _ (Value.slice _ x.length 1) x;rw [hx1];exact hx⟩
 ·exact ⟨g,0,some ⟨b,0,none⟩,1,rfl,by show _ = some (Value.slice _ y.length 1);rw [hy1];exact h.cell 1 rfl,by show Vls _ _ (Value.slice _ y.length 1) y;rw [hy1];exact hy⟩
@[reducible] def outB : List UInt8:=[111,117,116]
theorem known_form (p : Int) (h : 1 ≤ p) (h2 : p ≤ 11) : policyB p = true:=by unfold policyB;rw [decide_eq_true h,decide_eq_true h2];rfl
theorem known_f8 : formP 8 [outB] [[]] [[nd 1],[nd 2]] [] = true:=by kernel_rfl
theorem known_f1 : formP 1 [outB] [[]] [[nd 1],[nd 2]] [] = true:=by kernel_rfl
theorem known_r8 : numD 8 [nd 1,nd 2] = (nd 3,0):=by kernel_rfl
theorem known_c3 : chkV (nd 3) = 0:=by kernel_rfl
theorem known_8 : decAll 8 [outB] [[]] [[nd 1],[nd 2]] [] = (nd 3,0):=by
 unfold decAll
 rw [known_form 8 (by decide) (by decide),known_f8,if_neg (by decide),if_neg (by decide)]
 have e : rowsD [[nd 1],[nd 2]] [] = [[nd 1],[nd 2]]:=by kernel_rfl
 rw [e]
 have e2 : decR 8 [outB] [[]] [[nd 1],[nd 2]] = (nd 3,0):=by
  unfold decR
  rw [if_neg (by decide)]
  unfold decD
  rw [if_neg (by decide),if_neg (by decide),if_neg (by decide),if_neg (by decide),if_neg (by decide),if_neg (by decide),if_pos (by decide)]
  exact known_r8
 rw [e2]
 unfold endD
 rw [known_c3,if_neg (by decide),if_neg (by decide)]
theorem known_1 : decAll 1 [outB] [[]] [[nd 1],[nd 2]] [] = (VD.zero,14):=by
 unfold decAll
 rw [known_form 1 (by decide) (by decide),known_f1,if_neg (by decide),if_neg (by decide)]
 have e : rowsD [[nd 1],[nd 2]] [] = [[nd 1],[nd 2]]:=by kernel_rfl
 rw [e]
 have e2 : decR 1 [outB] [[]] [[nd 1],[nd 2]] = (VD.zero,14):=by
  unfold decR
  rw [if_neg (by decide)]
  unfold decD
  rw [if_pos (by decide),if_pos (by decide)]
 rw [e2]
 unfold endD
 rw [if_pos (by decide)]
def KnA (W : World) (e : Ending) (w' : World) : Prop:=∃ A C A2 C2,e = .returned (.tuple #[.agg #[.int .i64 2,.bool false,.bool false,.int .u64 0,.int .u64 3,.int .i64 0,.string ⟨#[]⟩,.int .i64 0,.slice A 0 C,.slice A2 0 C2],.int .i64 0]) ∧ VA w' (nd 3) A C A2 C2 ∧ Below W.heap.size W w'
def KnB (W : World) (e : Ending) (w' : World) : Prop:=∃ A C A2 C2,e = .returned (.tuple #[.agg #[.int .i64 0,.bool false,.bool false,.int .u64 0,.int .u64 0,.int .i64 0,.string ⟨#[]⟩,.int .i64 0,.slice A 0 C,.slice A2 0 C2],.int .i64 14]) ∧ Below W.heap.size W w'
theorem zero_vargsX (A : Option Addr) (C : Nat) (A2 : Option Addr) (C2 : Nat) : vargs VD.zero A C A2 C2 = .agg #[.int .i64 0,.bool false,.bool false,.int .u64 0,.int .u64 0,.int .i64 0,.string ⟨#[]⟩,.int .i64 0,.slice A 0 C,.slice A2 0 C2]:=by kernel_rfl
section
variable {g1 g2 g3 ga gb : Nat} {W : World}
theorem kn_rows (h3 : Bk W g3 24 [.slice (some ⟨ga,0,none⟩) 1 1,.slice (some ⟨gb,0,none⟩) 1 1]) (ha : Bk W ga 34 (ncs 1)) (hb : Bk W gb 34 (ncs 2)) : Lls W (.slice (some ⟨g3,0,none⟩) 2 2) [[nd 1],[nd 2]] :=
 lls_two h3 rfl rfl (vls_oneB (by rw [nd_vcs1];exact ha) (va_flat (nd_ok 1 (by decide)))) (vls_oneB (by rw [nd_vcs2];exact hb) (va_flat (nd_ok 2 (by decide))))
theorem dec8_known (hT : Tabs W) (h1 : Bk W g1 9 [.string ⟨#[111,117,116]⟩]) (h2 : Bk W g2 24 [.slice none 0 0]) (h3 : Bk W g3 24 [.slice (some ⟨ga,0,none⟩) 1 1,.slice (some ⟨gb,0,none⟩) 1 1]) (ha : Bk W ga 34 (ncs 1)) (hb : Bk W gb 34 (ncs 2)) :
  Calls Tryz.prog 22 #[.int .i64 8,.slice (some ⟨g1,0,none⟩) 1 1,.slice (some ⟨g2,0,none⟩) 1 1,.slice (some ⟨g3,0,none⟩) 2 2,.slice none 0 0] W (KnA W):=by
 have h:=hdecide_any 8 [outB] [[]] [[nd 1],[nd 2]] [] _ _ _ _ W hT (nms_one (s:=outB) h1 (by decide)) (lls_nil1 h2) (kn_rows h3 ha hb) (vls_nil W)
 rw [known_8] at h
 exact h.mono fun e w' ⟨A,C,A2,C2,e1,hv,hb⟩ => ⟨A,C,A2,C2,by rw [e1,nd_vargs3],hv.va,hb⟩
theorem dec1_known (hT : Tabs W) (h1 : Bk W g1 9 [.string ⟨#[111,117,116]⟩]) (h2 : Bk W g2 24 [.slice none 0 0]) (h3 : Bk W g3 24 [.slice (some ⟨ga,0,none⟩) 1 1,.slice (some ⟨gb,0,none⟩) 1 1]) (ha : Bk W ga 34 (ncs 1)) (hb : Bk W gb 34 (ncs 2)) :
  Calls Tryz.prog 22 #[.int .i64 1,.slice (some ⟨g1,0,none⟩) 1 1,.slice (some ⟨g2,0,none⟩) 1 1,.slice (some ⟨g3,0,none⟩) 2 2,.slice none 0 0] W (KnB W):=by
 have h:=hdecide_any 1 [outB] [[]] [[nd 1],[nd 2]] [] _ _ _ _ W hT (nms_one (s:=outB) h1 (by decide)) (lls_nil1 h2) (kn_rows h3 ha hb) (vls_nil W)
 rw [known_1] at h
 exact h.mono fun e w' ⟨A,C,A2,C2,e1,hv,hb⟩ => ⟨A,C,A2,C2,by rw [e1,zero_vargsX],hb⟩
end
theorem same3_known (A : Option Addr) (C : Nat) (A2 : Option Addr) (C2 : Nat) (W : World) (h : VA W (nd 3) A C A2 C2) :
  Calls Tryz.prog 12 #[.agg #[.int .i64 2,.bool false,.bool false,.int .u64 0,.int .u64 3,.int .i64 0,.string ⟨#[]⟩,.int .i64 0,.slice A 0 C,.slice A2 0 C2],.agg #[.int .i64 2,.bool false,.bool false,.int .u64 0,.int .u64 3,.int .i64 0,.string ⟨#[]⟩,.int .i64 0,.slice none 0 0,.slice none 0 0]] W fun e w' => e = .returned (.bool true) ∧ Below W.heap.size W w':=by
 have hs : (nd 3).size = 1:=by kernel_rfl
 have k:=lsame_any (nd 3) (nd 3) A C A2 C2 none 0 none 0 W h (va_flat (nd_ok 3 (by decide))) (by rw [hs];decide) (by rw [hs];decide)
 rw [nd_vargs3,nd_vargs3,hs,sameB_self] at k
 exact k
end Go.Proofs.YtkjecoanlppeaaaGreatDoor



namespace Go.Proofs.YtkjecoanlppeaaaGreatDoor
open Go.RowKit

set_option maxRecDepth 100000 in
set_option maxHeartbeats 2000000 in
theorem known18_any (w : World) (hT : Tabs w) : Calls Tryz.prog 9 #[] w fun e w' => e = .returned (.bool true) ∧ Below w.heap.size w w':=by
 have HT:=Lib.hid hT
 clear hT
 go_enter Tryz.func9,Tryz.ntmps9
 go_wp2_with (first | (go_at_call 20;(with_reducible refine (num18_any 1 _).mono ?_);rintro _ w1 ⟨rfl,hb1⟩;have hb1s:=hb1.size;(try have : w.heap.size < w1.heap.size:=by omega);(try have : w.heap.size + 1 < w1.heap.size:=by omega);(try have : w.heap.size + 1 + 1 < w1.heap.size:=by omega);(try have : w.heap.size + 1 + 1 + 1 < w1.heap.size:=by omega)) | (go_at_call 20;(with_reducible refine (num18_any 2 _).mono ?_);rintro _ w2 ⟨rfl,hb2⟩;have hb2s:=hb2.size;(try simp only [World.size_alloc] at hb2s);(try have : w.heap.size < w2.heap.size:=by omega);(try have : w.heap.size + 1 < w2.heap.size:=by omega);(try have : w.heap.size + 1 + 1 < w2.heap.size:=by omega);(try have : w.heap.size + 1 + 1 + 1 < w2.heap.size:=by omega);(try have : w1.heap.size < w2.heap.size:=by omega);(try have : w1.heap.size + 1 < w2.heap.size:=by omega);(try have : w1.heap.size + 1 + 1 < w2.heap.size:=by omega);(try have : w1.heap.size + 1 + 1 + 1 < w2.heap.size:=by omega);have ka : Bk w2 w1.heap.size 34 (ncs 1):=(by (repeat (first|(with_reducible assumption)|((with_reducible refine bkW ?_);(first|rfl|(simp only [wsA,wsS,wsD,wsN];done)))|(with_reducible first|refine bkA ?_ _|refine bkD ?_|refine bkN ?_ _)|((with_reducible refine bkF ?_ ?_ _);focus (simp only [];omega))|((with_reducible refine bkB (by assumption) ?_ ?_);focus (go_size;done)))));have KA:=Lib.hid ka;clear ka) | (go_at_call 22;(with_reducible refine (dec8_known (tabs_below HT.out (by (repeat' first|(with_reducible first|exact blR _ _|assumption|refine blD ?_|refine blN ?_ _)|((with_reducible first|refine blA ?_ ?_ _|refine blS ?_ ?_ _|refine blT (by assumption) ?_ ?_);focus (go_size;done))))) (by (repeat (first|(with_reducible assumption)|((with_reducible refine bkW ?_);(first|rfl|(simp only [wsA,wsS,wsD,wsN];done)))|(with_reducible first|refine bkA ?_ _|refine bkD ?_|refine bkN ?_ _)|((with_reducible refine bkF ?_ ?_ _);focus (simp only [];omega))|((with_reducible refine bkB (by assumption) ?_ ?_);focus (go_size;done))))) (by (repeat (first|(with_reducible assumption)|((with_reducible refine bkW ?_);(first|rfl|(simp only [wsA,wsS,wsD,wsN];done)))|(with_reducible first|refine bkA ?_ _|refine bkD ?_|refine bkN ?_ _)|((with_reducible refine bkF ?_ ?_ _);focus (simp only [];omega))|((with_reducible refine bkB (by assumption) ?_ ?_);focus (go_size;done))))) (by (repeat (first|(with_reducible assumption)|((with_reducible refine bkW ?_);(first|rfl|(simp only [wsA,wsS,wsD,wsN];done)))|(with_reducible first|refine bkA ?_ _|refine bkD ?_|refine bkN ?_ _)|((with_reducible refine bkF ?_ ?_ _);focus (simp only [];omega))|((with_reducible refine bkB (by assumption) ?_ ?_);focus (go_size;done))))) (by have ka:=KA.out;(repeat (first|(with_reducible assumption)|((with_reducible refine bkW ?_);(first|rfl|(simp only [wsA,wsS,wsD,wsN];done)))|(with_reducible first|refine bkA ?_ _|refine bkD ?_|refine bkN ?_ _)|((with_reducible refine bkF ?_ ?_ _);focus (simp only [];omega))|((with_reducible refine bkB (by assumption) ?_ ?_);focus (go_size;done))))) (by (repeat (first|(with_reducible assumption)|((with_reducible refine bkW ?_);(first|rfl|(simp only [wsA,wsS,wsD,wsN];done)))|(with_reducible first|refine bkA ?_ _|refine bkD ?_|refine bkN ?_ _)|((with_reducible refine bkF ?_ ?_ _);focus (simp only [];omega))|((with_reducible refine bkB (by assumption) ?_ ?_);focus (go_size;done)))))).mono ?_);rintro _ w3 ⟨A,C,A2,C2,rfl,hva,hb3⟩;have HVA:=Lib.hid hva;clear hva;have hb3s:=hb3.size;(try simp only [World.size_alloc] at hb3s);(try have : w.heap.size < w3.heap.size:=by omega);(try have : w.heap.size + 1 < w3.heap.size:=by omega);(try have : w.heap.size + 1 + 1 < w3.heap.size:=by omega);(try have : w.heap.size + 1 + 1 + 1 < w3.heap.size:=by omega);(try have : w2.heap.size < w3.heap.size:=by omega);(try have : w2.heap.size + 1 < w3.heap.size:=by omega);(try have : w2.heap.size + 1 + 1 < w3.heap.size:=by omega);(try have : w2.heap.size + 1 + 1 + 1 < w3.heap.size:=by omega)) | (go_at_call 22;(with_reducible refine (dec1_known (tabs_below HT.out (by (repeat' first|(with_reducible first|exact blR _ _|assumption|refine blD ?_|refine blN ?_ _)|((with_reducible first|refine blA ?_ ?_ _|refine blS ?_ ?_ _|refine blT (by assumption) ?_ ?_);focus (go_size;done))))) (by (repeat (first|(with_reducible assumption)|((with_reducible refine bkW ?_);(first|rfl|(simp only [wsA,wsS,wsD,wsN];done)))|(with_reducible first|refine bkA ?_ _|refine bkD ?_|refine bkN ?_ _)|((with_reducible refine bkF ?_ ?_ _);focus (simp only [];omega))|((with_reducible refine bkB (by assumption) ?_ ?_);focus (go_size;done))))) (by (repeat (first|(with_reducible assumption)|((with_reducible refine bkW ?_);(first|rfl|(simp only [wsA,wsS,wsD,wsN];done)))|(with_reducible first|refine bkA ?_ _|refine bkD ?_|refine bkN ?_ _)|((with_reducible refine bkF ?_ ?_ _);focus (simp only [];omega))|((with_reducible refine bkB (by assumption) ?_ ?_);focus (go_size;done))))) (by (repeat (first|(with_reducible assumption)|((with_reducible refine bkW ?_);(first|rfl|(simp only [wsA,wsS,wsD,wsN];done)))|(with_reducible first|refine bkA ?_ _|refine bkD ?_|refine bkN ?_ _)|((with_reducible refine bkF ?_ ?_ _);focus (simp only [];omega))|((with_reducible refine bkB (by assumption) ?_ ?_);focus (go_size;done))))) (by have ka:=KA.out;(repeat (first|(with_reducible assumption)|((with_reducible refine bkW ?_);(first|rfl|(simp only [wsA,wsS,wsD,wsN];done)))|(with_reducible first|refine bkA ?_ _|refine bkD ?_|refine bkN ?_ _)|((with_reducible refine bkF ?_ ?_ _);focus (simp only [];omega))|((with_reducible refine bkB (by assumption) ?_ ?_);focus (go_size;done))))) (by (repeat (first|(with_reducible assumption)|((with_reducible refine bkW ?_);(first|rfl|(simp only [wsA,wsS,wsD,wsN];done)))|(with_reducible first|refine bkA ?_ _|refine bkD ?_|refine bkN ?_ _)|((with_reducible refine bkF ?_ ?_ _);focus (simp only [];omega))|((with_reducible refine bkB (by assumption) ?_ ?_);focus (go_size;done)))))).mono ?_);rintro _ w4 ⟨B,D,B2,D2,rfl,hb4⟩;have hb4s:=hb4.size;(try simp only [World.size_alloc] at hb4s);(try have : w.heap.size < w4.heap.size:=by omega);(try have : w.heap.size + 1 < w4.heap.size:=by omega);(try have : w.heap.size + 1 + 1 < w4.heap.size:=by omega);(try have : w.heap.size + 1 + 1 + 1 < w4.heap.size:=by omega);(try have : w3.heap.size < w4.heap.size:=by omega);(try have : w3.heap.size + 1 < w4.heap.size:=by omega);(try have : w3.heap.size + 1 + 1 < w4.heap.size:=by omega);(try have : w3.heap.size + 1 + 1 + 1 < w4.heap.size:=by omega)))
 have HSM:=Lib.hid (fun (W : World) (hW : Below w3.heap.size w3 W) => same3_known A C A2 C2 W (va_below HVA.out hW))
 generalize hW : w4.alloc _ = W
 have k2 : Bk W w3.heap.size 34 [.int .i64 2,.bool false,.bool false,.int .u64 0,.int .u64 3,.int .i64 0,.string ⟨#[]⟩,.int .i64 0,.slice A 0 C,.slice A2 0 C2]:=by
  rw [← hW]
  (repeat (first|(with_reducible assumption)|((with_reducible refine bkW ?_);(first|rfl|(simp only [wsA,wsS,wsD,wsN];done)))|(with_reducible first|refine bkA ?_ _|refine bkD ?_|refine bkN ?_ _)|((with_reducible refine bkF ?_ ?_ _);focus (simp only [];omega))|((with_reducible refine bkB (by assumption) ?_ ?_);focus (go_size;done))))
 have m3 : Below w3.heap.size w3 W:=by
  rw [← hW]
  (repeat' first|(with_reducible first|exact blR _ _|assumption|refine blD ?_|refine blN ?_ _)|((with_reducible first|refine blA ?_ ?_ _|refine blS ?_ ?_ _|refine blT (by assumption) ?_ ?_);focus (go_size;done)))
 have mb : Below w.heap.size w W:=by
  rw [← hW]
  (repeat' first|(with_reducible first|exact blR _ _|assumption|refine blD ?_|refine blN ?_ _)|((with_reducible first|refine blA ?_ ?_ _|refine blS ?_ ?_ _|refine blT (by assumption) ?_ ?_);focus (go_size;done)))
 clear hW hb2 hb3 hb4 KA HVA HT
 have hWs:=m3.size
 have c0:=k2.cell 0 rfl
 have c1:=k2.cell 1 rfl
 have c2:=k2.cell 2 rfl
 have c3:=k2.cell 3 rfl
 have c4:=k2.cell 4 rfl
 have c5:=k2.cell 5 rfl
 have c6:=k2.cell 6 rfl
 have c7:=k2.cell 7 rfl
 have c8:=k2.cell 8 rfl
 have c9:=k2.cell 9 rfl
 have lb:=k2.lt
 clear k2
 go_region_held3 (fun w' => w'.cell? ⟨w3.heap.size,0,none⟩ = some (.int .i64 2) ∧ w'.cell? ⟨w3.heap.size,1,none⟩ = some (.bool false) ∧ w'.cell? ⟨w3.heap.size,2,none⟩ = some (.bool false) ∧ w'.cell? ⟨w3.heap.size,3,none⟩ = some (.int .u64 0) ∧ w'.cell? ⟨w3.heap.size,4,none⟩ = some (.int .u64 3) ∧ w'.cell? ⟨w3.heap.size,5,none⟩ = some (.int .i64 0) ∧ w'.cell? ⟨w3.heap.size,6,none⟩ = some (.string ⟨#[]⟩) ∧ w'.cell? ⟨w3.heap.size,7,none⟩ = some (.int .i64 0) ∧ w'.cell? ⟨w3.heap.size,8,none⟩ = some (.slice A 0 C) ∧ w'.cell? ⟨w3.heap.size,9,none⟩ = some (.slice A2 0 C2)) (first | (first | (go_keep;done) | (simp [go_sem];done) | ((try dsimp only);(repeat' apply And.intro) <;> (first | (with_reducible assumption) | ((rw [World.cell?_alloc_lt _ _ _ (by show _ < _;omega)]);go_split_ands;(first | with_reducible assumption | (refine (World.cell?_alloc_lt _ _ _ (by show _ < _;omega)).symm.trans ?_;with_reducible assumption))) | ((rw [World.cell?_setCell_other _ _ _ _ (by intro e;injection e;omega)]);with_reducible assumption) | (go_keep;done) | (simp [go_sem];done) | (simp (disch:=go_size) [*,World.cell?_alloc_some,World.cell?_setCell_far];done))))) (first | ((go_at_call 20;with_reducible refine (num18_any 3 _).mono ?_);rintro _ w5 ⟨rfl,hb5⟩;have hb5s:=hb5.size;(try simp only [wsA,wsS,wsD,wsN] at hb5s);obtain ⟨hb5c,hb5f⟩:=bcell hb5;(try have : w.heap.size < w5.heap.size:=by omega);(try have : w.heap.size + 1 < w5.heap.size:=by omega);(try have : w.heap.size + 1 + 1 < w5.heap.size:=by omega);(try have : w.heap.size + 1 + 1 + 1 < w5.heap.size:=by omega)) | ((go_at_call 12;with_reducible refine (HSM.out _ (by (repeat' first|(with_reducible first|exact blR _ _|assumption|refine blD ?_|refine blN ?_ _)|((with_reducible first|refine blA ?_ ?_ _|refine blS ?_ ?_ _|refine blT (by assumption) ?_ ?_);focus (go_size;done))))).mono ?_);rintro _ w6 ⟨rfl,hb6⟩;have hb6s:=hb6.size;(try simp only [wsA,wsS,wsD,wsN] at hb6s);obtain ⟨hb6c,hb6f⟩:=bcell hb6;(try have : w.heap.size < w6.heap.size:=by omega);(try have : w.heap.size + 1 < w6.heap.size:=by omega);(try have : w.heap.size + 1 + 1 < w6.heap.size:=by omega);(try have : w.heap.size + 1 + 1 + 1 < w6.heap.size:=by omega)))
 go_wp2_with fail
 go_ret
 exact ⟨rfl,by (repeat' first|(with_reducible first|exact blR _ _|assumption|refine blD ?_|refine blN ?_ _)|((with_reducible first|refine blA ?_ ?_ _|refine blS ?_ ?_ _|refine blT (by assumption) ?_ ?_);focus (go_size;done)))⟩
end Go.Proofs.YtkjecoanlppeaaaGreatDoor

