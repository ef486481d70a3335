/- What this law reaches beyond the common contracts, part 6. -/
import Derived.ProofKit
import Derived.OpenShut
import Derived.ShutString
import Derived.ChangeOld
import Derived.Below
import Derived.Lib.SmallJoins
import Derived.Deep.Matrix
import Derived.ChangeArms
import Derived.Lib.LaidIn
import Derived.Lib.LaidU8T
import Derived.Test.YtnhmplfonkjfoaaDoorCards
import Derived.Test.YtnhmplfonkjfoaaDoorTie
import Derived.Deep.DeepHandedRow
import Derived.LaidMore
import Derived.Lay
import Derived.SevenTiedAt
import Derived.Test.YtnhmplfonkjfoaaDoorM2
import Derived.Test.YtnhmplfonkjfoaaDoorXOu5
set_option linter.unusedSimpArgs false
set_option linter.unusedVariables false


namespace Go.Proofs.YtnhmplfonkjfoaaDoor
open Go.RowKit

theorem compile_any (is : List InsD) (v : Value) (b : Bool) (w : World) (h : Cod w v is) (hg : ∀ r,r < is.length → GoodI (ig is r)) (hT : Tabs w) : Calls Tryd.prog 11 #[v,.bool b] w (CmpPost is b w):=by
 have hc : Calls Tryd.prog 21 #[v,.bool b] w fun e w'=>e = .returned (.int .i64 (chkP is b)) ∧ Below w.heap.size w w':=by
  by_cases hl : 300 < is.length
  ·exact check_long is v b w h hl
  ·exact check_in is v b w h hg hT (by omega)
 by_cases h0 : chkP is b = 0
 ·exact compile_good is v b w h hc h0
 ·exact compile_bad is v b w hc h0
theorem Ro.cod {w : World} {o : Nat → Nat} {l n : Nat} {t : TypeId} {v : Value} {p : List InsD} (h : Ro w o l t 8 v n (ics p)) (hn : p.length = n) : Cod w v p:=by
 subst hn
 obtain ⟨A,C,rfl,hm⟩:=h.sl.is
 refine ⟨A,C,rfl,hm,fun r hr=>?_⟩
 obtain ⟨g,e,-,hat⟩:=h.ins rfl hr
 exact ⟨g,0,e,by rw [Nat.zero_add];exact hat⟩
theorem bk_cod {w : World} {g C : Nat} {t : TypeId} {p : List InsD} (h : Bk w g t (ics p)) (hm : p.length ≤ maxLen) : Cod w (.slice (some ⟨g,0,none⟩) p.length C) p :=
 ⟨_,C,rfl,hm,fun r hr=>⟨g,0,rfl,fun j hj=>by
  rw [cs_len] at hj
  rw [Nat.zero_add,← ics_get p r j hr hj]
  have hl : r * 8 + j < (ics p).length:=by rw [ics_length];omega
  rw [List.getElem?_eq_getElem hl]
  exact h.cell _ (List.getElem?_eq_getElem hl)⟩⟩
def chIs : List InsD:=[insO 2 0,insO 1 0,insO 3 0,insO 21 3]
def knIs : List InsD:=[insO 2 0,insO 102 4,insO 1 0,insO 101 5,insO 3 0]
set_option maxHeartbeats 1000000 in
theorem choice14_any (w : World) : Calls Tryd.prog 19 #[] w fun e w'=>∃ v,e = .returned v ∧ Cod w' v chIs ∧ Below w.heap.size w w':=by
 go_enter Tryd.func19,Tryd.ntmps19
 go_wp2_with fail
 go_ret
 exact ⟨_,rfl,bk_cod (p:=chIs) (C:=4) (Bk.new w 45 (ics chIs)) (by unfold maxLen;decide),by (repeat' first|(with_reducible first|exact blR _ _|assumption|refine blD ?_|refine blN ?_ _)|((with_reducible first|refine blA ?_ ?_ _|refine blS ?_ ?_ _|refine blT (by assumption) ?_ ?_);focus (go_size;done)))⟩
theorem comp_ch : compD chIs = knIs:=by rfl
theorem node_zero {is : List InsD} {i : InsD} {st : List Th} (h1 : fldI i = true) (h2 : kidsB i.op 0 = true) (ha : i.a = 0) (h27 : i.op ≠ 27) : nodeP is i st :=
 ⟨h1,by rw [ha];exact h2,by rw [ha];exact Int.natCast_nonneg _,fun k hk=>by rw [ha] at hk;exact absurd hk (Nat.not_lt_zero _),fun h=>h27 h.1⟩
theorem chk_ch : chkP chIs false = 0:=by
 unfold chkP
 rw [if_neg (by decide)]
 have n0 : nodeP chIs (ig chIs 0) []:=node_zero (by decide) (by decide) rfl (by decide)
 show endC false (cGo chIs 4 0 [] 0) = 0
 rw [cGo_yes n0]
 have s0 : stepT (ig chIs 0) 0 [] = [(1,1,0)]:=by decide
 rw [s0]
 have n1 : nodeP chIs (ig chIs 1) [(1,1,0)]:=node_zero (by decide) (by decide) rfl (by decide)
 rw [cGo_yes n1]
 have s1 : stepT (ig chIs 1) 1 [(1,1,0)] = [(1,1,0),(1,1,1)]:=by decide
 rw [s1]
 have n2 : nodeP chIs (ig chIs 2) [(1,1,0),(1,1,1)]:=node_zero (by decide) (by decide) rfl (by decide)
 rw [cGo_yes n2]
 have s2 : stepT (ig chIs 2) 2 [(1,1,0),(1,1,1)] = [(1,1,0),(1,1,1),(1,1,2)]:=by decide
 rw [s2]
 have n3 : nodeP chIs (ig chIs 3) [(1,1,0),(1,1,1),(1,1,2)]:=by
  refine ⟨by decide,by decide,by decide,fun k hk=>?_,fun h=>absurd h.1 (by decide)⟩
  have hk : k < 3:=hk
  match k,hk with
  | 0,_=>decide
  | 1,_=>decide
  | 2,_=>decide
  | k + 3,hk=>omega
 rw [cGo_yes n3]
 have s3 : stepT (ig chIs 3) 3 [(1,1,0),(1,1,1),(1,1,2)] = [(1,2,3)]:=by decide
 rw [s3]
 decide
theorem cmp_ch : cmpD chIs false = knIs:=by
 unfold cmpD
 rw [if_pos chk_ch,comp_ch]
theorem good_ch : ∀ r,r < chIs.length → GoodI (ig chIs r):=fun r hr=>by
 have hr : r < 4:=hr
 have u0 : U64 0:=⟨by decide,by decide⟩
 match r,hr with
 | 0,_=>exact ⟨u0,u0,by decide⟩
 | 1,_=>exact ⟨u0,u0,by decide⟩
 | 2,_=>exact ⟨u0,u0,by decide⟩
 | 3,_=>exact ⟨u0,u0,by decide⟩
 | k + 4,hk=>omega
set_option maxHeartbeats 1500000 in
theorem known14_any (w : World) (hT : Tabs w) : Calls Tryd.prog 9 #[] w fun e w'=>e = .returned (.bool true) ∧ Below w.heap.size w w':=by
 have HT:=Lib.hid hT
 clear hT
 go_enter Tryd.func9,Tryd.ntmps9
 go_upto_region 2 with (first | (go_at_call 19;(with_reducible refine (choice14_any _).mono ?_);rintro _ w1 ⟨v1,rfl,hc1,hb1⟩) | (go_at_call 11;(with_reducible refine (compile_any chIs _ false _ hc1 good_ch (tabs_below HT.out hb1)).mono ?_);rintro _ w2 ⟨r,o,rfl,ht2,hr2⟩))
 rw [chk_ch]
 rw [cmp_ch] at hr2
 have hcr : Cod w2 r knIs:=hr2.cod rfl
 have hb3 : Below w.heap.size w w2:=hb1.trans ((ht2.below (B:=w1.heap.size) (fun _ _=>by simp) (Nat.le_refl _)).mono hb1.size)
 have HCR:=Lib.hid hcr
 obtain ⟨Ar,Cr,rfl,-,-⟩:=hcr
 clear hr2 ht2 hb1 hc1
 have HSM:=Lib.hid (fun (X : Obj) (hX : X = .cells (ics knIs).toArray 43)=>same_ins knIs knIs (.slice Ar knIs.length Cr) (.slice (some ⟨w2.heap.size,0,none⟩) 5 5) (w2.alloc X) (HCR.out.below (Below.alloc (Below.refl _ _) (Nat.le_refl _) _)) (by subst hX;exact bk_cod (p:=knIs) (C:=5) (Bk.new w2 43 (ics knIs)) (by unfold maxLen;decide)))
 have hsm:=sameB_yes (rfl : knIs = knIs)
 simp only [hsm] at HSM
 clear hsm
 go_wp2_with (go_at_call 12;(refine (HSM.out _ rfl).mono ?_);rintro _ w3 ⟨rfl,hb4⟩)
 go_ret
 exact ⟨rfl,(hb3.alloc hb3.size _).trans (hb4.mono (Nat.le_trans hb3.size (by rw [World.size_alloc];exact Nat.le_succ _)))⟩
end Go.Proofs.YtnhmplfonkjfoaaDoor



namespace Go.Proofs.YtnhmplfonkjfoaaDoor
open Go.RowKit

theorem verify_any (is : List InsD) (v : Value) (b : Bool) (w : World) (h : Cod w v is) : Calls Tryd.prog 14 #[v,.bool b] w (VerPost is b w):=by
 by_cases hl : 600 < is.length
 ·exact verify_long is v b w h hl
 ·cases b with
  | true=>exact verify_in_true is v w h (by omega)
  | false=>exact verify_in_false is v w h (by omega)
set_option maxHeartbeats 1000000 in
theorem walk_verifies (is : List InsD) (v : Value) (b : Bool) (w : World) (hT : Tabs w) (h : Cod w v is) : Calls Tryd.prog 4 #[v,.bool b] w fun e w'=>e = .returned (.bool true) ∧ Below w.heap.size w w':=by
 have HK:=Lib.hid (known14_any w hT)
 have H1:=Lib.hid (fun (W : World) (hW : Below w.heap.size w W)=>docverify_any is v b W (h.below hW))
 have H2:=Lib.hid (fun (W : World) (hW : Below w.heap.size w W)=>verify_any is v b W (h.below hW))
 unfold DocPost at H1
 unfold VerPost at H2
 simp only [ver_doc] at H2
 obtain ⟨⟨x,y⟩,hR⟩ : ∃ R,R = docS (pairs is) (fB b):=⟨_,rfl⟩
 rw [← hR] at H1 H2
 dsimp only at H1 H2
 obtain ⟨A,C,rfl,-,-⟩:=h
 clear hR hT
 go_enter Tryd.func4,Tryd.ntmps4
 go_wp2_with (first | ((go_at_call 9;with_reducible refine (HK.out).mono ?_);rintro _ w1 ⟨rfl,hb1⟩;have hb1s:=hb1.size;(try simp only [wsA,wsS,wsD,wsN] at hb1s);obtain ⟨hb1c,hb1f⟩:=bcell hb1;(try have : w.heap.size < w1.heap.size:=by omega);(try have : w.heap.size + 1 < w1.heap.size:=by omega);(try have : w.heap.size + 1 + 1 < w1.heap.size:=by omega);(try have : w.heap.size + 1 + 1 + 1 < w1.heap.size:=by omega)) | ((go_at_call 13;with_reducible refine (H1.out _ (by (repeat' first|(with_reducible first|exact blR _ _|assumption|refine blD ?_|refine blN ?_ _)|((with_reducible first|refine blA ?_ ?_ _|refine blS ?_ ?_ _|refine blT (by assumption) ?_ ?_);focus (go_size;done))))).mono ?_);rintro _ w2 ⟨rfl,hb2⟩;have hb2s:=hb2.size;(try simp only [wsA,wsS,wsD,wsN] at hb2s);obtain ⟨hb2c,hb2f⟩:=bcell hb2;(try have : w.heap.size < w2.heap.size:=by omega);(try have : w.heap.size + 1 < w2.heap.size:=by omega);(try have : w.heap.size + 1 + 1 < w2.heap.size:=by omega);(try have : w.heap.size + 1 + 1 + 1 < w2.heap.size:=by omega)) | ((go_at_call 14;with_reducible refine (H2.out _ (by (repeat' first|(with_reducible first|exact blR _ _|assumption|refine blD ?_|refine blN ?_ _)|((with_reducible first|refine blA ?_ ?_ _|refine blS ?_ ?_ _|refine blT (by assumption) ?_ ?_);focus (go_size;done))))).mono ?_);rintro _ w3 ⟨rfl,hb3⟩;have hb3s:=hb3.size;(try simp only [wsA,wsS,wsD,wsN] at hb3s);obtain ⟨hb3c,hb3f⟩:=bcell hb3;(try have : w.heap.size < w3.heap.size:=by omega);(try have : w.heap.size + 1 < w3.heap.size:=by omega);(try have : w.heap.size + 1 + 1 < w3.heap.size:=by omega);(try have : w.heap.size + 1 + 1 + 1 < w3.heap.size:=by omega)))
 go_ret
 exact ⟨ret_bool (by simp),by (repeat' first|(with_reducible first|exact blR _ _|assumption|refine blD ?_|refine blN ?_ _)|((with_reducible first|refine blA ?_ ?_ _|refine blS ?_ ?_ _|refine blT (by assumption) ?_ ?_);focus (go_size;done)))⟩
end Go.Proofs.YtnhmplfonkjfoaaDoor



namespace Go.Proofs.YtnhmplfonkjfoaaDoor
open Go.RowKit
open Go.ChangeShapes Go.WideShapes Go.ChangeAt
open Go.ChangeMaps (open_string shut_string)

theorem own : ownKnob Tryd.prog.godebug = none:=by kernel_rfl
theorem laidOut : laidOutB Tryd.prog = true:=by kernel_rfl
theorem bulk_pos {H : Type} (d : DataW H) : 1 ≤ Rows.uptoBulk d:=by
 cases d with
 | lit l=>cases l <;> simp [Rows.uptoBulk]
 | _=>simp [Rows.uptoBulk]
theorem bulk_map {H : Type} (D : Nat → DataW H) : ∀ (n : Nat) (L : List Nat),L.length = n → Rows.uptoBulkAll (L.map D) = (L.map fun i=>Rows.uptoBulk (D i)).sum
 | 0,[],_=>rfl
 | n + 1,x :: r,h=>by
  rw [List.map_cons,List.map_cons,Rows.uptoBulkAll,List.sum_cons,bulk_map D n r (by simpa using h)]
theorem bulk_range {H : Type} (D : Nat → DataW H) (n : Nat) : Rows.uptoBulkAll ((List.range n).map D) = ((List.range n).map fun i=>Rows.uptoBulk (D i)).sum:=bulk_map D n _ (by simp)
theorem sum_range_succ (f : Nat → Nat) (n : Nat) : ((List.range (n + 1)).map f).sum = ((List.range n).map f).sum + f n:=by
 rw [List.range_succ,List.map_append,List.sum_append];simp
theorem sum_mem (f : Nat → Nat) : ∀ (n i : Nat),i < n → f i ≤ ((List.range n).map f).sum
 | 0,i,h=>absurd h (Nat.not_lt_zero _)
 | n + 1,i,h=>by
  rw [sum_range_succ]
  rcases Nat.lt_or_ge i n with h' | h'
  ·have:=sum_mem f n i h';omega
  ·obtain rfl : i = n:=by omega
   omega
theorem sum_pos (f : Nat → Nat) (hf : ∀ i,1 ≤ f i) : ∀ n,n ≤ ((List.range n).map f).sum
 | 0=>Nat.zero_le _
 | n + 1=>by
  rw [sum_range_succ]
  have:=sum_pos f hf n
  have:=hf n
  omega
theorem ins_of {P : Nat → InsD → Prop} : ∀ n,(∀ i,i < n → ∃ d,P i d) → ∃ l : List InsD,l.length = n ∧ ∀ i,i < n → P i (ig l i)
 | 0,_=>⟨[],rfl,fun i hi=>absurd hi (Nat.not_lt_zero _)⟩
 | n + 1,h=>by
  obtain ⟨l,h1,h2⟩:=ins_of (P:=P) n (fun i hi=>h i (by omega))
  obtain ⟨d,h4⟩:=h n (by omega)
  refine ⟨l ++ [d],by rw [List.length_append,h1];rfl,fun i hi=>?_⟩
  unfold ig
  rcases Nat.lt_or_ge i n with h' | h'
  ·rw [List.getD_eq_getElem?_getD,List.getElem?_append_left (by omega)]
   have:=h2 i h'
   unfold ig at this
   rwa [List.getD_eq_getElem?_getD] at this
  ·obtain rfl : i = n:=by omega
   rw [List.getD_eq_getElem?_getD,List.getElem?_append_right (by omega),h1,Nat.sub_self]
   exact h4
section
variable {H : Type} {enc : TypeId × Value → H} {W : World} {b0 : Nat} {sp : Nat → Bool} {held : Bool}
theorem u64_wf {z : Int} (hz : (Lit.int .u64 z).wf = true) : U64 z:=by
 have e1 : IntKind.u64.min = 0:=rfl
 have e2 : IntKind.u64.max = 18446744073709551615:=rfl
 simp [Lit.wf,e1,e2] at hz
 unfold U64
 omega
set_option maxRecDepth 100000 in
theorem open_dec8 {fuel : Nat} {c0 c1 c2 c3 : Value} {x : DataW H × List MemPlace} (h : DataW.trod enc Tryd.prog W b0 sp held fuel 41 [c0,c1,c2,c3] = some x) :
  ∃ (b : Bool) (hi lo s : Int),U64 hi ∧ U64 lo ∧ c0 = .bool b ∧ c1 = .int .u64 hi ∧ c2 = .int .u64 lo ∧ c3 = .int .i64 s:=by
 obtain ⟨xs,n,_,hx,_,hlen,hg⟩:=DataW.trod_struct Tryd.underlying41 h
 have n0 : Tryd.prog.cellsOf 4 = 1:=by kernel_rfl
 have n1 : Tryd.prog.cellsOf 39 = 2:=by kernel_rfl
 have n2 : Tryd.prog.cellsOf 3 = 1:=by kernel_rfl
 have n3 : Tryd.prog.cellsOf 37 = 1:=by kernel_rfl
 have g0:=hg 0 _ rfl
 have g1:=hg 1 _ rfl
 have g2:=hg 2 _ rfl
 clear hg hx
 match xs,hlen with
 | [y0,y1,y2],_ =>
  simp only [List.getElem_toArray,List.getElem_cons_zero,List.getElem_cons_succ,n0,n1,n2] at g0 g1 g2
  simp at g0 g1 g2
  obtain ⟨b,e0,_⟩:=DataW.trod_bool Tryd.underlying4 g0
  obtain ⟨z2,e2,_,w2⟩:=DataW.trod_int Tryd.underlying3 g2
  obtain ⟨ys,n',_,_,_,hlen2,hg2⟩:=DataW.trod_struct Tryd.underlying39 g1
  have k0:=hg2 0 _ rfl
  have k1:=hg2 1 _ rfl
  match ys,hlen2 with
  | [q0,q1],_ =>
   simp only [List.getElem_toArray,List.getElem_cons_zero,List.getElem_cons_succ,n3] at k0 k1
   simp at k0 k1
   obtain ⟨z0,f0,_,v0⟩:=DataW.trod_int Tryd.underlying37 k0
   obtain ⟨z1,f1,_,v1⟩:=DataW.trod_int Tryd.underlying37 k1
   simp at e0 e2 f0 f1
   exact ⟨b,z0,z1,z2,u64_wf v0,u64_wf v1,e0,f0,f1,e2⟩
set_option maxRecDepth 100000 in
theorem open_oneI {fuel : Nat} {cs : List Value} {x : DataW H × List MemPlace} (h : DataW.trod enc Tryd.prog W b0 sp held fuel 43 cs = some x) : ∃ i : InsD,cs = i.cs ∧ U64 i.hi ∧ U64 i.lo ∧ i.tx.data.toList.length + 1 ≤ Rows.uptoBulk x.1:=by
 obtain ⟨xs,n,_,hx,hcl,hlen,hg⟩:=DataW.trod_struct Tryd.underlying43 h
 have n0 : Tryd.prog.cellsOf 3 = 1:=by kernel_rfl
 have n2 : Tryd.prog.cellsOf 41 = 4:=by kernel_rfl
 have n3 : Tryd.prog.cellsOf 9 = 1:=by kernel_rfl
 have n6 : Tryd.prog.cellsOf 43 = 8:=by kernel_rfl
 rw [n6] at hcl
 have g0:=hg 0 _ rfl
 have g1:=hg 1 _ rfl
 have g2:=hg 2 _ rfl
 have g3:=hg 3 _ rfl
 have g4:=hg 4 _ rfl
 clear hg h
 match cs,hcl with
 | [c0,c1,c2,c3,c4,c5,c6,c7],_ =>
  match xs,hlen with
  | [y0,y1,y2,y3,y4],_ =>
   simp only [List.getElem_toArray,List.getElem_cons_zero,List.getElem_cons_succ,n0,n2,n3] at g0 g1 g2 g3 g4
   simp at g0 g1 g2 g3 g4
   obtain ⟨op,e0,r0,_⟩:=DataW.trod_int Tryd.underlying3 g0
   obtain ⟨a,e1,r1,_⟩:=DataW.trod_int Tryd.underlying3 g1
   obtain ⟨text,e2,r2,_⟩:=DataW.trod_string Tryd.underlying9 g2
   obtain ⟨ng,hi,lo,sc,uh,ul,e3,e4,e5,e6⟩:=open_dec8 g3
   obtain ⟨day,e7,r7,_⟩:=DataW.trod_int Tryd.underlying3 g4
   simp at e0 e1 e2 e7
   subst e0 e1 e2 e3 e4 e5 e6 e7
   subst hx
   refine ⟨⟨op,a,text,ng,hi,lo,sc,day⟩,rfl,uh,ul, ?_⟩
   simp only [Rows.uptoBulk,List.map_cons,List.map_nil,Rows.uptoBulkAll]
   have : Rows.uptoBulk y2.1 = text.data.toList.length + 1:=by rw [r2];rfl
   omega
set_option maxRecDepth 100000 in
theorem open_codI {base B : Nat} {v : Value} {d : DataW H} {p : List MemPlace} (hv : Value.okWide Tryd.prog W .any B 24 v) (h : DataW.Trod enc Tryd.prog W base sp held 24 v d p) :
  ∃ is,Cod W v is ∧ (∀ r,r < is.length → U64 (ig is r).hi ∧ U64 (ig is r).lo ∧ (ig is r).tx.data.toList.length + 1 ≤ Rows.uptoBulk d) ∧ is.length ≤ Rows.uptoBulk d:=by
 obtain ⟨a0,len,cap,rfl⟩:=okWide_slice Tryd.underlying24 hv
 obtain ⟨fuel,hf⟩:=h
 have n6 : Tryd.prog.cellsOf 43 = 8:=by kernel_rfl
 rcases Deep.open_slice Tryd.underlying24 hf with ⟨hc,_⟩ | ⟨a,len',cap',m,n',D,Pl,hc,_,hl,hm,hmm,hx,hxs⟩
 ·simp [Value.cells] at hc
  obtain ⟨rfl,rfl,rfl⟩:=hc
  exact ⟨[],⟨none,0,rfl,Nat.zero_le _,fun r hr=>absurd hr (Nat.not_lt_zero _)⟩,fun r hr=>absurd hr (Nat.not_lt_zero _),Nat.zero_le _⟩
 ·simp [Value.cells] at hc
  obtain ⟨rfl,rfl,rfl⟩:=hc
  rw [n6] at hxs
  have hle : len ≤ m:=by rw [hmm];split <;> omega
  have hd : d = .slice ((List.range len).map D) ((List.range (m - len)).map fun j=>D (len + j)):=congrArg Prod.fst hx
  have hbd : ((List.range len).map fun i=>Rows.uptoBulk (D i)).sum + 1 ≤ Rows.uptoBulk d:=by
   rw [hd]
   simp only [Rows.uptoBulk]
   rw [bulk_range]
   omega
  obtain ⟨b,o,spot⟩:=a
  obtain ⟨l,h1,h2⟩:=ins_of (P:=fun i x=>spot = none ∧ At W b (o + i * 8) x.cs ∧ U64 x.hi ∧ U64 x.lo ∧ x.tx.data.toList.length + 1 ≤ Rows.uptoBulk (D i)) len (fun i hi=>by
   obtain ⟨cs',q1,q2⟩:=hxs i (by omega)
   obtain ⟨x,e,u1,u2,u3⟩:=open_oneI q2
   obtain ⟨_,hl10,hat⟩:=World.cells?_some q1
   have hspot : spot = none:=by
    obtain ⟨cs0,p1,_⟩:=hxs 0 (by omega)
    obtain ⟨_,hl0,hat0⟩:=World.cells?_some p1
    have h0:=hat0 0 (by omega)
    rw [List.getElem?_eq_getElem (by omega)] at h0
    simpa [Addr.add] using World.cell?_spot h0
   subst hspot
   refine ⟨x,rfl,fun j hj=>?_,u1,u2,u3⟩
   rw [← e] at hj ⊢
   rw [← hat j (by omega)]
   congr 1
   rw [show ((⟨b,o,none⟩ : Addr).add (i * 8)) = ⟨b,o + i * 8,none⟩ from add_plain ..,show ((⟨b,o + i * 8,none⟩ : Addr).add j) = ⟨b,o + i * 8 + j,none⟩ from add_plain ..])
  refine ⟨l,⟨some ⟨b,o,spot⟩,cap,by rw [h1],by rw [h1];omega,fun r hr=>?_⟩,fun r hr=>?_, ?_⟩
  ·obtain ⟨q0,q1,_⟩:=h2 r (by omega)
   subst q0
   exact ⟨b,o,rfl,q1⟩
  ·obtain ⟨_,_,q1,q2,q3⟩:=h2 r (by omega)
   have:=sum_mem (fun i=>Rows.uptoBulk (D i)) len r (by omega)
   exact ⟨q1,q2,by omega⟩
  ·have:=sum_pos (fun i=>Rows.uptoBulk (D i)) (fun i=>bulk_pos _) len
   omega
end
theorem first_is : Rows.laid_unicode_utf8_first = Lib.firstData:=by kernel_rfl
theorem accept_is : (Rows.laid_unicode_utf8_acceptRanges : DataW Unit) = Lib.acceptData:=by kernel_rfl
theorem tabs_laid {W : World} (hL : laidMet Tryd.prog [("unicode/utf8.acceptRanges", Rows.laid_unicode_utf8_acceptRanges), ("unicode/utf8.first", Rows.laid_unicode_utf8_first)] W) : Tabs W := by
 rw [first_is,accept_is] at hL
 exact utf8Tabs_of_readsT (U8Types.of196 Tryd.lays196) ⟨by kernel_rfl,by kernel_rfl,by kernel_rfl,by kernel_rfl,by kernel_rfl,by kernel_rfl,by kernel_rfl⟩ (Lib.laidMet.reads hL (.tail _ (.head _))) (Lib.laidMet.reads hL (.head _))
end Go.Proofs.YtnhmplfonkjfoaaDoor

