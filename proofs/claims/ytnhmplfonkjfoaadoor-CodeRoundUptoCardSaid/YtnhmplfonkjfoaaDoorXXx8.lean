/- What this law reaches beyond the common contracts, part 8. -/
import Derived.ProofKit
import Derived.OpenShut
import Derived.ShutString
import Derived.ChangeOld
import Derived.Below
import Derived.Lib.SmallJoins
import Derived.Deep.Matrix
import Derived.ChangeArms
import Derived.Lib.LaidIn
import Derived.Lib.LaidU8T
import Derived.Test.YtnhmplfonkjfoaaDoorCards
import Derived.Test.YtnhmplfonkjfoaaDoorTie
import Derived.Deep.DeepHandedRow
import Derived.LaidMore
import Derived.Lay
import Derived.SevenTiedAt
import Derived.Test.YtnhmplfonkjfoaaDoorM2
import Derived.Test.YtnhmplfonkjfoaaDoorXXx7
set_option linter.unusedSimpArgs false
set_option linter.unusedVariables false


namespace Go.Proofs.YtnhmplfonkjfoaaDoor
open Go.RowKit

theorem good_ji {i : InsD} (h : GoodJ i) : GoodI i:=⟨h.1,h.2.1,by have:=h.2.2;omega⟩
end Go.Proofs.YtnhmplfonkjfoaaDoor



namespace Go.Proofs.YtnhmplfonkjfoaaDoor
open Go.RowKit

theorem part_any (is : List InsD) (hl : is.length ≤ 600) (hI : ∀ r,r < is.length → I64 (ig is r).a) : ∀ f,PartOk is f
 | 0=>fun i e w0 w o g vC vO out hf=>absurd hf (Nat.not_lt_zero _)
 | f + 1=>part_step is hl hI f (part_any is hl hI f)
theorem unD_goodI {is : List InsD} (hg : ∀ r,r < is.length → GoodI (ig is r)) : ∀ (f i e : Nat) (L : List InsD),e ≤ is.length → unD is f i e = some L → ∀ x ∈ L,GoodI x
 | 0,_,_,_,_,h=>by cases h
 | f + 1,i,e,L,hel,h=>by
  by_cases hlt : i < e
  ·by_cases c1 : (ig is i).op = 103
   ·rw [unD_enter hlt c1] at h
    exact unD_goodI hg f _ _ _ hel h
   ·by_cases c2 : (ig is i).op = 104
    ·rw [unD_leave hlt c2] at h
     obtain ⟨r,hr,rfl⟩:=Option.map_eq_some_iff.1 h
     have ih:=unD_goodI hg f _ _ _ hel hr
     intro x hx
     rcases List.mem_cons.1 hx with rfl | hx
     ·exact good_ji (good_o _ _)
     ·exact ih x hx
    ·by_cases c3 : (ig is i).op = 102
     ·by_cases hp : ifP is i e (ig is i).a
      ·rw [unD_if hlt c3 hp] at h
       obtain ⟨p1,p2,p3,p4,p5⟩:=hp
       cases hb : unD is f (i + 1) ((ig is i).a.toNat - 1) with
       | none=>rw [hb] at h;cases h
       | some b =>
        cases hd : unD is f (ig is i).a.toNat (ig is ((ig is i).a.toNat - 1)).a.toNat with
        | none=>rw [hb,hd] at h;cases h
        | some d =>
         rw [hb,hd] at h
         obtain ⟨r,hr,rfl⟩:=Option.map_eq_some_iff.1 h
         have h1:=unD_goodI hg f _ _ _ (by omega) hb
         have h2:=unD_goodI hg f _ _ _ (by omega) hd
         have h3:=unD_goodI hg f _ _ _ hel hr
         intro x hx
         simp only [List.mem_append,List.mem_singleton] at hx
         rcases hx with ((hx | hx) | rfl) | hx
         ·exact h1 x hx
         ·exact h2 x hx
         ·exact good_ji (good_o _ _)
         ·exact h3 x hx
      ·rw [unD_ifno hlt c3 hp] at h;cases h
     ·cases hn : nodeB (ig is i) with
      | true =>
       rw [unD_node hlt c1 c2 c3 hn] at h
       obtain ⟨r,hr,rfl⟩:=Option.map_eq_some_iff.1 h
       have ih:=unD_goodI hg f _ _ _ hel hr
       intro x hx
       rcases List.mem_cons.1 hx with rfl | hx
       ·exact hg i (by omega)
       ·exact ih x hx
      | false=>rw [unD_no hlt c1 c2 c3 hn] at h;cases h
  ·rw [unD_end (by omega)] at h
   injection h with h
   rw [← h]
   exact fun x hx=>by cases hx
def BkPost (R : List InsD × Int) (w : World) (e : Ending) (w' : World) : Prop:=∃ r o,e = .returned (.tuple #[r,.int .i64 R.2]) ∧ Turn (fun l=>l ≠ 0) w (fun _=>0) w' o ∧ Ro w' o 2 45 8 r R.1.length (ics R.1)
set_option maxRecDepth 100000 in
set_option maxHeartbeats 3000000 in
theorem back_any (is : List InsD) (v : Value) (b : Bool) (w : World) (hT : Tabs w) (h : Cod w v is) (hg : ∀ r,r < is.length → GoodI (ig is r)) (hI : ∀ r,r < is.length → I64 (ig is r).a) : Calls Tryd.prog 16 #[v,.bool b] w (BkPost (unbD is b) w):=by
 unfold BkPost
 by_cases hl : 600 < is.length
 ·have hD : unbD is b = ([],6):=by unfold unbD;rw [if_pos hl]
  rw [hD]
  obtain ⟨A,C,rfl,-,-⟩:=h
  have hl2 : (600 : Int) < (is.length : Int):=by omega
  clear hD
  go_enter Tryd.func16,Tryd.ntmps16
  go_wp2_with fail
  refine bodyPost_ret (by simp [results,Tryd.results16,go_sem, *];try rfl) rfl ?_
  exact ⟨.slice none 0 0,fun _=>0,rfl,Turn.refl _ _ _,Ro.nil _ _ _ _ _⟩
 ·have hl2 : (is.length : Int) ≤ 600:=by omega
  have hD : unbD is b = match unD is (is.length + 1) 0 is.length with
   | none=>([],2)
   | some L=>if chkP L b = 0 ∧ sameB (compD L) is = true then (L,0) else ([],2):=by
   unfold unbD
   rw [if_neg hl]
   rfl
  have HC:=Lib.hid h
  have HT:=Lib.hid hT
  obtain ⟨A,C,rfl,-,-⟩:=h
  obtain ⟨w1,hw1⟩ : ∃ x,x = w.alloc (.cells #[.slice A is.length C,.slice none 0 0] 71):=⟨_,rfl⟩
  have hM : Bkm w (relabel (fun _=>0) w.heap.size 1) w1 w.heap.size (.slice A is.length C) (.slice none 0 0) []:=by
   rw [hw1]
   exact ⟨Lb.new (w:=w) (fun _=>0) 1 71 [.slice A is.length C,.slice none 0 0] (Nat.le_refl _),Ro.nil _ _ _ _ _,((Turn.refl _ _ _).alloc _).relabel (Nat.le_refl _) 1⟩
  have HU:=Lib.hid (show Calls Tryd.prog 28 #[.pointer (some ⟨w.heap.size,0,none⟩),.int .i64 0,.int .i64 (is.length : Int)] w1 _ from part_any is (by omega) hI (is.length + 1) 0 is.length w w1 _ w.heap.size _ _ [] (by omega) (Nat.zero_le _) (Nat.le_refl _) (by show 0 + _ ≤ _;omega) HC.out hM)
  unfold PartPost at HU
  rw [hw1] at HU
  clear hM hw1
  cases hX : unD is (is.length + 1) 0 is.length with
  | none =>
   rw [hX] at hD HU
   dsimp only at hD
   rw [hD]
   clear hD hX hl
   go_enter Tryd.func16,Tryd.ntmps16
   go_wp2_with (go_at_call 28;(with_reducible refine HU.out.mono ?_);rintro _ w2 ⟨vO,L,o2,rfl,hm2,ht2,hl9,hy2⟩)
   refine bodyPost_ret (by simp [results,Tryd.results16,go_sem, *];try rfl) rfl ?_
   exact ⟨.slice none 0 0,o2,rfl,hm2.turn,Ro.nil _ _ _ _ _⟩
  | some L =>
   rw [hX] at hD HU
   dsimp only at hD
   have hgL:=unD_goodI hg _ _ _ _ (Nat.le_refl _) hX
   have HCK:=Lib.hid (fun (W : World) (r : Value) (hr : Cod W r L) (hW : Below w.heap.size w W)=>compile_any L r b W hr (fun k hk=>hgL _ (ig_mem hk)) (tabs_below HT.out hW))
   unfold CmpPost at HCK
   by_cases h0 : chkP L b = 0
   ·have hcd : cmpD L b = compD L:=if_pos h0
    have HSM:=Lib.hid (fun (W : World) (r1 : Value) (hr : Cod W r1 (compD L)) (hW : Below w.heap.size w W)=>equal_ins (compD L) is r1 _ W hr (HC.out.below hW))
    rw [h0,hcd] at HCK
    cases hs : sameB (compD L) is with
    | true =>
     rw [if_pos ⟨h0,hs⟩] at hD
     rw [hs] at HSM
     rw [hD]
     clear hD hX hl h0 hs hgL hcd
     go_enter Tryd.func16,Tryd.ntmps16
     go_upto_region 6 with (go_at_call 28;(with_reducible refine HU.out.mono ?_);rintro _ w2 ⟨vO,L2,o2,rfl,hm2,ht2,hl9,hy2⟩;have e9 : L2 = L:=hy2 L rfl;clear hy2;subst e9)
     have hcw:=hm2.row.cod rfl
     have hbw:=hm2.below
     have HCC:=Lib.hid (HCK.out w2 _ hcw hbw)
     have HBW:=Lib.hid hbw
     have HM2:=Lib.hid hm2
     have c1w:=hm2.lb.1.cell 1 rfl
     have lgw:=hm2.lb.1.lt
     obtain ⟨AO,CO,rfl,-⟩:=hm2.row.sl.is
     clear hm2 hcw hbw ht2 hl9
     go_wp2_with (first | (go_at_call 11;(with_reducible refine HCC.out.mono ?_);rintro _ w3 ⟨r3,o3,rfl,ht3,hr3⟩;have hb3:=ht3.below (B:=w2.heap.size) (fun _ _=>by simp) (Nat.le_refl _);have hc3:=hr3.cod rfl;have hbw3:=HBW.out.trans (hb3.mono HBW.out.size);have c13:=(hb3.cell (p:=⟨w.heap.size,1,none⟩) lgw).trans c1w;have lg3:=Nat.lt_of_lt_of_le lgw hb3.size) | (go_at_call 29;(with_reducible refine (HSM.out _ _ hc3 hbw3).mono ?_);rintro _ w4 ⟨rfl,hb4⟩;have c14:=(hb4.cell (p:=⟨w.heap.size,1,none⟩) lg3).trans c13;have lg4:=Nat.lt_of_lt_of_le lg3 hb4.size))
     refine bodyPost_ret (by simp [results,Tryd.results16,go_sem, *];try rfl) rfl ?_
     have hb24:=hb3.trans (hb4.mono hb3.size)
     exact ⟨_,_,rfl,bk_turn HM2.out.turn hb24,(HM2.out.kept hb24).row⟩
    | false =>
     rw [if_neg (fun hh=>by rw [hs] at hh;cases hh.2)] at hD
     rw [hs] at HSM
     rw [hD]
     clear hD hX hl h0 hs hgL hcd
     go_enter Tryd.func16,Tryd.ntmps16
     go_upto_region 6 with (go_at_call 28;(with_reducible refine HU.out.mono ?_);rintro _ w2 ⟨vO,L2,o2,rfl,hm2,ht2,hl9,hy2⟩;have e9 : L2 = L:=hy2 L rfl;clear hy2;subst e9)
     have hcw:=hm2.row.cod rfl
     have hbw:=hm2.below
     have HCC:=Lib.hid (HCK.out w2 _ hcw hbw)
     have HBW:=Lib.hid hbw
     have HM2:=Lib.hid hm2
     have c1w:=hm2.lb.1.cell 1 rfl
     have lgw:=hm2.lb.1.lt
     obtain ⟨AO,CO,rfl,-⟩:=hm2.row.sl.is
     clear hm2 hcw hbw ht2 hl9
     go_wp2_with (first | (go_at_call 11;(with_reducible refine HCC.out.mono ?_);rintro _ w3 ⟨r3,o3,rfl,ht3,hr3⟩;have hb3:=ht3.below (B:=w2.heap.size) (fun _ _=>by simp) (Nat.le_refl _);have hc3:=hr3.cod rfl;have hbw3:=HBW.out.trans (hb3.mono HBW.out.size)) | (go_at_call 29;(with_reducible refine (HSM.out _ _ hc3 hbw3).mono ?_);rintro _ w4 ⟨rfl,hb4⟩))
     refine bodyPost_ret (by simp [results,Tryd.results16,go_sem, *];try rfl) rfl ?_
     have hb24:=hb3.trans (hb4.mono hb3.size)
     exact ⟨.slice none 0 0,_,rfl,bk_turn HM2.out.turn hb24,Ro.nil _ _ _ _ _⟩
   ·rw [if_neg (fun hh=>h0 hh.1)] at hD
    rw [hD]
    obtain ⟨z,hz⟩ : ∃ z,z = chkP L b:=⟨_,rfl⟩
    rw [← hz] at HCK h0
    have hne : (z != 0) = true:=by rw [bne_iff_ne];exact h0
    clear hD hX hl hz h0 hgL
    go_enter Tryd.func16,Tryd.ntmps16
    go_upto_region 6 with (go_at_call 28;(with_reducible refine HU.out.mono ?_);rintro _ w2 ⟨vO,L2,o2,rfl,hm2,ht2,hl9,hy2⟩;have e9 : L2 = L:=hy2 L rfl;clear hy2;subst e9)
    have hcw:=hm2.row.cod rfl
    have hbw:=hm2.below
    have HCC:=Lib.hid (HCK.out w2 _ hcw hbw)
    have HBW:=Lib.hid hbw
    have HM2:=Lib.hid hm2
    have c1w:=hm2.lb.1.cell 1 rfl
    have lgw:=hm2.lb.1.lt
    obtain ⟨AO,CO,rfl,-⟩:=hm2.row.sl.is
    clear hm2 hcw hbw ht2 hl9
    go_wp2_with (go_at_call 11;(with_reducible refine HCC.out.mono ?_);rintro _ w3 ⟨r3,o3,rfl,ht3,hr3⟩;have hb3:=ht3.below (B:=w2.heap.size) (fun _ _=>by simp) (Nat.le_refl _))
    refine bodyPost_ret (by simp [results,Tryd.results16,go_sem, *];try rfl) rfl ?_
    exact ⟨.slice none 0 0,_,rfl,bk_turn HM2.out.turn hb3,Ro.nil _ _ _ _ _⟩
end Go.Proofs.YtnhmplfonkjfoaaDoor



namespace Go.Proofs.YtnhmplfonkjfoaaDoor
open Go.RowKit

theorem mem_row {Q : InsD → Prop} {op : Int} {g : Nat → Nat → List InsD} {p : List Nat} {fr : Nat} (h3 : Q (insO 103 0)) (hg : ∀ x ∈ p,∀ k,∀ y ∈ g x k,Q y) : ∀ k,k ≤ p.length → ∀ y ∈ rowD op g p fr k,Q y
 | 0,_,y,hy=>by cases hy
 | k + 1,hk,y,hy=>by
  have hy : y ∈ rowD op g p fr k ++ g (ng p k) (fr + (rowD op g p fr k).length) ++ (if op = 23 ∧ k = 0 then [insO 103 0] else []):=hy
  rcases List.mem_append.1 hy with hy | hy
  ·rcases List.mem_append.1 hy with hy | hy
   ·exact mem_row h3 hg k (by omega) y hy
   ·exact hg _ (ng_mem (by omega)) _ y hy
  ·split at hy
   ·rw [List.mem_singleton.1 hy];exact h3
   ·cases hy
theorem mem_body {Q : InsD → Prop} {i : InsD} {g : Nat → Nat → List InsD} {p : List Nat} {fr : Nat} (h1 : ∀ a,Q (insO 101 a)) (h2 : ∀ a,Q (insO 102 a)) (h3 : Q (insO 103 0)) (h4 : Q (insO 104 0)) (hl : Q (lastI i)) (hp : i.op = 21 → p.length = 3) (hg : ∀ x ∈ p,∀ k,∀ y ∈ g x k,Q y) : ∀ y ∈ bodyD i g p fr,Q y:=fun y hy=>by
 unfold bodyD at hy
 by_cases c : i.op = 21
 ·have hl:=hp c
  rw [if_pos c] at hy
  simp only [List.mem_append,List.mem_singleton] at hy
  rcases hy with (((hy | hy) | hy) | hy) | hy
  ·exact hg _ (ng_mem (by omega)) _ y hy
  ·rw [hy];exact h2 _
  ·exact hg _ (ng_mem (by omega)) _ y hy
  ·rw [hy];exact h1 _
  ·exact hg _ (ng_mem (by omega)) _ y hy
 ·rw [if_neg c] at hy
  rcases List.mem_append.1 hy with hy | hy
  ·exact mem_row h3 hg _ (Nat.le_refl _) y hy
  ·rw [List.mem_singleton.1 hy]
   split
   ·exact h4
   ·exact hl
theorem mem_of {Q : InsD → Prop} {is : List InsD} {PS : Pts} (hw : Wf is PS) (h1 : ∀ a,Q (insO 101 a)) (h2 : ∀ a,Q (insO 102 a)) (h3 : Q (insO 103 0)) (h4 : Q (insO 104 0)) (hl : ∀ a,a < is.length → Q (lastI (ig is a))) : ∀ (f a fr : Nat),a < f → a < is.length → ∀ y ∈ ofF is PS f a fr,Q y
 | 0,_,_,h,_=>absurd h (Nat.not_lt_zero _)
 | f + 1,a,fr,hf,ha=>mem_body h1 h2 h3 h4 (hl a ha) (hw.three a ha) (fun x hx k=>by
  have:=hw.lt a ha x hx
  exact mem_of hw h1 h2 h3 h4 hl f x k (by omega) (by omega))
theorem part_bound {is : List InsD} {PS : Pts} {HV : List Nat} : ∀ (n t : Nat) (ps : Pts) (hv : List Nat),n + t = is.length → ps.length = t → stGo is n t ps hv = some (PS,HV) → hv.length ≤ t → (∀ j,j < ps.length → (pgN ps j).length ≤ is.length) → ∀ j,j < PS.length → (pgN PS j).length ≤ is.length
 | 0,t,ps,hv,_,_,h,_,hp=>by
  injection h with h
  injection h with h1 _
  rw [← h1];exact hp
 | n + 1,t,ps,hv,hn,hl,h,hh,hp=>by
  cases hc : stOk (ig is t) hv with
  | false=>rw [stGo_no hc] at h;cases h
  | true =>
   rw [stGo_yes hc] at h
   have hpl : (stPart (ig is t) hv).length ≤ hv.length:=by unfold stPart;rw [List.length_drop];omega
   refine part_bound n (t + 1) _ _ (by omega) (by rw [List.length_append,hl];rfl) h ?_ (fun j hj=>?_)
   ·unfold stStep
    rw [List.length_append,List.length_take]
    show _ + 1 ≤ t + 1
    omega
   ·rw [List.length_append] at hj
    have hj : j < ps.length + 1:=hj
    unfold pgN at hp ⊢
    by_cases e : j < ps.length
    ·rw [getD_left _ _ _ e]
     exact hp j e
    ·obtain rfl : j = ps.length:=by omega
     rw [getD_last _ _ _ rfl]
     omega
theorem comp_good {is : List InsD} {b : Bool} (h : chkP is b = 0) (hg : ∀ r,r < is.length → GoodJ (ig is r)) : (∀ r,r < (compD is).length → GoodJ (ig (compD is) r)) ∧ ∀ r,r < (compD is).length → I64 (ig (compD is) r).a:=by
 obtain ⟨h3,hpos,PS,hn,hs,hcd,hl,-,-⟩:=chk_nod h
 have hPL:=stGo_len _ _ _ _ _ _ hs
 have hpb:=part_bound is.length 0 [] [] rfl rfl hs (Nat.le_refl _) (fun j hj=>absurd hj (Nat.not_lt_zero _))
 have hla : ∀ a,a < is.length → 0 ≤ (lastI (ig is a)).a ∧ (lastI (ig is a)).a ≤ 300:=fun a ha=>by
  obtain ⟨hk,hkl⟩:=hn.kid a ha
  have:=hpb a (by rw [hPL];omega)
  have:=kids_pos hk
  unfold lastI
  split
  ·omega
  ·show (0 : Int) ≤ 0 ∧ (0 : Int) ≤ 300
   omega
 have hm:=mem_of (Q:=fun y=>GoodJ y ∧ (¬ jmpP y.op → 0 ≤ y.a ∧ y.a ≤ 300)) hn.wf (fun a=>⟨good_o 101 a,fun hh=>absurd (Or.inl rfl) hh⟩) (fun a=>⟨good_o 102 a,fun hh=>absurd (Or.inr rfl) hh⟩)
  ⟨good_o 103 0,fun _=>by show (0 : Int) ≤ 0 ∧ (0 : Int) ≤ 300;omega⟩ ⟨good_o 104 0,fun _=>by show (0 : Int) ≤ 0 ∧ (0 : Int) ≤ 300;omega⟩ (fun a ha=>⟨by
   have:=hg a ha
   unfold lastI
   split
   ·exact this
   ·exact this,fun _=>hla a ha⟩) (is.length - 1 + 1) (is.length - 1) 0 (Nat.lt_succ_self _) (by omega)
 have hjf:=ofF_jf hn.wf (is.length - 1 + 1) (is.length - 1) 0 (Nat.lt_succ_self _) (by omega)
 have hcd' : ofF is PS (is.length - 1 + 1) (is.length - 1) 0 = compD is:=hcd.symm
 rw [hcd'] at hm hjf
 refine ⟨fun r hr=>(hm _ (ig_mem hr)).1,fun r hr=>?_⟩
 have q:=hm _ (ig_mem hr)
 have j:=hjf _ (ig_mem hr)
 unfold I64
 by_cases e : jmpP (ig (compD is) r).op
 ·have:=j e
  omega
 ·have:=q.2 e
  omega
end Go.Proofs.YtnhmplfonkjfoaaDoor



namespace Go.Proofs.YtnhmplfonkjfoaaDoor
open Go.RowKit

set_option maxRecDepth 100000 in
set_option maxHeartbeats 1500000 in
theorem walk_rounds (HVer : ∀ (c : List InsD) (u : Value) (b : Bool) (W : World),Cod W u c → Calls Tryd.prog 14 #[u,.bool b] W (VerPost c b W)) (is : List InsD) (v : Value) (b : Bool) (w : World) (hT : Tabs w) (h : Cod w v is) (hg : ∀ r,r < is.length → GoodJ (ig is r)) : Calls Tryd.prog 6 #[v,.bool b] w fun e w'=>e = .returned (.bool true) ∧ Below w.heap.size w w':=by
 have HK:=Lib.hid (known14_any w hT)
 have HC:=Lib.hid (fun (W : World) (hW : Below w.heap.size w W)=>compile_any is v b W (h.below hW) (fun r hr=>good_ji (hg r hr)) (tabs_below hT hW))
 unfold CmpPost at HC
 have HN:=Lib.hid h
 have HT:=Lib.hid hT
 by_cases h0 : chkP is b = 0
 ·have hcd : cmpD is b = compD is:=if_pos h0
  obtain ⟨z,hv,hz1,hz2,hl2⟩:=ver_comp h0
  have hl3:=(chk_zero h0).1
  have hbk:=back_comp h0
  obtain ⟨hgc,hic⟩:=comp_good h0 hg
  have hj:=ver_jumps (X:=compD is) (f:=fB b) (by rw [hv])
  obtain ⟨c,hc⟩ : ∃ c,c = compD is:=⟨_,rfl⟩
  rw [← hc] at hcd hv hl2 hbk hgc hic hj
  have HV:=Lib.hid (fun (W : World) (u : Value) (hu : Cod W u c)=>HVer c u b W hu)
  unfold VerPost at HV
  rw [hv] at HV
  have HB:=Lib.hid (fun (W : World) (u : Value) (hu : Cod W u c) (hW : Below w.heap.size w W)=>back_any c u b W (tabs_below HT.out hW) hu (fun r hr=>good_ji (hgc r hr)) hic)
  unfold BkPost at HB
  rw [hbk] at HB
  rw [h0,hcd] at HC
  dsimp only at HV HB
  have HJ:=Lib.hid hj
  have HZ:=Lib.hid (And.intro hz1 hz2)
  have hl2 : (c.length : Int) ≤ 2 * (is.length : Int):=by omega
  obtain ⟨A,C,rfl,-,-⟩:=h
  clear h0 hcd hv hbk hgc hic hj hc hg hT
  go_enter Tryd.func6,Tryd.ntmps6
  go_upto_region 8 with (first | ((go_at_call 9;with_reducible refine (HK.out).mono ?_);rintro _ w1 ⟨rfl,hb1⟩;have hb1s:=hb1.size;(try simp only [wsA,wsS,wsD,wsN] at hb1s);obtain ⟨hb1c,hb1f⟩:=bcell hb1;(try have : w.heap.size < w1.heap.size:=by omega);(try have : w.heap.size + 1 < w1.heap.size:=by omega);(try have : w.heap.size + 1 + 1 < w1.heap.size:=by omega);(try have : w.heap.size + 1 + 1 + 1 < w1.heap.size:=by omega)) | (go_at_call 11;(with_reducible refine (HC.out _ (by (repeat' first|(with_reducible first|exact blR _ _|assumption|refine blD ?_|refine blN ?_ _)|((with_reducible first|refine blA ?_ ?_ _|refine blS ?_ ?_ _|refine blT (by assumption) ?_ ?_);focus (go_size;done))))).mono ?_);rintro _ w2 ⟨r2,o2,rfl,ht2,hr2⟩;have hb2 : Below w1.heap.size w1 w2:=ht2.below (fun _ _=>by simp) (Nat.le_refl _);have hbw2:=hb1.trans (hb2.mono hb1.size);have hc2:=hr2.cod rfl;clear ht2 hr2 hb1 hb2) | (go_at_call 14;(with_reducible refine (HV.out _ _ hc2).mono ?_);rintro _ w3 ⟨rfl,hb3⟩;have hbw3:=hbw2.trans (hb3.mono hbw2.size);have hc3 : Cod w3 r2 c:=hc2.below hb3) | (go_at_call 16;(with_reducible refine (HB.out _ _ hc3 hbw3).mono ?_);rintro _ w4 ⟨r4,o4,rfl,ht4,hr4⟩))
  have hb4 : Below w3.heap.size w3 w4:=ht4.below (fun _ _=>by simp) (Nat.le_refl _)
  have hbw4:=hbw3.trans (hb4.mono hbw3.size)
  have HC4 : Hid (Cod w4 r2 c):=Lib.hid (hc3.below hb4)
  have HS:=Lib.hid (same_node is is r4 _ w4 (hr4.cod rfl) (HN.out.below hbw4))
  rw [sameB_yes rfl] at HS
  obtain ⟨A4,C4,rfl,-⟩:=hr4.sl.is
  obtain ⟨A2,C2,hr2,hn2,-⟩:=hc2
  subst hr2
  unfold maxLen at hn2
  have hz1:=HZ.out.1
  have hz2:=HZ.out.2
  clear hr4 ht4 hb4 hc3 hb3 hbw2 hbw3
  go_wp2_with (go_at_call 17;(with_reducible refine HS.out.mono ?_);rintro _ w5 ⟨rfl,hb5⟩;have hbw5:=hbw4.trans (hb5.mono hbw4.size))
  have HC5 : Hid (Cod w5 (.slice A2 c.length C2) c):=Lib.hid (HC4.out.below hb5)
  clear hb5 hbw4
  go_loopg [11] c.length (fun k i wr=>∃ t : Nat,k + t = c.length ∧ i = .int .i64 t ∧ Hid (Below w5.heap.size w5 wr))
  case atStart=>exact ⟨0,by omega,rfl,Lib.hid (Below.refl _ _)⟩
  case round =>
   obtain ⟨t,hk,rfl,HB5⟩:=hrel
   have HKK:=Lib.hid hk
   have htn : t ≤ c.length:=by omega
   clear hk
   by_cases hlt : t < c.length
   ·obtain ⟨b1,p1,rfl,a1⟩:=(HC5.out.below HB5.out).at hlt
    have hj:=HJ.out t hlt
    obtain ⟨I,hI⟩ : ∃ I,I = ig c t:=⟨_,rfl⟩
    rw [← hI] at a1 hj
    clear hI
    obtain ⟨x0,x1,-⟩:=a1.ins
    clear a1
    by_cases c1 : I.op = 101
    ·have hjj:=hj (by rw [c1];decide)
     obtain ⟨j1,j2⟩:=hjj
     have q1 : (I.op == (101 : Int)) = true:=by rw [c1];rfl
     clear hj
     go_wp2_with fail
     go_roundg (gk - 1)
     case measure=>have:=HKK.out;omega
     case rel=>exact ⟨t + 1,by have:=HKK.out;omega,by go_num,HB5⟩
    ·have q1 : (I.op == (101 : Int)) = false:=by rw [beq_eq_false_iff_ne];exact c1
     by_cases c2 : I.op = 102
     ·have hjj:=hj (by rw [c2];decide)
      obtain ⟨j1,j2⟩:=hjj
      have q2 : (I.op == (102 : Int)) = true:=by rw [c2];rfl
      clear hj
      go_wp2_with fail
      go_roundg (gk - 1)
      case measure=>have:=HKK.out;omega
      case rel=>exact ⟨t + 1,by have:=HKK.out;omega,by go_num,HB5⟩
     ·have q2 : (I.op == (102 : Int)) = false:=by rw [beq_eq_false_iff_ne];exact c2
      clear hj
      go_wp2_with fail
      go_roundg (gk - 1)
      case measure=>have:=HKK.out;omega
      case rel=>exact ⟨t + 1,by have:=HKK.out;omega,by go_num,HB5⟩
   ·obtain rfl : t = c.length:=by omega
    go_wp2_with fail
    go_ret
    exact ⟨rfl,hbw5.trans (HB5.out.mono hbw5.size)⟩
 ·have hcd : cmpD is b = []:=if_neg h0
  have HQ:=Lib.hid (fun (W : World) (hW : Below w.heap.size w W)=>check10_any is v b W (h.below hW) hg)
  rw [hcd] at HC
  obtain ⟨z,hz⟩ : ∃ z,z = chkP is b:=⟨_,rfl⟩
  rw [← hz] at HC HQ h0
  have hne : (z != 0) = true:=by rw [bne_iff_ne];exact h0
  obtain ⟨A,C,rfl,-,-⟩:=h
  clear hcd hz hT hg
  go_enter Tryd.func6,Tryd.ntmps6
  go_upto_region 4 with (first | ((go_at_call 9;with_reducible refine (HK.out).mono ?_);rintro _ w1 ⟨rfl,hb1⟩;have hb1s:=hb1.size;(try simp only [wsA,wsS,wsD,wsN] at hb1s);obtain ⟨hb1c,hb1f⟩:=bcell hb1;(try have : w.heap.size < w1.heap.size:=by omega);(try have : w.heap.size + 1 < w1.heap.size:=by omega);(try have : w.heap.size + 1 + 1 < w1.heap.size:=by omega);(try have : w.heap.size + 1 + 1 + 1 < w1.heap.size:=by omega)) | (go_at_call 11;(with_reducible refine (HC.out _ (by (repeat' first|(with_reducible first|exact blR _ _|assumption|refine blD ?_|refine blN ?_ _)|((with_reducible first|refine blA ?_ ?_ _|refine blS ?_ ?_ _|refine blT (by assumption) ?_ ?_);focus (go_size;done))))).mono ?_);rintro _ w2 ⟨r2,o2,rfl,ht2,hr2⟩))
  have hb2 : Below w1.heap.size w1 w2:=ht2.below (fun _ _=>by simp) (Nat.le_refl _)
  have hbw2:=hb1.trans (hb2.mono hb1.size)
  obtain ⟨A2,C2,rfl,-⟩:=hr2.sl.is
  clear hr2 ht2 hb2 hb1
  go_wp2_with (go_at_call 18;(with_reducible refine (HQ.out _ hbw2).mono ?_);rintro _ w3 ⟨rfl,hb3⟩)
  go_ret
  exact ⟨ret_bool (by simp),hbw2.trans (hb3.mono hbw2.size)⟩
end Go.Proofs.YtnhmplfonkjfoaaDoor



namespace Go.Proofs.YtnhmplfonkjfoaaDoor
open Go.RowKit

theorem verify_any (is : List InsD) (v : Value) (b : Bool) (w : World) (h : Cod w v is) : Calls Tryd.prog 14 #[v,.bool b] w (VerPost is b w):=by
 by_cases hl : 600 < is.length
 ·exact verify_long is v b w h hl
 ·cases b with
  | true=>exact verify_in_true is v w h (by omega)
  | false=>exact verify_in_false is v w h (by omega)
end Go.Proofs.YtnhmplfonkjfoaaDoor



namespace Go.Proofs.YtnhmplfonkjfoaaDoor
open Go.RowKit
open Go.ChangeShapes Go.WideShapes Go.ChangeAt
open Go.ChangeMaps (open_string shut_string)

theorem own : ownKnob Tryd.prog.godebug = none:=by kernel_rfl
theorem laidOut : laidOutB Tryd.prog = true:=by kernel_rfl
theorem bulk_pos {H : Type} (d : DataW H) : 1 ≤ Rows.uptoBulk d:=by
 cases d with
 | lit l=>cases l <;> simp [Rows.uptoBulk]
 | _=>simp [Rows.uptoBulk]
theorem bulk_map {H : Type} (D : Nat → DataW H) : ∀ (n : Nat) (L : List Nat),L.length = n → Rows.uptoBulkAll (L.map D) = (L.map fun i=>Rows.uptoBulk (D i)).sum
 | 0,[],_=>rfl
 | n + 1,x :: r,h=>by
  rw [List.map_cons,List.map_cons,Rows.uptoBulkAll,List.sum_cons,bulk_map D n r (by simpa using h)]
theorem bulk_range {H : Type} (D : Nat → DataW H) (n : Nat) : Rows.uptoBulkAll ((List.range n).map D) = ((List.range n).map fun i=>Rows.uptoBulk (D i)).sum:=bulk_map D n _ (by simp)
theorem sum_range_succ (f : Nat → Nat) (n : Nat) : ((List.range (n + 1)).map f).sum = ((List.range n).map f).sum + f n:=by
 rw [List.range_succ,List.map_append,List.sum_append];simp
theorem sum_mem (f : Nat → Nat) : ∀ (n i : Nat),i < n → f i ≤ ((List.range n).map f).sum
 | 0,i,h=>absurd h (Nat.not_lt_zero _)
 | n + 1,i,h=>by
  rw [sum_range_succ]
  rcases Nat.lt_or_ge i n with h' | h'
  ·have:=sum_mem f n i h';omega
  ·obtain rfl : i = n:=by omega
   omega
theorem sum_pos (f : Nat → Nat) (hf : ∀ i,1 ≤ f i) : ∀ n,n ≤ ((List.range n).map f).sum
 | 0=>Nat.zero_le _
 | n + 1=>by
  rw [sum_range_succ]
  have:=sum_pos f hf n
  have:=hf n
  omega
theorem ins_of {P : Nat → InsD → Prop} : ∀ n,(∀ i,i < n → ∃ d,P i d) → ∃ l : List InsD,l.length = n ∧ ∀ i,i < n → P i (ig l i)
 | 0,_=>⟨[],rfl,fun i hi=>absurd hi (Nat.not_lt_zero _)⟩
 | n + 1,h=>by
  obtain ⟨l,h1,h2⟩:=ins_of (P:=P) n (fun i hi=>h i (by omega))
  obtain ⟨d,h4⟩:=h n (by omega)
  refine ⟨l ++ [d],by rw [List.length_append,h1];rfl,fun i hi=>?_⟩
  unfold ig
  rcases Nat.lt_or_ge i n with h' | h'
  ·rw [List.getD_eq_getElem?_getD,List.getElem?_append_left (by omega)]
   have:=h2 i h'
   unfold ig at this
   rwa [List.getD_eq_getElem?_getD] at this
  ·obtain rfl : i = n:=by omega
   rw [List.getD_eq_getElem?_getD,List.getElem?_append_right (by omega),h1,Nat.sub_self]
   exact h4
section
variable {H : Type} {enc : TypeId × Value → H} {W : World} {b0 : Nat} {sp : Nat → Bool} {held : Bool}
theorem u64_wf {z : Int} (hz : (Lit.int .u64 z).wf = true) : U64 z:=by
 have e1 : IntKind.u64.min = 0:=rfl
 have e2 : IntKind.u64.max = 18446744073709551615:=rfl
 simp [Lit.wf,e1,e2] at hz
 unfold U64
 omega
set_option maxRecDepth 100000 in
theorem open_dec8 {fuel : Nat} {c0 c1 c2 c3 : Value} {x : DataW H × List MemPlace} (h : DataW.trod enc Tryd.prog W b0 sp held fuel 41 [c0,c1,c2,c3] = some x) :
  ∃ (b : Bool) (hi lo s : Int),U64 hi ∧ U64 lo ∧ c0 = .bool b ∧ c1 = .int .u64 hi ∧ c2 = .int .u64 lo ∧ c3 = .int .i64 s:=by
 obtain ⟨xs,n,_,hx,_,hlen,hg⟩:=DataW.trod_struct Tryd.underlying41 h
 have n0 : Tryd.prog.cellsOf 4 = 1:=by kernel_rfl
 have n1 : Tryd.prog.cellsOf 39 = 2:=by kernel_rfl
 have n2 : Tryd.prog.cellsOf 3 = 1:=by kernel_rfl
 have n3 : Tryd.prog.cellsOf 37 = 1:=by kernel_rfl
 have g0:=hg 0 _ rfl
 have g1:=hg 1 _ rfl
 have g2:=hg 2 _ rfl
 clear hg hx
 match xs,hlen with
 | [y0,y1,y2],_ =>
  simp only [List.getElem_toArray,List.getElem_cons_zero,List.getElem_cons_succ,n0,n1,n2] at g0 g1 g2
  simp at g0 g1 g2
  obtain ⟨b,e0,_⟩:=DataW.trod_bool Tryd.underlying4 g0
  obtain ⟨z2,e2,_,w2⟩:=DataW.trod_int Tryd.underlying3 g2
  obtain ⟨ys,n',_,_,_,hlen2,hg2⟩:=DataW.trod_struct Tryd.underlying39 g1
  have k0:=hg2 0 _ rfl
  have k1:=hg2 1 _ rfl
  match ys,hlen2 with
  | [q0,q1],_ =>
   simp only [List.getElem_toArray,List.getElem_cons_zero,List.getElem_cons_succ,n3] at k0 k1
   simp at k0 k1
   obtain ⟨z0,f0,_,v0⟩:=DataW.trod_int Tryd.underlying37 k0
   obtain ⟨z1,f1,_,v1⟩:=DataW.trod_int Tryd.underlying37 k1
   simp at e0 e2 f0 f1
   exact ⟨b,z0,z1,z2,u64_wf v0,u64_wf v1,e0,f0,f1,e2⟩
set_option maxRecDepth 100000 in
theorem open_oneN {fuel : Nat} {cs : List Value} {x : DataW H × List MemPlace} (h : DataW.trod enc Tryd.prog W b0 sp held fuel 45 cs = some x) : ∃ i : InsD,cs = i.cs ∧ U64 i.hi ∧ U64 i.lo ∧ i.tx.data.toList.length + 1 ≤ Rows.uptoBulk x.1:=by
 obtain ⟨xs,n,_,hx,hcl,hlen,hg⟩:=DataW.trod_struct Tryd.underlying45 h
 have n0 : Tryd.prog.cellsOf 3 = 1:=by kernel_rfl
 have n2 : Tryd.prog.cellsOf 41 = 4:=by kernel_rfl
 have n3 : Tryd.prog.cellsOf 9 = 1:=by kernel_rfl
 have n6 : Tryd.prog.cellsOf 45 = 8:=by kernel_rfl
 rw [n6] at hcl
 have g0:=hg 0 _ rfl
 have g1:=hg 1 _ rfl
 have g2:=hg 2 _ rfl
 have g3:=hg 3 _ rfl
 have g4:=hg 4 _ rfl
 clear hg h
 match cs,hcl with
 | [c0,c1,c2,c3,c4,c5,c6,c7],_ =>
  match xs,hlen with
  | [y0,y1,y2,y3,y4],_ =>
   simp only [List.getElem_toArray,List.getElem_cons_zero,List.getElem_cons_succ,n0,n2,n3] at g0 g1 g2 g3 g4
   simp at g0 g1 g2 g3 g4
   obtain ⟨op,e0,r0,_⟩:=DataW.trod_int Tryd.underlying3 g0
   obtain ⟨a,e1,r1,_⟩:=DataW.trod_int Tryd.underlying3 g1
   obtain ⟨text,e2,r2,_⟩:=DataW.trod_string Tryd.underlying9 g2
   obtain ⟨ng,hi,lo,sc,uh,ul,e3,e4,e5,e6⟩:=open_dec8 g3
   obtain ⟨day,e7,r7,_⟩:=DataW.trod_int Tryd.underlying3 g4
   simp at e0 e1 e2 e7
   subst e0 e1 e2 e3 e4 e5 e6 e7
   subst hx
   refine ⟨⟨op,a,text,ng,hi,lo,sc,day⟩,rfl,uh,ul, ?_⟩
   simp only [Rows.uptoBulk,List.map_cons,List.map_nil,Rows.uptoBulkAll]
   have : Rows.uptoBulk y2.1 = text.data.toList.length + 1:=by rw [r2];rfl
   omega
set_option maxRecDepth 100000 in
theorem open_codN {base B : Nat} {v : Value} {d : DataW H} {p : List MemPlace} (hv : Value.okWide Tryd.prog W .any B 22 v) (h : DataW.Trod enc Tryd.prog W base sp held 22 v d p) :
  ∃ is,Cod W v is ∧ (∀ r,r < is.length → U64 (ig is r).hi ∧ U64 (ig is r).lo ∧ (ig is r).tx.data.toList.length + 1 ≤ Rows.uptoBulk d) ∧ is.length ≤ Rows.uptoBulk d:=by
 obtain ⟨a0,len,cap,rfl⟩:=okWide_slice Tryd.underlying22 hv
 obtain ⟨fuel,hf⟩:=h
 have n6 : Tryd.prog.cellsOf 45 = 8:=by kernel_rfl
 rcases Deep.open_slice Tryd.underlying22 hf with ⟨hc,_⟩ | ⟨a,len',cap',m,n',D,Pl,hc,_,hl,hm,hmm,hx,hxs⟩
 ·simp [Value.cells] at hc
  obtain ⟨rfl,rfl,rfl⟩:=hc
  exact ⟨[],⟨none,0,rfl,Nat.zero_le _,fun r hr=>absurd hr (Nat.not_lt_zero _)⟩,fun r hr=>absurd hr (Nat.not_lt_zero _),Nat.zero_le _⟩
 ·simp [Value.cells] at hc
  obtain ⟨rfl,rfl,rfl⟩:=hc
  rw [n6] at hxs
  have hle : len ≤ m:=by rw [hmm];split <;> omega
  have hd : d = .slice ((List.range len).map D) ((List.range (m - len)).map fun j=>D (len + j)):=congrArg Prod.fst hx
  have hbd : ((List.range len).map fun i=>Rows.uptoBulk (D i)).sum + 1 ≤ Rows.uptoBulk d:=by
   rw [hd]
   simp only [Rows.uptoBulk]
   rw [bulk_range]
   omega
  obtain ⟨b,o,spot⟩:=a
  obtain ⟨l,h1,h2⟩:=ins_of (P:=fun i x=>spot = none ∧ At W b (o + i * 8) x.cs ∧ U64 x.hi ∧ U64 x.lo ∧ x.tx.data.toList.length + 1 ≤ Rows.uptoBulk (D i)) len (fun i hi=>by
   obtain ⟨cs',q1,q2⟩:=hxs i (by omega)
   obtain ⟨x,e,u1,u2,u3⟩:=open_oneN q2
   obtain ⟨_,hl10,hat⟩:=World.cells?_some q1
   have hspot : spot = none:=by
    obtain ⟨cs0,p1,_⟩:=hxs 0 (by omega)
    obtain ⟨_,hl0,hat0⟩:=World.cells?_some p1
    have h0:=hat0 0 (by omega)
    rw [List.getElem?_eq_getElem (by omega)] at h0
    simpa [Addr.add] using World.cell?_spot h0
   subst hspot
   refine ⟨x,rfl,fun j hj=>?_,u1,u2,u3⟩
   rw [← e] at hj ⊢
   rw [← hat j (by omega)]
   congr 1
   rw [show ((⟨b,o,none⟩ : Addr).add (i * 8)) = ⟨b,o + i * 8,none⟩ from add_plain ..,show ((⟨b,o + i * 8,none⟩ : Addr).add j) = ⟨b,o + i * 8 + j,none⟩ from add_plain ..])
  refine ⟨l,⟨some ⟨b,o,spot⟩,cap,by rw [h1],by rw [h1];omega,fun r hr=>?_⟩,fun r hr=>?_, ?_⟩
  ·obtain ⟨q0,q1,_⟩:=h2 r (by omega)
   subst q0
   exact ⟨b,o,rfl,q1⟩
  ·obtain ⟨_,_,q1,q2,q3⟩:=h2 r (by omega)
   have:=sum_mem (fun i=>Rows.uptoBulk (D i)) len r (by omega)
   exact ⟨q1,q2,by omega⟩
  ·have:=sum_pos (fun i=>Rows.uptoBulk (D i)) (fun i=>bulk_pos _) len
   omega
end
theorem first_is : Rows.laid_unicode_utf8_first = Lib.firstData:=by kernel_rfl
theorem accept_is : (Rows.laid_unicode_utf8_acceptRanges : DataW Unit) = Lib.acceptData:=by kernel_rfl
theorem tabs_laid {W : World} (hL : laidMet Tryd.prog [("unicode/utf8.acceptRanges", Rows.laid_unicode_utf8_acceptRanges), ("unicode/utf8.first", Rows.laid_unicode_utf8_first)] W) : Tabs W := by
 rw [first_is,accept_is] at hL
 exact utf8Tabs_of_readsT (U8Types.of196 Tryd.lays196) ⟨by kernel_rfl,by kernel_rfl,by kernel_rfl,by kernel_rfl,by kernel_rfl,by kernel_rfl,by kernel_rfl⟩ (Lib.laidMet.reads hL (.tail _ (.head _))) (Lib.laidMet.reads hL (.head _))
end Go.Proofs.YtnhmplfonkjfoaaDoor

