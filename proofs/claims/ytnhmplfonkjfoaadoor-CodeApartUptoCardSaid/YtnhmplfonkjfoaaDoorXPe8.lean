/- What this law reaches beyond the common contracts, part 8. -/
import Derived.Deep.AppendSrc
import Derived.BigQuiet
import Derived.ProofKit
import Derived.OpenShut
import Derived.ShutString
import Derived.ChangeOld
import Derived.Below
import Derived.Lib.SmallJoins
import Derived.Deep.Matrix
import Derived.ChangeArms
import Derived.Lib.LaidIn
import Derived.Lib.LaidU8T
import Derived.Test.YtnhmplfonkjfoaaDoorCards
import Derived.Test.YtnhmplfonkjfoaaDoorTie
import Derived.Deep.DeepHandedRow
import Derived.LaidMore
import Derived.Lay
import Derived.SevenTiedAt
import Derived.Test.YtnhmplfonkjfoaaDoorM2
import Derived.Test.YtnhmplfonkjfoaaDoorXPe7
set_option linter.unusedSimpArgs false
set_option linter.unusedVariables false


namespace Go.Proofs.YtnhmplfonkjfoaaDoor
open Go.RowKit

theorem part_any (is : List InsD) (hl : is.length ≤ 600) (hI : ∀ r,r < is.length → I64 (ig is r).a) : ∀ f,PartOk is f
 | 0=>fun i e w0 w o g vC vO out hf=>absurd hf (Nat.not_lt_zero _)
 | f + 1=>part_step is hl hI f (part_any is hl hI f)
theorem unD_goodI {is : List InsD} (hg : ∀ r,r < is.length → GoodI (ig is r)) : ∀ (f i e : Nat) (L : List InsD),e ≤ is.length → unD is f i e = some L → ∀ x ∈ L,GoodI x
 | 0,_,_,_,_,h=>by cases h
 | f + 1,i,e,L,hel,h=>by
  by_cases hlt : i < e
  ·by_cases c1 : (ig is i).op = 103
   ·rw [unD_enter hlt c1] at h
    exact unD_goodI hg f _ _ _ hel h
   ·by_cases c2 : (ig is i).op = 104
    ·rw [unD_leave hlt c2] at h
     obtain ⟨r,hr,rfl⟩:=Option.map_eq_some_iff.1 h
     have ih:=unD_goodI hg f _ _ _ hel hr
     intro x hx
     rcases List.mem_cons.1 hx with rfl | hx
     ·exact good_ji (good_o _ _)
     ·exact ih x hx
    ·by_cases c3 : (ig is i).op = 102
     ·by_cases hp : ifP is i e (ig is i).a
      ·rw [unD_if hlt c3 hp] at h
       obtain ⟨p1,p2,p3,p4,p5⟩:=hp
       cases hb : unD is f (i + 1) ((ig is i).a.toNat - 1) with
       | none=>rw [hb] at h;cases h
       | some b =>
        cases hd : unD is f (ig is i).a.toNat (ig is ((ig is i).a.toNat - 1)).a.toNat with
        | none=>rw [hb,hd] at h;cases h
        | some d =>
         rw [hb,hd] at h
         obtain ⟨r,hr,rfl⟩:=Option.map_eq_some_iff.1 h
         have h1:=unD_goodI hg f _ _ _ (by omega) hb
         have h2:=unD_goodI hg f _ _ _ (by omega) hd
         have h3:=unD_goodI hg f _ _ _ hel hr
         intro x hx
         simp only [List.mem_append,List.mem_singleton] at hx
         rcases hx with ((hx | hx) | rfl) | hx
         ·exact h1 x hx
         ·exact h2 x hx
         ·exact good_ji (good_o _ _)
         ·exact h3 x hx
      ·rw [unD_ifno hlt c3 hp] at h;cases h
     ·cases hn : nodeB (ig is i) with
      | true =>
       rw [unD_node hlt c1 c2 c3 hn] at h
       obtain ⟨r,hr,rfl⟩:=Option.map_eq_some_iff.1 h
       have ih:=unD_goodI hg f _ _ _ hel hr
       intro x hx
       rcases List.mem_cons.1 hx with rfl | hx
       ·exact hg i (by omega)
       ·exact ih x hx
      | false=>rw [unD_no hlt c1 c2 c3 hn] at h;cases h
  ·rw [unD_end (by omega)] at h
   injection h with h
   rw [← h]
   exact fun x hx=>by cases hx
def BkPost (R : List InsD × Int) (w : World) (e : Ending) (w' : World) : Prop:=∃ r o,e = .returned (.tuple #[r,.int .i64 R.2]) ∧ Turn (fun l=>l ≠ 0) w (fun _=>0) w' o ∧ Ro w' o 2 45 8 r R.1.length (ics R.1)
set_option maxRecDepth 100000 in
set_option maxHeartbeats 3000000 in
theorem back_any (is : List InsD) (v : Value) (b : Bool) (w : World) (hT : Tabs w) (h : Cod w v is) (hg : ∀ r,r < is.length → GoodI (ig is r)) (hI : ∀ r,r < is.length → I64 (ig is r).a) : Calls Tryd.prog 16 #[v,.bool b] w (BkPost (unbD is b) w):=by
 unfold BkPost
 by_cases hl : 600 < is.length
 ·have hD : unbD is b = ([],6):=by unfold unbD;rw [if_pos hl]
  rw [hD]
  obtain ⟨A,C,rfl,-,-⟩:=h
  have hl2 : (600 : Int) < (is.length : Int):=by omega
  clear hD
  go_enter Tryd.func16,Tryd.ntmps16
  go_wp2_with fail
  refine bodyPost_ret (by simp [results,Tryd.results16,go_sem, *];try rfl) rfl ?_
  exact ⟨.slice none 0 0,fun _=>0,rfl,Turn.refl _ _ _,Ro.nil _ _ _ _ _⟩
 ·have hl2 : (is.length : Int) ≤ 600:=by omega
  have hD : unbD is b = match unD is (is.length + 1) 0 is.length with
   | none=>([],2)
   | some L=>if chkP L b = 0 ∧ sameB (compD L) is = true then (L,0) else ([],2):=by
   unfold unbD
   rw [if_neg hl]
   rfl
  have HC:=Lib.hid h
  have HT:=Lib.hid hT
  obtain ⟨A,C,rfl,-,-⟩:=h
  obtain ⟨w1,hw1⟩ : ∃ x,x = w.alloc (.cells #[.slice A is.length C,.slice none 0 0] 71):=⟨_,rfl⟩
  have hM : Bkm w (relabel (fun _=>0) w.heap.size 1) w1 w.heap.size (.slice A is.length C) (.slice none 0 0) []:=by
   rw [hw1]
   exact ⟨Lb.new (w:=w) (fun _=>0) 1 71 [.slice A is.length C,.slice none 0 0] (Nat.le_refl _),Ro.nil _ _ _ _ _,((Turn.refl _ _ _).alloc _).relabel (Nat.le_refl _) 1⟩
  have HU:=Lib.hid (show Calls Tryd.prog 28 #[.pointer (some ⟨w.heap.size,0,none⟩),.int .i64 0,.int .i64 (is.length : Int)] w1 _ from part_any is (by omega) hI (is.length + 1) 0 is.length w w1 _ w.heap.size _ _ [] (by omega) (Nat.zero_le _) (Nat.le_refl _) (by show 0 + _ ≤ _;omega) HC.out hM)
  unfold PartPost at HU
  rw [hw1] at HU
  clear hM hw1
  cases hX : unD is (is.length + 1) 0 is.length with
  | none =>
   rw [hX] at hD HU
   dsimp only at hD
   rw [hD]
   clear hD hX hl
   go_enter Tryd.func16,Tryd.ntmps16
   go_wp2_with (go_at_call 28;(with_reducible refine HU.out.mono ?_);rintro _ w2 ⟨vO,L,o2,rfl,hm2,ht2,hl9,hy2⟩)
   refine bodyPost_ret (by simp [results,Tryd.results16,go_sem, *];try rfl) rfl ?_
   exact ⟨.slice none 0 0,o2,rfl,hm2.turn,Ro.nil _ _ _ _ _⟩
  | some L =>
   rw [hX] at hD HU
   dsimp only at hD
   have hgL:=unD_goodI hg _ _ _ _ (Nat.le_refl _) hX
   have HCK:=Lib.hid (fun (W : World) (r : Value) (hr : Cod W r L) (hW : Below w.heap.size w W)=>compile_any L r b W hr (fun k hk=>hgL _ (ig_mem hk)) (tabs_below HT.out hW))
   unfold CmpPost at HCK
   by_cases h0 : chkP L b = 0
   ·have hcd : cmpD L b = compD L:=if_pos h0
    have HSM:=Lib.hid (fun (W : World) (r1 : Value) (hr : Cod W r1 (compD L)) (hW : Below w.heap.size w W)=>equal_ins (compD L) is r1 _ W hr (HC.out.below hW))
    rw [h0,hcd] at HCK
    cases hs : sameB (compD L) is with
    | true =>
     rw [if_pos ⟨h0,hs⟩] at hD
     rw [hs] at HSM
     rw [hD]
     clear hD hX hl h0 hs hgL hcd
     go_enter Tryd.func16,Tryd.ntmps16
     go_upto_region 6 with (go_at_call 28;(with_reducible refine HU.out.mono ?_);rintro _ w2 ⟨vO,L2,o2,rfl,hm2,ht2,hl9,hy2⟩;have e9 : L2 = L:=hy2 L rfl;clear hy2;subst e9)
     have hcw:=hm2.row.cod rfl
     have hbw:=hm2.below
     have HCC:=Lib.hid (HCK.out w2 _ hcw hbw)
     have HBW:=Lib.hid hbw
     have HM2:=Lib.hid hm2
     have c1w:=hm2.lb.1.cell 1 rfl
     have lgw:=hm2.lb.1.lt
     obtain ⟨AO,CO,rfl,-⟩:=hm2.row.sl.is
     clear hm2 hcw hbw ht2 hl9
     go_wp2_with (first | (go_at_call 11;(with_reducible refine HCC.out.mono ?_);rintro _ w3 ⟨r3,o3,rfl,ht3,hr3⟩;have hb3:=ht3.below (B:=w2.heap.size) (fun _ _=>by simp) (Nat.le_refl _);have hc3:=hr3.cod rfl;have hbw3:=HBW.out.trans (hb3.mono HBW.out.size);have c13:=(hb3.cell (p:=⟨w.heap.size,1,none⟩) lgw).trans c1w;have lg3:=Nat.lt_of_lt_of_le lgw hb3.size) | (go_at_call 29;(with_reducible refine (HSM.out _ _ hc3 hbw3).mono ?_);rintro _ w4 ⟨rfl,hb4⟩;have c14:=(hb4.cell (p:=⟨w.heap.size,1,none⟩) lg3).trans c13;have lg4:=Nat.lt_of_lt_of_le lg3 hb4.size))
     refine bodyPost_ret (by simp [results,Tryd.results16,go_sem, *];try rfl) rfl ?_
     have hb24:=hb3.trans (hb4.mono hb3.size)
     exact ⟨_,_,rfl,bk_turn HM2.out.turn hb24,(HM2.out.kept hb24).row⟩
    | false =>
     rw [if_neg (fun hh=>by rw [hs] at hh;cases hh.2)] at hD
     rw [hs] at HSM
     rw [hD]
     clear hD hX hl h0 hs hgL hcd
     go_enter Tryd.func16,Tryd.ntmps16
     go_upto_region 6 with (go_at_call 28;(with_reducible refine HU.out.mono ?_);rintro _ w2 ⟨vO,L2,o2,rfl,hm2,ht2,hl9,hy2⟩;have e9 : L2 = L:=hy2 L rfl;clear hy2;subst e9)
     have hcw:=hm2.row.cod rfl
     have hbw:=hm2.below
     have HCC:=Lib.hid (HCK.out w2 _ hcw hbw)
     have HBW:=Lib.hid hbw
     have HM2:=Lib.hid hm2
     have c1w:=hm2.lb.1.cell 1 rfl
     have lgw:=hm2.lb.1.lt
     obtain ⟨AO,CO,rfl,-⟩:=hm2.row.sl.is
     clear hm2 hcw hbw ht2 hl9
     go_wp2_with (first | (go_at_call 11;(with_reducible refine HCC.out.mono ?_);rintro _ w3 ⟨r3,o3,rfl,ht3,hr3⟩;have hb3:=ht3.below (B:=w2.heap.size) (fun _ _=>by simp) (Nat.le_refl _);have hc3:=hr3.cod rfl;have hbw3:=HBW.out.trans (hb3.mono HBW.out.size)) | (go_at_call 29;(with_reducible refine (HSM.out _ _ hc3 hbw3).mono ?_);rintro _ w4 ⟨rfl,hb4⟩))
     refine bodyPost_ret (by simp [results,Tryd.results16,go_sem, *];try rfl) rfl ?_
     have hb24:=hb3.trans (hb4.mono hb3.size)
     exact ⟨.slice none 0 0,_,rfl,bk_turn HM2.out.turn hb24,Ro.nil _ _ _ _ _⟩
   ·rw [if_neg (fun hh=>h0 hh.1)] at hD
    rw [hD]
    obtain ⟨z,hz⟩ : ∃ z,z = chkP L b:=⟨_,rfl⟩
    rw [← hz] at HCK h0
    have hne : (z != 0) = true:=by rw [bne_iff_ne];exact h0
    clear hD hX hl hz h0 hgL
    go_enter Tryd.func16,Tryd.ntmps16
    go_upto_region 6 with (go_at_call 28;(with_reducible refine HU.out.mono ?_);rintro _ w2 ⟨vO,L2,o2,rfl,hm2,ht2,hl9,hy2⟩;have e9 : L2 = L:=hy2 L rfl;clear hy2;subst e9)
    have hcw:=hm2.row.cod rfl
    have hbw:=hm2.below
    have HCC:=Lib.hid (HCK.out w2 _ hcw hbw)
    have HBW:=Lib.hid hbw
    have HM2:=Lib.hid hm2
    have c1w:=hm2.lb.1.cell 1 rfl
    have lgw:=hm2.lb.1.lt
    obtain ⟨AO,CO,rfl,-⟩:=hm2.row.sl.is
    clear hm2 hcw hbw ht2 hl9
    go_wp2_with (go_at_call 11;(with_reducible refine HCC.out.mono ?_);rintro _ w3 ⟨r3,o3,rfl,ht3,hr3⟩;have hb3:=ht3.below (B:=w2.heap.size) (fun _ _=>by simp) (Nat.le_refl _))
    refine bodyPost_ret (by simp [results,Tryd.results16,go_sem, *];try rfl) rfl ?_
    exact ⟨.slice none 0 0,_,rfl,bk_turn HM2.out.turn hb3,Ro.nil _ _ _ _ _⟩
end Go.Proofs.YtnhmplfonkjfoaaDoor



namespace Go.Proofs.YtnhmplfonkjfoaaDoor
open Go.RowKit

theorem mem_row {Q : InsD → Prop} {op : Int} {g : Nat → Nat → List InsD} {p : List Nat} {fr : Nat} (h3 : Q (insO 103 0)) (hg : ∀ x ∈ p,∀ k,∀ y ∈ g x k,Q y) : ∀ k,k ≤ p.length → ∀ y ∈ rowD op g p fr k,Q y
 | 0,_,y,hy=>by cases hy
 | k + 1,hk,y,hy=>by
  have hy : y ∈ rowD op g p fr k ++ g (ng p k) (fr + (rowD op g p fr k).length) ++ (if op = 23 ∧ k = 0 then [insO 103 0] else []):=hy
  rcases List.mem_append.1 hy with hy | hy
  ·rcases List.mem_append.1 hy with hy | hy
   ·exact mem_row h3 hg k (by omega) y hy
   ·exact hg _ (ng_mem (by omega)) _ y hy
  ·split at hy
   ·rw [List.mem_singleton.1 hy];exact h3
   ·cases hy
theorem mem_body {Q : InsD → Prop} {i : InsD} {g : Nat → Nat → List InsD} {p : List Nat} {fr : Nat} (h1 : ∀ a,Q (insO 101 a)) (h2 : ∀ a,Q (insO 102 a)) (h3 : Q (insO 103 0)) (h4 : Q (insO 104 0)) (hl : Q (lastI i)) (hp : i.op = 21 → p.length = 3) (hg : ∀ x ∈ p,∀ k,∀ y ∈ g x k,Q y) : ∀ y ∈ bodyD i g p fr,Q y:=fun y hy=>by
 unfold bodyD at hy
 by_cases c : i.op = 21
 ·have hl:=hp c
  rw [if_pos c] at hy
  simp only [List.mem_append,List.mem_singleton] at hy
  rcases hy with (((hy | hy) | hy) | hy) | hy
  ·exact hg _ (ng_mem (by omega)) _ y hy
  ·rw [hy];exact h2 _
  ·exact hg _ (ng_mem (by omega)) _ y hy
  ·rw [hy];exact h1 _
  ·exact hg _ (ng_mem (by omega)) _ y hy
 ·rw [if_neg c] at hy
  rcases List.mem_append.1 hy with hy | hy
  ·exact mem_row h3 hg _ (Nat.le_refl _) y hy
  ·rw [List.mem_singleton.1 hy]
   split
   ·exact h4
   ·exact hl
theorem mem_of {Q : InsD → Prop} {is : List InsD} {PS : Pts} (hw : Wf is PS) (h1 : ∀ a,Q (insO 101 a)) (h2 : ∀ a,Q (insO 102 a)) (h3 : Q (insO 103 0)) (h4 : Q (insO 104 0)) (hl : ∀ a,a < is.length → Q (lastI (ig is a))) : ∀ (f a fr : Nat),a < f → a < is.length → ∀ y ∈ ofF is PS f a fr,Q y
 | 0,_,_,h,_=>absurd h (Nat.not_lt_zero _)
 | f + 1,a,fr,hf,ha=>mem_body h1 h2 h3 h4 (hl a ha) (hw.three a ha) (fun x hx k=>by
  have:=hw.lt a ha x hx
  exact mem_of hw h1 h2 h3 h4 hl f x k (by omega) (by omega))
theorem part_bound {is : List InsD} {PS : Pts} {HV : List Nat} : ∀ (n t : Nat) (ps : Pts) (hv : List Nat),n + t = is.length → ps.length = t → stGo is n t ps hv = some (PS,HV) → hv.length ≤ t → (∀ j,j < ps.length → (pgN ps j).length ≤ is.length) → ∀ j,j < PS.length → (pgN PS j).length ≤ is.length
 | 0,t,ps,hv,_,_,h,_,hp=>by
  injection h with h
  injection h with h1 _
  rw [← h1];exact hp
 | n + 1,t,ps,hv,hn,hl,h,hh,hp=>by
  cases hc : stOk (ig is t) hv with
  | false=>rw [stGo_no hc] at h;cases h
  | true =>
   rw [stGo_yes hc] at h
   have hpl : (stPart (ig is t) hv).length ≤ hv.length:=by unfold stPart;rw [List.length_drop];omega
   refine part_bound n (t + 1) _ _ (by omega) (by rw [List.length_append,hl];rfl) h ?_ (fun j hj=>?_)
   ·unfold stStep
    rw [List.length_append,List.length_take]
    show _ + 1 ≤ t + 1
    omega
   ·rw [List.length_append] at hj
    have hj : j < ps.length + 1:=hj
    unfold pgN at hp ⊢
    by_cases e : j < ps.length
    ·rw [getD_left _ _ _ e]
     exact hp j e
    ·obtain rfl : j = ps.length:=by omega
     rw [getD_last _ _ _ rfl]
     omega
theorem comp_good {is : List InsD} {b : Bool} (h : chkP is b = 0) (hg : ∀ r,r < is.length → GoodJ (ig is r)) : (∀ r,r < (compD is).length → GoodJ (ig (compD is) r)) ∧ ∀ r,r < (compD is).length → I64 (ig (compD is) r).a:=by
 obtain ⟨h3,hpos,PS,hn,hs,hcd,hl,-,-⟩:=chk_nod h
 have hPL:=stGo_len _ _ _ _ _ _ hs
 have hpb:=part_bound is.length 0 [] [] rfl rfl hs (Nat.le_refl _) (fun j hj=>absurd hj (Nat.not_lt_zero _))
 have hla : ∀ a,a < is.length → 0 ≤ (lastI (ig is a)).a ∧ (lastI (ig is a)).a ≤ 300:=fun a ha=>by
  obtain ⟨hk,hkl⟩:=hn.kid a ha
  have:=hpb a (by rw [hPL];omega)
  have:=kids_pos hk
  unfold lastI
  split
  ·omega
  ·show (0 : Int) ≤ 0 ∧ (0 : Int) ≤ 300
   omega
 have hm:=mem_of (Q:=fun y=>GoodJ y ∧ (¬ jmpP y.op → 0 ≤ y.a ∧ y.a ≤ 300)) hn.wf (fun a=>⟨good_o 101 a,fun hh=>absurd (Or.inl rfl) hh⟩) (fun a=>⟨good_o 102 a,fun hh=>absurd (Or.inr rfl) hh⟩)
  ⟨good_o 103 0,fun _=>by show (0 : Int) ≤ 0 ∧ (0 : Int) ≤ 300;omega⟩ ⟨good_o 104 0,fun _=>by show (0 : Int) ≤ 0 ∧ (0 : Int) ≤ 300;omega⟩ (fun a ha=>⟨by
   have:=hg a ha
   unfold lastI
   split
   ·exact this
   ·exact this,fun _=>hla a ha⟩) (is.length - 1 + 1) (is.length - 1) 0 (Nat.lt_succ_self _) (by omega)
 have hjf:=ofF_jf hn.wf (is.length - 1 + 1) (is.length - 1) 0 (Nat.lt_succ_self _) (by omega)
 have hcd' : ofF is PS (is.length - 1 + 1) (is.length - 1) 0 = compD is:=hcd.symm
 rw [hcd'] at hm hjf
 refine ⟨fun r hr=>(hm _ (ig_mem hr)).1,fun r hr=>?_⟩
 have q:=hm _ (ig_mem hr)
 have j:=hjf _ (ig_mem hr)
 unfold I64
 by_cases e : jmpP (ig (compD is) r).op
 ·have:=j e
  omega
 ·have:=q.2 e
  omega
end Go.Proofs.YtnhmplfonkjfoaaDoor



namespace Go.Proofs.YtnhmplfonkjfoaaDoor
open Go.RowKit

def mid (p q : Nat) : Nat → Nat:=fun k=>if p ≤ k ∧ k < q then 1 else 0
theorem mid_in {p q k : Nat} (h1 : p ≤ k) (h2 : k < q) : mid p q k = 1:=if_pos ⟨h1,h2⟩
theorem mid_out {p q k : Nat} (h : k < p ∨ q ≤ k) : mid p q k = 0:=if_neg (by omega)
theorem mid_is {p q k : Nat} (h : mid p q k = 1) : p ≤ k ∧ k < q:=by
 unfold mid at h
 split at h
 ·assumption
 ·cases h
section
variable {w w' : World} {o : Nat → Nat} {l k n p q p' q' : Nat} {t : TypeId} {v : Value} {cs : List Value}
theorem Ro.mid_ (h : Ro w' o l t k v n cs) (hl : l ≠ 0) (hT : Turn (fun l=>l ≠ 0) w (fun _=>0) w' o) : Ro w' (mid w.heap.size w'.heap.size) 1 t k v n cs :=
 ⟨h.1,fun g hg=>by
  have h1:=h.2 g hg
  refine mid_in ?_ (h.1.lt g hg).2
  rcases Nat.lt_or_ge g w.heap.size with h3 | h3
  ·exact absurd (h1.symm.trans (hT.num g h3)) hl
  ·exact h3⟩
theorem Ro.mido (h : Ro w' (ob p) 1 t k v n cs) : Ro w' (mid p w'.heap.size) 1 t k v n cs :=
 ⟨h.1,fun g hg=>by
  have h1:=h.2 g hg
  refine mid_in ?_ (h.1.lt g hg).2
  rcases Nat.lt_or_ge g p with h3 | h3
  ·rw [ob_low h3] at h1;cases h1
  ·exact h3⟩
theorem Ro.grow (h : Ro w (mid p q) 1 t k v n cs) (hb : Below w.heap.size w w') : Ro w' (mid p q) 1 t k v n cs:=h.relab hb (fun _ _ e=>e)
theorem Ro.away (h : Ro w (mid p q) 1 t k v n cs) (hd : q ≤ p' ∨ q' ≤ p) : Ro w (mid p' q') 0 t k v n cs :=
 ⟨h.1,fun g hg=>by
  have:=mid_is (h.2 g hg)
  exact mid_out (by omega)⟩
theorem Ro.spare (h : Ro w (mid p q) 1 t k v n cs) (hT : Turn (· = 1) w (mid p' q') w' (mid p' q')) (hd : q ≤ p' ∨ q' ≤ p) : Ro w' (mid p q) 1 t k v n cs :=
 ⟨((h.away hd).turn hT (by decide)).1,h.2⟩
theorem Bk.spare {g : Nat} (h : Bk w g t cs) (hT : Turn (· = 1) w (mid p q) w' (mid p q)) (hd : g < p ∨ q ≤ g) : Bk w' g t cs :=
 (hT.block g h.lt (by show ¬ (mid p q g = 1);rw [mid_out hd];decide)).trans h
theorem mid_below {B : Nat} (hT : Turn (· = 1) w (mid p q) w' (mid p q)) (hp : B ≤ p) (hs : B ≤ w.heap.size) : Below B w w' :=
 hT.below (fun k hk=>by show ¬ (mid p q k = 1);rw [mid_out (.inl (by omega))];decide) hs
end
theorem Bk.fill {g : Nat} {t : TypeId} : ∀ (vs pre mi post : List Value) (w : World),mi.length = vs.length → Bk w g t (pre ++ mi ++ post) → Bk (w.setCells g pre.length vs) g t (pre ++ vs ++ post) ∧ Below g w (w.setCells g pre.length vs)
 | [],pre,mi,post,w,hl,h=>by
  obtain rfl:=List.eq_nil_of_length_eq_zero hl
  exact ⟨h,Below.refl _ _⟩
 | v :: vs,pre,[],post,w,hl,h=>by cases hl
 | v :: vs,pre,x :: mi,post,w,hl,h=>by
  have h1:=h.set_ pre.length v
  have e : (pre ++ (x :: mi) ++ post).set pre.length v = (pre ++ [v]) ++ mi ++ post:=by
   rw [List.append_assoc,List.set_append_right _ _ (Nat.le_refl _),Nat.sub_self]
   simp
  rw [e] at h1
  have ih:=Bk.fill vs (pre ++ [v]) mi post _ (by simpa using hl) h1
  have e2 : (pre ++ [v]).length = pre.length + 1:=by simp
  have e3 : (pre ++ [v]) ++ vs ++ post = pre ++ (v :: vs) ++ post:=by simp
  rw [e2,e3] at ih
  exact ⟨ih.1,((Below.refl g w).setCell (p:=⟨g,pre.length,none⟩) (Nat.le_refl g) v).trans ih.2⟩
theorem wpList_fillM {w : World} {ops : Array Oper} {rest : List Oper} {o : Oper} {a : Act} {Q : Exit → Act → World → Prop} (hgd : o.guard = none) (s x : Operand) (t e : TypeId) (k bytes : Nat) (z : Value)
  (ho : o.op = .call { callee:=.builtin .append,args:=#[s,x],argTypes:=#[t,t] }) (ht : Tryd.prog.underlying t = some (.slice e))
  (hi : (Tryd.prog.info? e).map (fun i=>(i.zero,i.size,i.bytes)) = some (some z,k,bytes))
  (g c n : Nat) (cs : List Value) (hb : Bk w g e cs) (hs : a.eval s = .slice (some ⟨g,0,none⟩) 0 c) (hcs : cs.length = c * k) (hnc : n ≤ c)
  (A : Option Addr) (C : Nat) (news : List Value) (hx : a.eval x = .slice A n C) (hl : news.length = n * k) (hnews : 0 < n → ∃ ad,A = some ad ∧ ∀ j u,news[j]? = some u → w.cell? (ad.add j) = some u) (h1 : ∀ u ∈ news,u.oneCell' = true)
  (h : ∀ w',Bk w' g e (news ++ cs.drop (n * k)) → Below g w w' → wpList Tryd.prog ops Q rest (a.put o.dst (.slice (some ⟨g,0,none⟩) n c)) w') :
  wpList Tryd.prog ops Q (o :: rest) a w:=by
 obtain ⟨i0,hi0,hz0,hz1,hz2⟩:=info_parts hi
 have hle : n * k ≤ c * k:=Nat.mul_le_mul_right _ hnc
 have hsrc : Src Tryd.prog i0.size t (.slice A n C) n news w:=by
  rcases Nat.eq_zero_or_pos n with rfl | hn
  ·have hn : news = []:=List.eq_nil_of_length_eq_zero (by rw [hl,Nat.zero_mul])
   subst hn
   cases A with
   | none=>exact Src.ofNil w ht C
   | some ad=>exact Src.ofSlice w ht ad 0 C [] (by simp) (fun j u hu=>by simp at hu) (fun u hu=>by cases hu)
  ·obtain ⟨ad,rfl,hn'⟩:=hnews hn
   exact Src.ofSlice w ht ad n C news (by rw [hz1];exact hl) hn' h1
 have hr:=run_append_room_src (P:=Tryd.prog) w t t o.type e i0 ht hi0 g 0 0 c (.slice A n C) n news hsrc (by omega) (fun j hj=>by simp only [Nat.zero_mul,Nat.zero_add];rw [hb.cell j (List.getElem?_eq_getElem (by omega))];rfl) (fun j hj=>by simp only [Nat.zero_mul,Nat.zero_add];exact hb.frozen j)
 simp only [Nat.zero_mul,Nat.zero_add] at hr
 have hf:=Bk.fill news [] (cs.take (n * k)) (cs.drop (n * k)) w (by rw [List.length_take];omega) (by rw [List.nil_append,List.take_append_drop];exact hb)
 refine wpList_plain hgd fun K hK=>?_
 unfold Oper.wp execOp
 simp only [ho,resolve,invoke,builtin,Sem.run_bind,Sem.run_pure,Result.andThen_ok,List.map_toArray,List.map_cons,List.map_nil,hs,hx,hr]
 exact hK _ _ (h _ hf.1 hf.2)
theorem wpList_makeZ {w : World} {ops : Array Oper} {rest : List Oper} {o : Oper} {a : Act} {Q : Exit → Act → World → Prop} (hg : o.guard = none) (l c : Operand) (t e : TypeId) (hop : o.op = Op.makeSlice t l c)
  (z : Value) (k bytes n : Nat) (ht : Tryd.prog.underlying t = some (.slice e)) (hi : (Tryd.prog.info? e).map (fun i=>(i.zero,i.size,i.bytes)) = some (some z,k,bytes))
  (hl : a.eval l = .int .i64 0) (C : Int) (hc : a.eval c = .int .i64 C) (hC : C = (n : Int)) (b2 : bytes * n ≤ 281474976710656) (b3 : n ≤ maxLen)
  (h : ∀ w',Bk w' w.heap.size e (madeCells z.cells (n * k)).toList → Below w.heap.size w w' → w'.heap.size = w.heap.size + 1 → wpList Tryd.prog ops Q rest (a.put o.dst (.slice (some ⟨w.heap.size,0,none⟩) 0 n)) w') :
  wpList Tryd.prog ops Q (o :: rest) a w:=by
 obtain ⟨i0,hi0,hz0,hz1,hz2⟩:=info_parts hi
 subst hC
 have h63' : (n : Int) ≤ 9223372036854775807:=by
  have h:=b3
  simp [maxLen] at h
  omega
 have hb' : (i0.bytes : Int) * (n : Int) ≤ 281474976710656:=by
  have h : ((i0.bytes * n : Nat) : Int) ≤ 281474976710656:=by rw [hz2];omega
  rwa [Int.natCast_mul] at h
 have hr:=run_make (P:=Tryd.prog) w t e i0 z ht hi0 hz0 .i64 .i64 0 n (Int.le_refl _) (by omega) hb' h63'
 simp only [Int.toNat_zero,Int.toNat_natCast,hz1] at hr
 have hb:=Bk.new w e (madeCells z.cells (n * k)).toList
 rw [Array.toArray_toList] at hb
 refine wpList_plain hg fun K hK=>?_
 unfold Oper.wp
 simp [execOp,hop,hl,hc,hr,Result.andThen]
 exact hK _ _ (h _ hb ((Below.refl _ _).alloc (Nat.le_refl _) _) (World.size_alloc _ _))
theorem made_ics (m : Nat) : (madeCells (Value.agg #[.int .i64 0,.int .i64 0,.string ⟨#[]⟩,.bool false,.int .u64 0,.int .u64 0,.int .i64 0,.int .i64 0]).cells (m * 8)).toList = ics (List.replicate m InsD.zero):=by
 apply List.ext_getElem?
 intro j
 by_cases hj : j < m * 8
 ·have e:=ics_get (List.replicate m InsD.zero) (j / 8) (j % 8) (by rw [List.length_replicate];omega) (by omega)
  have e1 : j / 8 * 8 + j % 8 = j:=by omega
  have e2 : ig (List.replicate m InsD.zero) (j / 8) = InsD.zero:=by unfold ig;rw [List.getD_eq_getElem?_getD,List.getElem?_replicate];split <;> rfl
  rw [e1,e2] at e
  rw [e]
  unfold madeCells
  rw [Array.toList_map,Array.toList_range,List.getElem?_map,List.getElem?_range hj]
  show some ((#[.int .i64 0,.int .i64 0,.string ⟨#[]⟩,.bool false,.int .u64 0,.int .u64 0,.int .i64 0,.int .i64 0] : Array Value)[j % 8]!) = _
  have h8 : j % 8 < 8:=Nat.mod_lt _ (by decide)
  generalize j % 8 = r at h8
  match r,h8 with
  | 0,_=>rfl
  | 1,_=>rfl
  | 2,_=>rfl
  | 3,_=>rfl
  | 4,_=>rfl
  | 5,_=>rfl
  | 6,_=>rfl
  | 7,_=>rfl
  | r + 8,h=>omega
 ·rw [List.getElem?_eq_none (by rw [Array.length_toList,size_madeCells];omega),List.getElem?_eq_none (by rw [ics_length,List.length_replicate];omega)]
theorem ics_drop (p q : List InsD) (n : Nat) (h : p.length = n) : (ics (p ++ q)).drop (n * 8) = ics q:=by
 rw [ics_append,List.drop_append_of_le_length (by rw [ics_length,h];exact Nat.le_refl _),List.drop_eq_nil_of_le (by rw [ics_length,h];exact Nat.le_refl _),List.nil_append]
theorem filled {w : World} {g : Nat} {t : TypeId} (is : List InsD) (m : Nat) (h : Bk w g t (ics is ++ ((madeCells (Value.agg #[.int .i64 0,.int .i64 0,.string ⟨#[]⟩,.bool false,.int .u64 0,.int .u64 0,.int .i64 0,.int .i64 0]).cells ((is.length + m) * 8)).toList).drop (is.length * 8))) : Bk w g t (ics (is ++ List.replicate m InsD.zero)):=by
 rw [made_ics,← List.replicate_append_replicate,ics_drop _ _ _ List.length_replicate] at h
 rw [ics_append]
 exact h
theorem made_len (m : Nat) : ((madeCells (Value.agg #[.int .i64 0,.int .i64 0,.string ⟨#[]⟩,.bool false,.int .u64 0,.int .u64 0,.int .i64 0,.int .i64 0]).cells (m * 8)).toList).length = m * 8:=by
 rw [Array.length_toList,size_madeCells]
theorem cod_left {w : World} {g n C : Nat} {t : TypeId} {p q : List InsD} (h : Bk w g t (ics (p ++ q))) (hn : p.length = n) (hm : n ≤ maxLen) : Cod w (.slice (some ⟨g,0,none⟩) n C) p:=by
 subst hn
 refine ⟨_,C,rfl,hm,fun r hr=>⟨g,0,rfl,fun j hj=>?_⟩⟩
 rw [cs_len] at hj
 rw [Nat.zero_add,← ics_get p r j hr hj]
 have hl : r * 8 + j < (ics p).length:=by rw [ics_length];omega
 rw [List.getElem?_eq_getElem hl]
 refine h.cell _ ?_
 rw [ics_append,List.getElem?_append_left hl,List.getElem?_eq_getElem hl]
theorem app_set (i : InsD) (X : List Value) (m : Nat) (v : Value) : (i.cs ++ X).set (8 + m) v = i.cs ++ X.set m v:=by
 rw [List.set_append_right _ _ (by rw [cs_len];omega),cs_len,Nat.add_sub_cancel_left]
theorem ics_put : ∀ (p : List InsD) (r : Nat) (I : InsD),r < p.length → ((((((((ics p).set (r * 8) (.int .i64 I.op)).set (r * 8 + 1) (.int .i64 I.a)).set (r * 8 + 2) (.string I.tx)).set (r * 8 + 3) (.bool I.ng)).set (r * 8 + 4) (.int .u64 I.hi)).set (r * 8 + 5) (.int .u64 I.lo)).set (r * 8 + 6) (.int .i64 I.sc)).set (r * 8 + 7) (.int .i64 I.dy) = ics (p.set r I)
 | [],r,I,h=>absurd h (by simp)
 | i :: l,0,I,_=>rfl
 | i :: l,r + 1,I,h=>by
  have e0 : (r + 1) * 8 = 8 + (r * 8):=by omega
  have e1 : 8 + r * 8 + 1 = 8 + (r * 8 + 1):=by omega
  have e2 : 8 + r * 8 + 2 = 8 + (r * 8 + 2):=by omega
  have e3 : 8 + r * 8 + 3 = 8 + (r * 8 + 3):=by omega
  have e4 : 8 + r * 8 + 4 = 8 + (r * 8 + 4):=by omega
  have e5 : 8 + r * 8 + 5 = 8 + (r * 8 + 5):=by omega
  have e6 : 8 + r * 8 + 6 = 8 + (r * 8 + 6):=by omega
  have e7 : 8 + r * 8 + 7 = 8 + (r * 8 + 7):=by omega
  have e8 : ics (i :: l) = i.cs ++ ics l:=rfl
  rw [e0,e1,e2,e3,e4,e5,e6,e7,e8,app_set,app_set,app_set,app_set,app_set,app_set,app_set,app_set,ics_put l r I (by simpa using h)]
  rfl
theorem Ro.put {w : World} {o : Nat → Nat} {l n C g r : Nat} {t : TypeId} {p : List InsD} (h : Ro w o l t 8 (.slice (some ⟨g,0,none⟩) n C) n (ics p)) (hn : p.length = n) (hr : r < n) (I : InsD) :
  Ro ((((((((w.setCell ⟨g,r * 8,none⟩ (.int .i64 I.op)).setCell ⟨g,r * 8 + 1,none⟩ (.int .i64 I.a)).setCell ⟨g,r * 8 + 2,none⟩ (.string I.tx)).setCell ⟨g,r * 8 + 3,none⟩ (.bool I.ng)).setCell ⟨g,r * 8 + 4,none⟩ (.int .u64 I.hi)).setCell ⟨g,r * 8 + 5,none⟩ (.int .u64 I.lo)).setCell ⟨g,r * 8 + 6,none⟩ (.int .i64 I.sc)).setCell ⟨g,r * 8 + 7,none⟩ (.int .i64 I.dy)) o l t 8 (.slice (some ⟨g,0,none⟩) n C) n (ics (p.set r I)):=by
 have hq:=(((((((h.store (j:=r * 8) (by omega) (.int .i64 I.op)).store (j:=r * 8 + 1) (by omega) (.int .i64 I.a)).store (j:=r * 8 + 2) (by omega) (.string I.tx)).store (j:=r * 8 + 3) (by omega) (.bool I.ng)).store (j:=r * 8 + 4) (by omega) (.int .u64 I.hi)).store (j:=r * 8 + 5) (by omega) (.int .u64 I.lo)).store (j:=r * 8 + 6) (by omega) (.int .i64 I.sc)).store (j:=r * 8 + 7) (by omega) (.int .i64 I.dy)
 rw [ics_put p r I (by omega)] at hq
 exact hq
theorem Turn.put {w w' : World} {o o' : Nat → Nat} {l g r : Nat} (h : Turn (· = l) w o w' o') (hg : w.heap.size ≤ g ∨ o g = l) (I : InsD) :
  Turn (· = l) w o ((((((((w'.setCell ⟨g,r * 8,none⟩ (.int .i64 I.op)).setCell ⟨g,r * 8 + 1,none⟩ (.int .i64 I.a)).setCell ⟨g,r * 8 + 2,none⟩ (.string I.tx)).setCell ⟨g,r * 8 + 3,none⟩ (.bool I.ng)).setCell ⟨g,r * 8 + 4,none⟩ (.int .u64 I.hi)).setCell ⟨g,r * 8 + 5,none⟩ (.int .u64 I.lo)).setCell ⟨g,r * 8 + 6,none⟩ (.int .i64 I.sc)).setCell ⟨g,r * 8 + 7,none⟩ (.int .i64 I.dy)) o' :=
 (((((((h.setCell (p:=⟨g,r * 8,none⟩) hg _).setCell (p:=⟨g,r * 8 + 1,none⟩) hg _).setCell (p:=⟨g,r * 8 + 2,none⟩) hg _).setCell (p:=⟨g,r * 8 + 3,none⟩) hg _).setCell (p:=⟨g,r * 8 + 4,none⟩) hg _).setCell (p:=⟨g,r * 8 + 5,none⟩) hg _).setCell (p:=⟨g,r * 8 + 6,none⟩) hg _).setCell (p:=⟨g,r * 8 + 7,none⟩) hg _
theorem neq_zeroN (W : World) : (binOp .neq 45 (.agg #[.int .i64 0,.int .i64 0,.string ⟨#[]⟩,.bool false,.int .u64 0,.int .u64 0,.int .i64 0,.int .i64 0]) (.agg #[.int .i64 0,.int .i64 0,.string ⟨#[]⟩,.bool false,.int .u64 0,.int .u64 0,.int .i64 0,.int .i64 0])).run Tryd.prog W = .ok (.bool false) W:=by
 have h:=neq_node InsD.zero InsD.zero W
 rw [insE_self] at h
 exact h
theorem neq_zeroI (W : World) : (binOp .neq 43 (.agg #[.int .i64 0,.int .i64 0,.string ⟨#[]⟩,.bool false,.int .u64 0,.int .u64 0,.int .i64 0,.int .i64 0]) (.agg #[.int .i64 0,.int .i64 0,.string ⟨#[]⟩,.bool false,.int .u64 0,.int .u64 0,.int .i64 0,.int .i64 0])).run Tryd.prog W = .ok (.bool false) W:=by
 have h:=neq_ins InsD.zero InsD.zero W
 rw [insE_self] at h
 exact h
theorem ig_zero {is : List InsD} {m r : Nat} (h : is.length ≤ r) : ig (is ++ List.replicate m InsD.zero) r = InsD.zero:=by
 unfold ig
 rw [List.getD_eq_getElem?_getD,List.getElem?_append_right h,List.getElem?_replicate]
 split <;> rfl
theorem apart_plain {is : List InsD} {b : Bool} (hg : ∀ r,r < is.length → GoodJ (ig is r)) : (cmpD is b).length ≤ 600 ∧ (unbD (cmpD is b) b).1.length ≤ 300 ∧ (∀ r,r < (cmpD is b).length → GoodJ (ig (cmpD is b) r)) ∧ ∀ r,r < (cmpD is b).length → I64 (ig (cmpD is b) r).a:=by
 by_cases h0 : chkP is b = 0
 ·have hcd : cmpD is b = compD is:=if_pos h0
  obtain ⟨z,hv,hz1,hz2,hl2⟩:=ver_comp h0
  have hl3:=(chk_zero h0).1
  obtain ⟨hgc,hic⟩:=comp_good h0 hg
  rw [hcd,back_comp h0]
  exact ⟨by omega,hl3,hgc,hic⟩
 ·have hcd : cmpD is b = []:=if_neg h0
  rw [hcd]
  refine ⟨Nat.zero_le _, ?_,fun r hr=>absurd hr (Nat.not_lt_zero _),fun r hr=>absurd hr (Nat.not_lt_zero _)⟩
  unfold unbD
  rw [if_neg (by decide)]
  rw [show unD [] (([] : List InsD).length + 1) 0 ([] : List InsD).length = some [] from unD_end (by decide)]
  dsimp only
  split <;> exact Nat.zero_le _
end Go.Proofs.YtnhmplfonkjfoaaDoor



namespace Go.Proofs.YtnhmplfonkjfoaaDoor
open Go.RowKit

set_option maxRecDepth 100000 in
set_option maxHeartbeats 1500000 in
theorem walk_apart (HVer : ∀ (c : List InsD) (u : Value) (b : Bool) (W : World),Cod W u c → Calls Tryd.prog 14 #[u,.bool b] W (VerPost c b W)) (is : List InsD) (v : Value) (b : Bool) (w : World) (hT : Tabs w) (h : Cod w v is) (hg : ∀ r,r < is.length → GoodJ (ig is r)) (hlen : is.length ≤ 2000000) : Calls Tryd.prog 8 #[v,.bool b] w fun e w'=>e = .returned (.bool true) ∧ Below w.heap.size w w':=by
 have HK:=Lib.hid (known14_any w hT)
 obtain ⟨pl1,pl2,pl3,pl4⟩:=apart_plain (b:=b) hg
 have HCm:=Lib.hid (fun (W : World) (u : Value) (hW : Below w.heap.size w W) (hu : Cod W u is)=>compile_any is u b W hu (fun r hr=>good_ji (hg r hr)) (tabs_below hT hW))
 have HDc:=Lib.hid (fun (W : World) (hW : Below w.heap.size w W)=>doccompile_any is v b W (h.below hW) hg)
 obtain ⟨C,hC⟩ : ∃ C,C = cmpD is b:=⟨_,rfl⟩
 obtain ⟨z,hz⟩ : ∃ z,z = chkP is b:=⟨_,rfl⟩
 unfold CmpPost at HCm
 unfold DcPost at HDc
 rw [← hC,← hz] at HCm HDc
 rw [← hC] at pl1 pl2 pl3 pl4
 have HBk:=Lib.hid (fun (W : World) (u : Value) (hW : Below w.heap.size w W) (hu : Cod W u C)=>back_any C u b W (tabs_below hT hW) hu (fun r hr=>good_ji (pl3 r hr)) pl4)
 have HDb:=Lib.hid (fun (W : World) (u : Value) (hu : Cod W u C)=>docback_any C u b W hu pl3)
 have HV:=Lib.hid (fun (W : World) (u : Value) (hu : Cod W u C)=>HVer C u b W hu)
 unfold BkPost at HBk
 unfold DbPost at HDb
 unfold VerPost at HV
 obtain ⟨⟨L,z2⟩,hL⟩ : ∃ R,R = unbD C b:=⟨_,rfl⟩
 obtain ⟨⟨z3,z4⟩,hS⟩ : ∃ R,R = verS (pairs C) (fB b):=⟨_,rfl⟩
 rw [← hL] at HBk HDb pl2
 rw [← hS] at HV
 dsimp only at HBk HDb HV pl2
 have HN:=Lib.hid h
 obtain ⟨A,C0,rfl,-,-⟩:=h
 clear hC hz hL hS pl3 pl4 hg hT
 go_enter Tryd.func8,Tryd.ntmps8
 go_upto_region 4 with (first | ((go_at_call 9;with_reducible refine (HK.out).mono ?_);rintro _ w1 ⟨rfl,hb1⟩;have hb1s:=hb1.size;(try simp only [wsA,wsS,wsD,wsN] at hb1s);obtain ⟨hb1c,hb1f⟩:=bcell hb1;(try have : w.heap.size < w1.heap.size:=by omega);(try have : w.heap.size + 1 < w1.heap.size:=by omega);(try have : w.heap.size + 1 + 1 < w1.heap.size:=by omega);(try have : w.heap.size + 1 + 1 + 1 < w1.heap.size:=by omega)) | (at_make;refine wpList_makeZ rfl _ _ 22 45 rfl (.agg #[.int .i64 0,.int .i64 0,.string ⟨#[]⟩,.bool false,.int .u64 0,.int .u64 0,.int .i64 0,.int .i64 0]) 8 72 (is.length + 3) Tryd.underlying22 info_node rfl _ rfl (by omega) (by omega) (by unfold maxLen;omega) ?_;intro w2 k2 b2 s2) | (at_builtin;refine wpList_fillM rfl _ _ 22 45 8 72 (.agg #[.int .i64 0,.int .i64 0,.string ⟨#[]⟩,.bool false,.int .u64 0,.int .u64 0,.int .i64 0,.int .i64 0]) rfl Tryd.underlying22 info_node w1.heap.size (is.length + 3) is.length _ k2 rfl (made_len _) (by omega) A C0 (ics is) rfl (by rw [ics_length]) (cod_news (HN.out.below (hb1.trans (b2.mono hb1.size))) rfl) (ics_cells _) ?_;intro w3 k3 b3))
 have hbw3 : Below w.heap.size w w3:=hb1.trans ((b2.trans b3).mono hb1.size)
 have KI3:=filled is 3 k3
 obtain ⟨gi,hgi⟩ : ∃ g,g = w1.heap.size:=⟨_,rfl⟩
 have HG0 : Hid (w.heap.size ≤ gi ∧ gi < w3.heap.size):=Lib.hid ⟨by rw [hgi];exact hb1.size,by rw [hgi];exact KI3.lt⟩
 rw [← hgi] at KI3 ⊢
 have HI3:=Lib.hid KI3
 have hml : is.length ≤ maxLen:=by unfold maxLen;omega
 have HML:=Lib.hid hml
 have hcI3 : Cod w3 (.slice (some ⟨gi,0,none⟩) is.length (is.length + 3)) is:=cod_left HI3.out rfl hml
 clear hb1 hb1s hb1c hb1f k2 k3 b2 b3 s2 KI3 hml hgi
 go_upto_region 5 with (go_at_call 11;(with_reducible refine (HCm.out _ _ hbw3 hcI3).mono ?_);rintro _ w4 ⟨ra,oa,rfl,ta,hra⟩)
 have b4 : Below w3.heap.size w3 w4:=ta.below (fun _ _=>by simp) (Nat.le_refl _)
 have HA4:=Lib.hid (hra.mid_ (by decide) ta)
 obtain ⟨Aa,Ca,rfl,-⟩:=hra.sl.is
 have hbw4:=hbw3.trans (b4.mono hbw3.size)
 have HI4:=Lib.hid (HI3.out.below b4 HI3.out.lt)
 have HS4:=Lib.hid b4.size
 have hcI4 : Cod w4 (.slice (some ⟨gi,0,none⟩) is.length (is.length + 3)) is:=cod_left HI4.out rfl HML.out
 clear ta hra b4 hbw3 HI3 hcI3
 go_upto_region 6 with (go_at_call 11;(with_reducible refine (HCm.out _ _ hbw4 hcI4).mono ?_);rintro _ w5 ⟨rb,ob5,rfl,tb,hrb⟩)
 have b5 : Below w4.heap.size w4 w5:=tb.below (fun _ _=>by simp) (Nat.le_refl _)
 have HB5:=Lib.hid (hrb.mid_ (by decide) tb)
 obtain ⟨Ab,Cb,rfl,-⟩:=hrb.sl.is
 have hbw5:=hbw4.trans (b5.mono hbw4.size)
 have HI5:=Lib.hid (HI4.out.below b5 HI4.out.lt)
 have HS5:=Lib.hid b5.size
 have HA5:=Lib.hid (HA4.out.grow b5)
 clear tb hrb b5 hbw4 HI4 hcI4 HA4
 go_upto_region 7 with (go_at_call 10;(with_reducible refine (HDc.out _ hbw5).mono ?_);rintro _ w6 ⟨rw6,rfl,b6,hrw⟩)
 have HW6:=Lib.hid hrw.mido
 obtain ⟨Aw,Cw,rfl,-⟩:=hrw.sl.is
 have hcW6:=hrw.cod rfl
 have hbw6:=hbw5.trans (b6.mono hbw5.size)
 have HI6:=Lib.hid (HI5.out.below b6 HI5.out.lt)
 have HS6:=Lib.hid b6.size
 have HA6:=Lib.hid (HA5.out.grow b6)
 have HB6:=Lib.hid (HB5.out.grow b6)
 clear hrw b6 hbw5 HI5 HA5 HB5
 go_upto_region 8 with (first | (at_make;refine wpList_makeZ rfl _ _ 24 43 rfl (.agg #[.int .i64 0,.int .i64 0,.string ⟨#[]⟩,.bool false,.int .u64 0,.int .u64 0,.int .i64 0,.int .i64 0]) 8 72 (C.length + 2) Tryd.underlying24 info_ins rfl _ rfl (by omega) (by omega) (by unfold maxLen;omega) ?_;intro w7 k7 b7 s7) | (at_builtin;refine wpList_fillM rfl _ _ 24 43 8 72 (.agg #[.int .i64 0,.int .i64 0,.string ⟨#[]⟩,.bool false,.int .u64 0,.int .u64 0,.int .i64 0,.int .i64 0]) rfl Tryd.underlying24 info_ins w6.heap.size (C.length + 2) C.length _ k7 rfl (made_len _) (by omega) Aw Cw (ics C) rfl (by rw [ics_length]) (cod_news (hcW6.below b7) rfl) (ics_cells _) ?_;intro w8 k8 b8))
 have b68:=b7.trans b8
 have KB8:=filled C 2 k8
 have hbw8:=hbw6.trans (b68.mono hbw6.size)
 have HI8:=Lib.hid (HI6.out.below b68 HI6.out.lt)
 have HA8:=Lib.hid (HA6.out.grow b68)
 have HB8:=Lib.hid (HB6.out.grow b68)
 have HW8:=Lib.hid (HW6.out.grow b68)
 obtain ⟨gb,hgb⟩ : ∃ g,g = w6.heap.size:=⟨_,rfl⟩
 have HS8 : Hid (w6.heap.size ≤ gb ∧ gb < w8.heap.size):=Lib.hid ⟨by rw [hgb];exact Nat.le_refl _,by rw [hgb];exact KB8.lt⟩
 rw [← hgb] at KB8
 rw [← hgb]
 have HK8:=Lib.hid KB8
 have hmc : C.length ≤ maxLen:=by unfold maxLen;omega
 have HMC:=Lib.hid hmc
 have hcK8 : Cod w8 (.slice (some ⟨gb,0,none⟩) C.length (C.length + 2)) C:=cod_left HK8.out rfl hmc
 clear k7 b7 s7 k8 b8 b68 KB8 hgb hbw6 hcW6 HI6 HA6 HB6 HW6 hmc
 go_upto_region 9 with (go_at_call 16;(with_reducible refine (HBk.out _ _ hbw8 hcK8).mono ?_);rintro _ w9 ⟨rx,ox,rfl,tx,hrx⟩)
 have b9 : Below w8.heap.size w8 w9:=tx.below (fun _ _=>by simp) (Nat.le_refl _)
 have HX9:=Lib.hid (hrx.mid_ (by decide) tx)
 obtain ⟨Ax,Cx,rfl,-⟩:=hrx.sl.is
 have hbw9:=hbw8.trans (b9.mono hbw8.size)
 have HI9:=Lib.hid (HI8.out.below b9 HI8.out.lt)
 have HK9:=Lib.hid (HK8.out.below b9 HK8.out.lt)
 have HA9:=Lib.hid (HA8.out.grow b9)
 have HB9:=Lib.hid (HB8.out.grow b9)
 have HW9:=Lib.hid (HW8.out.grow b9)
 have HS9:=Lib.hid b9.size
 have hcK9 : Cod w9 (.slice (some ⟨gb,0,none⟩) C.length (C.length + 2)) C:=cod_left HK9.out rfl HMC.out
 clear tx hrx b9 hbw8 hcK8 HI8 HK8 HA8 HB8 HW8
 go_upto_region 10 with (go_at_call 16;(with_reducible refine (HBk.out _ _ hbw9 hcK9).mono ?_);rintro _ w10 ⟨ry,oy,rfl,ty,hry⟩)
 have b10 : Below w9.heap.size w9 w10:=ty.below (fun _ _=>by simp) (Nat.le_refl _)
 have HY10:=Lib.hid (hry.mid_ (by decide) ty)
 obtain ⟨Ay,Cy,rfl,-⟩:=hry.sl.is
 have hbw10:=hbw9.trans (b10.mono hbw9.size)
 have HI10:=Lib.hid (HI9.out.below b10 HI9.out.lt)
 have HK10:=Lib.hid (HK9.out.below b10 HK9.out.lt)
 have HA10:=Lib.hid (HA9.out.grow b10)
 have HB10:=Lib.hid (HB9.out.grow b10)
 have HW10:=Lib.hid (HW9.out.grow b10)
 have HX10:=Lib.hid (HX9.out.grow b10)
 have HS10:=Lib.hid b10.size
 have hcK10 : Cod w10 (.slice (some ⟨gb,0,none⟩) C.length (C.length + 2)) C:=cod_left HK10.out rfl HMC.out
 clear ty hry b10 hbw9 hcK9 HI9 HK9 HA9 HB9 HW9 HX9
 go_upto_region 11 with (go_at_call 14;(with_reducible refine (HV.out _ _ hcK10).mono ?_);rintro _ w11 ⟨rfl,b11⟩)
 have HBW:=Lib.hid (hbw10.trans (b11.mono hbw10.size))
 have HI:=Lib.hid (HI10.out.below b11 HI10.out.lt)
 have HK2:=Lib.hid (HK10.out.below b11 HK10.out.lt)
 have HA:=Lib.hid (HA10.out.grow b11)
 have HB:=Lib.hid (HB10.out.grow b11)
 have HW:=Lib.hid (HW10.out.grow b11)
 have HX:=Lib.hid (HX10.out.grow b11)
 have HY:=Lib.hid (HY10.out.grow b11)
 have HS : Hid (w.heap.size ≤ gi ∧ gi < w3.heap.size ∧ w3.heap.size ≤ w4.heap.size ∧ w4.heap.size ≤ w5.heap.size ∧ w5.heap.size ≤ w6.heap.size ∧ w6.heap.size ≤ gb ∧ gb < w8.heap.size ∧ w8.heap.size ≤ w9.heap.size ∧ w9.heap.size ≤ w10.heap.size ∧ w10.heap.size ≤ w11.heap.size):=Lib.hid ⟨HG0.out.1,HG0.out.2,HS4.out,HS5.out,HS6.out,HS8.out.1,HS8.out.2,HS9.out,HS10.out,b11.size⟩
 clear b11 hbw10 hcK10 HI10 HK10 HA10 HB10 HW10 HX10 HY10 HG0 HS4 HS5 HS6 HS8 HS9 HS10 HCm HDc HBk HV HK
 obtain ⟨s3,hs3⟩ : ∃ s,s = w3.heap.size:=⟨_,rfl⟩
 obtain ⟨s4,hs4⟩ : ∃ s,s = w4.heap.size:=⟨_,rfl⟩
 obtain ⟨s5,hs5⟩ : ∃ s,s = w5.heap.size:=⟨_,rfl⟩
 obtain ⟨s6,hs6⟩ : ∃ s,s = w6.heap.size:=⟨_,rfl⟩
 obtain ⟨s8,hs8⟩ : ∃ s,s = w8.heap.size:=⟨_,rfl⟩
 obtain ⟨s9,hs9⟩ : ∃ s,s = w9.heap.size:=⟨_,rfl⟩
 obtain ⟨s10,hs10⟩ : ∃ s,s = w10.heap.size:=⟨_,rfl⟩
 rw [← hs3,← hs4] at HA
 rw [← hs4,← hs5] at HB
 rw [← hs5,← hs6] at HW
 rw [← hs8,← hs9] at HX
 rw [← hs9,← hs10] at HY
 rw [← hs3,← hs4,← hs5,← hs6,← hs8,← hs9,← hs10] at HS
 clear hs3 hs4 hs5 hs6 hs8 hs9 hs10
 go_wp2_with fail
 go_loopg [17] C.length (fun k i wr=>∃ (t : Nat) (q : List InsD),k + t = C.length ∧ i = .int .i64 t ∧ Hid (q.length = C.length) ∧ Hid (Ro wr (mid s3 s4) 1 43 8 (.slice Aa C.length Ca) C.length (ics q)) ∧ Hid (Turn (· = 1) w11 (mid s3 s4) wr (mid s3 s4)))
 case atStart=>exact ⟨0,C,by omega,rfl,Lib.hid rfl,HA,Lib.hid (Turn.refl _ _ _)⟩
 case round =>
  obtain ⟨t,q,hk,rfl,HQL,HAq,HT1⟩:=hrel
  have HKK:=Lib.hid hk
  have htn : t ≤ C.length:=by omega
  clear hk
  by_cases hlt : t < C.length
  ·obtain ⟨g,rfl,hog,hat⟩:=HAq.out.ins HQL.out hlt
   obtain ⟨cur,hcur⟩:=HAq.out.lb (by omega)
   have f0:=hcur.frozen (t * 8)
   have f1:=hcur.frozen (t * 8 + 1)
   have f2:=hcur.frozen (t * 8 + 2)
   have f3:=hcur.frozen (t * 8 + 3)
   have f4:=hcur.frozen (t * 8 + 4)
   have f5:=hcur.frozen (t * 8 + 5)
   have f6:=hcur.frozen (t * 8 + 6)
   have f7:=hcur.frozen (t * 8 + 7)
   obtain ⟨c0,c1,c2,c3,c4,c5,c6,c7⟩:=hat.ins
   have HPU:=Lib.hid (HAq.out.put HQL.out hlt (insO 99 0))
   have HTU:=Lib.hid (HT1.out.put (g:=g) (r:=t) (.inr hog) (insO 99 0))
   clear hat hcur
   go_wp2_with fail
   go_roundg (gk - 1)
   case measure=>have:=HKK.out;omega
   case rel=>exact ⟨t + 1,q.set t (insO 99 0),by have:=HKK.out;omega,by go_num,Lib.hid (by rw [List.length_set];exact HQL.out),HPU,HTU⟩
  ·obtain rfl : t = C.length:=by omega
   obtain ⟨w12,hw12⟩ : ∃ x,x = wr:=⟨_,rfl⟩
   subst hw12
   have HX2:=Lib.hid (HX.out.spare HT1.out (.inr (by have:=HS.out;omega)))
   clear HAq HQL HX
   go_wp2_with fail
   go_loopg [18] L.length (fun k i wr=>∃ (t : Nat) (q : List InsD),k + t = L.length ∧ i = .int .i64 t ∧ Hid (q.length = L.length) ∧ Hid (Ro wr (mid s8 s9) 1 45 8 (.slice Ax L.length Cx) L.length (ics q)) ∧ Hid (Turn (· = 1) w12 (mid s8 s9) wr (mid s8 s9)))
   case atStart=>exact ⟨0,L,by omega,rfl,Lib.hid rfl,HX2,Lib.hid (Turn.refl _ _ _)⟩
   case round =>
    obtain ⟨t,q,hk,rfl,HQL,HXq,HT2⟩:=hrel
    have HKK:=Lib.hid hk
    have htn : t ≤ L.length:=by omega
    clear hk
    by_cases hlt : t < L.length
    ·obtain ⟨g,rfl,hog,hat⟩:=HXq.out.ins HQL.out hlt
     obtain ⟨cur,hcur⟩:=HXq.out.lb (by omega)
     have f0:=hcur.frozen (t * 8)
     have f1:=hcur.frozen (t * 8 + 1)
     have f2:=hcur.frozen (t * 8 + 2)
     have f3:=hcur.frozen (t * 8 + 3)
     have f4:=hcur.frozen (t * 8 + 4)
     have f5:=hcur.frozen (t * 8 + 5)
     have f6:=hcur.frozen (t * 8 + 6)
     have f7:=hcur.frozen (t * 8 + 7)
     obtain ⟨c0,c1,c2,c3,c4,c5,c6,c7⟩:=hat.ins
     have HPU:=Lib.hid (HXq.out.put HQL.out hlt (insO 99 0))
     have HTU:=Lib.hid (HT2.out.put (g:=g) (r:=t) (.inr hog) (insO 99 0))
     clear hat hcur
     go_wp2_with fail
     go_roundg (gk - 1)
     case measure=>have:=HKK.out;omega
     case rel=>exact ⟨t + 1,q.set t (insO 99 0),by have:=HKK.out;omega,by go_num,Lib.hid (by rw [List.length_set];exact HQL.out),HPU,HTU⟩
    ·obtain rfl : t = L.length:=by omega
     obtain ⟨w13,hw13⟩ : ∃ x,x = wr:=⟨_,rfl⟩
     subst hw13
     have h9:=HS.out
     have KI:=(HI.out.spare HT1.out (.inl (by omega))).spare HT2.out (.inl (by omega))
     have KK:=(HK2.out.spare HT1.out (.inr (by omega))).spare HT2.out (.inl (by omega))
     have RB:=(HB.out.spare HT1.out (.inr (by omega))).spare HT2.out (.inl (by omega))
     have RW:=(HW.out.spare HT1.out (.inr (by omega))).spare HT2.out (.inl (by omega))
     have RY:=(HY.out.spare HT1.out (.inr (by omega))).spare HT2.out (.inr (by omega))
     have e12:=HT1.out.size
     have hbw13 : Below w.heap.size w w13:=HBW.out.trans ((mid_below HT1.out (by omega) HBW.out.size).trans (mid_below HT2.out (by omega) (by have:=HBW.out.size;omega)))
     have HCI:=Lib.hid (cod_left (C:=is.length + 3) KI rfl HML.out)
     have HCK:=Lib.hid (cod_left (C:=C.length + 2) KK rfl HMC.out)
     have HCB:=Lib.hid (RB.cod rfl)
     have HCW:=Lib.hid (RW.cod rfl)
     have HCY:=Lib.hid (RY.cod rfl)
     have HCFI:=Lib.hid (bk_cod (p:=is ++ List.replicate 3 InsD.zero) (C:=is.length + 3) KI (by rw [List.length_append,List.length_replicate];unfold maxLen;omega))
     have HCFK:=Lib.hid (bk_cod (p:=C ++ List.replicate 2 InsD.zero) (C:=C.length + 2) KK (by rw [List.length_append,List.length_replicate];unfold maxLen;omega))
     rw [List.length_append,List.length_replicate] at HCFI HCFK
     clear HXq HQL HT1 HT2 HI HK2 HB HW HY HBW HX2 HA HS HKK KI KK RB RW RY h9 e12
     go_upto_region 19 with fail
     go_quiet (fail)
     go_wp2_with fail
     go_loopg [21] 3 (fun k i wr=>∃ u : Nat,k + u = is.length + 3 ∧ i = .int .i64 u ∧ Hid (is.length ≤ u) ∧ Hid (Below w13.heap.size w13 wr))
     case atStart=>exact ⟨is.length,by omega,rfl,Lib.hid (Nat.le_refl _),Lib.hid (by (repeat' first|(with_reducible first|exact blR _ _|assumption|refine blD ?_|refine blN ?_ _)|((with_reducible first|refine blA ?_ ?_ _|refine blS ?_ ?_ _|refine blT (by assumption) ?_ ?_);focus (go_size;done))))⟩
     case round =>
      obtain ⟨u,hk,rfl,HNU,HB3⟩:=hrel
      have HKK:=Lib.hid hk
      have hun : u ≤ is.length + 3:=by omega
      clear hk
      by_cases hlt : u < is.length + 3
      ·obtain ⟨b1,p1,e1,a1⟩:=(HCFI.out.below HB3.out).at (r:=u) (by rw [List.length_append,List.length_replicate];exact hlt)
       injection e1 with e1
       injection e1 with e1 e2
       subst e1 e2
       rw [ig_zero HNU.out,Nat.zero_add] at a1
       obtain ⟨x0,x1,x2,x3,x4,x5,x6,x7⟩:=a1.ins
       dsimp only [InsD.zero] at x0 x1 x2 x3 x4 x5 x6 x7
       have hq:=neq_zeroN
       clear a1
       go_wp2_with fail
       go_roundg (gk - 1)
       case measure=>have:=HKK.out;omega
       case rel=>exact ⟨u + 1,by have:=HKK.out;omega,by go_num,Lib.hid (Nat.le_succ_of_le HNU.out),HB3⟩
      ·obtain rfl : u = is.length + 3:=by omega
       obtain ⟨w14,hw14⟩ : ∃ x,x = wr:=⟨_,rfl⟩
       subst hw14
       have HB14:=HB3
       clear HB3 HKK HNU
       go_wp2_with fail
       go_loopg [22] 2 (fun k i wr=>∃ u : Nat,k + u = C.length + 2 ∧ i = .int .i64 u ∧ Hid (C.length ≤ u) ∧ Hid (Below w13.heap.size w13 wr))
       case atStart=>exact ⟨C.length,by omega,rfl,Lib.hid (Nat.le_refl _),HB14⟩
       case round =>
        obtain ⟨u,hk,rfl,HNU,HB3⟩:=hrel
        have HKK:=Lib.hid hk
        have hun : u ≤ C.length + 2:=by omega
        clear hk
        by_cases hlt : u < C.length + 2
        ·obtain ⟨b1,p1,e1,a1⟩:=(HCFK.out.below HB3.out).at (r:=u) (by rw [List.length_append,List.length_replicate];exact hlt)
         injection e1 with e1
         injection e1 with e1 e2
         subst e1 e2
         rw [ig_zero HNU.out,Nat.zero_add] at a1
         obtain ⟨x0,x1,x2,x3,x4,x5,x6,x7⟩:=a1.ins
         dsimp only [InsD.zero] at x0 x1 x2 x3 x4 x5 x6 x7
         have hq:=neq_zeroI
         clear a1
         go_wp2_with fail
         go_roundg (gk - 1)
         case measure=>have:=HKK.out;omega
         case rel=>exact ⟨u + 1,by have:=HKK.out;omega,by go_num,Lib.hid (Nat.le_succ_of_le HNU.out),HB3⟩
        ·obtain rfl : u = C.length + 2:=by omega
         obtain ⟨w15,hw15⟩ : ∃ x,x = wr:=⟨_,rfl⟩
         subst hw15
         have HB15:=HB3
         clear HB3 HKK HNU
         have b15:=HB15.out
         have HBW:=Lib.hid (hbw13.trans (b15.mono hbw13.size))
         have HDB:=Lib.hid (HDb.out w15 _ (HCW.out.below b15))
         go_upto_region 31 with (go_at_call 15;(with_reducible refine HDB.out.mono ?_);rintro _ w16 ⟨rz,rfl,b16,hrz⟩)
         have c16:=b15.trans (b16.mono b15.size)
         have hbw16:=HBW.out.trans (b16.mono HBW.out.size)
         have HBW6:=Lib.hid hbw16
         have HC1:=Lib.hid (HCI.out.below c16)
         have HC2:=Lib.hid (HCK.out.below c16)
         have HC3:=Lib.hid (HCB.out.below c16)
         have HC4:=Lib.hid (HCW.out.below c16)
         have HC5:=Lib.hid (HCY.out.below c16)
         have HC6:=Lib.hid (hrz.cod rfl)
         have HC7:=Lib.hid (HN.out.below hbw16)
         obtain ⟨Az,Cz,rfl,-⟩:=hrz.sl.is
         have HS1:=Lib.hid (fun (W : World) (hW : Below w16.heap.size w16 W)=>same_node is is _ _ W (HC1.out.below hW) (HC7.out.below hW))
         have HS2:=Lib.hid (fun (W : World) (hW : Below w16.heap.size w16 W)=>same_ins C C _ _ W (HC2.out.below hW) (HC4.out.below hW))
         have HS3:=Lib.hid (fun (W : World) (hW : Below w16.heap.size w16 W)=>same_ins C C _ _ W (HC3.out.below hW) (HC4.out.below hW))
         have HS4:=Lib.hid (fun (W : World) (hW : Below w16.heap.size w16 W)=>same_node L L _ _ W (HC5.out.below hW) (HC6.out.below hW))
         rw [sameB_yes rfl] at HS1 HS2 HS3 HS4
         have b17:=Below.refl w16.heap.size w16
         clear hrz b15 b16 c16 hbw16 HBW HDB HCI HCK HCB HCW HCY
         go_wp2_with (first | (go_at_call 17;first | ((with_reducible refine (HS1.out _ b17).mono ?_);rintro _ w17 ⟨rfl,b18⟩;have b19:=b17.trans (b18.mono b17.size)) | ((with_reducible refine (HS4.out _ b23).mono ?_);rintro _ w20 ⟨rfl,b24⟩;have b25:=b23.trans (b24.mono b23.size))) | (go_at_call 12;first | ((with_reducible refine (HS2.out _ b19).mono ?_);rintro _ w18 ⟨rfl,b20⟩;have b21:=b19.trans (b20.mono b19.size)) | ((with_reducible refine (HS3.out _ b21).mono ?_);rintro _ w19 ⟨rfl,b22⟩;have b23:=b21.trans (b22.mono b21.size))))
         go_ret
         exact ⟨rfl,HBW6.out.trans (b25.mono HBW6.out.size)⟩
end Go.Proofs.YtnhmplfonkjfoaaDoor



namespace Go.Proofs.YtnhmplfonkjfoaaDoor
open Go.RowKit

theorem verify_any (is : List InsD) (v : Value) (b : Bool) (w : World) (h : Cod w v is) : Calls Tryd.prog 14 #[v,.bool b] w (VerPost is b w):=by
 by_cases hl : 600 < is.length
 ·exact verify_long is v b w h hl
 ·cases b with
  | true=>exact verify_in_true is v w h (by omega)
  | false=>exact verify_in_false is v w h (by omega)
end Go.Proofs.YtnhmplfonkjfoaaDoor



namespace Go.Proofs.YtnhmplfonkjfoaaDoor
open Go.RowKit
open Go.ChangeShapes Go.WideShapes Go.ChangeAt
open Go.ChangeMaps (open_string shut_string)

theorem own : ownKnob Tryd.prog.godebug = none:=by kernel_rfl
theorem laidOut : laidOutB Tryd.prog = true:=by kernel_rfl
theorem bulk_pos {H : Type} (d : DataW H) : 1 ≤ Rows.uptoBulk d:=by
 cases d with
 | lit l=>cases l <;> simp [Rows.uptoBulk]
 | _=>simp [Rows.uptoBulk]
theorem bulk_map {H : Type} (D : Nat → DataW H) : ∀ (n : Nat) (L : List Nat),L.length = n → Rows.uptoBulkAll (L.map D) = (L.map fun i=>Rows.uptoBulk (D i)).sum
 | 0,[],_=>rfl
 | n + 1,x :: r,h=>by
  rw [List.map_cons,List.map_cons,Rows.uptoBulkAll,List.sum_cons,bulk_map D n r (by simpa using h)]
theorem bulk_range {H : Type} (D : Nat → DataW H) (n : Nat) : Rows.uptoBulkAll ((List.range n).map D) = ((List.range n).map fun i=>Rows.uptoBulk (D i)).sum:=bulk_map D n _ (by simp)
theorem sum_range_succ (f : Nat → Nat) (n : Nat) : ((List.range (n + 1)).map f).sum = ((List.range n).map f).sum + f n:=by
 rw [List.range_succ,List.map_append,List.sum_append];simp
theorem sum_mem (f : Nat → Nat) : ∀ (n i : Nat),i < n → f i ≤ ((List.range n).map f).sum
 | 0,i,h=>absurd h (Nat.not_lt_zero _)
 | n + 1,i,h=>by
  rw [sum_range_succ]
  rcases Nat.lt_or_ge i n with h' | h'
  ·have:=sum_mem f n i h';omega
  ·obtain rfl : i = n:=by omega
   omega
theorem sum_pos (f : Nat → Nat) (hf : ∀ i,1 ≤ f i) : ∀ n,n ≤ ((List.range n).map f).sum
 | 0=>Nat.zero_le _
 | n + 1=>by
  rw [sum_range_succ]
  have:=sum_pos f hf n
  have:=hf n
  omega
theorem ins_of {P : Nat → InsD → Prop} : ∀ n,(∀ i,i < n → ∃ d,P i d) → ∃ l : List InsD,l.length = n ∧ ∀ i,i < n → P i (ig l i)
 | 0,_=>⟨[],rfl,fun i hi=>absurd hi (Nat.not_lt_zero _)⟩
 | n + 1,h=>by
  obtain ⟨l,h1,h2⟩:=ins_of (P:=P) n (fun i hi=>h i (by omega))
  obtain ⟨d,h4⟩:=h n (by omega)
  refine ⟨l ++ [d],by rw [List.length_append,h1];rfl,fun i hi=>?_⟩
  unfold ig
  rcases Nat.lt_or_ge i n with h' | h'
  ·rw [List.getD_eq_getElem?_getD,List.getElem?_append_left (by omega)]
   have:=h2 i h'
   unfold ig at this
   rwa [List.getD_eq_getElem?_getD] at this
  ·obtain rfl : i = n:=by omega
   rw [List.getD_eq_getElem?_getD,List.getElem?_append_right (by omega),h1,Nat.sub_self]
   exact h4
section
variable {H : Type} {enc : TypeId × Value → H} {W : World} {b0 : Nat} {sp : Nat → Bool} {held : Bool}
theorem u64_wf {z : Int} (hz : (Lit.int .u64 z).wf = true) : U64 z:=by
 have e1 : IntKind.u64.min = 0:=rfl
 have e2 : IntKind.u64.max = 18446744073709551615:=rfl
 simp [Lit.wf,e1,e2] at hz
 unfold U64
 omega
set_option maxRecDepth 100000 in
theorem open_dec8 {fuel : Nat} {c0 c1 c2 c3 : Value} {x : DataW H × List MemPlace} (h : DataW.trod enc Tryd.prog W b0 sp held fuel 41 [c0,c1,c2,c3] = some x) :
  ∃ (b : Bool) (hi lo s : Int),U64 hi ∧ U64 lo ∧ c0 = .bool b ∧ c1 = .int .u64 hi ∧ c2 = .int .u64 lo ∧ c3 = .int .i64 s:=by
 obtain ⟨xs,n,_,hx,_,hlen,hg⟩:=DataW.trod_struct Tryd.underlying41 h
 have n0 : Tryd.prog.cellsOf 4 = 1:=by kernel_rfl
 have n1 : Tryd.prog.cellsOf 39 = 2:=by kernel_rfl
 have n2 : Tryd.prog.cellsOf 3 = 1:=by kernel_rfl
 have n3 : Tryd.prog.cellsOf 37 = 1:=by kernel_rfl
 have g0:=hg 0 _ rfl
 have g1:=hg 1 _ rfl
 have g2:=hg 2 _ rfl
 clear hg hx
 match xs,hlen with
 | [y0,y1,y2],_ =>
  simp only [List.getElem_toArray,List.getElem_cons_zero,List.getElem_cons_succ,n0,n1,n2] at g0 g1 g2
  simp at g0 g1 g2
  obtain ⟨b,e0,_⟩:=DataW.trod_bool Tryd.underlying4 g0
  obtain ⟨z2,e2,_,w2⟩:=DataW.trod_int Tryd.underlying3 g2
  obtain ⟨ys,n',_,_,_,hlen2,hg2⟩:=DataW.trod_struct Tryd.underlying39 g1
  have k0:=hg2 0 _ rfl
  have k1:=hg2 1 _ rfl
  match ys,hlen2 with
  | [q0,q1],_ =>
   simp only [List.getElem_toArray,List.getElem_cons_zero,List.getElem_cons_succ,n3] at k0 k1
   simp at k0 k1
   obtain ⟨z0,f0,_,v0⟩:=DataW.trod_int Tryd.underlying37 k0
   obtain ⟨z1,f1,_,v1⟩:=DataW.trod_int Tryd.underlying37 k1
   simp at e0 e2 f0 f1
   exact ⟨b,z0,z1,z2,u64_wf v0,u64_wf v1,e0,f0,f1,e2⟩
set_option maxRecDepth 100000 in
theorem open_oneN {fuel : Nat} {cs : List Value} {x : DataW H × List MemPlace} (h : DataW.trod enc Tryd.prog W b0 sp held fuel 45 cs = some x) : ∃ i : InsD,cs = i.cs ∧ U64 i.hi ∧ U64 i.lo ∧ i.tx.data.toList.length + 1 ≤ Rows.uptoBulk x.1:=by
 obtain ⟨xs,n,_,hx,hcl,hlen,hg⟩:=DataW.trod_struct Tryd.underlying45 h
 have n0 : Tryd.prog.cellsOf 3 = 1:=by kernel_rfl
 have n2 : Tryd.prog.cellsOf 41 = 4:=by kernel_rfl
 have n3 : Tryd.prog.cellsOf 9 = 1:=by kernel_rfl
 have n6 : Tryd.prog.cellsOf 45 = 8:=by kernel_rfl
 rw [n6] at hcl
 have g0:=hg 0 _ rfl
 have g1:=hg 1 _ rfl
 have g2:=hg 2 _ rfl
 have g3:=hg 3 _ rfl
 have g4:=hg 4 _ rfl
 clear hg h
 match cs,hcl with
 | [c0,c1,c2,c3,c4,c5,c6,c7],_ =>
  match xs,hlen with
  | [y0,y1,y2,y3,y4],_ =>
   simp only [List.getElem_toArray,List.getElem_cons_zero,List.getElem_cons_succ,n0,n2,n3] at g0 g1 g2 g3 g4
   simp at g0 g1 g2 g3 g4
   obtain ⟨op,e0,r0,_⟩:=DataW.trod_int Tryd.underlying3 g0
   obtain ⟨a,e1,r1,_⟩:=DataW.trod_int Tryd.underlying3 g1
   obtain ⟨text,e2,r2,_⟩:=DataW.trod_string Tryd.underlying9 g2
   obtain ⟨ng,hi,lo,sc,uh,ul,e3,e4,e5,e6⟩:=open_dec8 g3
   obtain ⟨day,e7,r7,_⟩:=DataW.trod_int Tryd.underlying3 g4
   simp at e0 e1 e2 e7
   subst e0 e1 e2 e3 e4 e5 e6 e7
   subst hx
   refine ⟨⟨op,a,text,ng,hi,lo,sc,day⟩,rfl,uh,ul, ?_⟩
   simp only [Rows.uptoBulk,List.map_cons,List.map_nil,Rows.uptoBulkAll]
   have : Rows.uptoBulk y2.1 = text.data.toList.length + 1:=by rw [r2];rfl
   omega
set_option maxRecDepth 100000 in
theorem open_codN {base B : Nat} {v : Value} {d : DataW H} {p : List MemPlace} (hv : Value.okWide Tryd.prog W .any B 22 v) (h : DataW.Trod enc Tryd.prog W base sp held 22 v d p) :
  ∃ is,Cod W v is ∧ (∀ r,r < is.length → U64 (ig is r).hi ∧ U64 (ig is r).lo ∧ (ig is r).tx.data.toList.length + 1 ≤ Rows.uptoBulk d) ∧ is.length ≤ Rows.uptoBulk d:=by
 obtain ⟨a0,len,cap,rfl⟩:=okWide_slice Tryd.underlying22 hv
 obtain ⟨fuel,hf⟩:=h
 have n6 : Tryd.prog.cellsOf 45 = 8:=by kernel_rfl
 rcases Deep.open_slice Tryd.underlying22 hf with ⟨hc,_⟩ | ⟨a,len',cap',m,n',D,Pl,hc,_,hl,hm,hmm,hx,hxs⟩
 ·simp [Value.cells] at hc
  obtain ⟨rfl,rfl,rfl⟩:=hc
  exact ⟨[],⟨none,0,rfl,Nat.zero_le _,fun r hr=>absurd hr (Nat.not_lt_zero _)⟩,fun r hr=>absurd hr (Nat.not_lt_zero _),Nat.zero_le _⟩
 ·simp [Value.cells] at hc
  obtain ⟨rfl,rfl,rfl⟩:=hc
  rw [n6] at hxs
  have hle : len ≤ m:=by rw [hmm];split <;> omega
  have hd : d = .slice ((List.range len).map D) ((List.range (m - len)).map fun j=>D (len + j)):=congrArg Prod.fst hx
  have hbd : ((List.range len).map fun i=>Rows.uptoBulk (D i)).sum + 1 ≤ Rows.uptoBulk d:=by
   rw [hd]
   simp only [Rows.uptoBulk]
   rw [bulk_range]
   omega
  obtain ⟨b,o,spot⟩:=a
  obtain ⟨l,h1,h2⟩:=ins_of (P:=fun i x=>spot = none ∧ At W b (o + i * 8) x.cs ∧ U64 x.hi ∧ U64 x.lo ∧ x.tx.data.toList.length + 1 ≤ Rows.uptoBulk (D i)) len (fun i hi=>by
   obtain ⟨cs',q1,q2⟩:=hxs i (by omega)
   obtain ⟨x,e,u1,u2,u3⟩:=open_oneN q2
   obtain ⟨_,hl10,hat⟩:=World.cells?_some q1
   have hspot : spot = none:=by
    obtain ⟨cs0,p1,_⟩:=hxs 0 (by omega)
    obtain ⟨_,hl0,hat0⟩:=World.cells?_some p1
    have h0:=hat0 0 (by omega)
    rw [List.getElem?_eq_getElem (by omega)] at h0
    simpa [Addr.add] using World.cell?_spot h0
   subst hspot
   refine ⟨x,rfl,fun j hj=>?_,u1,u2,u3⟩
   rw [← e] at hj ⊢
   rw [← hat j (by omega)]
   congr 1
   rw [show ((⟨b,o,none⟩ : Addr).add (i * 8)) = ⟨b,o + i * 8,none⟩ from add_plain ..,show ((⟨b,o + i * 8,none⟩ : Addr).add j) = ⟨b,o + i * 8 + j,none⟩ from add_plain ..])
  refine ⟨l,⟨some ⟨b,o,spot⟩,cap,by rw [h1],by rw [h1];omega,fun r hr=>?_⟩,fun r hr=>?_, ?_⟩
  ·obtain ⟨q0,q1,_⟩:=h2 r (by omega)
   subst q0
   exact ⟨b,o,rfl,q1⟩
  ·obtain ⟨_,_,q1,q2,q3⟩:=h2 r (by omega)
   have:=sum_mem (fun i=>Rows.uptoBulk (D i)) len r (by omega)
   exact ⟨q1,q2,by omega⟩
  ·have:=sum_pos (fun i=>Rows.uptoBulk (D i)) (fun i=>bulk_pos _) len
   omega
end
theorem first_is : Rows.laid_unicode_utf8_first = Lib.firstData:=by kernel_rfl
theorem accept_is : (Rows.laid_unicode_utf8_acceptRanges : DataW Unit) = Lib.acceptData:=by kernel_rfl
theorem tabs_laid {W : World} (hL : laidMet Tryd.prog [("unicode/utf8.acceptRanges", Rows.laid_unicode_utf8_acceptRanges), ("unicode/utf8.first", Rows.laid_unicode_utf8_first)] W) : Tabs W := by
 rw [first_is,accept_is] at hL
 exact utf8Tabs_of_readsT (U8Types.of196 Tryd.lays196) ⟨by kernel_rfl,by kernel_rfl,by kernel_rfl,by kernel_rfl,by kernel_rfl,by kernel_rfl,by kernel_rfl⟩ (Lib.laidMet.reads hL (.tail _ (.head _))) (Lib.laidMet.reads hL (.head _))
end Go.Proofs.YtnhmplfonkjfoaaDoor

