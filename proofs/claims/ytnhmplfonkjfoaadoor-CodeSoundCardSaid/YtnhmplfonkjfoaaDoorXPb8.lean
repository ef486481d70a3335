/- What this law reaches beyond the common contracts, part 8. -/
import Derived.ProofKit
import Derived.OpenShut
import Derived.ShutString
import Derived.ChangeOld
import Derived.Below
import Derived.Lib.SmallJoins
import Derived.Deep.Matrix
import Derived.ChangeArms
import Derived.Lib.LaidIn
import Derived.Lib.LaidU8T
import Derived.Test.YtnhmplfonkjfoaaDoorCards
import Derived.Test.YtnhmplfonkjfoaaDoorTie
import Derived.Deep.DeepHandedRow
import Derived.LaidMore
import Derived.Lay
import Derived.SevenTiedAt
import Derived.Test.YtnhmplfonkjfoaaDoorM2
import Derived.Test.YtnhmplfonkjfoaaDoorXPb7
set_option linter.unusedSimpArgs false
set_option linter.unusedVariables false


namespace Go.Proofs.YtnhmplfonkjfoaaDoor
open Go.RowKit

theorem part_any (is : List InsD) (hl : is.length ≤ 600) (hI : ∀ r,r < is.length → I64 (ig is r).a) : ∀ f,PartOk is f
 | 0=>fun i e w0 w o g vC vO out hf=>absurd hf (Nat.not_lt_zero _)
 | f + 1=>part_step is hl hI f (part_any is hl hI f)
theorem unD_goodI {is : List InsD} (hg : ∀ r,r < is.length → GoodI (ig is r)) : ∀ (f i e : Nat) (L : List InsD),e ≤ is.length → unD is f i e = some L → ∀ x ∈ L,GoodI x
 | 0,_,_,_,_,h=>by cases h
 | f + 1,i,e,L,hel,h=>by
  by_cases hlt : i < e
  ·by_cases c1 : (ig is i).op = 103
   ·rw [unD_enter hlt c1] at h
    exact unD_goodI hg f _ _ _ hel h
   ·by_cases c2 : (ig is i).op = 104
    ·rw [unD_leave hlt c2] at h
     obtain ⟨r,hr,rfl⟩:=Option.map_eq_some_iff.1 h
     have ih:=unD_goodI hg f _ _ _ hel hr
     intro x hx
     rcases List.mem_cons.1 hx with rfl | hx
     ·exact good_ji (good_o _ _)
     ·exact ih x hx
    ·by_cases c3 : (ig is i).op = 102
     ·by_cases hp : ifP is i e (ig is i).a
      ·rw [unD_if hlt c3 hp] at h
       obtain ⟨p1,p2,p3,p4,p5⟩:=hp
       cases hb : unD is f (i + 1) ((ig is i).a.toNat - 1) with
       | none=>rw [hb] at h;cases h
       | some b =>
        cases hd : unD is f (ig is i).a.toNat (ig is ((ig is i).a.toNat - 1)).a.toNat with
        | none=>rw [hb,hd] at h;cases h
        | some d =>
         rw [hb,hd] at h
         obtain ⟨r,hr,rfl⟩:=Option.map_eq_some_iff.1 h
         have h1:=unD_goodI hg f _ _ _ (by omega) hb
         have h2:=unD_goodI hg f _ _ _ (by omega) hd
         have h3:=unD_goodI hg f _ _ _ hel hr
         intro x hx
         simp only [List.mem_append,List.mem_singleton] at hx
         rcases hx with ((hx | hx) | rfl) | hx
         ·exact h1 x hx
         ·exact h2 x hx
         ·exact good_ji (good_o _ _)
         ·exact h3 x hx
      ·rw [unD_ifno hlt c3 hp] at h;cases h
     ·cases hn : nodeB (ig is i) with
      | true =>
       rw [unD_node hlt c1 c2 c3 hn] at h
       obtain ⟨r,hr,rfl⟩:=Option.map_eq_some_iff.1 h
       have ih:=unD_goodI hg f _ _ _ hel hr
       intro x hx
       rcases List.mem_cons.1 hx with rfl | hx
       ·exact hg i (by omega)
       ·exact ih x hx
      | false=>rw [unD_no hlt c1 c2 c3 hn] at h;cases h
  ·rw [unD_end (by omega)] at h
   injection h with h
   rw [← h]
   exact fun x hx=>by cases hx
def BkPost (R : List InsD × Int) (w : World) (e : Ending) (w' : World) : Prop:=∃ r o,e = .returned (.tuple #[r,.int .i64 R.2]) ∧ Turn (fun l=>l ≠ 0) w (fun _=>0) w' o ∧ Ro w' o 2 45 8 r R.1.length (ics R.1)
set_option maxRecDepth 100000 in
set_option maxHeartbeats 3000000 in
theorem back_any (is : List InsD) (v : Value) (b : Bool) (w : World) (hT : Tabs w) (h : Cod w v is) (hg : ∀ r,r < is.length → GoodI (ig is r)) (hI : ∀ r,r < is.length → I64 (ig is r).a) : Calls Tryd.prog 16 #[v,.bool b] w (BkPost (unbD is b) w):=by
 unfold BkPost
 by_cases hl : 600 < is.length
 ·have hD : unbD is b = ([],6):=by unfold unbD;rw [if_pos hl]
  rw [hD]
  obtain ⟨A,C,rfl,-,-⟩:=h
  have hl2 : (600 : Int) < (is.length : Int):=by omega
  clear hD
  go_enter Tryd.func16,Tryd.ntmps16
  go_wp2_with fail
  refine bodyPost_ret (by simp [results,Tryd.results16,go_sem, *];try rfl) rfl ?_
  exact ⟨.slice none 0 0,fun _=>0,rfl,Turn.refl _ _ _,Ro.nil _ _ _ _ _⟩
 ·have hl2 : (is.length : Int) ≤ 600:=by omega
  have hD : unbD is b = match unD is (is.length + 1) 0 is.length with
   | none=>([],2)
   | some L=>if chkP L b = 0 ∧ sameB (compD L) is = true then (L,0) else ([],2):=by
   unfold unbD
   rw [if_neg hl]
   rfl
  have HC:=Lib.hid h
  have HT:=Lib.hid hT
  obtain ⟨A,C,rfl,-,-⟩:=h
  obtain ⟨w1,hw1⟩ : ∃ x,x = w.alloc (.cells #[.slice A is.length C,.slice none 0 0] 71):=⟨_,rfl⟩
  have hM : Bkm w (relabel (fun _=>0) w.heap.size 1) w1 w.heap.size (.slice A is.length C) (.slice none 0 0) []:=by
   rw [hw1]
   exact ⟨Lb.new (w:=w) (fun _=>0) 1 71 [.slice A is.length C,.slice none 0 0] (Nat.le_refl _),Ro.nil _ _ _ _ _,((Turn.refl _ _ _).alloc _).relabel (Nat.le_refl _) 1⟩
  have HU:=Lib.hid (show Calls Tryd.prog 28 #[.pointer (some ⟨w.heap.size,0,none⟩),.int .i64 0,.int .i64 (is.length : Int)] w1 _ from part_any is (by omega) hI (is.length + 1) 0 is.length w w1 _ w.heap.size _ _ [] (by omega) (Nat.zero_le _) (Nat.le_refl _) (by show 0 + _ ≤ _;omega) HC.out hM)
  unfold PartPost at HU
  rw [hw1] at HU
  clear hM hw1
  cases hX : unD is (is.length + 1) 0 is.length with
  | none =>
   rw [hX] at hD HU
   dsimp only at hD
   rw [hD]
   clear hD hX hl
   go_enter Tryd.func16,Tryd.ntmps16
   go_wp2_with (go_at_call 28;(with_reducible refine HU.out.mono ?_);rintro _ w2 ⟨vO,L,o2,rfl,hm2,ht2,hl9,hy2⟩)
   refine bodyPost_ret (by simp [results,Tryd.results16,go_sem, *];try rfl) rfl ?_
   exact ⟨.slice none 0 0,o2,rfl,hm2.turn,Ro.nil _ _ _ _ _⟩
  | some L =>
   rw [hX] at hD HU
   dsimp only at hD
   have hgL:=unD_goodI hg _ _ _ _ (Nat.le_refl _) hX
   have HCK:=Lib.hid (fun (W : World) (r : Value) (hr : Cod W r L) (hW : Below w.heap.size w W)=>compile_any L r b W hr (fun k hk=>hgL _ (ig_mem hk)) (tabs_below HT.out hW))
   unfold CmpPost at HCK
   by_cases h0 : chkP L b = 0
   ·have hcd : cmpD L b = compD L:=if_pos h0
    have HSM:=Lib.hid (fun (W : World) (r1 : Value) (hr : Cod W r1 (compD L)) (hW : Below w.heap.size w W)=>equal_ins (compD L) is r1 _ W hr (HC.out.below hW))
    rw [h0,hcd] at HCK
    cases hs : sameB (compD L) is with
    | true =>
     rw [if_pos ⟨h0,hs⟩] at hD
     rw [hs] at HSM
     rw [hD]
     clear hD hX hl h0 hs hgL hcd
     go_enter Tryd.func16,Tryd.ntmps16
     go_upto_region 6 with (go_at_call 28;(with_reducible refine HU.out.mono ?_);rintro _ w2 ⟨vO,L2,o2,rfl,hm2,ht2,hl9,hy2⟩;have e9 : L2 = L:=hy2 L rfl;clear hy2;subst e9)
     have hcw:=hm2.row.cod rfl
     have hbw:=hm2.below
     have HCC:=Lib.hid (HCK.out w2 _ hcw hbw)
     have HBW:=Lib.hid hbw
     have HM2:=Lib.hid hm2
     have c1w:=hm2.lb.1.cell 1 rfl
     have lgw:=hm2.lb.1.lt
     obtain ⟨AO,CO,rfl,-⟩:=hm2.row.sl.is
     clear hm2 hcw hbw ht2 hl9
     go_wp2_with (first | (go_at_call 11;(with_reducible refine HCC.out.mono ?_);rintro _ w3 ⟨r3,o3,rfl,ht3,hr3⟩;have hb3:=ht3.below (B:=w2.heap.size) (fun _ _=>by simp) (Nat.le_refl _);have hc3:=hr3.cod rfl;have hbw3:=HBW.out.trans (hb3.mono HBW.out.size);have c13:=(hb3.cell (p:=⟨w.heap.size,1,none⟩) lgw).trans c1w;have lg3:=Nat.lt_of_lt_of_le lgw hb3.size) | (go_at_call 29;(with_reducible refine (HSM.out _ _ hc3 hbw3).mono ?_);rintro _ w4 ⟨rfl,hb4⟩;have c14:=(hb4.cell (p:=⟨w.heap.size,1,none⟩) lg3).trans c13;have lg4:=Nat.lt_of_lt_of_le lg3 hb4.size))
     refine bodyPost_ret (by simp [results,Tryd.results16,go_sem, *];try rfl) rfl ?_
     have hb24:=hb3.trans (hb4.mono hb3.size)
     exact ⟨_,_,rfl,bk_turn HM2.out.turn hb24,(HM2.out.kept hb24).row⟩
    | false =>
     rw [if_neg (fun hh=>by rw [hs] at hh;cases hh.2)] at hD
     rw [hs] at HSM
     rw [hD]
     clear hD hX hl h0 hs hgL hcd
     go_enter Tryd.func16,Tryd.ntmps16
     go_upto_region 6 with (go_at_call 28;(with_reducible refine HU.out.mono ?_);rintro _ w2 ⟨vO,L2,o2,rfl,hm2,ht2,hl9,hy2⟩;have e9 : L2 = L:=hy2 L rfl;clear hy2;subst e9)
     have hcw:=hm2.row.cod rfl
     have hbw:=hm2.below
     have HCC:=Lib.hid (HCK.out w2 _ hcw hbw)
     have HBW:=Lib.hid hbw
     have HM2:=Lib.hid hm2
     have c1w:=hm2.lb.1.cell 1 rfl
     have lgw:=hm2.lb.1.lt
     obtain ⟨AO,CO,rfl,-⟩:=hm2.row.sl.is
     clear hm2 hcw hbw ht2 hl9
     go_wp2_with (first | (go_at_call 11;(with_reducible refine HCC.out.mono ?_);rintro _ w3 ⟨r3,o3,rfl,ht3,hr3⟩;have hb3:=ht3.below (B:=w2.heap.size) (fun _ _=>by simp) (Nat.le_refl _);have hc3:=hr3.cod rfl;have hbw3:=HBW.out.trans (hb3.mono HBW.out.size)) | (go_at_call 29;(with_reducible refine (HSM.out _ _ hc3 hbw3).mono ?_);rintro _ w4 ⟨rfl,hb4⟩))
     refine bodyPost_ret (by simp [results,Tryd.results16,go_sem, *];try rfl) rfl ?_
     have hb24:=hb3.trans (hb4.mono hb3.size)
     exact ⟨.slice none 0 0,_,rfl,bk_turn HM2.out.turn hb24,Ro.nil _ _ _ _ _⟩
   ·rw [if_neg (fun hh=>h0 hh.1)] at hD
    rw [hD]
    obtain ⟨z,hz⟩ : ∃ z,z = chkP L b:=⟨_,rfl⟩
    rw [← hz] at HCK h0
    have hne : (z != 0) = true:=by rw [bne_iff_ne];exact h0
    clear hD hX hl hz h0 hgL
    go_enter Tryd.func16,Tryd.ntmps16
    go_upto_region 6 with (go_at_call 28;(with_reducible refine HU.out.mono ?_);rintro _ w2 ⟨vO,L2,o2,rfl,hm2,ht2,hl9,hy2⟩;have e9 : L2 = L:=hy2 L rfl;clear hy2;subst e9)
    have hcw:=hm2.row.cod rfl
    have hbw:=hm2.below
    have HCC:=Lib.hid (HCK.out w2 _ hcw hbw)
    have HBW:=Lib.hid hbw
    have HM2:=Lib.hid hm2
    have c1w:=hm2.lb.1.cell 1 rfl
    have lgw:=hm2.lb.1.lt
    obtain ⟨AO,CO,rfl,-⟩:=hm2.row.sl.is
    clear hm2 hcw hbw ht2 hl9
    go_wp2_with (go_at_call 11;(with_reducible refine HCC.out.mono ?_);rintro _ w3 ⟨r3,o3,rfl,ht3,hr3⟩;have hb3:=ht3.below (B:=w2.heap.size) (fun _ _=>by simp) (Nat.le_refl _))
    refine bodyPost_ret (by simp [results,Tryd.results16,go_sem, *];try rfl) rfl ?_
    exact ⟨.slice none 0 0,_,rfl,bk_turn HM2.out.turn hb3,Ro.nil _ _ _ _ _⟩
end Go.Proofs.YtnhmplfonkjfoaaDoor



namespace Go.Proofs.YtnhmplfonkjfoaaDoor
open Go.RowKit

set_option maxRecDepth 100000 in
set_option maxHeartbeats 1500000 in
theorem walk_sounds (HVer : ∀ (c : List InsD) (u : Value) (b : Bool) (W : World),Cod W u c → Calls Tryd.prog 14 #[u,.bool b] W (VerPost c b W)) (is : List InsD) (v : Value) (b : Bool) (w : World) (hT : Tabs w) (h : Cod w v is) (hg : ∀ r,r < is.length → GoodI (ig is r)) (hI : ∀ r,r < is.length → I64 (ig is r).a) : Calls Tryd.prog 7 #[v,.bool b] w fun e w'=>e = .returned (.bool true) ∧ Below w.heap.size w w':=by
 have HK:=Lib.hid (known14_any w hT)
 have HV:=Lib.hid (fun (W : World) (hW : Below w.heap.size w W)=>HVer is v b W (h.below hW))
 have HB:=Lib.hid (fun (W : World) (hW : Below w.heap.size w W)=>back_any is v b W (tabs_below hT hW) (h.below hW) hg hI)
 unfold VerPost at HV
 unfold BkPost at HB
 have HN:=Lib.hid h
 have hbv:=back_ver (c:=is) (b:=b)
 obtain ⟨⟨L,f⟩,hR⟩ : ∃ R,R = unbD is b:=⟨_,rfl⟩
 obtain ⟨⟨z,e⟩,hS⟩ : ∃ R,R = verS (pairs is) (fB b):=⟨_,rfl⟩
 rw [← hR] at HB hbv
 rw [← hS] at HV hbv
 dsimp only at HV HB hbv
 by_cases he : e = 0
 ·subst he
  clear hbv
  by_cases hl : is.length ≤ 598
  ·obtain ⟨p1,p2⟩:=ver_put hS.symm hl (by cases b <;> decide)
   obtain ⟨y,hy⟩ : ∃ y,y = (verS (pairs (is ++ [insO 1 0])) (fB b)).1:=⟨_,rfl⟩
   have HVA:=Lib.hid (fun (W : World) (u : Value) (hu : Cod W u (is ++ [insO 8 0]))=>HVer _ u b W hu)
   have HVB:=Lib.hid (fun (W : World) (u : Value) (hu : Cod W u (is ++ [insO 1 0]))=>HVer _ u b W hu)
   unfold VerPost at HVA HVB
   rw [p1] at HVA
   rw [p2,← hy] at HVB
   obtain ⟨A,C,rfl,-,-⟩:=h
   have hlI : (is.length : Int) ≤ 598:=by omega
   clear hR hS hy p1 p2 hT hg hI
   by_cases hf : f = 0
   ·have q1 : (f == (0 : Int)) = true:=by rw [hf];rfl
    go_enter Tryd.func7,Tryd.ntmps7
    go_upto_region 9 with (first | ((go_at_call 9;with_reducible refine (HK.out).mono ?_);rintro _ w1 ⟨rfl,hb1⟩;have hb1s:=hb1.size;(try simp only [wsA,wsS,wsD,wsN] at hb1s);obtain ⟨hb1c,hb1f⟩:=bcell hb1;(try have : w.heap.size < w1.heap.size:=by omega);(try have : w.heap.size + 1 < w1.heap.size:=by omega);(try have : w.heap.size + 1 + 1 < w1.heap.size:=by omega);(try have : w.heap.size + 1 + 1 + 1 < w1.heap.size:=by omega)) | (go_at_call 14;(with_reducible refine (HV.out _ (by (repeat' first|(with_reducible first|exact blR _ _|assumption|refine blD ?_|refine blN ?_ _)|((with_reducible first|refine blA ?_ ?_ _|refine blS ?_ ?_ _|refine blT (by assumption) ?_ ?_);focus (go_size;done))))).mono ?_);rintro _ w2 ⟨rfl,hb2⟩;have hbw2:=hb1.trans (hb2.mono hb1.size)) | (go_at_call 16;(with_reducible refine (HB.out _ hbw2).mono ?_);rintro _ w3 ⟨r3,o3,rfl,ht3,hr3⟩))
    have hb3 : Below w2.heap.size w2 w3:=ht3.below (fun _ _=>by simp) (Nat.le_refl _)
    have hbw3:=hbw2.trans (hb3.mono hbw2.size)
    have HN3:=Lib.hid (HN.out.below hbw3)
    clear hb3 hbw2 hb2 hb1 ht3 hr3
    go_upto_region 10 with (first | (at_builtin;refine wpList_copyM rfl _ _ 24 43 8 72 (.agg #[.int .i64 0,.int .i64 0,.string ⟨#[]⟩,.bool false,.int .u64 0,.int .u64 0,.int .i64 0,.int .i64 0]) rfl Tryd.underlying24 info_ins rfl (by decide) rfl A is.length C (ics is) rfl (by rw [ics_length]) (cod_news HN3.out rfl) (ics_cells _) (by omega) (by unfold maxLen;omega) ?_;intro A4 C4 w4 hr4 hb4;have HR4:=Lib.hid hr4;have HB4:=Lib.hid hb4;clear hr4 hb4) | (at_builtin;refine wpList_pushR rfl _ _ 24 43 8 72 (.agg #[.int .i64 0,.int .i64 0,.string ⟨#[]⟩,.bool false,.int .u64 0,.int .u64 0,.int .i64 0,.int .i64 0]) rfl Tryd.underlying24 info_ins rfl (by decide) (ob w3.heap.size) 1 (.slice A4 is.length C4) is.length (ics is) rfl (HR4.out.alloc _) ⟨w4.heap.size,0,none⟩ 1 1 (insO 8 0).cs rfl rfl (news_o _ _ _ _) (cs_cells _) (by decide) (by omega) (by unfold maxLen;omega) ?_;intro g5 cap5 w5 hr5 ht5 hlt5;rw [ob_re (by rw [World.size_alloc];exact Nat.le_succ_of_le HB4.out.size)] at hr5 ht5;rw [← ics_one,← ics_append] at hr5;have HR5 : Hid (Cod w5 (.slice (some ⟨g5,0,none⟩) (is.length + 1) cap5) (is ++ [insO 8 0])):=Lib.hid (hr5.cod (by rw [List.length_append];rfl));have HB5:=Lib.hid (ob_below ht5 (HB4.out.alloc HB4.out.size _));clear hr5 ht5 HR4 HB4))
    have HN5:=Lib.hid (HN3.out.below HB5.out)
    have hbw5:=hbw3.trans (HB5.out.mono hbw3.size)
    clear HB5 HN3 hbw3
    go_upto_region 13 with (go_at_call 14;(with_reducible refine (HVA.out _ _ HR5.out).mono ?_);rintro _ w6 ⟨rfl,hb6⟩)
    have HN6:=Lib.hid (HN5.out.below hb6)
    have hbw6:=hbw5.trans (hb6.mono hbw5.size)
    clear hb6 HN5 hbw5 HR5
    go_wp2_with (first | (at_builtin;refine wpList_copyM rfl _ _ 24 43 8 72 (.agg #[.int .i64 0,.int .i64 0,.string ⟨#[]⟩,.bool false,.int .u64 0,.int .u64 0,.int .i64 0,.int .i64 0]) rfl Tryd.underlying24 info_ins rfl (by decide) rfl A is.length C (ics is) rfl (by rw [ics_length]) (cod_news HN6.out rfl) (ics_cells _) (by omega) (by unfold maxLen;omega) ?_;intro A8 C8 w8 hr8 hb8;have HR8:=Lib.hid hr8;have HB8:=Lib.hid hb8;clear hr8 hb8) | (at_builtin;refine wpList_pushR rfl _ _ 24 43 8 72 (.agg #[.int .i64 0,.int .i64 0,.string ⟨#[]⟩,.bool false,.int .u64 0,.int .u64 0,.int .i64 0,.int .i64 0]) rfl Tryd.underlying24 info_ins rfl (by decide) (ob w6.heap.size) 1 (.slice A8 is.length C8) is.length (ics is) rfl (HR8.out.alloc _) ⟨w8.heap.size,0,none⟩ 1 1 (insO 1 0).cs rfl rfl (news_o _ _ _ _) (cs_cells _) (by decide) (by omega) (by unfold maxLen;omega) ?_;intro g7 cap7 w7 hr7 ht7 hlt7;rw [ob_re (by rw [World.size_alloc];exact Nat.le_succ_of_le HB8.out.size)] at hr7 ht7;rw [← ics_one,← ics_append] at hr7;have HR7 : Hid (Cod w7 (.slice (some ⟨g7,0,none⟩) (is.length + 1) cap7) (is ++ [insO 1 0])):=Lib.hid (hr7.cod (by rw [List.length_append];rfl));have HB7:=Lib.hid (ob_below ht7 (HB8.out.alloc HB8.out.size _));clear hr7 ht7 HR8 HB8) | (go_at_call 14;(with_reducible refine (HVB.out _ _ HR7.out).mono ?_);rintro _ w9 ⟨rfl,hb9⟩))
    go_ret
    exact ⟨rfl,hbw6.trans ((HB7.out.trans (hb9.mono HB7.out.size)).mono hbw6.size)⟩
   ·have q1 : (f == (0 : Int)) = false:=by rw [beq_eq_false_iff_ne];exact hf
    go_enter Tryd.func7,Tryd.ntmps7
    go_upto_region 9 with (first | ((go_at_call 9;with_reducible refine (HK.out).mono ?_);rintro _ w1 ⟨rfl,hb1⟩;have hb1s:=hb1.size;(try simp only [wsA,wsS,wsD,wsN] at hb1s);obtain ⟨hb1c,hb1f⟩:=bcell hb1;(try have : w.heap.size < w1.heap.size:=by omega);(try have : w.heap.size + 1 < w1.heap.size:=by omega);(try have : w.heap.size + 1 + 1 < w1.heap.size:=by omega);(try have : w.heap.size + 1 + 1 + 1 < w1.heap.size:=by omega)) | (go_at_call 14;(with_reducible refine (HV.out _ (by (repeat' first|(with_reducible first|exact blR _ _|assumption|refine blD ?_|refine blN ?_ _)|((with_reducible first|refine blA ?_ ?_ _|refine blS ?_ ?_ _|refine blT (by assumption) ?_ ?_);focus (go_size;done))))).mono ?_);rintro _ w2 ⟨rfl,hb2⟩;have hbw2:=hb1.trans (hb2.mono hb1.size)) | (go_at_call 16;(with_reducible refine (HB.out _ hbw2).mono ?_);rintro _ w3 ⟨r3,o3,rfl,ht3,hr3⟩))
    have hb3 : Below w2.heap.size w2 w3:=ht3.below (fun _ _=>by simp) (Nat.le_refl _)
    have hbw3:=hbw2.trans (hb3.mono hbw2.size)
    have HN3:=Lib.hid (HN.out.below hbw3)
    clear hb3 hbw2 hb2 hb1 ht3 hr3
    go_upto_region 10 with (first | (at_builtin;refine wpList_copyM rfl _ _ 24 43 8 72 (.agg #[.int .i64 0,.int .i64 0,.string ⟨#[]⟩,.bool false,.int .u64 0,.int .u64 0,.int .i64 0,.int .i64 0]) rfl Tryd.underlying24 info_ins rfl (by decide) rfl A is.length C (ics is) rfl (by rw [ics_length]) (cod_news HN3.out rfl) (ics_cells _) (by omega) (by unfold maxLen;omega) ?_;intro A4 C4 w4 hr4 hb4;have HR4:=Lib.hid hr4;have HB4:=Lib.hid hb4;clear hr4 hb4) | (at_builtin;refine wpList_pushR rfl _ _ 24 43 8 72 (.agg #[.int .i64 0,.int .i64 0,.string ⟨#[]⟩,.bool false,.int .u64 0,.int .u64 0,.int .i64 0,.int .i64 0]) rfl Tryd.underlying24 info_ins rfl (by decide) (ob w3.heap.size) 1 (.slice A4 is.length C4) is.length (ics is) rfl (HR4.out.alloc _) ⟨w4.heap.size,0,none⟩ 1 1 (insO 8 0).cs rfl rfl (news_o _ _ _ _) (cs_cells _) (by decide) (by omega) (by unfold maxLen;omega) ?_;intro g5 cap5 w5 hr5 ht5 hlt5;rw [ob_re (by rw [World.size_alloc];exact Nat.le_succ_of_le HB4.out.size)] at hr5 ht5;rw [← ics_one,← ics_append] at hr5;have HR5 : Hid (Cod w5 (.slice (some ⟨g5,0,none⟩) (is.length + 1) cap5) (is ++ [insO 8 0])):=Lib.hid (hr5.cod (by rw [List.length_append];rfl));have HB5:=Lib.hid (ob_below ht5 (HB4.out.alloc HB4.out.size _));clear hr5 ht5 HR4 HB4))
    have HN5:=Lib.hid (HN3.out.below HB5.out)
    have hbw5:=hbw3.trans (HB5.out.mono hbw3.size)
    clear HB5 HN3 hbw3
    go_upto_region 13 with (go_at_call 14;(with_reducible refine (HVA.out _ _ HR5.out).mono ?_);rintro _ w6 ⟨rfl,hb6⟩)
    have HN6:=Lib.hid (HN5.out.below hb6)
    have hbw6:=hbw5.trans (hb6.mono hbw5.size)
    clear hb6 HN5 hbw5 HR5
    go_wp2_with (first | (at_builtin;refine wpList_copyM rfl _ _ 24 43 8 72 (.agg #[.int .i64 0,.int .i64 0,.string ⟨#[]⟩,.bool false,.int .u64 0,.int .u64 0,.int .i64 0,.int .i64 0]) rfl Tryd.underlying24 info_ins rfl (by decide) rfl A is.length C (ics is) rfl (by rw [ics_length]) (cod_news HN6.out rfl) (ics_cells _) (by omega) (by unfold maxLen;omega) ?_;intro A8 C8 w8 hr8 hb8;have HR8:=Lib.hid hr8;have HB8:=Lib.hid hb8;clear hr8 hb8) | (at_builtin;refine wpList_pushR rfl _ _ 24 43 8 72 (.agg #[.int .i64 0,.int .i64 0,.string ⟨#[]⟩,.bool false,.int .u64 0,.int .u64 0,.int .i64 0,.int .i64 0]) rfl Tryd.underlying24 info_ins rfl (by decide) (ob w6.heap.size) 1 (.slice A8 is.length C8) is.length (ics is) rfl (HR8.out.alloc _) ⟨w8.heap.size,0,none⟩ 1 1 (insO 1 0).cs rfl rfl (news_o _ _ _ _) (cs_cells _) (by decide) (by omega) (by unfold maxLen;omega) ?_;intro g7 cap7 w7 hr7 ht7 hlt7;rw [ob_re (by rw [World.size_alloc];exact Nat.le_succ_of_le HB8.out.size)] at hr7 ht7;rw [← ics_one,← ics_append] at hr7;have HR7 : Hid (Cod w7 (.slice (some ⟨g7,0,none⟩) (is.length + 1) cap7) (is ++ [insO 1 0])):=Lib.hid (hr7.cod (by rw [List.length_append];rfl));have HB7:=Lib.hid (ob_below ht7 (HB8.out.alloc HB8.out.size _));clear hr7 ht7 HR8 HB8) | (go_at_call 14;(with_reducible refine (HVB.out _ _ HR7.out).mono ?_);rintro _ w9 ⟨rfl,hb9⟩))
    go_ret
    exact ⟨rfl,hbw6.trans ((HB7.out.trans (hb9.mono HB7.out.size)).mono hbw6.size)⟩
  ·obtain ⟨A,C,rfl,-,-⟩:=h
   have hlI : (598 : Int) < (is.length : Int):=by omega
   clear hR hS hT hg hI
   go_enter Tryd.func7,Tryd.ntmps7
   go_wp2_with (first | ((go_at_call 9;with_reducible refine (HK.out).mono ?_);rintro _ w1 ⟨rfl,hb1⟩;have hb1s:=hb1.size;(try simp only [wsA,wsS,wsD,wsN] at hb1s);obtain ⟨hb1c,hb1f⟩:=bcell hb1;(try have : w.heap.size < w1.heap.size:=by omega);(try have : w.heap.size + 1 < w1.heap.size:=by omega);(try have : w.heap.size + 1 + 1 < w1.heap.size:=by omega);(try have : w.heap.size + 1 + 1 + 1 < w1.heap.size:=by omega)) | (go_at_call 14;(with_reducible refine (HV.out _ (by (repeat' first|(with_reducible first|exact blR _ _|assumption|refine blD ?_|refine blN ?_ _)|((with_reducible first|refine blA ?_ ?_ _|refine blS ?_ ?_ _|refine blT (by assumption) ?_ ?_);focus (go_size;done))))).mono ?_);rintro _ w2 ⟨rfl,hb2⟩;have hbw2:=hb1.trans (hb2.mono hb1.size)) | (go_at_call 16;(with_reducible refine (HB.out _ hbw2).mono ?_);rintro _ w3 ⟨r3,o3,rfl,ht3,hr3⟩;have hbw3:=hbw2.trans ((ht3.below (B:=w2.heap.size) (fun _ _=>by simp) (Nat.le_refl _)).mono hbw2.size)))
   all_goals go_ret
   all_goals exact ⟨rfl,hbw3⟩
 ·have hf : f ≠ 0:=fun hh=>he (hbv hh)
  have q1 : (f == (0 : Int)) = false:=by rw [beq_eq_false_iff_ne];exact hf
  have q2 : (e != (0 : Int)) = true:=by rw [bne_iff_ne];exact he
  obtain ⟨A,C,rfl,-,-⟩:=h
  clear hbv hR hS hT hg hI
  go_enter Tryd.func7,Tryd.ntmps7
  go_wp2_with (first | ((go_at_call 9;with_reducible refine (HK.out).mono ?_);rintro _ w1 ⟨rfl,hb1⟩;have hb1s:=hb1.size;(try simp only [wsA,wsS,wsD,wsN] at hb1s);obtain ⟨hb1c,hb1f⟩:=bcell hb1;(try have : w.heap.size < w1.heap.size:=by omega);(try have : w.heap.size + 1 < w1.heap.size:=by omega);(try have : w.heap.size + 1 + 1 < w1.heap.size:=by omega);(try have : w.heap.size + 1 + 1 + 1 < w1.heap.size:=by omega)) | (go_at_call 14;(with_reducible refine (HV.out _ (by (repeat' first|(with_reducible first|exact blR _ _|assumption|refine blD ?_|refine blN ?_ _)|((with_reducible first|refine blA ?_ ?_ _|refine blS ?_ ?_ _|refine blT (by assumption) ?_ ?_);focus (go_size;done))))).mono ?_);rintro _ w2 ⟨rfl,hb2⟩;have hbw2:=hb1.trans (hb2.mono hb1.size)) | (go_at_call 16;(with_reducible refine (HB.out _ hbw2).mono ?_);rintro _ w3 ⟨r3,o3,rfl,ht3,hr3⟩;have hbw3:=hbw2.trans ((ht3.below (B:=w2.heap.size) (fun _ _=>by simp) (Nat.le_refl _)).mono hbw2.size)))
  go_ret
  exact ⟨rfl,hbw3⟩
end Go.Proofs.YtnhmplfonkjfoaaDoor



namespace Go.Proofs.YtnhmplfonkjfoaaDoor
open Go.RowKit

theorem verify_any (is : List InsD) (v : Value) (b : Bool) (w : World) (h : Cod w v is) : Calls Tryd.prog 14 #[v,.bool b] w (VerPost is b w):=by
 by_cases hl : 600 < is.length
 ·exact verify_long is v b w h hl
 ·cases b with
  | true=>exact verify_in_true is v w h (by omega)
  | false=>exact verify_in_false is v w h (by omega)
end Go.Proofs.YtnhmplfonkjfoaaDoor



namespace Go.Proofs.YtnhmplfonkjfoaaDoor
open Go.RowKit
open Go.ChangeShapes Go.WideShapes Go.ChangeAt
open Go.ChangeMaps (open_string shut_string)

theorem own : ownKnob Tryd.prog.godebug = none:=by kernel_rfl
theorem laidOut : laidOutB Tryd.prog = true:=by kernel_rfl
theorem bulk_pos {H : Type} (d : DataW H) : 1 ≤ Rows.uptoBulk d:=by
 cases d with
 | lit l=>cases l <;> simp [Rows.uptoBulk]
 | _=>simp [Rows.uptoBulk]
theorem bulk_map {H : Type} (D : Nat → DataW H) : ∀ (n : Nat) (L : List Nat),L.length = n → Rows.uptoBulkAll (L.map D) = (L.map fun i=>Rows.uptoBulk (D i)).sum
 | 0,[],_=>rfl
 | n + 1,x :: r,h=>by
  rw [List.map_cons,List.map_cons,Rows.uptoBulkAll,List.sum_cons,bulk_map D n r (by simpa using h)]
theorem bulk_range {H : Type} (D : Nat → DataW H) (n : Nat) : Rows.uptoBulkAll ((List.range n).map D) = ((List.range n).map fun i=>Rows.uptoBulk (D i)).sum:=bulk_map D n _ (by simp)
theorem sum_range_succ (f : Nat → Nat) (n : Nat) : ((List.range (n + 1)).map f).sum = ((List.range n).map f).sum + f n:=by
 rw [List.range_succ,List.map_append,List.sum_append];simp
theorem sum_pos (f : Nat → Nat) (hf : ∀ i,1 ≤ f i) : ∀ n,n ≤ ((List.range n).map f).sum
 | 0=>Nat.zero_le _
 | n + 1=>by
  rw [sum_range_succ]
  have:=sum_pos f hf n
  have:=hf n
  omega
theorem ins_of {P : Nat → InsD → Prop} : ∀ n,(∀ i,i < n → ∃ d,P i d) → ∃ l : List InsD,l.length = n ∧ ∀ i,i < n → P i (ig l i)
 | 0,_=>⟨[],rfl,fun i hi=>absurd hi (Nat.not_lt_zero _)⟩
 | n + 1,h=>by
  obtain ⟨l,h1,h2⟩:=ins_of (P:=P) n (fun i hi=>h i (by omega))
  obtain ⟨d,h4⟩:=h n (by omega)
  refine ⟨l ++ [d],by rw [List.length_append,h1];rfl,fun i hi=>?_⟩
  unfold ig
  rcases Nat.lt_or_ge i n with h' | h'
  ·rw [List.getD_eq_getElem?_getD,List.getElem?_append_left (by omega)]
   have:=h2 i h'
   unfold ig at this
   rwa [List.getD_eq_getElem?_getD] at this
  ·obtain rfl : i = n:=by omega
   rw [List.getD_eq_getElem?_getD,List.getElem?_append_right (by omega),h1,Nat.sub_self]
   exact h4
section
variable {H : Type} {enc : TypeId × Value → H} {W : World} {b0 : Nat} {sp : Nat → Bool} {held : Bool}
theorem u64_wf {z : Int} (hz : (Lit.int .u64 z).wf = true) : U64 z:=by
 have e1 : IntKind.u64.min = 0:=rfl
 have e2 : IntKind.u64.max = 18446744073709551615:=rfl
 simp [Lit.wf,e1,e2] at hz
 unfold U64
 omega
set_option maxRecDepth 100000 in
theorem open_dec8 {fuel : Nat} {c0 c1 c2 c3 : Value} {x : DataW H × List MemPlace} (h : DataW.trod enc Tryd.prog W b0 sp held fuel 41 [c0,c1,c2,c3] = some x) :
  ∃ (b : Bool) (hi lo s : Int),U64 hi ∧ U64 lo ∧ c0 = .bool b ∧ c1 = .int .u64 hi ∧ c2 = .int .u64 lo ∧ c3 = .int .i64 s:=by
 obtain ⟨xs,n,_,hx,_,hlen,hg⟩:=DataW.trod_struct Tryd.underlying41 h
 have n0 : Tryd.prog.cellsOf 4 = 1:=by kernel_rfl
 have n1 : Tryd.prog.cellsOf 39 = 2:=by kernel_rfl
 have n2 : Tryd.prog.cellsOf 3 = 1:=by kernel_rfl
 have n3 : Tryd.prog.cellsOf 37 = 1:=by kernel_rfl
 have g0:=hg 0 _ rfl
 have g1:=hg 1 _ rfl
 have g2:=hg 2 _ rfl
 clear hg hx
 match xs,hlen with
 | [y0,y1,y2],_ =>
  simp only [List.getElem_toArray,List.getElem_cons_zero,List.getElem_cons_succ,n0,n1,n2] at g0 g1 g2
  simp at g0 g1 g2
  obtain ⟨b,e0,_⟩:=DataW.trod_bool Tryd.underlying4 g0
  obtain ⟨z2,e2,_,w2⟩:=DataW.trod_int Tryd.underlying3 g2
  obtain ⟨ys,n',_,_,_,hlen2,hg2⟩:=DataW.trod_struct Tryd.underlying39 g1
  have k0:=hg2 0 _ rfl
  have k1:=hg2 1 _ rfl
  match ys,hlen2 with
  | [q0,q1],_ =>
   simp only [List.getElem_toArray,List.getElem_cons_zero,List.getElem_cons_succ,n3] at k0 k1
   simp at k0 k1
   obtain ⟨z0,f0,_,v0⟩:=DataW.trod_int Tryd.underlying37 k0
   obtain ⟨z1,f1,_,v1⟩:=DataW.trod_int Tryd.underlying37 k1
   simp at e0 e2 f0 f1
   exact ⟨b,z0,z1,z2,u64_wf v0,u64_wf v1,e0,f0,f1,e2⟩
end
theorem first_is : Rows.laid_unicode_utf8_first = Lib.firstData:=by kernel_rfl
theorem accept_is : (Rows.laid_unicode_utf8_acceptRanges : DataW Unit) = Lib.acceptData:=by kernel_rfl
theorem tabs_laid {W : World} (hL : laidMet Tryd.prog [("unicode/utf8.acceptRanges", Rows.laid_unicode_utf8_acceptRanges), ("unicode/utf8.first", Rows.laid_unicode_utf8_first)] W) : Tabs W := by
 rw [first_is,accept_is] at hL
 exact utf8Tabs_of_readsT (U8Types.of196 Tryd.lays196) ⟨by kernel_rfl,by kernel_rfl,by kernel_rfl,by kernel_rfl,by kernel_rfl,by kernel_rfl,by kernel_rfl⟩ (Lib.laidMet.reads hL (.tail _ (.head _))) (Lib.laidMet.reads hL (.head _))
end Go.Proofs.YtnhmplfonkjfoaaDoor



namespace Go.Proofs.YtnhmplfonkjfoaaDoor
open Go.RowKit
open Go.ChangeShapes Go.WideShapes Go.ChangeAt
open Go.ChangeMaps (open_string shut_string)

section
variable {H : Type} {enc : TypeId × Value → H} {W : World} {b0 : Nat} {sp : Nat → Bool} {held : Bool}
theorem i64_wfK {z : Int} (hz : (Lit.int .i64 z).wf = true) : -9223372036854775808 ≤ z ∧ z < 9223372036854775808:=by
 have e1 : IntKind.i64.min = -9223372036854775808:=rfl
 have e2 : IntKind.i64.max = 9223372036854775807:=rfl
 simp [Lit.wf,e1,e2] at hz
 omega
set_option maxRecDepth 100000 in
theorem open_oneK {fuel : Nat} {cs : List Value} {x : DataW H × List MemPlace} (h : DataW.trod enc Tryd.prog W b0 sp held fuel 43 cs = some x) : ∃ i : InsD,cs = i.cs ∧ U64 i.hi ∧ U64 i.lo ∧ i.tx.data.toList.length ≤ 9223372036854775807 ∧ -9223372036854775808 ≤ i.a ∧ i.a < 9223372036854775808:=by
 obtain ⟨xs,n,_,hx,hcl,hlen,hg⟩:=DataW.trod_struct Tryd.underlying43 h
 have n0 : Tryd.prog.cellsOf 3 = 1:=by kernel_rfl
 have n2 : Tryd.prog.cellsOf 41 = 4:=by kernel_rfl
 have n3 : Tryd.prog.cellsOf 9 = 1:=by kernel_rfl
 have n6 : Tryd.prog.cellsOf 43 = 8:=by kernel_rfl
 rw [n6] at hcl
 have g0:=hg 0 _ rfl
 have g1:=hg 1 _ rfl
 have g2:=hg 2 _ rfl
 have g3:=hg 3 _ rfl
 have g4:=hg 4 _ rfl
 clear hg h
 match cs,hcl with
 | [c0,c1,c2,c3,c4,c5,c6,c7],_ =>
  match xs,hlen with
  | [y0,y1,y2,y3,y4],_ =>
   simp only [List.getElem_toArray,List.getElem_cons_zero,List.getElem_cons_succ,n0,n2,n3] at g0 g1 g2 g3 g4
   simp at g0 g1 g2 g3 g4
   obtain ⟨op,e0,r0,_⟩:=DataW.trod_int Tryd.underlying3 g0
   obtain ⟨a,e1,r1,wa⟩:=DataW.trod_int Tryd.underlying3 g1
   obtain ⟨text,e2,r2,wt⟩:=DataW.trod_string Tryd.underlying9 g2
   obtain ⟨ng,hi,lo,sc,uh,ul,e3,e4,e5,e6⟩:=open_dec8 g3
   obtain ⟨day,e7,r7,_⟩:=DataW.trod_int Tryd.underlying3 g4
   simp at e0 e1 e2 e7
   subst e0 e1 e2 e3 e4 e5 e6 e7
   subst hx
   refine ⟨⟨op,a,text,ng,hi,lo,sc,day⟩,rfl,uh,ul, ?_,i64_wfK wa⟩
   exact wt
set_option maxRecDepth 100000 in
theorem open_codK {base B : Nat} {v : Value} {d : DataW H} {p : List MemPlace} (hv : Value.okWide Tryd.prog W .any B 24 v) (h : DataW.Trod enc Tryd.prog W base sp held 24 v d p) :
  ∃ is,Cod W v is ∧ (∀ r,r < is.length → U64 (ig is r).hi ∧ U64 (ig is r).lo ∧ (ig is r).tx.data.toList.length ≤ 9223372036854775807 ∧ -9223372036854775808 ≤ (ig is r).a ∧ (ig is r).a < 9223372036854775808) ∧ is.length ≤ Rows.uptoBulk d:=by
 obtain ⟨a0,len,cap,rfl⟩:=okWide_slice Tryd.underlying24 hv
 obtain ⟨fuel,hf⟩:=h
 have n6 : Tryd.prog.cellsOf 43 = 8:=by kernel_rfl
 rcases Deep.open_slice Tryd.underlying24 hf with ⟨hc,_⟩ | ⟨a,len',cap',m,n',D,Pl,hc,_,hl,hm,hmm,hx,hxs⟩
 ·simp [Value.cells] at hc
  obtain ⟨rfl,rfl,rfl⟩:=hc
  exact ⟨[],⟨none,0,rfl,Nat.zero_le _,fun r hr=>absurd hr (Nat.not_lt_zero _)⟩,fun r hr=>absurd hr (Nat.not_lt_zero _),Nat.zero_le _⟩
 ·simp [Value.cells] at hc
  obtain ⟨rfl,rfl,rfl⟩:=hc
  rw [n6] at hxs
  have hle : len ≤ m:=by rw [hmm];split <;> omega
  have hd : d = .slice ((List.range len).map D) ((List.range (m - len)).map fun j=>D (len + j)):=congrArg Prod.fst hx
  have hbd : ((List.range len).map fun i=>Rows.uptoBulk (D i)).sum + 1 ≤ Rows.uptoBulk d:=by
   rw [hd]
   simp only [Rows.uptoBulk]
   rw [bulk_range]
   omega
  obtain ⟨b,o,spot⟩:=a
  obtain ⟨l,h1,h2⟩:=ins_of (P:=fun i x=>spot = none ∧ At W b (o + i * 8) x.cs ∧ U64 x.hi ∧ U64 x.lo ∧ x.tx.data.toList.length ≤ 9223372036854775807 ∧ -9223372036854775808 ≤ x.a ∧ x.a < 9223372036854775808) len (fun i hi=>by
   obtain ⟨cs',q1,q2⟩:=hxs i (by omega)
   obtain ⟨x,e,u1,u2,u3,u4⟩:=open_oneK q2
   obtain ⟨_,hl10,hat⟩:=World.cells?_some q1
   have hspot : spot = none:=by
    obtain ⟨cs0,p1,_⟩:=hxs 0 (by omega)
    obtain ⟨_,hl0,hat0⟩:=World.cells?_some p1
    have h0:=hat0 0 (by omega)
    rw [List.getElem?_eq_getElem (by omega)] at h0
    simpa [Addr.add] using World.cell?_spot h0
   subst hspot
   refine ⟨x,rfl,fun j hj=>?_,u1,u2,u3,u4⟩
   rw [← e] at hj ⊢
   rw [← hat j (by omega)]
   congr 1
   rw [show ((⟨b,o,none⟩ : Addr).add (i * 8)) = ⟨b,o + i * 8,none⟩ from add_plain ..,show ((⟨b,o + i * 8,none⟩ : Addr).add j) = ⟨b,o + i * 8 + j,none⟩ from add_plain ..])
  refine ⟨l,⟨some ⟨b,o,spot⟩,cap,by rw [h1],by rw [h1];omega,fun r hr=>?_⟩,fun r hr=>?_, ?_⟩
  ·obtain ⟨q0,q1,_⟩:=h2 r (by omega)
   subst q0
   exact ⟨b,o,rfl,q1⟩
  ·obtain ⟨_,_,q1,q2,q3,q4⟩:=h2 r (by omega)
   exact ⟨q1,q2,q3,q4⟩
  ·have:=sum_pos (fun i=>Rows.uptoBulk (D i)) (fun i=>bulk_pos _) len
   omega
end
end Go.Proofs.YtnhmplfonkjfoaaDoor

