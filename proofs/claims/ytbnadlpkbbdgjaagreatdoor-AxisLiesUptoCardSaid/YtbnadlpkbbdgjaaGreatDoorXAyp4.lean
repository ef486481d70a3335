/- What this law reaches beyond the common contracts, part 4. -/
import Derived.Test.YtbnadlpkbbdgjaaGreatDoorM17
import Derived.Test.YtbnadlpkbbdgjaaGreatDoorXAyp3
set_option linter.unusedSimpArgs false
set_option linter.unusedVariables false


namespace Go.Proofs.YtbnadlpkbbdgjaaGreatDoor
open Go.RowKit

@[reducible] def tvC (b : Bool) : List Value:=[.int .i64 1,.bool b,.bool false,.int .u64 0,.int .u64 0,.int .i64 0,.string ⟨#[]⟩,.int .i64 0,.slice none 0 0,.slice none 0 0]
theorem tv_box {w : World} {g : Nat} {t : TypeId} {b : Bool} (h : Bk w g t (tvC b)) : (w.cell? ⟨g,0,none⟩ = some (.int .i64 1) ∧ w.cell? ⟨g,1,none⟩ = some (.bool b) ∧ w.cell? ⟨g,2,none⟩ = some (.bool false) ∧ w.cell? ⟨g,3,none⟩ = some (.int .u64 0) ∧ w.cell? ⟨g,4,none⟩ = some (.int .u64 0) ∧ w.cell? ⟨g,5,none⟩ = some (.int .i64 0) ∧ w.cell? ⟨g,6,none⟩ = some (.string ⟨#[]⟩) ∧ w.cell? ⟨g,7,none⟩ = some (.int .i64 0) ∧ w.cell? ⟨g,8,none⟩ = some (.slice none 0 0) ∧ w.cell? ⟨g,9,none⟩ = some (.slice none 0 0)) :=
 ⟨h.cell 0 rfl,h.cell 1 rfl,h.cell 2 rfl,h.cell 3 rfl,h.cell 4 rfl,h.cell 5 rfl,h.cell 6 rfl,h.cell 7 rfl,h.cell 8 rfl,h.cell 9 rfl⟩
set_option maxRecDepth 100000 in
set_option maxHeartbeats 8000000 in
theorem walk_lies (k : Int) (A : Option Addr) (C : Nat) (ds : List VD) (vd : VD) (A2 : Option Addr) (C2 : Nat) (A3 : Option Addr) (C3 : Nat) (w : World) (hT : Tabs w) (h : Vls (RV w) w (.slice A ds.length C) ds) (hv : VA w vd A2 C2 A3 C3) :
  Calls Tryz.prog 4 #[.int .i64 k,.slice A ds.length C,vargs vd A2 C2 A3 C3] w fun e w'=>e = .returned (.bool true) ∧ Below w.heap.size w w':=by
 have HKN:=Lib.hid (fun W (hW : Below w.heap.size w W)=>known22_any W (tabs_below hT hW))
 have HCU:=Lib.hid (fun W (hW : Below w.heap.size w W)=>Cut_any k A C ds W (tabs_below hT hW) (h.kept hW))
 have HFI:=Lib.hid (fun W (hW : Below w.heap.size w W)=>Find_any k A C ds vd A2 C2 A3 C3 W (tabs_below hT hW) (h.kept hW) (hv.below hW))
 have HT:=Lib.hid hT
 unfold CutsPost at HCU
 unfold FindPost at HFI
 have HV:=Lib.hid hv
 have HVL:=Lib.hid h
 have hsub:=chk_sub (k:=k) (n:=ds.length) (ds:=ds) (vd:=vd)
 obtain ⟨e,he⟩ : ∃ e,e = chkE k ds.length ds:=⟨_,rfl⟩
 obtain ⟨f,hf⟩ : ∃ f,f = chkE k ds.length (ds ++ [vd]):=⟨_,rfl⟩
 rw [← he] at HCU
 rw [← hf] at HFI
 rw [← he,← hf] at hsub
 have HE:=Lib.hid he
 have HF:=Lib.hid hf
 have HSUB:=Lib.hid hsub
 obtain ⟨s,l,nm⟩:=vd
 unfold vargs vagg at HFI ⊢
 dsimp only [VD.s,VD.list,VD.names] at HFI ⊢
 have hbk : Bk (w.alloc (vobj s (.slice A2 l.length C2) (.slice A3 nm.length C3))) w.heap.size 30 (s.cs ++ [.slice A2 l.length C2,.slice A3 nm.length C3]):=by
  unfold vobj
  exact Bk.new w 30 (s.cs ++ [.slice A2 l.length C2,.slice A3 nm.length C3])
 have hb1 : Below w.heap.size w (w.alloc (vobj s (.slice A2 l.length C2) (.slice A3 nm.length C3))):=(Below.refl _ _).alloc (Nat.le_refl _) _
 unfold vobj at hbk hb1
 obtain ⟨n1,hn1⟩ : ∃ n,n = l.length:=⟨_,rfl⟩
 obtain ⟨n2,hn2⟩ : ∃ n,n = nm.length:=⟨_,rfl⟩
 obtain ⟨n,hn⟩ : ∃ n,n = ds.length:=⟨_,rfl⟩
 rw [← hn1] at hbk hb1 HFI ⊢
 rw [← hn2] at hbk hb1 HFI ⊢
 rw [← hn] at HCU HFI ⊢
 have HBK:=Lib.hid hbk
 have HB1:=Lib.hid hb1
 have HN1:=Lib.hid hn1
 have HN2:=Lib.hid hn2
 have HN:=Lib.hid hn
 clear he hf h hv hT hbk hb1 hn1 hn2 hn hsub
 go_enter Tryz.func4,Tryz.ntmps4
 go_upto_region 4 with (first | (go_at_call 5;(with_reducible refine (HKN.out _ HB1.out).mono ?_);rintro _ w2 ⟨rfl,hb2⟩;have HB2:=Lib.hid (HB1.out.trans (hb2.mono HB1.out.size));have HK2:=Lib.hid (HBK.out.below hb2 HBK.out.lt);clear hb2) | (go_at_call 7;(with_reducible refine (HCU.out _ HB2.out).mono ?_);rintro _ w4 ⟨r4,gs,rfl,hgl,hwf,hro,hseg,hnil,hb4⟩;have HGL:=Lib.hid hgl;have HWF:=Lib.hid hwf;have HRO:=Lib.hid (fun W (hW : Below w4.heap.size w4 W)=>(ro_sgs hro rfl hgl).below hW);have HSG:=Lib.hid hseg;have HNI:=Lib.hid hnil;have HB4:=Lib.hid (HB2.out.trans (hb4.mono HB2.out.size));have HK4:=Lib.hid (HK2.out.below hb4 HK2.out.lt);obtain ⟨AR,CR,rfl,-⟩:=hro.sl.is;clear hgl hwf hro hseg hnil hb4))
 have hl4 : w.heap.size < w4.heap.size:=HK4.out.lt
 obtain ⟨⟨z0,z1,z2,z3,z4,z5,z6,z7,z8,z9⟩,-⟩:=val_box HK4.out
 go_upto_region 5 with (go_at_call 9;(with_reducible refine (HFI.out _ HB4.out).mono ?_);rintro _ w5 ⟨a,rfl,hfa,hna,hb5⟩)
 have HFA:=Lib.hid hfa
 have HNA:=Lib.hid hna
 have HBB5:=Lib.hid hb5
 have HB5:=Lib.hid (HB4.out.trans (hb5.mono HB4.out.size))
 have HK5:=Lib.hid (HK4.out.below hb5 HK4.out.lt)
 clear hfa hna hb5 z0 z1 z2 z3 z4 z5 z6 z7 z8 z9 hl4 HKN HCU HFI HK2 HK5 HBK
 by_cases e0 : e = 0
 ·obtain ⟨ps,E⟩:=ends_of HT.out HVL.out (HE.out.symm.trans e0)
  have HEE:=Lib.hid E
  have hS:=HSG.out e0
  have hsc:=segs_sc E.kind E.sM E.lM hS
  have HS:=Lib.hid hS
  have HSC : Hid (∀ g ∈ gs,Sc k g.p.s):=Lib.hid (fun g hg=>hsc.1 g.v (List.mem_map.2 ⟨g,hg,rfl⟩))
  have hlm : (gs.map Sg.v).length = gs.length:=List.length_map ..
  have hpos : 0 < gs.length:=by have:=hsc.2;rwa [hlm] at this
  have HLM:=Lib.hid hlm
  have hgl:=HGL.out
  have HAL : Hid (f = 0 → a < gs.length):=Lib.hid (fun hh=>by
   obtain ⟨S',s1,f1⟩:=HFA.out hh
   have:=f1.lt
   rw [Segs.eq E.sM E.kind s1 hS,hlm] at this
   exact this)
  have HFS : Hid (f = 0 → FindS k (gs.map Sg.v) s a):=Lib.hid (fun hh=>by
   obtain ⟨S',s1,f1⟩:=HFA.out hh
   rw [Segs.eq E.sM E.kind s1 hS] at f1
   exact f1)
  have x0 : (e != 0) = false:=by rw [e0];rfl
  have HOWN : Hid (∀ t,t < gs.length → ∀ W,Below w.heap.size w W → Calls Tryz.prog 9 #[.int .i64 k,.slice A n C,(gg gs t).p.val] W fun e w'=>e = .returned (.tuple #[.int .i64 t,.int .i64 0]) ∧ Below W.heap.size W w'):=Lib.hid (fun t ht W hW=>by
   rw [HN.out]
   exact E.own hS HWF.out HSC.out ht W hW)
  have HEND : Hid (∀ t,t < n → ∀ W,Below w.heap.size w W → Calls Tryz.prog 9 #[.int .i64 k,.slice A n C,(pg ps t).val] W fun e w'=>∃ a : Nat,e = .returned (.tuple #[.int .i64 a,.int .i64 0]) ∧ a < gs.length ∧ (gg gs a).v = ((pg ps t).s,true) ∧ Below W.heap.size W w'):=Lib.hid (fun t ht W hW=>by
   rw [HN.out] at ht ⊢
   have h1:=E.end_ hS (t:=t) (by rw [E.len];exact ht) W hW
   rw [hlm] at h1
   refine h1.mono ?_
   rintro _ w' ⟨a,rfl,q1,q2,q3⟩
   exact ⟨a,rfl,q1,by rw [gg_v];exact q2,q3⟩)
  have HTW : Hid (∀ W,Below w.heap.size w W → Tabs W):=Lib.hid (fun W hW=>tabs_below HT.out hW)
  have HMM:=Lib.hid E.sM
  have HRD : Hid (∀ W,Below w.heap.size w W → Pvs W (.slice A n C) ps):=Lib.hid (fun W hW=>by rw [HN.out];exact E.rd W hW)
  have HPL : Hid (ps.length = n):=Lib.hid (by rw [E.len,HN.out])
  have HPS:=Lib.hid E.sc
  have HPW:=Lib.hid E.wf
  have hn2 : n ≤ 200:=by rw [HN.out];exact E.few
  have hkd:=E.kind
  have HKD:=Lib.hid hkd
  clear E hS hsc hlm e0 HFA HNA HSG HNI HSUB
  go_upto_region 7 with fail
  go_cut [66] from 50 to 66 (fun s66 wx=>s66 = .bool false ∧ wx = w5)
  case first =>
   by_cases f0 : f = 0
   ·have ha:=HAL.out f0
    have i1 : ¬ (a : Int) < 0:=by omega
    have i2 : ¬ (gs.length : Int) ≤ (a : Int):=by omega
    have i3 : ((gs.length : Int) == 0) = false:=by rw [beq_eq_false_iff_ne];omega
    have i4 : (f == 0) = true:=by rw [f0];rfl
    clear f0 ha
    go_wp2_with fail
    go_meet
    exact ⟨rfl,rfl⟩
   ·have i3 : ((gs.length : Int) == 0) = false:=by rw [beq_eq_false_iff_ne];omega
    have i4 : (f == 0) = false:=by rw [beq_eq_false_iff_ne];exact f0
    clear f0
    go_wp2_with fail
    go_meet
    exact ⟨rfl,rfl⟩
  case rest =>
   obtain ⟨rfl,rfl⟩:=hcut
   go_wp2_with fail
   go_loopg [11] gs.length (fun kk i wr=>∃ t : Nat,kk + t = gs.length ∧ i = .int .i64 t ∧ Hid (Below w4.heap.size w4 wr))
   case atStart=>exact ⟨0,by omega,rfl,HBB5⟩
   case round =>
    obtain ⟨t,hkt,rfl,HBR⟩:=hrel
    have HKT:=Lib.hid hkt
    have htl : t ≤ gs.length:=by omega
    have HWR : Hid (Below w.heap.size w wr):=Lib.hid (HB4.out.trans (HBR.out.mono HB4.out.size))
    clear hkt
    by_cases hlt : t < gs.length
    ·have htc : (t : Int) < (gs.length : Int):=by omega
     obtain ⟨b,o,rfl,hat⟩:=(HRO.out wr HBR.out).at hlt
     have HRB : Hid (∀ r,r < gs.length → ∀ W,Below w4.heap.size w4 W → At W b (o + r * 11) (gg gs r).cs):=Lib.hid (fun r hr W hW=>by
      obtain ⟨b',o',e',h'⟩:=(HRO.out W hW).at hr
      injection e' with e'
      injection e' with e1 e2
      subst e1 e2
      exact h')
     have HFN:=Lib.hid (HOWN.out t hlt wr HWR.out)
     obtain ⟨x,hx⟩ : ∃ x,x = gg gs t:=⟨_,rfl⟩
     have hxm : x ∈ gs:=by rw [hx];exact gg_mem hlt
     rw [← hx] at hat HFN
     have HX:=Lib.hid hx
     have HXM:=Lib.hid hxm
     obtain ⟨⟨sx,A1,C1,B1,D1⟩,q⟩:=x
     obtain ⟨a0,a1,a2,a3,a4,a5,a6,a7,a8,a9,a10⟩:=At.seg (s:=sx) (L:=.slice A1 0 C1) (N:=.slice B1 0 D1) (B:=.bool q) hat
     have hbl:=cell_lt2 a0
     unfold Pv.val vagg at HFN
     dsimp only at HFN
     clear hat hx hxm
     go_upto_region 15 with (go_at_call 9;(with_reducible refine HFN.out.mono ?_);rintro _ w6 ⟨rfl,hb6⟩)
     have HB6:=Lib.hid (HBR.out.trans (hb6.mono HBR.out.size))
     have HW6:=Lib.hid (HWR.out.trans (hb6.mono HWR.out.size))
     clear a0 a1 a2 a3 a4 a5 a6 a7 a8 a9 a10 hbl hb6 HFN
     by_cases hk' : k = 2 ∨ k = 4
     ·have k3 : (k != 3) = true:=by rw [bne_iff_ne];omega
      have k1 : (k != 1) = true:=by rw [bne_iff_ne];omega
      rcases Nat.eq_zero_or_pos t with t0 | t0
      ·subst t0
       clear hk'
       go_wp2_with fail
       go_roundg (gk - 1)
       case measure=>have:=HKT.out;omega
       case rel=>exact ⟨1,by have:=HKT.out;omega,by go_num,HB6⟩
      ·obtain ⟨u,rfl⟩ : ∃ u,t = u + 1:=⟨t - 1,by omega⟩
       have hul : u < gs.length:=by omega
       have hxs : Sc k sx:=HSC.out _ HXM.out
       have hxw:=HWF.out _ HXM.out
       have HTX:=HS.out.two hk' (HMM.out)
       have h2:=HTX.2.1.at (show u < u + 1 by omega) (by rw [HLM.out];exact hlt)
       have h3:=HTX.2.2.2.2.1.at (i:=u) (by rw [HLM.out];exact hlt)
       rw [← gg_v,← gg_v,← HX.out] at h2 h3
       have ha1:=HRB.out (u + 1) hlt w6 HB6.out
       have ha2:=HRB.out u hul w6 HB6.out
       rw [← HX.out] at ha1
       have HYM:=Lib.hid (gg_mem hul)
       obtain ⟨y,hy⟩ : ∃ y,y = gg gs u:=⟨_,rfl⟩
       rw [← hy] at h2 h3 ha2 HYM
       have HLE:=Lib.hid (fun W hW=>vless_pv hk' y.p ⟨sx,A1,C1,B1,D1⟩ (HSC.out _ HYM.out) hxs (HWF.out _ HYM.out) hxw W (HTW.out W hW))
       obtain ⟨⟨sy,A1',C1',B1',D1'⟩,q'⟩:=y
       unfold Sg.v at h2 h3
       dsimp only at h2 h3 HLE
       unfold VLessPost at HLE
       rw [show decide (cmpS sy sx < 0) = true from decide_eq_true h2] at HLE
       unfold Pv.val vagg truthV at HLE
       dsimp only at HLE
       have HLB : Hid (∀ w',Below w6.heap.size w6 w' → w'.cell? ⟨b,o + (u + 1) * 11,none⟩ = some (.int .i64 sx.kind) ∧ w'.cell? ⟨b,o + (u + 1) * 11 + 1,none⟩ = some (.bool sx.yes) ∧ w'.cell? ⟨b,o + (u + 1) * 11 + 2,none⟩ = some (.bool sx.neg) ∧ w'.cell? ⟨b,o + (u + 1) * 11 + 3,none⟩ = some (.int .u64 (wd sx.coef 1)) ∧ w'.cell? ⟨b,o + (u + 1) * 11 + 4,none⟩ = some (.int .u64 (wd sx.coef 0)) ∧ w'.cell? ⟨b,o + (u + 1) * 11 + 5,none⟩ = some (.int .i64 sx.sc) ∧ w'.cell? ⟨b,o + (u + 1) * 11 + 6,none⟩ = some (.string ⟨sx.text.toArray⟩) ∧ w'.cell? ⟨b,o + (u + 1) * 11 + 7,none⟩ = some (.int .i64 sx.day) ∧ w'.cell? ⟨b,o + (u + 1) * 11 + 8,none⟩ = some (.slice A1 0 C1) ∧ w'.cell? ⟨b,o + (u + 1) * 11 + 9,none⟩ = some (.slice B1 0 D1) ∧ w'.cell? ⟨b,o + (u + 1) * 11 + 10,none⟩ = some (.bool q) ∧ w'.cell? ⟨b,o + u * 11,none⟩ = some (.int .i64 sy.kind) ∧ w'.cell? ⟨b,o + u * 11 + 1,none⟩ = some (.bool sy.yes) ∧ w'.cell? ⟨b,o + u * 11 + 2,none⟩ = some (.bool sy.neg) ∧ w'.cell? ⟨b,o + u * 11 + 3,none⟩ = some (.int .u64 (wd sy.coef 1)) ∧ w'.cell? ⟨b,o + u * 11 + 4,none⟩ = some (.int .u64 (wd sy.coef 0)) ∧ w'.cell? ⟨b,o + u * 11 + 5,none⟩ = some (.int .i64 sy.sc) ∧ w'.cell? ⟨b,o + u * 11 + 6,none⟩ = some (.string ⟨sy.text.toArray⟩) ∧ w'.cell? ⟨b,o + u * 11 + 7,none⟩ = some (.int .i64 sy.day) ∧ w'.cell? ⟨b,o + u * 11 + 8,none⟩ = some (.slice A1' 0 C1') ∧ w'.cell? ⟨b,o + u * 11 + 9,none⟩ = some (.slice B1' 0 D1') ∧ w'.cell? ⟨b,o + u * 11 + 10,none⟩ = some (.bool q')):=Lib.hid (fun w' hW=>by
        have ha1:=HRB.out (u + 1) hlt w' (HB6.out.trans (hW.mono HB6.out.size))
        have ha2:=HRB.out u hul w' (HB6.out.trans (hW.mono HB6.out.size))
        rw [← HX.out] at ha1
        rw [← hy] at ha2
        obtain ⟨a0,a1,a2,a3,a4,a5,a6,a7,a8,a9,a10⟩:=At.seg (s:=sx) (L:=.slice A1 0 C1) (N:=.slice B1 0 D1) (B:=.bool q) ha1
        obtain ⟨y0,y1,y2,y3,y4,y5,y6,y7,y8,y9,y10⟩:=At.seg (s:=sy) (L:=.slice A1' 0 C1') (N:=.slice B1' 0 D1') (B:=.bool q') ha2
        exact ⟨a0,a1,a2,a3,a4,a5,a6,a7,a8,a9,a10,y0,y1,y2,y3,y4,y5,y6,y7,y8,y9,y10⟩)
       have hbl : b < w6.heap.size:=cell_lt2 (HLB.out w6 (Below.refl _ _)).1
       have HLW:=Lib.hid (fun W (hW : Below w6.heap.size w6 W)=>HLE.out W (HW6.out.trans (hW.mono HW6.out.size)))
       have HCA:=Lib.hid (fun W (hW : Below w6.heap.size w6 W) (k6 : Bk W w6.heap.size 30 zc10)=>(HLW.out W hW).mono (R':=fun e w'=>(e = .returned (.tuple #[.agg #[.int .i64 1,.bool true,.bool false,.int .u64 0,.int .u64 0,.int .i64 0,.string ⟨#[]⟩,.int .i64 0,.slice none 0 0,.slice none 0 0],.int .i64 0]) ∧ Below W.heap.size W w') ∧ Bk w' w6.heap.size 30 zc10) fun e w' hq=>⟨hq,k6.below hq.2 k6.lt⟩)
       have j0 : (0 : Int) < (u : Int) + 1:=by omega
       have j1 : (u : Int) + 1 < (gs.length : Int):=by omega
       have j2 : (u : Int) < (gs.length : Int):=by omega
       have j3 : (u : Int) + 1 - 1 < (gs.length : Int):=by omega
       have j4 : (0 : Int) ≤ (u : Int) + 1 - 1:=by omega
       have j5 : (0 : Int) ≤ (u : Int) + 1:=by omega
       have j6 : IntKind.i64.wrap (u : Int) = (u : Int):=by rw [IntKind.wrap_i64];omega
       have H3:=Lib.hid h3
       clear ha1 ha2 h2 h3 hy HTX hk' hxs hxw t0 HLE
       go_upto_region 16 with fail
       go_cut [14,15] from 101 to 139 (fun s14 s15 wx=>∃ g,s14 = .pointer (some ⟨g,0,none⟩) ∧ s15 = .int .i64 0 ∧ Hid (Bk wx g 30 (tvC true)) ∧ Hid (Below w6.heap.size w6 wx))
       case first =>
        clear HRB HX HRO HOWN HEND HKD HKT HSC HS HWF HTW
        go_region_held3 (fun w'=>w'.cell? ⟨b,o + (u + 1) * 11,none⟩ = some (.int .i64 sx.kind) ∧ w'.cell? ⟨b,o + (u + 1) * 11 + 1,none⟩ = some (.bool sx.yes) ∧ w'.cell? ⟨b,o + (u + 1) * 11 + 2,none⟩ = some (.bool sx.neg) ∧ w'.cell? ⟨b,o + (u + 1) * 11 + 3,none⟩ = some (.int .u64 (wd sx.coef 1)) ∧ w'.cell? ⟨b,o + (u + 1) * 11 + 4,none⟩ = some (.int .u64 (wd sx.coef 0)) ∧ w'.cell? ⟨b,o + (u + 1) * 11 + 5,none⟩ = some (.int .i64 sx.sc) ∧ w'.cell? ⟨b,o + (u + 1) * 11 + 6,none⟩ = some (.string ⟨sx.text.toArray⟩) ∧ w'.cell? ⟨b,o + (u + 1) * 11 + 7,none⟩ = some (.int .i64 sx.day) ∧ w'.cell? ⟨b,o + (u + 1) * 11 + 8,none⟩ = some (.slice A1 0 C1) ∧ w'.cell? ⟨b,o + (u + 1) * 11 + 9,none⟩ = some (.slice B1 0 D1) ∧ w'.cell? ⟨b,o + (u + 1) * 11 + 10,none⟩ = some (.bool q) ∧ w'.cell? ⟨b,o + u * 11,none⟩ = some (.int .i64 sy.kind) ∧ w'.cell? ⟨b,o + u * 11 + 1,none⟩ = some (.bool sy.yes) ∧ w'.cell? ⟨b,o + u * 11 + 2,none⟩ = some (.bool sy.neg) ∧ w'.cell? ⟨b,o + u * 11 + 3,none⟩ = some (.int .u64 (wd sy.coef 1)) ∧ w'.cell? ⟨b,o + u * 11 + 4,none⟩ = some (.int .u64 (wd sy.coef 0)) ∧ w'.cell? ⟨b,o + u * 11 + 5,none⟩ = some (.int .i64 sy.sc) ∧ w'.cell? ⟨b,o + u * 11 + 6,none⟩ = some (.string ⟨sy.text.toArray⟩) ∧ w'.cell? ⟨b,o + u * 11 + 7,none⟩ = some (.int .i64 sy.day) ∧ w'.cell? ⟨b,o + u * 11 + 8,none⟩ = some (.slice A1' 0 C1') ∧ w'.cell? ⟨b,o + u * 11 + 9,none⟩ = some (.slice B1' 0 D1') ∧ w'.cell? ⟨b,o + u * 11 + 10,none⟩ = some (.bool q')) (first | ((with_reducible refine HLB.out _ ?_);((repeat' first|(with_reducible first|exact blR _ _|assumption|refine blD ?_|refine blN ?_ _)|((with_reducible first|refine blA ?_ ?_ _|refine blS ?_ ?_ _|refine blT (by assumption) ?_ ?_);focus (go_size;done))));done)) (first | (go_at_call 11;(with_reducible refine Calls.mono (HCA.out _ ?_ ?_) ?_);(focus (((repeat' first|(with_reducible first|exact blR _ _|assumption|refine blD ?_|refine blN ?_ _)|((with_reducible first|refine blA ?_ ?_ _|refine blS ?_ ?_ _|refine blT (by assumption) ?_ ?_);focus (go_size;done))));done));(focus ((unfold zc10;(repeat (first|(with_reducible assumption)|((with_reducible refine bkW ?_);(first|rfl|(simp only [wsA,wsS,wsD,wsN];done)))|(with_reducible first|refine bkA ?_ _|refine bkD ?_|refine bkN ?_ _)|((with_reducible refine bkF ?_ ?_ _);focus (simp only [];omega))|((with_reducible refine bkB (by assumption) ?_ ?_);focus (go_size;done)))));done));rintro _ w7 ⟨⟨rfl,hb7⟩,k6⟩;obtain ⟨⟨z0,z1,z2,z3,z4,z5,z6,z7,z8,z9⟩,zf⟩:=zc_of k6;unfold zc10 at k6;have K6:=Lib.hid k6;clear k6;have hb7s:=hb7.size;(try simp only [World.size_drew,World.size_alloc] at hb7s);(try have : w6.heap.size < w7.heap.size:=by omega);(try have : w6.heap.size + 1 < w7.heap.size:=by omega);(try have : w6.heap.size + 1 + 1 < w7.heap.size:=by omega);(try have : w6.heap.size + 1 + 1 + 1 < w7.heap.size:=by omega)) | (go_at_call 11;(with_reducible refine Calls.mono (HLW.out _ ?_) ?_);(focus (((repeat' first|(with_reducible first|exact blR _ _|assumption|refine blD ?_|refine blN ?_ _)|((with_reducible first|refine blA ?_ ?_ _|refine blS ?_ ?_ _|refine blT (by assumption) ?_ ?_);focus (go_size;done))));done));rintro _ w7 ⟨rfl,hb7⟩;have hb7s:=hb7.size;(try simp only [World.size_drew,World.size_alloc] at hb7s);(try have : w6.heap.size < w7.heap.size:=by omega);(try have : w6.heap.size + 1 < w7.heap.size:=by omega);(try have : w6.heap.size + 1 + 1 < w7.heap.size:=by omega);(try have : w6.heap.size + 1 + 1 + 1 < w7.heap.size:=by omega)))
        all_goals go_wp2_with fail
        all_goals go_meet
        all_goals refine ⟨_,rfl,rfl,Lib.hid ?_,Lib.hid ?_⟩
        all_goals first | (with_reducible exact Bk.new _ _ (tvC true)) | (with_reducible exact ten_bk K6.out) | (((repeat' first|(with_reducible first|exact blR _ _|assumption|refine blD ?_|refine blN ?_ _)|((with_reducible first|refine blA ?_ ?_ _|refine blS ?_ ?_ _|refine blT (by assumption) ?_ ?_);focus (go_size;done))));done)
       case rest =>
        obtain ⟨g,rfl,rfl,HBG,HBC⟩:=hcut
        have HI:=Lib.hid (fun W=>ris_truth true W)
        unfold truthV at HI
        obtain ⟨z0,z1,z2,z3,z4,z5,z6,z7,z8,z9⟩:=tv_box HBG.out
        obtain ⟨-,-,-,-,-,-,-,-,-,-,a10,-,-,-,-,-,-,-,-,-,-,y10⟩:=HLB.out wc HBC.out
        have hgl:=HBG.out.lt
        have hblc : b < wc.heap.size:=Nat.lt_of_lt_of_le hbl HBC.out.size
        have HBX:=Lib.hid (HB6.out.trans (HBC.out.mono HB6.out.size))
        cases q with
        | true =>
         clear H3 HLB HLW HCA HRB
         go_wp2_with (go_at_call 12;(with_reducible refine (HI.out _).mono ?_);rintro _ w8 ⟨rfl,hb8⟩;have hb8s:=hb8.size;obtain ⟨hb8c,hb8f⟩:=bcell hb8;have hb8t : b < w8.heap.size:=(by omega))
         go_roundg (gk - 1)
         case measure=>have:=HKT.out;omega
         case rel=>exact ⟨u + 1 + 1,by have:=HKT.out;omega,by go_num,Lib.hid (HBX.out.trans (hb8.mono HBX.out.size))⟩
        | false =>
         have hq : q' = true:=by
          rcases H3.out with e1 | e1
          ·exact e1
          ·cases e1
         subst hq
         clear H3 HLB HLW HCA HRB
         go_wp2_with (go_at_call 12;(with_reducible refine (HI.out _).mono ?_);rintro _ w8 ⟨rfl,hb8⟩;have hb8s:=hb8.size;obtain ⟨hb8c,hb8f⟩:=bcell hb8;have hb8t : b < w8.heap.size:=(by omega))
         go_roundg (gk - 1)
         case measure=>have:=HKT.out;omega
         case rel=>exact ⟨u + 1 + 1,by have:=HKT.out;omega,by go_num,Lib.hid (HBX.out.trans (hb8.mono HBX.out.size))⟩
     ·have hk3 : k = 1 ∨ k = 3:=by have:=HKD.out;omega
      rcases hk3 with e3 | e3
      ·have k3 : (k != 3) = true:=by rw [e3];rfl
       have k1 : (k != 1) = false:=by rw [e3];rfl
       rcases Nat.eq_zero_or_pos t with t0 | t0
       ·have i0 : ¬ (0 : Int) < (t : Int):=by omega
        clear e3 hk'
        go_wp2_with fail
        go_roundg (gk - 1)
        case measure=>have:=HKT.out;omega
        case rel=>exact ⟨t + 1,by have:=HKT.out;omega,by go_num,HB6⟩
       ·have i0 : (0 : Int) < (t : Int):=by omega
        clear e3 hk'
        go_wp2_with fail
        go_roundg (gk - 1)
        case measure=>have:=HKT.out;omega
        case rel=>exact ⟨t + 1,by have:=HKT.out;omega,by go_num,HB6⟩
      ·have k3 : (k != 3) = false:=by rw [e3];rfl
       rcases Nat.eq_zero_or_pos t with t0 | t0
       ·have i0 : ¬ (0 : Int) < (t : Int):=by omega
        clear e3 hk'
        go_wp2_with fail
        go_roundg (gk - 1)
        case measure=>have:=HKT.out;omega
        case rel=>exact ⟨t + 1,by have:=HKT.out;omega,by go_num,HB6⟩
       ·have i0 : (0 : Int) < (t : Int):=by omega
        clear e3 hk'
        go_wp2_with fail
        go_roundg (gk - 1)
        case measure=>have:=HKT.out;omega
        case rel=>exact ⟨t + 1,by have:=HKT.out;omega,by go_num,HB6⟩
    ·obtain rfl : t = gs.length:=by omega
     have i0 : ¬ (gs.length : Int) < (gs.length : Int):=by omega
     obtain ⟨ww,hww⟩ : ∃ ww,ww = wr:=⟨_,rfl⟩
     subst hww
     clear hlt htl HKT
     go_wp2_with fail
     go_loopg [16] n (fun kk i wr=>∃ t : Nat,kk + t = n ∧ i = .int .i64 t ∧ Hid (Below w4.heap.size w4 wr))
     case atStart=>exact ⟨0,by omega,rfl,HBR⟩
     case round =>
      clear HBR HWR
      obtain ⟨t,hkt,rfl,HBR⟩:=hrel
      have HKT:=Lib.hid hkt
      have htl : t ≤ n:=by omega
      have HWR : Hid (Below w.heap.size w wr):=Lib.hid (HB4.out.trans (HBR.out.mono HB4.out.size))
      clear hkt
      by_cases hlt : t < n
      ·have htc : (t : Int) < (n : Int):=by omega
       have htp : t < ps.length:=by rw [HPL.out];exact hlt
       obtain ⟨b2,o2,rfl,hat⟩:=(HRD.out wr HWR.out).at htp
       have HRP : Hid (∀ W,Below w.heap.size w W → At W b2 (o2 + t * 10) (pg ps t).cs):=Lib.hid (fun W hW=>by
        obtain ⟨b',o',e',h'⟩:=(HRD.out W hW).at htp
        injection e' with e'
        injection e' with e1 e2
        subst e1 e2
        exact h')
       have HFN:=Lib.hid (HEND.out t hlt wr HWR.out)
       obtain ⟨y,hy⟩ : ∃ y,y = pg ps t:=⟨_,rfl⟩
       have hym : y ∈ ps:=by rw [hy];exact pg_mem htp
       rw [← hy] at hat HFN HRP
       have HYM:=Lib.hid hym
       obtain ⟨sy,A1,C1,B1,D1⟩:=y
       obtain ⟨a0,a1,a2,a3,a4,a5,a6,a7,a8,a9⟩:=At.val (s:=sy) (L:=.slice A1 0 C1) (N:=.slice B1 0 D1) hat
       have hbl:=cell_lt2 a0
       unfold Pv.val vagg at HFN
       dsimp only at HFN
       clear hat hy hym
       go_upto_region 23 with (go_at_call 9;(with_reducible refine HFN.out.mono ?_);rintro _ w6 ⟨c,rfl,hcl,hcv,hb6⟩)
       have HB6:=Lib.hid (HBR.out.trans (hb6.mono HBR.out.size))
       have HW6:=Lib.hid (HWR.out.trans (hb6.mono HWR.out.size))
       clear a0 a1 a2 a3 a4 a5 a6 a7 a8 a9 hbl hb6 HFN
       obtain ⟨b,o,rfl,hat⟩:=(HRO.out w6 HB6.out).at hcl
       have HRB : Hid (∀ W,Below w4.heap.size w4 W → At W b (o + c * 11) (gg gs c).cs):=Lib.hid (fun W hW=>by
        obtain ⟨b',o',e',h'⟩:=(HRO.out W hW).at hcl
        injection e' with e'
        injection e' with e1 e2
        subst e1 e2
        exact h')
       obtain ⟨x,hx⟩ : ∃ x,x = gg gs c:=⟨_,rfl⟩
       have hxm : x ∈ gs:=by rw [hx];exact gg_mem hcl
       rw [← hx] at hcv HRB
       have HSM:=Lib.hid (fun W hW=>vsame_pvs x.p ⟨sy,A1,C1,B1,D1⟩ (HSC.out _ hxm) (HPS.out _ HYM.out) (HWF.out _ hxm) (HPW.out _ HYM.out) W (HTW.out W hW))
       obtain ⟨⟨sx,A1',C1',B1',D1'⟩,q⟩:=x
       unfold Sg.v at hcv
       dsimp only at hcv HSM
       injection hcv with e1 e2
       subst e1 e2
       have hz : sameB (Pv.d ⟨sx,A1',C1',B1',D1'⟩) (Pv.d ⟨sx,A1,C1,B1,D1⟩) = true:=(same_pv _ _).2 rfl
       rw [hz] at HSM
       unfold Pv.val vagg at HSM
       dsimp only at HSM
       have HLB : Hid (∀ w',Below w6.heap.size w6 w' → w'.cell? ⟨b,o + c * 11,none⟩ = some (.int .i64 sx.kind) ∧ w'.cell? ⟨b,o + c * 11 + 1,none⟩ = some (.bool sx.yes) ∧ w'.cell? ⟨b,o + c * 11 + 2,none⟩ = some (.bool sx.neg) ∧ w'.cell? ⟨b,o + c * 11 + 3,none⟩ = some (.int .u64 (wd sx.coef 1)) ∧ w'.cell? ⟨b,o + c * 11 + 4,none⟩ = some (.int .u64 (wd sx.coef 0)) ∧ w'.cell? ⟨b,o + c * 11 + 5,none⟩ = some (.int .i64 sx.sc) ∧ w'.cell? ⟨b,o + c * 11 + 6,none⟩ = some (.string ⟨sx.text.toArray⟩) ∧ w'.cell? ⟨b,o + c * 11 + 7,none⟩ = some (.int .i64 sx.day) ∧ w'.cell? ⟨b,o + c * 11 + 8,none⟩ = some (.slice A1' 0 C1') ∧ w'.cell? ⟨b,o + c * 11 + 9,none⟩ = some (.slice B1' 0 D1') ∧ w'.cell? ⟨b,o + c * 11 + 10,none⟩ = some (.bool true) ∧ w'.cell? ⟨b2,o2 + t * 10,none⟩ = some (.int .i64 sx.kind) ∧ w'.cell? ⟨b2,o2 + t * 10 + 1,none⟩ = some (.bool sx.yes) ∧ w'.cell? ⟨b2,o2 + t * 10 + 2,none⟩ = some (.bool sx.neg) ∧ w'.cell? ⟨b2,o2 + t * 10 + 3,none⟩ = some (.int .u64 (wd sx.coef 1)) ∧ w'.cell? ⟨b2,o2 + t * 10 + 4,none⟩ = some (.int .u64 (wd sx.coef 0)) ∧ w'.cell? ⟨b2,o2 + t * 10 + 5,none⟩ = some (.int .i64 sx.sc) ∧ w'.cell? ⟨b2,o2 + t * 10 + 6,none⟩ = some (.string ⟨sx.text.toArray⟩) ∧ w'.cell? ⟨b2,o2 + t * 10 + 7,none⟩ = some (.int .i64 sx.day) ∧ w'.cell? ⟨b2,o2 + t * 10 + 8,none⟩ = some (.slice A1 0 C1) ∧ w'.cell? ⟨b2,o2 + t * 10 + 9,none⟩ = some (.slice B1 0 D1)):=Lib.hid (fun w' hW=>by
        obtain ⟨a0,a1,a2,a3,a4,a5,a6,a7,a8,a9,a10⟩:=At.seg (s:=sx) (L:=.slice A1' 0 C1') (N:=.slice B1' 0 D1') (B:=.bool true) (HRB.out w' (HB6.out.trans (hW.mono HB6.out.size)))
        obtain ⟨y0,y1,y2,y3,y4,y5,y6,y7,y8,y9⟩:=At.val (s:=sx) (L:=.slice A1 0 C1) (N:=.slice B1 0 D1) (HRP.out w' (HW6.out.trans (hW.mono HW6.out.size)))
        exact ⟨a0,a1,a2,a3,a4,a5,a6,a7,a8,a9,a10,y0,y1,y2,y3,y4,y5,y6,y7,y8,y9⟩)
       have HLW:=Lib.hid (fun W (hW : Below w6.heap.size w6 W)=>HSM.out W (HW6.out.trans (hW.mono HW6.out.size)))
       have i1 : (c : Int) < (gs.length : Int):=by omega
       have i2 : (0 : Int) ≤ (c : Int):=by omega
       clear hat hx hxm hz hcl HSM HRB HRP
       go_region_held3 (fun w'=>w'.cell? ⟨b,o + c * 11,none⟩ = some (.int .i64 sx.kind) ∧ w'.cell? ⟨b,o + c * 11 + 1,none⟩ = some (.bool sx.yes) ∧ w'.cell? ⟨b,o + c * 11 + 2,none⟩ = some (.bool sx.neg) ∧ w'.cell? ⟨b,o + c * 11 + 3,none⟩ = some (.int .u64 (wd sx.coef 1)) ∧ w'.cell? ⟨b,o + c * 11 + 4,none⟩ = some (.int .u64 (wd sx.coef 0)) ∧ w'.cell? ⟨b,o + c * 11 + 5,none⟩ = some (.int .i64 sx.sc) ∧ w'.cell? ⟨b,o + c * 11 + 6,none⟩ = some (.string ⟨sx.text.toArray⟩) ∧ w'.cell? ⟨b,o + c * 11 + 7,none⟩ = some (.int .i64 sx.day) ∧ w'.cell? ⟨b,o + c * 11 + 8,none⟩ = some (.slice A1' 0 C1') ∧ w'.cell? ⟨b,o + c * 11 + 9,none⟩ = some (.slice B1' 0 D1') ∧ w'.cell? ⟨b,o + c * 11 + 10,none⟩ = some (.bool true) ∧ w'.cell? ⟨b2,o2 + t * 10,none⟩ = some (.int .i64 sx.kind) ∧ w'.cell? ⟨b2,o2 + t * 10 + 1,none⟩ = some (.bool sx.yes) ∧ w'.cell? ⟨b2,o2 + t * 10 + 2,none⟩ = some (.bool sx.neg) ∧ w'.cell? ⟨b2,o2 + t * 10 + 3,none⟩ = some (.int .u64 (wd sx.coef 1)) ∧ w'.cell? ⟨b2,o2 + t * 10 + 4,none⟩ = some (.int .u64 (wd sx.coef 0)) ∧ w'.cell? ⟨b2,o2 + t * 10 + 5,none⟩ = some (.int .i64 sx.sc) ∧ w'.cell? ⟨b2,o2 + t * 10 + 6,none⟩ = some (.string ⟨sx.text.toArray⟩) ∧ w'.cell? ⟨b2,o2 + t * 10 + 7,none⟩ = some (.int .i64 sx.day) ∧ w'.cell? ⟨b2,o2 + t * 10 + 8,none⟩ = some (.slice A1 0 C1) ∧ w'.cell? ⟨b2,o2 + t * 10 + 9,none⟩ = some (.slice B1 0 D1)) (first | ((with_reducible refine HLB.out _ ?_);((repeat' first|(with_reducible first|exact blR _ _|assumption|refine blD ?_|refine blN ?_ _)|((with_reducible first|refine blA ?_ ?_ _|refine blS ?_ ?_ _|refine blT (by assumption) ?_ ?_);focus (go_size;done))));done)) (first | (go_at_call 13;(with_reducible refine Calls.mono (HLW.out _ ?_) ?_);(focus (((repeat' first|(with_reducible first|exact blR _ _|assumption|refine blD ?_|refine blN ?_ _)|((with_reducible first|refine blA ?_ ?_ _|refine blS ?_ ?_ _|refine blT (by assumption) ?_ ?_);focus (go_size;done))));done));rintro _ w7 ⟨rfl,hb7⟩;have hb7s:=hb7.size;(try simp only [World.size_drew,World.size_alloc] at hb7s);(try have : w6.heap.size < w7.heap.size:=by omega);(try have : w6.heap.size + 1 < w7.heap.size:=by omega);(try have : w6.heap.size + 1 + 1 < w7.heap.size:=by omega);(try have : w6.heap.size + 1 + 1 + 1 < w7.heap.size:=by omega)))
       all_goals go_wp2_with fail
       all_goals go_roundg (gk - 1)
       all_goals first | (have:=HKT.out;omega) | exact ⟨t + 1,by have:=HKT.out;omega,by go_num,Lib.hid (HB6.out.trans (Below.mono (by exact bel) HB6.out.size))⟩
      ·obtain rfl : t = n:=by omega
       have i0 : ¬ (t : Int) < (t : Int):=by omega
       clear hlt htl HKT HOWN HEND HRD HPL HPS HPW
       by_cases hfin : f = 0 ∧ (k = 2 ∨ k = 4)
       ·obtain ⟨f0,hk'⟩:=hfin
        have x1 : (f != 0) = false:=by rw [f0];rfl
        have k3 : (k == 3) = false:=by rw [beq_eq_false_iff_ne];omega
        have k1 : (k == 1) = false:=by rw [beq_eq_false_iff_ne];omega
        have HF0:=Lib.hid f0
        have HKP:=Lib.hid hk'
        clear f0 hk'
        go_upto_region 27 with fail
        have f0:=HF0.out
        have hk':=HKP.out
        clear HF0 HKP
        obtain ⟨-,hkk,-,hv1,hv2⟩:=chk_two (HF.out.symm.trans f0)
        obtain ⟨hss,hl0,hn0⟩:=sc_of hkk HV.out.ok hv1 hv2
        have hsw:=HV.out.caps
        dsimp only [VD.s,VD.list,VD.names] at hss hl0 hn0
        obtain rfl : n1 = 0:=by
         have e1:=HN1.out
         rw [hl0] at e1
         exact e1
        obtain rfl : n2 = 0:=by
         have e2:=HN2.out
         rw [hn0] at e2
         exact e2
        have ha:=HAL.out f0
        have HSS:=Lib.hid hss
        have HSW:=Lib.hid hsw
        obtain ⟨l1,l2,l3⟩:=HS.out.lies hk' HMM.out hss (HFS.out f0)
        rw [HLM.out] at l3
        rw [← gg_v] at l1 l2 l3
        have HL3:=Lib.hid l3
        have HKK:=Lib.hid hk'
        clear hkk hv1 hv2 hss hl0 hn0 hsw l3 HFS HAL HV HF
        have HK4' : Hid (Bk w4 w.heap.size 30 (Pv.cs ⟨s,A2,C2,A3,C3⟩)):=HK4
        obtain ⟨b,o,rfl,hat⟩:=(HRO.out wr HBR.out).at ha
        have HRB : Hid (∀ r,r < gs.length → ∀ W,Below w4.heap.size w4 W → At W b (o + r * 11) (gg gs r).cs):=Lib.hid (fun r hr W hW=>by
         obtain ⟨b',o',e',h'⟩:=(HRO.out W hW).at hr
         injection e' with e'
         injection e' with e1 e2
         subst e1 e2
         exact h')
        obtain ⟨x,hx⟩ : ∃ x,x = gg gs a:=⟨_,rfl⟩
        have hxm : x ∈ gs:=by rw [hx];exact gg_mem ha
        have hrx:=HRB.out a ha
        rw [← hx] at hrx l1 l2
        have HRX:=Lib.hid hrx
        have HLE:=Lib.hid (fun W hW=>vless_pv hk' ⟨s,A2,C2,A3,C3⟩ x.p HSS.out (HSC.out _ hxm) HSW.out (HWF.out _ hxm) W (HTW.out W hW))
        have HSM:=Lib.hid (fun W hW=>vsame_pvs ⟨s,A2,C2,A3,C3⟩ x.p HSS.out (HSC.out _ hxm) HSW.out (HWF.out _ hxm) W (HTW.out W hW))
        obtain ⟨⟨sx,A1,C1,B1,D1⟩,q⟩:=x
        unfold Sg.v at l1 l2
        dsimp only at l1 l2 HLE HSM
        unfold VLessPost at HLE
        rw [show decide (cmpS s sx < 0) = false from decide_eq_false l1] at HLE
        unfold Pv.val vagg at HLE HSM
        unfold truthV at HLE
        dsimp only at HLE HSM
        obtain ⟨g0,hg0⟩ : ∃ g,g = w.heap.size:=⟨_,rfl⟩
        have HG0:=Lib.hid hg0
        have HLB : Hid (∀ w',Below wr.heap.size wr w' → w'.cell? ⟨g0,0,none⟩ = some (.int .i64 s.kind) ∧ w'.cell? ⟨g0,1,none⟩ = some (.bool s.yes) ∧ w'.cell? ⟨g0,2,none⟩ = some (.bool s.neg) ∧ w'.cell? ⟨g0,3,none⟩ = some (.int .u64 (wd s.coef 1)) ∧ w'.cell? ⟨g0,4,none⟩ = some (.int .u64 (wd s.coef 0)) ∧ w'.cell? ⟨g0,5,none⟩ = some (.int .i64 s.sc) ∧ w'.cell? ⟨g0,6,none⟩ = some (.string ⟨s.text.toArray⟩) ∧ w'.cell? ⟨g0,7,none⟩ = some (.int .i64 s.day) ∧ w'.cell? ⟨g0,8,none⟩ = some (.slice A2 0 C2) ∧ w'.cell? ⟨g0,9,none⟩ = some (.slice A3 0 C3) ∧ w'.cell? ⟨b,o + a * 11,none⟩ = some (.int .i64 sx.kind) ∧ w'.cell? ⟨b,o + a * 11 + 1,none⟩ = some (.bool sx.yes) ∧ w'.cell? ⟨b,o + a * 11 + 2,none⟩ = some (.bool sx.neg) ∧ w'.cell? ⟨b,o + a * 11 + 3,none⟩ = some (.int .u64 (wd sx.coef 1)) ∧ w'.cell? ⟨b,o + a * 11 + 4,none⟩ = some (.int .u64 (wd sx.coef 0)) ∧ w'.cell? ⟨b,o + a * 11 + 5,none⟩ = some (.int .i64 sx.sc) ∧ w'.cell? ⟨b,o + a * 11 + 6,none⟩ = some (.string ⟨sx.text.toArray⟩) ∧ w'.cell? ⟨b,o + a * 11 + 7,none⟩ = some (.int .i64 sx.day) ∧ w'.cell? ⟨b,o + a * 11 + 8,none⟩ = some (.slice A1 0 C1) ∧ w'.cell? ⟨b,o + a * 11 + 9,none⟩ = some (.slice B1 0 D1) ∧ w'.cell? ⟨b,o + a * 11 + 10,none⟩ = some (.bool q)):=Lib.hid (fun w' hW=>by
         have h1:=HBR.out.trans (hW.mono HBR.out.size)
         obtain ⟨⟨z0,z1,z2,z3,z4,z5,z6,z7,z8,z9⟩,-⟩:=pv_box (HK4'.out.below h1 HK4'.out.lt)
         rw [← hg0] at z0 z1 z2 z3 z4 z5 z6 z7 z8 z9
         obtain ⟨a0,a1,a2,a3,a4,a5,a6,a7,a8,a9,a10⟩:=At.seg (s:=sx) (L:=.slice A1 0 C1) (N:=.slice B1 0 D1) (B:=.bool q) (HRX.out w' h1)
         exact ⟨z0,z1,z2,z3,z4,z5,z6,z7,z8,z9,a0,a1,a2,a3,a4,a5,a6,a7,a8,a9,a10⟩)
        rw [← hg0]
        have hgl0 : g0 < wr.heap.size:=cell_lt2 (HLB.out wr (Below.refl _ _)).1
        have HLW:=Lib.hid (fun W (hW : Below wr.heap.size wr W)=>HLE.out W (HWR.out.trans (hW.mono HWR.out.size)))
        have HSMW:=Lib.hid (fun W (hW : Below wr.heap.size wr W)=>HSM.out W (HWR.out.trans (hW.mono HWR.out.size)))
        have HCA:=Lib.hid (fun W (hW : Below wr.heap.size wr W) (k6 : Bk W wr.heap.size 30 zc10)=>(HLW.out W hW).mono (R':=fun e w'=>(e = .returned (.tuple #[.agg #[.int .i64 1,.bool false,.bool false,.int .u64 0,.int .u64 0,.int .i64 0,.string ⟨#[]⟩,.int .i64 0,.slice none 0 0,.slice none 0 0],.int .i64 0]) ∧ Below W.heap.size W w') ∧ Bk w' wr.heap.size 30 zc10) fun e w' hq=>⟨hq,k6.below hq.2 k6.lt⟩)
        have j1 : (a : Int) < (gs.length : Int):=by omega
        have j2 : (0 : Int) ≤ (a : Int):=by omega
        have HL2:=Lib.hid l2
        have HHA:=Lib.hid ha
        clear hg0 hat hx hxm hrx l1 l2 ha HLE HSM f0 hk'
        go_cut [19,20] from 189 to 198 (fun s19 s20 wx=>∃ g,s19 = .pointer (some ⟨g,0,none⟩) ∧ s20 = .int .i64 0 ∧ Hid (Bk wx g 30 (tvC false)) ∧ Hid (Below wr.heap.size wr wx))
        case first =>
         go_region_held3 (fun w'=>w'.cell? ⟨g0,0,none⟩ = some (.int .i64 s.kind) ∧ w'.cell? ⟨g0,1,none⟩ = some (.bool s.yes) ∧ w'.cell? ⟨g0,2,none⟩ = some (.bool s.neg) ∧ w'.cell? ⟨g0,3,none⟩ = some (.int .u64 (wd s.coef 1)) ∧ w'.cell? ⟨g0,4,none⟩ = some (.int .u64 (wd s.coef 0)) ∧ w'.cell? ⟨g0,5,none⟩ = some (.int .i64 s.sc) ∧ w'.cell? ⟨g0,6,none⟩ = some (.string ⟨s.text.toArray⟩) ∧ w'.cell? ⟨g0,7,none⟩ = some (.int .i64 s.day) ∧ w'.cell? ⟨g0,8,none⟩ = some (.slice A2 0 C2) ∧ w'.cell? ⟨g0,9,none⟩ = some (.slice A3 0 C3) ∧ w'.cell? ⟨b,o + a * 11,none⟩ = some (.int .i64 sx.kind) ∧ w'.cell? ⟨b,o + a * 11 + 1,none⟩ = some (.bool sx.yes) ∧ w'.cell? ⟨b,o + a * 11 + 2,none⟩ = some (.bool sx.neg) ∧ w'.cell? ⟨b,o + a * 11 + 3,none⟩ = some (.int .u64 (wd sx.coef 1)) ∧ w'.cell? ⟨b,o + a * 11 + 4,none⟩ = some (.int .u64 (wd sx.coef 0)) ∧ w'.cell? ⟨b,o + a * 11 + 5,none⟩ = some (.int .i64 sx.sc) ∧ w'.cell? ⟨b,o + a * 11 + 6,none⟩ = some (.string ⟨sx.text.toArray⟩) ∧ w'.cell? ⟨b,o + a * 11 + 7,none⟩ = some (.int .i64 sx.day) ∧ w'.cell? ⟨b,o + a * 11 + 8,none⟩ = some (.slice A1 0 C1) ∧ w'.cell? ⟨b,o + a * 11 + 9,none⟩ = some (.slice B1 0 D1) ∧ w'.cell? ⟨b,o + a * 11 + 10,none⟩ = some (.bool q)) (first | ((with_reducible refine HLB.out _ ?_);((repeat' first|(with_reducible first|exact blR _ _|assumption|refine blD ?_|refine blN ?_ _)|((with_reducible first|refine blA ?_ ?_ _|refine blS ?_ ?_ _|refine blT (by assumption) ?_ ?_);focus (go_size;done))));done)) (first | (go_at_call 11;(with_reducible refine Calls.mono (HCA.out _ ?_ ?_) ?_);(focus (((repeat' first|(with_reducible first|exact blR _ _|assumption|refine blD ?_|refine blN ?_ _)|((with_reducible first|refine blA ?_ ?_ _|refine blS ?_ ?_ _|refine blT (by assumption) ?_ ?_);focus (go_size;done))));done));(focus ((unfold zc10;(repeat (first|(with_reducible assumption)|((with_reducible refine bkW ?_);(first|rfl|(simp only [wsA,wsS,wsD,wsN];done)))|(with_reducible first|refine bkA ?_ _|refine bkD ?_|refine bkN ?_ _)|((with_reducible refine bkF ?_ ?_ _);focus (simp only [];omega))|((with_reducible refine bkB (by assumption) ?_ ?_);focus (go_size;done)))));done));rintro _ w7 ⟨⟨rfl,hb7⟩,k6⟩;obtain ⟨⟨z0,z1,z2,z3,z4,z5,z6,z7,z8,z9⟩,zf⟩:=zc_of k6;unfold zc10 at k6;have K6:=Lib.hid k6;clear k6;have hb7s:=hb7.size;(try simp only [World.size_drew,World.size_alloc] at hb7s);(try have : wr.heap.size < w7.heap.size:=by omega);(try have : wr.heap.size + 1 < w7.heap.size:=by omega);(try have : wr.heap.size + 1 + 1 < w7.heap.size:=by omega);(try have : wr.heap.size + 1 + 1 + 1 < w7.heap.size:=by omega)) | (go_at_call 11;(with_reducible refine Calls.mono (HLW.out _ ?_) ?_);(focus (((repeat' first|(with_reducible first|exact blR _ _|assumption|refine blD ?_|refine blN ?_ _)|((with_reducible first|refine blA ?_ ?_ _|refine blS ?_ ?_ _|refine blT (by assumption) ?_ ?_);focus (go_size;done))));done));rintro _ w7 ⟨rfl,hb7⟩;have hb7s:=hb7.size;(try simp only [World.size_drew,World.size_alloc] at hb7s);(try have : wr.heap.size < w7.heap.size:=by omega);(try have : wr.heap.size + 1 < w7.heap.size:=by omega);(try have : wr.heap.size + 1 + 1 < w7.heap.size:=by omega);(try have : wr.heap.size + 1 + 1 + 1 < w7.heap.size:=by omega)))
         all_goals go_wp2_with fail
         all_goals go_meet
         all_goals refine ⟨_,rfl,rfl,Lib.hid ?_,Lib.hid ?_⟩
         all_goals first | (with_reducible exact Bk.new _ _ (tvC false)) | (with_reducible exact ten_bk K6.out) | (((repeat' first|(with_reducible first|exact blR _ _|assumption|refine blD ?_|refine blN ?_ _)|((with_reducible first|refine blA ?_ ?_ _|refine blS ?_ ?_ _|refine blT (by assumption) ?_ ?_);focus (go_size;done))));done)
        case rest =>
         obtain ⟨g,rfl,rfl,HBG,HBC⟩:=hcut
         have HI:=Lib.hid (fun W=>ris_truth false W)
         unfold truthV at HI
         have HLB2 : Hid (∀ w',Below wc.heap.size wc w' → w'.cell? ⟨g,0,none⟩ = some (.int .i64 1) ∧ w'.cell? ⟨g,1,none⟩ = some (.bool false) ∧ w'.cell? ⟨g,2,none⟩ = some (.bool false) ∧ w'.cell? ⟨g,3,none⟩ = some (.int .u64 0) ∧ w'.cell? ⟨g,4,none⟩ = some (.int .u64 0) ∧ w'.cell? ⟨g,5,none⟩ = some (.int .i64 0) ∧ w'.cell? ⟨g,6,none⟩ = some (.string ⟨#[]⟩) ∧ w'.cell? ⟨g,7,none⟩ = some (.int .i64 0) ∧ w'.cell? ⟨g,8,none⟩ = some (.slice none 0 0) ∧ w'.cell? ⟨g,9,none⟩ = some (.slice none 0 0) ∧ w'.cell? ⟨g0,0,none⟩ = some (.int .i64 s.kind) ∧ w'.cell? ⟨g0,1,none⟩ = some (.bool s.yes) ∧ w'.cell? ⟨g0,2,none⟩ = some (.bool s.neg) ∧ w'.cell? ⟨g0,3,none⟩ = some (.int .u64 (wd s.coef 1)) ∧ w'.cell? ⟨g0,4,none⟩ = some (.int .u64 (wd s.coef 0)) ∧ w'.cell? ⟨g0,5,none⟩ = some (.int .i64 s.sc) ∧ w'.cell? ⟨g0,6,none⟩ = some (.string ⟨s.text.toArray⟩) ∧ w'.cell? ⟨g0,7,none⟩ = some (.int .i64 s.day) ∧ w'.cell? ⟨g0,8,none⟩ = some (.slice A2 0 C2) ∧ w'.cell? ⟨g0,9,none⟩ = some (.slice A3 0 C3) ∧ w'.cell? ⟨b,o + a * 11,none⟩ = some (.int .i64 sx.kind) ∧ w'.cell? ⟨b,o + a * 11 + 1,none⟩ = some (.bool sx.yes) ∧ w'.cell? ⟨b,o + a * 11 + 2,none⟩ = some (.bool sx.neg) ∧ w'.cell? ⟨b,o + a * 11 + 3,none⟩ = some (.int .u64 (wd sx.coef 1)) ∧ w'.cell? ⟨b,o + a * 11 + 4,none⟩ = some (.int .u64 (wd sx.coef 0)) ∧ w'.cell? ⟨b,o + a * 11 + 5,none⟩ = some (.int .i64 sx.sc) ∧ w'.cell? ⟨b,o + a * 11 + 6,none⟩ = some (.string ⟨sx.text.toArray⟩) ∧ w'.cell? ⟨b,o + a * 11 + 7,none⟩ = some (.int .i64 sx.day) ∧ w'.cell? ⟨b,o + a * 11 + 8,none⟩ = some (.slice A1 0 C1) ∧ w'.cell? ⟨b,o + a * 11 + 9,none⟩ = some (.slice B1 0 D1) ∧ w'.cell? ⟨b,o + a * 11 + 10,none⟩ = some (.bool q)):=Lib.hid (fun w' hW=>by
          obtain ⟨t0,t1,t2,t3,t4,t5,t6,t7,t8,t9⟩:=tv_box (HBG.out.below hW HBG.out.lt)
          obtain ⟨z0,z1,z2,z3,z4,z5,z6,z7,z8,z9,a0,a1,a2,a3,a4,a5,a6,a7,a8,a9,a10⟩:=HLB.out w' (HBC.out.trans (hW.mono HBC.out.size))
          exact ⟨t0,t1,t2,t3,t4,t5,t6,t7,t8,t9,z0,z1,z2,z3,z4,z5,z6,z7,z8,z9,a0,a1,a2,a3,a4,a5,a6,a7,a8,a9,a10⟩)
         have HBX:=Lib.hid (HWR.out.trans (HBC.out.mono HWR.out.size))
         have HSW2:=Lib.hid (fun W (hW : Below wc.heap.size wc W)=>HSMW.out W (HBC.out.trans (hW.mono HBC.out.size)))
         have HRC : Hid (Below w4.heap.size w4 wc):=Lib.hid (HBR.out.trans (HBC.out.mono HBR.out.size))
         clear HLB HLW HCA HSMW
         go_upto_region 28 with fail
         go_cut [221] from 199 to 221 (fun s221 wx=>s221 = .bool false ∧ Hid (Below wc.heap.size wc wx))
         case first =>
          clear HRB HRX HSC HS HWF HTW HRO HK4 HK4' HMM
          cases q with
          | true =>
           have hss:=HL2.out rfl
           have hz : sameB (Pv.d ⟨s,A2,C2,A3,C3⟩) (Pv.d ⟨sx,A1,C1,B1,D1⟩) = true:=(same_pv _ _).2 hss
           rw [hz] at HSW2
           clear hss hz
           go_region_held3 (fun w'=>w'.cell? ⟨g,0,none⟩ = some (.int .i64 1) ∧ w'.cell? ⟨g,1,none⟩ = some (.bool false) ∧ w'.cell? ⟨g,2,none⟩ = some (.bool false) ∧ w'.cell? ⟨g,3,none⟩ = some (.int .u64 0) ∧ w'.cell? ⟨g,4,none⟩ = some (.int .u64 0) ∧ w'.cell? ⟨g,5,none⟩ = some (.int .i64 0) ∧ w'.cell? ⟨g,6,none⟩ = some (.string ⟨#[]⟩) ∧ w'.cell? ⟨g,7,none⟩ = some (.int .i64 0) ∧ w'.cell? ⟨g,8,none⟩ = some (.slice none 0 0) ∧ w'.cell? ⟨g,9,none⟩ = some (.slice none 0 0) ∧ w'.cell? ⟨g0,0,none⟩ = some (.int .i64 s.kind) ∧ w'.cell? ⟨g0,1,none⟩ = some (.bool s.yes) ∧ w'.cell? ⟨g0,2,none⟩ = some (.bool s.neg) ∧ w'.cell? ⟨g0,3,none⟩ = some (.int .u64 (wd s.coef 1)) ∧ w'.cell? ⟨g0,4,none⟩ = some (.int .u64 (wd s.coef 0)) ∧ w'.cell? ⟨g0,5,none⟩ = some (.int .i64 s.sc) ∧ w'.cell? ⟨g0,6,none⟩ = some (.string ⟨s.text.toArray⟩) ∧ w'.cell? ⟨g0,7,none⟩ = some (.int .i64 s.day) ∧ w'.cell? ⟨g0,8,none⟩ = some (.slice A2 0 C2) ∧ w'.cell? ⟨g0,9,none⟩ = some (.slice A3 0 C3) ∧ w'.cell? ⟨b,o + a * 11,none⟩ = some (.int .i64 sx.kind) ∧ w'.cell? ⟨b,o + a * 11 + 1,none⟩ = some (.bool sx.yes) ∧ w'.cell? ⟨b,o + a * 11 + 2,none⟩ = some (.bool sx.neg) ∧ w'.cell? ⟨b,o + a * 11 + 3,none⟩ = some (.int .u64 (wd sx.coef 1)) ∧ w'.cell? ⟨b,o + a * 11 + 4,none⟩ = some (.int .u64 (wd sx.coef 0)) ∧ w'.cell? ⟨b,o + a * 11 + 5,none⟩ = some (.int .i64 sx.sc) ∧ w'.cell? ⟨b,o + a * 11 + 6,none⟩ = some (.string ⟨sx.text.toArray⟩) ∧ w'.cell? ⟨b,o + a * 11 + 7,none⟩ = some (.int .i64 sx.day) ∧ w'.cell? ⟨b,o + a * 11 + 8,none⟩ = some (.slice A1 0 C1) ∧ w'.cell? ⟨b,o + a * 11 + 9,none⟩ = some (.slice B1 0 D1) ∧ w'.cell? ⟨b,o + a * 11 + 10,none⟩ = some (.bool true)) (first | ((with_reducible refine HLB2.out _ ?_);((repeat' first|(with_reducible first|exact blR _ _|assumption|refine blD ?_|refine blN ?_ _)|((with_reducible first|refine blA ?_ ?_ _|refine blS ?_ ?_ _|refine blT (by assumption) ?_ ?_);focus (go_size;done))));done)) (first | (go_at_call 12;(with_reducible refine (HI.out _).mono ?_);rintro _ w8 ⟨rfl,hb8⟩;have hb8s:=hb8.size;(try simp only [World.size_drew,World.size_alloc] at hb8s);(try have : wc.heap.size < w8.heap.size:=by omega);(try have : wc.heap.size + 1 < w8.heap.size:=by omega);(try have : wc.heap.size + 1 + 1 < w8.heap.size:=by omega);(try have : wc.heap.size + 1 + 1 + 1 < w8.heap.size:=by omega)) | (go_at_call 13;(with_reducible refine Calls.mono (HSW2.out _ ?_) ?_);(focus (((repeat' first|(with_reducible first|exact blR _ _|assumption|refine blD ?_|refine blN ?_ _)|((with_reducible first|refine blA ?_ ?_ _|refine blS ?_ ?_ _|refine blT (by assumption) ?_ ?_);focus (go_size;done))));done));rintro _ w9 ⟨rfl,hb9⟩;have hb9s:=hb9.size;(try simp only [World.size_drew,World.size_alloc] at hb9s);(try have : wc.heap.size < w9.heap.size:=by omega);(try have : wc.heap.size + 1 < w9.heap.size:=by omega);(try have : wc.heap.size + 1 + 1 < w9.heap.size:=by omega);(try have : wc.heap.size + 1 + 1 + 1 < w9.heap.size:=by omega)))
           all_goals go_wp2_with fail
           all_goals go_meet
           all_goals refine ⟨rfl,Lib.hid ?_⟩
           all_goals (((repeat' first|(with_reducible first|exact blR _ _|assumption|refine blD ?_|refine blN ?_ _)|((with_reducible first|refine blA ?_ ?_ _|refine blS ?_ ?_ _|refine blT (by assumption) ?_ ?_);focus (go_size;done))));done)
          | false =>
           obtain ⟨t0,t1,t2,t3,t4,t5,t6,t7,t8,t9,z0,z1,z2,z3,z4,z5,z6,z7,z8,z9,a0,a1,a2,a3,a4,a5,a6,a7,a8,a9,a10⟩:=HLB2.out wc (Below.refl _ _)
           clear HSW2 z0 z1 z2 z3 z4 z5 z6 z7 z8 z9 a0 a1 a2 a3 a4 a5 a6 a7 a8 a9
           first | (go_region_with (first | (go_at_call 12;(with_reducible refine (HI.out _).mono ?_);rintro _ w8 ⟨rfl,hb8⟩;have hb8s:=hb8.size;(try simp only [World.size_drew,World.size_alloc] at hb8s);(try have : wc.heap.size < w8.heap.size:=by omega);(try have : wc.heap.size + 1 < w8.heap.size:=by omega);(try have : wc.heap.size + 1 + 1 < w8.heap.size:=by omega);(try have : wc.heap.size + 1 + 1 + 1 < w8.heap.size:=by omega);have a10':=(HLB2.out w8 (by exact bel)).2.2.2.2.2.2.2.2.2.2.2.2.2.2.2.2.2.2.2.2.2.2.2.2.2.2.2.2.2.2))) | fail
           all_goals go_wp2_with fail
           all_goals go_meet
           all_goals refine ⟨rfl,Lib.hid ?_⟩
           all_goals (((repeat' first|(with_reducible first|exact blR _ _|assumption|refine blD ?_|refine blN ?_ _)|((with_reducible first|refine blA ?_ ?_ _|refine blS ?_ ?_ _|refine blT (by assumption) ?_ ?_);focus (go_size;done))));done)
         case rest =>
          have hcut':=hcut
          obtain ⟨rfl,HBD⟩:=hcut'
          obtain ⟨wy,hwy⟩ : ∃ W,W = wc:=⟨_,rfl⟩
          rw [← hwy] at HBD ⊢
          clear hwy hcut
          have HBY:=Lib.hid (HBX.out.trans (HBD.out.mono HBX.out.size))
          have HRY:=Lib.hid (HRC.out.trans (HBD.out.mono HRC.out.size))
          by_cases hal : a + 1 = gs.length
          ·have hz : ((a : Int) == (gs.length : Int) - 1) = true:=by rw [beq_iff_eq];omega
           clear hal
           go_wp2_with fail
           go_ret
           exact ⟨rfl,HBY.out⟩
          ·have hz : ((a : Int) == (gs.length : Int) - 1) = false:=by rw [beq_eq_false_iff_ne];omega
           have hal1 : a + 1 < gs.length:=by have:=HHA.out;omega
           have l3:=HL3.out hal1
           have hrx:=HRB.out (a + 1) hal1
           obtain ⟨y,hy⟩ : ∃ y,y = gg gs (a + 1):=⟨_,rfl⟩
           have hym : y ∈ gs:=by rw [hy];exact gg_mem hal1
           rw [← hy] at hrx l3
           have HRX2:=Lib.hid hrx
           have HLE2:=Lib.hid (fun W hW=>vless_pv HKK.out ⟨s,A2,C2,A3,C3⟩ y.p HSS.out (HSC.out _ hym) HSW.out (HWF.out _ hym) W (HTW.out W hW))
           obtain ⟨⟨sy,A4,C4,B4,D4⟩,q4⟩:=y
           unfold Sg.v at l3
           dsimp only at l3 HLE2
           unfold VLessPost at HLE2
           rw [show decide (cmpS s sy < 0) = true from decide_eq_true l3] at HLE2
           unfold Pv.val vagg truthV at HLE2
           dsimp only at HLE2
           have HLB3 : Hid (∀ w',Below wy.heap.size wy w' → w'.cell? ⟨g0,0,none⟩ = some (.int .i64 s.kind) ∧ w'.cell? ⟨g0,1,none⟩ = some (.bool s.yes) ∧ w'.cell? ⟨g0,2,none⟩ = some (.bool s.neg) ∧ w'.cell? ⟨g0,3,none⟩ = some (.int .u64 (wd s.coef 1)) ∧ w'.cell? ⟨g0,4,none⟩ = some (.int .u64 (wd s.coef 0)) ∧ w'.cell? ⟨g0,5,none⟩ = some (.int .i64 s.sc) ∧ w'.cell? ⟨g0,6,none⟩ = some (.string ⟨s.text.toArray⟩) ∧ w'.cell? ⟨g0,7,none⟩ = some (.int .i64 s.day) ∧ w'.cell? ⟨g0,8,none⟩ = some (.slice A2 0 C2) ∧ w'.cell? ⟨g0,9,none⟩ = some (.slice A3 0 C3) ∧ w'.cell? ⟨b,o + (a + 1) * 11,none⟩ = some (.int .i64 sy.kind) ∧ w'.cell? ⟨b,o + (a + 1) * 11 + 1,none⟩ = some (.bool sy.yes) ∧ w'.cell? ⟨b,o + (a + 1) * 11 + 2,none⟩ = some (.bool sy.neg) ∧ w'.cell? ⟨b,o + (a + 1) * 11 + 3,none⟩ = some (.int .u64 (wd sy.coef 1)) ∧ w'.cell? ⟨b,o + (a + 1) * 11 + 4,none⟩ = some (.int .u64 (wd sy.coef 0)) ∧ w'.cell? ⟨b,o + (a + 1) * 11 + 5,none⟩ = some (.int .i64 sy.sc) ∧ w'.cell? ⟨b,o + (a + 1) * 11 + 6,none⟩ = some (.string ⟨sy.text.toArray⟩) ∧ w'.cell? ⟨b,o + (a + 1) * 11 + 7,none⟩ = some (.int .i64 sy.day) ∧ w'.cell? ⟨b,o + (a + 1) * 11 + 8,none⟩ = some (.slice A4 0 C4) ∧ w'.cell? ⟨b,o + (a + 1) * 11 + 9,none⟩ = some (.slice B4 0 D4) ∧ w'.cell? ⟨b,o + (a + 1) * 11 + 10,none⟩ = some (.bool q4)):=Lib.hid (fun w' hW=>by
            have h1:=HRY.out.trans (hW.mono HRY.out.size)
            obtain ⟨⟨z0,z1,z2,z3,z4,z5,z6,z7,z8,z9⟩,-⟩:=pv_box (HK4'.out.below h1 HK4'.out.lt)
            rw [← HG0.out] at z0 z1 z2 z3 z4 z5 z6 z7 z8 z9
            obtain ⟨a0,a1,a2,a3,a4,a5,a6,a7,a8,a9,a10⟩:=At.seg (s:=sy) (L:=.slice A4 0 C4) (N:=.slice B4 0 D4) (B:=.bool q4) (HRX2.out w' h1)
            exact ⟨z0,z1,z2,z3,z4,z5,z6,z7,z8,z9,a0,a1,a2,a3,a4,a5,a6,a7,a8,a9,a10⟩)
           have hgl0 : g0 < wy.heap.size:=cell_lt2 (HLB3.out wy (Below.refl _ _)).1
           have HLW2:=Lib.hid (fun W (hW : Below wy.heap.size wy W)=>HLE2.out W (HBY.out.trans (hW.mono HBY.out.size)))
           have HCA2:=Lib.hid (fun W (hW : Below wy.heap.size wy W) (k6 : Bk W wy.heap.size 30 zc10)=>(HLW2.out W hW).mono (R':=fun e w'=>(e = .returned (.tuple #[.agg #[.int .i64 1,.bool true,.bool false,.int .u64 0,.int .u64 0,.int .i64 0,.string ⟨#[]⟩,.int .i64 0,.slice none 0 0,.slice none 0 0],.int .i64 0]) ∧ Below W.heap.size W w') ∧ Bk w' wy.heap.size 30 zc10) fun e w' hq=>⟨hq,k6.below hq.2 k6.lt⟩)
           have j3 : (a : Int) + 1 < (gs.length : Int):=by omega
           have j4 : (0 : Int) ≤ (a : Int) + 1:=by omega
           have j6 : IntKind.i64.wrap ((a : Int) + 1) = (a : Int) + 1:=by rw [IntKind.wrap_i64];omega
           clear hal hrx hy hym l3 HLE2 hal1
           go_upto_region 32 with fail
           go_cut [20,21] from 227 to 237 (fun s20 s21 wx=>∃ g,s20 = .int .i64 0 ∧ s21 = .pointer (some ⟨g,0,none⟩) ∧ Hid (Bk wx g 30 (tvC true)) ∧ Hid (Below wy.heap.size wy wx))
           case first =>
            clear HRB HRX HRX2 HSC HS HWF HTW HRO HK4 HK4' HMM HRC HLB2 HSW2
            go_region_held3 (fun w'=>w'.cell? ⟨g0,0,none⟩ = some (.int .i64 s.kind) ∧ w'.cell? ⟨g0,1,none⟩ = some (.bool s.yes) ∧ w'.cell? ⟨g0,2,none⟩ = some (.bool s.neg) ∧ w'.cell? ⟨g0,3,none⟩ = some (.int .u64 (wd s.coef 1)) ∧ w'.cell? ⟨g0,4,none⟩ = some (.int .u64 (wd s.coef 0)) ∧ w'.cell? ⟨g0,5,none⟩ = some (.int .i64 s.sc) ∧ w'.cell? ⟨g0,6,none⟩ = some (.string ⟨s.text.toArray⟩) ∧ w'.cell? ⟨g0,7,none⟩ = some (.int .i64 s.day) ∧ w'.cell? ⟨g0,8,none⟩ = some (.slice A2 0 C2) ∧ w'.cell? ⟨g0,9,none⟩ = some (.slice A3 0 C3) ∧ w'.cell? ⟨b,o + (a + 1) * 11,none⟩ = some (.int .i64 sy.kind) ∧ w'.cell? ⟨b,o + (a + 1) * 11 + 1,none⟩ = some (.bool sy.yes) ∧ w'.cell? ⟨b,o + (a + 1) * 11 + 2,none⟩ = some (.bool sy.neg) ∧ w'.cell? ⟨b,o + (a + 1) * 11 + 3,none⟩ = some (.int .u64 (wd sy.coef 1)) ∧ w'.cell? ⟨b,o + (a + 1) * 11 + 4,none⟩ = some (.int .u64 (wd sy.coef 0)) ∧ w'.cell? ⟨b,o + (a + 1) * 11 + 5,none⟩ = some (.int .i64 sy.sc) ∧ w'.cell? ⟨b,o + (a + 1) * 11 + 6,none⟩ = some (.string ⟨sy.text.toArray⟩) ∧ w'.cell? ⟨b,o + (a + 1) * 11 + 7,none⟩ = some (.int .i64 sy.day) ∧ w'.cell? ⟨b,o + (a + 1) * 11 + 8,none⟩ = some (.slice A4 0 C4) ∧ w'.cell? ⟨b,o + (a + 1) * 11 + 9,none⟩ = some (.slice B4 0 D4) ∧ w'.cell? ⟨b,o + (a + 1) * 11 + 10,none⟩ = some (.bool q4)) (first | ((with_reducible refine HLB3.out _ ?_);((repeat' first|(with_reducible first|exact blR _ _|assumption|refine blD ?_|refine blN ?_ _)|((with_reducible first|refine blA ?_ ?_ _|refine blS ?_ ?_ _|refine blT (by assumption) ?_ ?_);focus (go_size;done))));done)) (first | (go_at_call 11;(with_reducible refine Calls.mono (HCA2.out _ ?_ ?_) ?_);(focus (((repeat' first|(with_reducible first|exact blR _ _|assumption|refine blD ?_|refine blN ?_ _)|((with_reducible first|refine blA ?_ ?_ _|refine blS ?_ ?_ _|refine blT (by assumption) ?_ ?_);focus (go_size;done))));done));(focus ((unfold zc10;(repeat (first|(with_reducible assumption)|((with_reducible refine bkW ?_);(first|rfl|(simp only [wsA,wsS,wsD,wsN];done)))|(with_reducible first|refine bkA ?_ _|refine bkD ?_|refine bkN ?_ _)|((with_reducible refine bkF ?_ ?_ _);focus (simp only [];omega))|((with_reducible refine bkB (by assumption) ?_ ?_);focus (go_size;done)))));done));rintro _ w7 ⟨⟨rfl,hb7⟩,k6⟩;obtain ⟨⟨z0,z1,z2,z3,z4,z5,z6,z7,z8,z9⟩,zf⟩:=zc_of k6;unfold zc10 at k6;have K6:=Lib.hid k6;clear k6;have hb7s:=hb7.size;(try simp only [World.size_drew,World.size_alloc] at hb7s);(try have : wy.heap.size < w7.heap.size:=by omega);(try have : wy.heap.size + 1 < w7.heap.size:=by omega);(try have : wy.heap.size + 1 + 1 < w7.heap.size:=by omega);(try have : wy.heap.size + 1 + 1 + 1 < w7.heap.size:=by omega)) | (go_at_call 11;(with_reducible refine Calls.mono (HLW2.out _ ?_) ?_);(focus (((repeat' first|(with_reducible first|exact blR _ _|assumption|refine blD ?_|refine blN ?_ _)|((with_reducible first|refine blA ?_ ?_ _|refine blS ?_ ?_ _|refine blT (by assumption) ?_ ?_);focus (go_size;done))));done));rintro _ w7 ⟨rfl,hb7⟩;have hb7s:=hb7.size;(try simp only [World.size_drew,World.size_alloc] at hb7s);(try have : wy.heap.size < w7.heap.size:=by omega);(try have : wy.heap.size + 1 < w7.heap.size:=by omega);(try have : wy.heap.size + 1 + 1 < w7.heap.size:=by omega);(try have : wy.heap.size + 1 + 1 + 1 < w7.heap.size:=by omega)))
            all_goals go_wp2_with fail
            all_goals go_meet
            all_goals refine ⟨_,rfl,rfl,Lib.hid ?_,Lib.hid ?_⟩
            all_goals first | (with_reducible exact Bk.new _ _ (tvC true)) | (with_reducible exact ten_bk K6.out) | (((repeat' first|(with_reducible first|exact blR _ _|assumption|refine blD ?_|refine blN ?_ _)|((with_reducible first|refine blA ?_ ?_ _|refine blS ?_ ?_ _|refine blT (by assumption) ?_ ?_);focus (go_size;done))));done)
           case rest =>
            obtain ⟨g,rfl,rfl,HBG2,HBC2⟩:=hcut
            have HI2:=Lib.hid (fun W=>ris_truth true W)
            unfold truthV at HI2
            obtain ⟨t0,t1,t2,t3,t4,t5,t6,t7,t8,t9⟩:=tv_box HBG2.out
            have hgl2:=HBG2.out.lt
            have HBZ2:=Lib.hid (HBY.out.trans (HBC2.out.mono HBY.out.size))
            go_wp2_with (go_at_call 12;(with_reducible refine (HI2.out _).mono ?_);rintro _ w8 ⟨rfl,hb8⟩)
            go_ret
            exact ⟨rfl,HBZ2.out.trans (hb8.mono HBZ2.out.size)⟩
       ·have hany : f ≠ 0 ∨ k = 3 ∨ k = 1:=by
         have:=HKD.out
         by_cases f0 : f = 0
         ·right
          have : ¬ (k = 2 ∨ k = 4):=fun hh=>hfin ⟨f0,hh⟩
          omega
         ·exact .inl f0
        have HBZ:=Lib.hid HWR.out
        clear hfin
        rcases hany with f0 | e3 | e3
        ·have x1 : (f != 0) = true:=by rw [bne_iff_ne];exact f0
         clear f0
         go_wp2_with fail
         go_ret
         exact ⟨rfl,HBZ.out⟩
        ·have k3 : (k == 3) = true:=by rw [e3];rfl
         by_cases f0 : f = 0
         ·have x1 : (f != 0) = false:=by rw [f0];rfl
          clear f0 e3
          go_wp2_with fail
          go_ret
          exact ⟨rfl,HBZ.out⟩
         ·have x1 : (f != 0) = true:=by rw [bne_iff_ne];exact f0
          clear f0 e3
          go_wp2_with fail
          go_ret
          exact ⟨rfl,HBZ.out⟩
        ·have k3 : (k == 3) = false:=by rw [e3];rfl
         have k1 : (k == 1) = true:=by rw [e3];rfl
         by_cases f0 : f = 0
         ·have x1 : (f != 0) = false:=by rw [f0];rfl
          clear f0 e3
          go_wp2_with fail
          go_ret
          exact ⟨rfl,HBZ.out⟩
         ·have x1 : (f != 0) = true:=by rw [bne_iff_ne];exact f0
          clear f0 e3
          go_wp2_with fail
          go_ret
          exact ⟨rfl,HBZ.out⟩
 ·have f0 : f ≠ 0:=fun hh=>e0 (HSUB.out hh)
  have hgn:=HNI.out e0
  have han:=HNA.out f0
  subst hgn han
  have x0 : (e != 0) = true:=by rw [bne_iff_ne];exact e0
  have x1 : (f != 0) = true:=by rw [bne_iff_ne];exact f0
  rw [show ([] : List Sg).length = 0 from rfl]
  clear e0 f0
  go_wp2_with fail
  go_ret
  exact ⟨ret_bool (by simp),HB5.out⟩
end Go.Proofs.YtbnadlpkbbdgjaaGreatDoor

