/- The contracts of the functions that the laws reach, part 6: what each returns and what becomes of memory. -/
import Derived.Deep.DeepCutAuto
import Derived.BigQuiet
import Derived.ProofKit
import Derived.OpenShut
import Derived.ShutString
import Derived.ChangeOld
import Derived.Below
import Derived.Lib.SmallJoins
import Derived.Deep.Matrix
import Derived.ChangeArms
import Derived.Lib.LaidIn
import Derived.Lib.LaidU8T
import Derived.IntWalk
import Derived.Deep.RegionHeld3
import Derived.Test.YtbnadlpkbbdgjaaGreatDoorM5
set_option linter.unusedSimpArgs false
set_option linter.unusedVariables false


namespace Go.Proofs.YtbnadlpkbbdgjaaGreatDoor
open Go.RowKit

/-- what the kind asks of its own fields -/
def kindB (s : VS) (ll : Nat) (nm : List (List UInt8)) : Bool :=
 if s.kind = 0 ∨ s.kind = 1 ∨ s.kind = 5 then true
 else if s.kind = 2 then dform s.neg s.coef s.sc
 else if s.kind = 3 then decide (s.text.length ≤ 1000) && ztxt s.text
 else if s.kind = 4 then dayB s.day
 else if s.kind = 6 then decide (nm.length = ll) && namesB nm
 else false
def ownB (s : VS) (ll : Nat) (nm : List (List UInt8)) : Bool:=bareQ s ll nm.length (s.kind = 5 ∨ s.kind = 6) && kindB s ll nm
mutual
def okV : VD → Bool
 | .mk s l nm => ownB s l.length nm && oks l
def oks : List VD → Bool
 | [] => true
 | x :: r => okV x && oks r
end
theorem okV_eq (d : VD) : okV d = (ownB d.s d.list.length d.names && oks d.list):=by cases d;rfl
theorem oks_append : ∀ (a b : List VD),oks (a ++ b) = (oks a && oks b)
 | [],b => by simp [oks]
 | x :: r,b => by rw [List.cons_append,oks,oks,oks_append r b,Bool.and_assoc]
theorem oks_take {l : List VD} {t : Nat} (h : t < l.length) : oks (l.take (t + 1)) = (oks (l.take t) && okV (vg l t)):=by
 rw [take_vg h,oks_append];simp [oks]
def ShapeOf (R : World → Value → Value → VD → Prop) : Prop:=∀ (x : VD) (L N : Value) (w : World),Tabs w → x.size ≤ 1000000 → R w L N x →
 Calls Tryz.prog 59 #[vagg x.s L N] w fun e w' => e = .returned (.tuple #[.int .i64 x.deep,.bool (okV x)]) ∧ Below w.heap.size w w'
set_option maxRecDepth 100000 in
set_option maxHeartbeats 4000000 in
theorem shape_step (R : World → Value → Value → VD → Prop) (hR : ∀ w w' L N x,R w L N x → Below w.heap.size w w' → R w' L N x) (H : ShapeOf R)
  (s : VS) (l : List VD) (nm : List (List UInt8)) (A : Option Addr) (C : Nat) (A2 : Option Addr) (C2 : Nat) (w : World) (hok : s.ok) (hT : Tabs w) (hsz : sizes l ≤ 999999) (hv : Vls (R w) w (.slice A l.length C) l) (hn : Nms w (.slice A2 nm.length C2) nm) :
  Calls Tryz.prog 59 #[vagg s (.slice A l.length C) (.slice A2 nm.length C2)] w fun e w' => e = .returned (.tuple #[.int .i64 ((deeps l + 1 : Nat) : Int),.bool (ownB s l.length nm && oks l)]) ∧ Below w.heap.size w w':=by
 obtain ⟨_,_,_,hll⟩:=hv.is
 obtain ⟨_,_,_,hnl⟩:=hn.is
 have HV:=Lib.hid hv
 have HN:=Lib.hid hn
 have HH:=Lib.hid H
 have HR:=Lib.hid hR
 have HT:=Lib.hid hT
 have HB:=Lib.hid (fun W => vbare_any s l nm A C A2 C2 hll hnl W)
 have hown : ownB s l.length nm = (bareQ s l.length nm.length (s.kind = 5 ∨ s.kind = 6) && kindB s l.length nm):=rfl
 obtain ⟨b0,hb0⟩ : ∃ b0,b0 = bareQ s l.length nm.length (s.kind = 5 ∨ s.kind = 6):=⟨_,rfl⟩
 obtain ⟨z,hz⟩ : ∃ z,z = ownB s l.length nm:=⟨_,rfl⟩
 rw [← hb0] at HB hown
 rw [← hz] at hown ⊢
 obtain ⟨kind,yes,neg,coef,sc,text,day⟩:=s
 obtain ⟨hc,ht⟩:=hok
 dsimp only at hc ht
 have HC:=Lib.hid hc
 have HTX:=Lib.hid ht
 unfold vagg at HB ⊢
 unfold kindB at hown
 dsimp only at HB hown ⊢
 have HO:=Lib.hid hown
 have HSZ:=Lib.hid hsz
 have HLL:=Lib.hid hll
 have HNL:=Lib.hid hnl
 have hll2 : (l.length : Int) ≤ 1048576:=by omega
 have hnl2 : (nm.length : Int) ≤ 1048576:=by omega
 clear hown hb0 hz hc ht hv hn H hR hT hsz hll hnl
 obtain ⟨x1,hx1⟩ : ∃ x1,x1 = wd coef 1:=⟨_,rfl⟩
 obtain ⟨x0,hx0⟩ : ∃ x0,x0 = wd coef 0:=⟨_,rfl⟩
 rw [← hx1,← hx0] at HB
 rw [← hx1,← hx0]
 have HX1:=Lib.hid hx1
 have HX0:=Lib.hid hx0
 clear hx1 hx0
 go_enter Tryz.func59,Tryz.ntmps59
 go_upto_block 0 with ((go_at_call 83;with_reducible refine (HB.out _).mono ?_);rintro _ w1 ⟨rfl,hb1⟩;have hb1s:=hb1.size;(try simp only [wsA,wsS,wsD,wsN] at hb1s);obtain ⟨hb1c,hb1f⟩:=bcell hb1;(try have : w.heap.size < w1.heap.size:=by omega);(try have : w.heap.size + 1 < w1.heap.size:=by omega);(try have : w.heap.size + 1 + 1 < w1.heap.size:=by omega);(try have : w.heap.size + 1 + 1 + 1 < w1.heap.size:=by omega))
 go_cut [4] (fun s4 wx => s4 = .bool z ∧ wx.cell? ⟨w.heap.size,8,none⟩ = some (.slice A l.length C) ∧ w.heap.size < wx.heap.size ∧ Below w.heap.size w wx)
 case first =>
  have hk : kind = 0 ∨ kind = 1 ∨ kind = 5 ∨ kind = 2 ∨ kind = 3 ∨ kind = 4 ∨ kind = 6 ∨ (kind ≠ 0 ∧ kind ≠ 1 ∧ kind ≠ 5 ∧ kind ≠ 2 ∧ kind ≠ 3 ∧ kind ≠ 4 ∧ kind ≠ 6):=by omega
  rcases hk with rfl | rfl | rfl | rfl | rfl | rfl | rfl | hk
  ·obtain rfl : z = b0:=by rw [HO.out];simp
   go_wp2_with fail
   go_meet
   case rel => exact ⟨rfl,by go_simp,by omega,by exact bel⟩
  ·obtain rfl : z = b0:=by rw [HO.out];simp
   go_wp2_with fail
   go_meet
   case rel => exact ⟨rfl,by go_simp,by omega,by exact bel⟩
  ·obtain rfl : z = b0:=by rw [HO.out];simp
   go_wp2_with fail
   go_meet
   case rel => exact ⟨rfl,by go_simp,by omega,by exact bel⟩
  ·have hzz : z = (b0 && dform neg coef sc):=by rw [HO.out];simp
   have HF:=Lib.hid (fun W => form_any neg coef sc HC.out W)
   rw [← HX1.out,← HX0.out] at HF
   generalize dform neg coef sc = q at HF hzz
   cases b0 with
   | false =>
    obtain rfl : z = false:=hzz
    go_wp2_with fail
    go_meet
    case rel => exact ⟨rfl,by go_simp,by omega,by exact bel⟩
   | true =>
    obtain rfl : z = q:=hzz
    go_wp2_with ((go_at_call 70;with_reducible refine (HF.out _).mono ?_);rintro _ w2 ⟨rfl,hb2⟩;have hb2s:=hb2.size;(try simp only [wsA,wsS,wsD,wsN] at hb2s);obtain ⟨hb2c,hb2f⟩:=bcell hb2;(try have : w.heap.size < w2.heap.size:=by omega);(try have : w.heap.size + 1 < w2.heap.size:=by omega);(try have : w.heap.size + 1 + 1 < w2.heap.size:=by omega);(try have : w.heap.size + 1 + 1 + 1 < w2.heap.size:=by omega))
    go_meet
    case rel => exact ⟨rfl,by go_simp,by omega,by exact bel⟩
  ·have hzz : z = (b0 && (decide (text.length ≤ 1000) && ztxt text)):=by rw [HO.out];simp
   have HF:=Lib.hid (fun W hW => valid_any text (by have:=HTX.out;omega) W hW)
   generalize ztxt text = q at HF hzz
   cases b0 with
   | false =>
    obtain rfl : z = false:=hzz
    go_wp2_with fail
    go_meet
    case rel => exact ⟨rfl,by go_simp,by omega,by exact bel⟩
   | true =>
    by_cases h1 : text.length ≤ 1000
    ·rw [decide_eq_true h1] at hzz
     obtain rfl : z = q:=hzz
     have h1' : (text.length : Int) ≤ 1000:=by omega
     clear h1
     go_wp2_with ((go_at_call 84;with_reducible refine (HF.out _ (tabs_below HT.out (by exact bel))).mono ?_);rintro _ w2 ⟨rfl,hb2⟩;have hb2s:=hb2.size;(try simp only [wsA,wsS,wsD,wsN] at hb2s);obtain ⟨hb2c,hb2f⟩:=bcell hb2;(try have : w.heap.size < w2.heap.size:=by omega);(try have : w.heap.size + 1 < w2.heap.size:=by omega);(try have : w.heap.size + 1 + 1 < w2.heap.size:=by omega);(try have : w.heap.size + 1 + 1 + 1 < w2.heap.size:=by omega))
     go_meet
     case rel => exact ⟨rfl,by go_simp,by omega,by exact bel⟩
    ·rw [decide_eq_false h1] at hzz
     obtain rfl : z = false:=hzz
     have h1' : ¬ (text.length : Int) ≤ 1000:=by omega
     clear h1
     go_wp2_with fail
     go_meet
     case rel => exact ⟨rfl,by go_simp,by omega,by exact bel⟩
  ·have hzz : z = (b0 && dayB day):=by rw [HO.out];simp
   cases b0 with
   | false =>
    obtain rfl : z = false:=hzz
    go_wp2_with fail
    go_meet
    case rel => exact ⟨rfl,by go_simp,by omega,by exact bel⟩
   | true =>
    by_cases h1 : 1 ≤ day
    ·by_cases h2 : day ≤ 3652059
     ·obtain rfl : z = true:=by rw [hzz];unfold dayB;rw [decide_eq_true ⟨h1,h2⟩];rfl
      clear hzz
      go_wp2_with fail
      go_meet
      case rel => exact ⟨rfl,by go_simp,by omega,by exact bel⟩
     ·obtain rfl : z = false:=by rw [hzz];unfold dayB;rw [decide_eq_false (fun h => h2 h.2)];rfl
      clear hzz
      go_wp2_with fail
      go_meet
      case rel => exact ⟨rfl,by go_simp,by omega,by exact bel⟩
    ·obtain rfl : z = false:=by rw [hzz];unfold dayB;rw [decide_eq_false (fun h => h1 h.1)];rfl
     clear hzz
     go_wp2_with fail
     go_meet
     case rel => exact ⟨rfl,by go_simp,by omega,by exact bel⟩
  ·have hzz : z = (b0 && (decide (nm.length = l.length) && namesB nm)):=by rw [HO.out];simp
   have HF:=Lib.hid (fun W hW => vnames_any nm (.slice A2 nm.length C2) W hW)
   generalize namesB nm = q at HF hzz
   cases b0 with
   | false =>
    obtain rfl : z = false:=hzz
    go_wp2_with fail
    go_meet
    case rel => exact ⟨rfl,by go_simp,by omega,by exact bel⟩
   | true =>
    by_cases h1 : nm.length = l.length
    ·rw [decide_eq_true h1] at hzz
     obtain rfl : z = q:=hzz
     have h1' : ((nm.length : Int) == (l.length : Int)) = true:=by rw [beq_iff_eq];omega
     have H1:=Lib.hid h1
     clear h1
     go_wp2_with (go_at_call 85;(with_reducible refine (HF.out _ (HN.out.below (by exact bel))).mono ?_);rintro _ w2 ⟨rfl,rfl⟩)
     go_meet
     case rel => exact ⟨rfl,by go_simp,by omega,by exact bel⟩
    ·rw [decide_eq_false h1] at hzz
     obtain rfl : z = false:=hzz
     have h1' : ((nm.length : Int) == (l.length : Int)) = false:=by rw [beq_eq_false_iff_ne];omega
     clear h1
     go_wp2_with fail
     go_meet
     case rel => exact ⟨rfl,by go_simp,by omega,by exact bel⟩
  ·obtain ⟨k0,k1,k5,k2,k3,k4,k6⟩:=hk
   obtain rfl : z = false:=by
    rw [HO.out,if_neg (by rintro (h | h | h);exact k0 h;exact k1 h;exact k5 h),if_neg k2,if_neg k3,if_neg k4,if_neg k6,Bool.and_false]
   have e0 : (kind == 0) = false:=by rw [beq_eq_false_iff_ne];exact k0
   have e1 : (kind == 1) = false:=by rw [beq_eq_false_iff_ne];exact k1
   have e5 : (kind == 5) = false:=by rw [beq_eq_false_iff_ne];exact k5
   have e2 : (kind == 2) = false:=by rw [beq_eq_false_iff_ne];exact k2
   have e3 : (kind == 3) = false:=by rw [beq_eq_false_iff_ne];exact k3
   have e4 : (kind == 4) = false:=by rw [beq_eq_false_iff_ne];exact k4
   have e6 : (kind == 6) = false:=by rw [beq_eq_false_iff_ne];exact k6
   clear k0 k1 k5 k2 k3 k4 k6
   go_wp2_with fail
   go_meet
   case rel => exact ⟨rfl,by go_simp,by omega,by exact bel⟩
 case rest =>
  obtain ⟨rfl,c8,hsz1,hbel1⟩:=hcut
  clear HO HB HX1 HX0 HC HTX HN HNL
  obtain ⟨w5,rfl⟩ : ∃ w5 : World,w5 = wc:=⟨_,rfl⟩
  go_wp2_with fail
  go_loopg [4,5,73] l.length (fun k s4 s5 s73 wr => ∃ (t n : Nat) (y : Bool),k + t = l.length ∧ s73 = .int .i64 t ∧ s5 = .int .i64 n ∧ s4 = .bool y ∧ Hid (n = deeps (l.take t)) ∧ n ≤ 1000000 ∧ Hid (y = (z && oks (l.take t))) ∧ w.heap.size < wr.heap.size ∧ Below w.heap.size w wr)
  case atStart => exact ⟨0,0,z,by omega,rfl,rfl,rfl,Lib.hid (by rw [List.take_zero];rfl),by omega,Lib.hid (by rw [List.take_zero];simp [oks]),by omega,by exact bel⟩
  case round =>
   obtain ⟨t,n,y,hk,rfl,rfl,rfl,HD,n2,HY,hsz,hbel⟩:=hrel
   have HK:=Lib.hid hk
   have htn : t ≤ l.length:=by omega
   clear hk c8 hbel1 hsz1
   by_cases hlt : t < l.length
   ·obtain ⟨b,o,B1,D1,B2,D2,rfl,hat,hx⟩:=(HV.out.below hbel (fun _ _ _ h => HR.out _ _ _ _ _ h hbel)).at hlt
    obtain ⟨a0,a1,a2,a3,a4,a5,a6,a7,a8,a9⟩:=hat.val
    have lb:=vcell_lt a0
    have hst:=deeps_take hlt
    have hso:=oks_take hlt
    have hs2:=vg_size hlt
    have hd:=deep_size (vg l t)
    have hle : deeps (l.take (t + 1)) ≤ sizes l:=Nat.le_trans (deeps_sizes _) (sizes_le (t + 1))
    have hsz9:=HSZ.out
    obtain ⟨x,hxx⟩ : ∃ x,x = vg l t:=⟨_,rfl⟩
    rw [← hxx] at hx a0 a1 a2 a3 a4 a5 a6 a7 a8 a9 hst hs2 hd hso
    obtain ⟨n1',hn1⟩ : ∃ n1',n1' = x.list.length:=⟨_,rfl⟩
    obtain ⟨n2',hn2⟩ : ∃ n2',n2' = x.names.length:=⟨_,rfl⟩
    rw [← hn1] at a8 hx
    rw [← hn2] at a9 hx
    have HX:=Lib.hid hx
    have HC:=Lib.hid (fun W hW hT => HH.out x (.slice B1 n1' D1) (.slice B2 n2' D2) W hT (by omega) (HR.out _ _ _ _ _ HX.out hW))
    obtain ⟨q,hq⟩ : ∃ q,q = x.deep:=⟨_,rfl⟩
    obtain ⟨v,hv⟩ : ∃ v,v = okV x:=⟨_,rfl⟩
    rw [← hq,← hv] at HC
    rw [← hq] at hst hd
    rw [← hv] at hso
    have hq2 : q ≤ 1000000:=by omega
    have HQ:=Lib.hid hst
    have HO:=Lib.hid hso
    clear hat hx hxx hn1 hn2 hst hd hs2 hq hle hv hso hsz9
    rcases Int.lt_or_le (n : Int) (q : Int) with hm | hm
    ·cases y with
     | false =>
      go_wp2_with (go_at_call 59;(with_reducible refine (HC.out _ (by exact bel) (tabs_below HT.out (by exact bel))).mono ?_);rintro _ w2 ⟨rfl,hb2⟩;have hb2s:=hb2.size;(try simp only [wsA,wsS,wsD,wsN] at hb2s);obtain ⟨hb2c,hb2f⟩:=bcell hb2;(try have : w.heap.size < w2.heap.size:=by omega);(try have : w.heap.size + 1 < w2.heap.size:=by omega);(try have : w.heap.size + 1 + 1 < w2.heap.size:=by omega);(try have : w.heap.size + 1 + 1 + 1 < w2.heap.size:=by omega))
      go_roundg (gk - 1)
      case measure => have:=HK.out;omega
      case rel => exact ⟨t + 1,q,false,by have:=HK.out;omega,by go_num,by (congr 1;omega),rfl,Lib.hid (by rw [HQ.out,← HD.out];omega),hq2,Lib.hid (by rw [HO.out,← Bool.and_assoc,← HY.out];rfl),by omega,by exact bel⟩
     | true =>
      go_wp2_with (go_at_call 59;(with_reducible refine (HC.out _ (by exact bel) (tabs_below HT.out (by exact bel))).mono ?_);rintro _ w2 ⟨rfl,hb2⟩;have hb2s:=hb2.size;(try simp only [wsA,wsS,wsD,wsN] at hb2s);obtain ⟨hb2c,hb2f⟩:=bcell hb2;(try have : w.heap.size < w2.heap.size:=by omega);(try have : w.heap.size + 1 < w2.heap.size:=by omega);(try have : w.heap.size + 1 + 1 < w2.heap.size:=by omega);(try have : w.heap.size + 1 + 1 + 1 < w2.heap.size:=by omega))
      go_roundg (gk - 1)
      case measure => have:=HK.out;omega
      case rel => exact ⟨t + 1,q,v,by have:=HK.out;omega,by go_num,by (congr 1;omega),rfl,Lib.hid (by rw [HQ.out,← HD.out];omega),hq2,Lib.hid (by rw [HO.out,← Bool.and_assoc,← HY.out];rfl),by omega,by exact bel⟩
    ·cases y with
     | false =>
      go_wp2_with (go_at_call 59;(with_reducible refine (HC.out _ (by exact bel) (tabs_below HT.out (by exact bel))).mono ?_);rintro _ w2 ⟨rfl,hb2⟩;have hb2s:=hb2.size;(try simp only [wsA,wsS,wsD,wsN] at hb2s);obtain ⟨hb2c,hb2f⟩:=bcell hb2;(try have : w.heap.size < w2.heap.size:=by omega);(try have : w.heap.size + 1 < w2.heap.size:=by omega);(try have : w.heap.size + 1 + 1 < w2.heap.size:=by omega);(try have : w.heap.size + 1 + 1 + 1 < w2.heap.size:=by omega))
      go_roundg (gk - 1)
      case measure => have:=HK.out;omega
      case rel => exact ⟨t + 1,n,false,by have:=HK.out;omega,by go_num,by (congr 1;omega),rfl,Lib.hid (by rw [HQ.out,← HD.out];omega),n2,Lib.hid (by rw [HO.out,← Bool.and_assoc,← HY.out];rfl),by omega,by exact bel⟩
     | true =>
      go_wp2_with (go_at_call 59;(with_reducible refine (HC.out _ (by exact bel) (tabs_below HT.out (by exact bel))).mono ?_);rintro _ w2 ⟨rfl,hb2⟩;have hb2s:=hb2.size;(try simp only [wsA,wsS,wsD,wsN] at hb2s);obtain ⟨hb2c,hb2f⟩:=bcell hb2;(try have : w.heap.size < w2.heap.size:=by omega);(try have : w.heap.size + 1 < w2.heap.size:=by omega);(try have : w.heap.size + 1 + 1 < w2.heap.size:=by omega);(try have : w.heap.size + 1 + 1 + 1 < w2.heap.size:=by omega))
      go_roundg (gk - 1)
      case measure => have:=HK.out;omega
      case rel => exact ⟨t + 1,n,v,by have:=HK.out;omega,by go_num,by (congr 1;omega),rfl,Lib.hid (by rw [HQ.out,← HD.out];omega),n2,Lib.hid (by rw [HO.out,← Bool.and_assoc,← HY.out];rfl),by omega,by exact bel⟩
   ·obtain rfl : t = l.length:=by omega
    have hz : n = deeps l:=by have:=HD.out;rwa [List.take_length] at this
    have hy : y = (z && oks l):=by have:=HY.out;rwa [List.take_length] at this
    have HZ1:=Lib.hid hz
    have HY1:=Lib.hid hy
    clear hz hy hlt
    go_wp2_with fail
    go_ret2
    exact ⟨by rw [← HZ1.out,← HY1.out];first | rfl | (congr 3;omega),by exact bel⟩
theorem shape_any : ∀ n,ShapeOf (VR n)
 | 0,_,_,_,_,_,_,h => h.elim
 | n + 1,x,L,N,w,hT,h1,h => by
  obtain ⟨A,C,rfl,_⟩:=h.2.1.is
  obtain ⟨A2,C2,rfl,_⟩:=h.2.2.is
  rw [VD.deep_eq,okV_eq]
  exact shape_step (VR n) (fun _ _ _ _ _ h hb => h.below hb) (shape_any n) x.s x.list x.names A C A2 C2 w h.1 hT (by rw [VD.size_eq] at h1;omega) h.2.1 h.2.2
end Go.Proofs.YtbnadlpkbbdgjaaGreatDoor



namespace Go.Proofs.YtbnadlpkbbdgjaaGreatDoor
open Go.RowKit

/-- the size in units of 10^-18 -/
def unit (c s : Nat) : Nat:=c * 10 ^ (18 - s)
theorem unit_split (c s m : Nat) (h : s ≤ m) (h18 : m ≤ 18) : unit c s = c * 10 ^ (m - s) * 10 ^ (18 - m):=by
 unfold unit
 rw [Nat.mul_assoc,← Nat.pow_add];congr 2;omega
theorem unit_lt {c s : Nat} (h : c < B34) : unit c s < 10 ^ 52:=by
 unfold unit
 have h1 : c * 10 ^ (18 - s) ≤ c * 10 ^ 18:=Nat.mul_le_mul_left _ (Nat.pow_le_pow_right (by decide) (by omega))
 have h2 : c * 10 ^ 18 < B34 * 10 ^ 18:=Nat.mul_lt_mul_of_pos_right h (by decide)
 have h3 : B34 * 10 ^ 18 = 10 ^ 52:=by unfold B34;decide
 omega
theorem scaled_lt {c s m : Nat} (h : c < B34) (hm : m ≤ 18) : c * 10 ^ (m - s) < 10 ^ 52:=by
 have h1 : c * 10 ^ (m - s) ≤ c * 10 ^ 18:=Nat.mul_le_mul_left _ (Nat.pow_le_pow_right (by decide) (by omega))
 have h2 : c * 10 ^ 18 < B34 * 10 ^ 18:=Nat.mul_lt_mul_of_pos_right h (by decide)
 have h3 : B34 * 10 ^ 18 = 10 ^ 52:=by unfold B34;decide
 omega
/-- the order -/
def ordD (an : Bool) (x : Nat) (bn : Bool) (y : Nat) : Int:=if an = bn then (if an = true then cmpN y x else cmpN x y) else if an = true then -1 else 1
theorem cmpN_scale (x y k : Nat) (hk : 0 < k) : cmpN (x * k) (y * k) = cmpN x y:=by
 unfold cmpN
 have e1 : x * k = y * k ↔ x = y:=Nat.mul_left_inj (Nat.ne_of_gt hk)
 have e2 : x * k < y * k ↔ x < y:=Nat.mul_lt_mul_right hk
 simp only [e1,e2]
theorem ordD_scale (an bn : Bool) (x y k : Nat) (hk : 0 < k) : ordD an (x * k) bn (y * k) = ordD an x bn y:=by
 unfold ordD;rw [cmpN_scale _ _ _ hk,cmpN_scale _ _ _ hk]
theorem ord_units (an bn : Bool) (ca cb sa sb m : Nat) (ha : sa ≤ m) (hb : sb ≤ m) (h : m ≤ 18) :
  ordD an (unit ca sa) bn (unit cb sb) = ordD an (ca * 10 ^ (m - sa)) bn (cb * 10 ^ (m - sb)):=by
 rw [unit_split ca sa m ha h,unit_split cb sb m hb h]
 exact ordD_scale _ _ _ _ _ (Nat.pow_pos (by decide))
end Go.Proofs.YtbnadlpkbbdgjaaGreatDoor



namespace Go.Proofs.YtbnadlpkbbdgjaaGreatDoor
open Go.RowKit

theorem IsDg.one : IsDg [1] 1:=⟨by intro d hd;rw [List.mem_singleton.1 hd];decide,by simp [Top],rfl⟩
end Go.Proofs.YtbnadlpkbbdgjaaGreatDoor



namespace Go.Proofs.YtbnadlpkbbdgjaaGreatDoor
open Go.RowKit

def Mem2 (w wx : World) (A : Option Addr) (n C : Nat) (A2 : Option Addr) (n2 C2 : Nat) : Prop:=wx.cell? ⟨w.heap.size,8,none⟩ = some (.slice A n C) ∧ wx.cell? ⟨w.heap.size,9,none⟩ = some (.slice A2 n2 C2) ∧ w.heap.size < wx.heap.size ∧ Below w.heap.size w wx
theorem Mem2.below {w wx w' : World} {A : Option Addr} {n C : Nat} {A2 : Option Addr} {n2 C2 : Nat} (h : Mem2 w wx A n C A2 n2 C2) (hb : Below wx.heap.size wx w') : Mem2 w w' A n C A2 n2 C2:=by
 obtain ⟨h1,h2,h3,h4⟩:=h
 exact ⟨(hb.cell (p:=⟨w.heap.size,8,none⟩) h3).trans h1,(hb.cell (p:=⟨w.heap.size,9,none⟩) h3).trans h2,Nat.lt_of_lt_of_le h3 hb.size,h4.trans (hb.mono (Nat.le_of_lt h3))⟩
theorem Mem2.drewN {w wx : World} {A : Option Addr} {n C : Nat} {A2 : Option Addr} {n2 C2 : Nat} (h : Mem2 w wx A n C A2 n2 C2) (k : Nat) : Mem2 w (wx.drewN k) A n C A2 n2 C2:=⟨h.1,h.2.1,h.2.2.1,below_drewN h.2.2.2 k⟩
end Go.Proofs.YtbnadlpkbbdgjaaGreatDoor



namespace Go.Proofs.YtbnadlpkbbdgjaaGreatDoor
open Go.RowKit

def chkV (d : VD) : Int:=if 1000 < d.size then 6 else if 16 < d.deep then 7 else if okV d then 0 else 2
/-- a value as it stands in a call -/
@[reducible] def vargs (d : VD) (A : Option Addr) (C : Nat) (A2 : Option Addr) (C2 : Nat) : Value:=vagg d.s (.slice A d.list.length C) (.slice A2 d.names.length C2)
def VA (w : World) (d : VD) (A : Option Addr) (C : Nat) (A2 : Option Addr) (C2 : Nat) : Prop:=RV w (.slice A d.list.length C) (.slice A2 d.names.length C2) d
theorem VA.below {w w' : World} {d : VD} {A : Option Addr} {C : Nat} {A2 : Option Addr} {C2 : Nat} (h : VA w d A C A2 C2) (hb : Below w.heap.size w w') : VA w' d A C A2 C2:=RV.below h hb
theorem cnt_gt {s : Nat} {m : Int} : m < cnt s m ↔ m < s:=by unfold cnt;split <;> omega
set_option maxRecDepth 100000 in
set_option maxHeartbeats 1000000 in
theorem vcheck_any (d : VD) (A : Option Addr) (C : Nat) (A2 : Option Addr) (C2 : Nat) (w : World) (hT : Tabs w) (h : VA w d A C A2 C2) :
  Calls Tryz.prog 39 #[vargs d A C A2 C2] w fun e w' => e = .returned (.int .i64 (chkV d)) ∧ Below w.heap.size w w':=by
 obtain ⟨n,hn⟩:=h
 have hc1:=fun (W : World) (hW : Below w.heap.size w W) => count_any n d (.slice A d.list.length C) (.slice A2 d.names.length C2) 1000 W (by omega) (by omega) (hn.below hW)
 have hc2:=fun (W : World) (hW : Below w.heap.size w W) (hz : d.size ≤ 1000000) => shape_any n d (.slice A d.list.length C) (.slice A2 d.names.length C2) W (tabs_below hT hW) hz (hn.below hW)
 obtain ⟨z,hz⟩ : ∃ z,z = chkV d:=⟨_,rfl⟩
 rw [← hz]
 unfold chkV at hz
 obtain ⟨S,hS⟩ : ∃ S,S = d.size:=⟨_,rfl⟩
 obtain ⟨D,hD⟩ : ∃ D,D = d.deep:=⟨_,rfl⟩
 obtain ⟨K,hK⟩ : ∃ K,K = okV d:=⟨_,rfl⟩
 rw [← hS,← hD,← hK] at hz
 rw [← hS] at hc1
 rw [← hS,← hD,← hK] at hc2
 have hcb:=cnt_le (s:=S) (m:=1000) (by omega) (by rw [hS];exact size_pos d)
 have hgt:=cnt_gt (s:=S) (m:=1000)
 obtain ⟨c,hc⟩ : ∃ c,c = cnt S 1000:=⟨_,rfl⟩
 rw [← hc] at hc1 hcb hgt
 obtain ⟨s,l,nm⟩:=d
 obtain ⟨kind,yes,neg,coef,sc,text,day⟩:=s
 unfold vargs vagg
 unfold vagg at hc1 hc2
 dsimp only [VD.s,VD.list,VD.names] at hc1 hc2 ⊢
 have H1:=Lib.hid hc1
 have H2:=Lib.hid hc2
 clear hc1 hc2 hn hS hD hK hT hc
 by_cases hb : (1000 : Int) < c
 ·obtain rfl : z = 6:=by rw [hz,if_pos (by have:=hgt.1 hb;omega)]
  clear hz hgt H2
  go_enter Tryz.func39,Tryz.ntmps39
  go_wp2_with ((go_at_call 58;with_reducible refine (H1.out _ (by exact bel)).mono ?_);rintro _ w1 ⟨rfl,hb1⟩;have hb1s:=hb1.size;(try simp only [wsA,wsS,wsD,wsN] at hb1s);obtain ⟨hb1c,hb1f⟩:=bcell hb1;(try have : w.heap.size < w1.heap.size:=by omega);(try have : w.heap.size + 1 < w1.heap.size:=by omega);(try have : w.heap.size + 1 + 1 < w1.heap.size:=by omega);(try have : w.heap.size + 1 + 1 + 1 < w1.heap.size:=by omega))
  go_ret
  exact ⟨rfl,by exact bel⟩
 ·have hs : ¬ 1000 < S:=fun h => hb (hgt.2 (by omega))
  rw [if_neg hs] at hz
  have H3:=Lib.hid (fun W hW => H2.out W hW (by omega))
  clear H2 hgt hs
  by_cases hd : 16 < D
  ·obtain rfl : z = 7:=by rw [hz,if_pos hd]
   have hd' : (16 : Int) < (D : Int):=by omega
   clear hz
   go_enter Tryz.func39,Tryz.ntmps39
   go_wp2_with (first | ((go_at_call 58;with_reducible refine (H1.out _ (by exact bel)).mono ?_);rintro _ w1 ⟨rfl,hb1⟩;have hb1s:=hb1.size;(try simp only [wsA,wsS,wsD,wsN] at hb1s);obtain ⟨hb1c,hb1f⟩:=bcell hb1;(try have : w.heap.size < w1.heap.size:=by omega);(try have : w.heap.size + 1 < w1.heap.size:=by omega);(try have : w.heap.size + 1 + 1 < w1.heap.size:=by omega);(try have : w.heap.size + 1 + 1 + 1 < w1.heap.size:=by omega)) | ((go_at_call 59;with_reducible refine (H3.out _ (by exact bel)).mono ?_);rintro _ w2 ⟨rfl,hb2⟩;have hb2s:=hb2.size;(try simp only [wsA,wsS,wsD,wsN] at hb2s);obtain ⟨hb2c,hb2f⟩:=bcell hb2;(try have : w.heap.size < w2.heap.size:=by omega);(try have : w.heap.size + 1 < w2.heap.size:=by omega);(try have : w.heap.size + 1 + 1 < w2.heap.size:=by omega);(try have : w.heap.size + 1 + 1 + 1 < w2.heap.size:=by omega);(try have : w1.heap.size < w2.heap.size:=by omega);(try have : w1.heap.size + 1 < w2.heap.size:=by omega);(try have : w1.heap.size + 1 + 1 < w2.heap.size:=by omega);(try have : w1.heap.size + 1 + 1 + 1 < w2.heap.size:=by omega)))
   go_ret
   exact ⟨rfl,by exact bel⟩
  ·rw [if_neg hd] at hz
   have hd' : ¬ (16 : Int) < (D : Int):=by omega
   cases K with
   | true =>
    obtain rfl : z = 0:=hz
    go_enter Tryz.func39,Tryz.ntmps39
    go_wp2_with (first | ((go_at_call 58;with_reducible refine (H1.out _ (by exact bel)).mono ?_);rintro _ w1 ⟨rfl,hb1⟩;have hb1s:=hb1.size;(try simp only [wsA,wsS,wsD,wsN] at hb1s);obtain ⟨hb1c,hb1f⟩:=bcell hb1;(try have : w.heap.size < w1.heap.size:=by omega);(try have : w.heap.size + 1 < w1.heap.size:=by omega);(try have : w.heap.size + 1 + 1 < w1.heap.size:=by omega);(try have : w.heap.size + 1 + 1 + 1 < w1.heap.size:=by omega)) | ((go_at_call 59;with_reducible refine (H3.out _ (by exact bel)).mono ?_);rintro _ w2 ⟨rfl,hb2⟩;have hb2s:=hb2.size;(try simp only [wsA,wsS,wsD,wsN] at hb2s);obtain ⟨hb2c,hb2f⟩:=bcell hb2;(try have : w.heap.size < w2.heap.size:=by omega);(try have : w.heap.size + 1 < w2.heap.size:=by omega);(try have : w.heap.size + 1 + 1 < w2.heap.size:=by omega);(try have : w.heap.size + 1 + 1 + 1 < w2.heap.size:=by omega);(try have : w1.heap.size < w2.heap.size:=by omega);(try have : w1.heap.size + 1 < w2.heap.size:=by omega);(try have : w1.heap.size + 1 + 1 < w2.heap.size:=by omega);(try have : w1.heap.size + 1 + 1 + 1 < w2.heap.size:=by omega)))
    go_ret
    exact ⟨rfl,by exact bel⟩
   | false =>
    obtain rfl : z = 2:=hz
    go_enter Tryz.func39,Tryz.ntmps39
    go_wp2_with (first | ((go_at_call 58;with_reducible refine (H1.out _ (by exact bel)).mono ?_);rintro _ w1 ⟨rfl,hb1⟩;have hb1s:=hb1.size;(try simp only [wsA,wsS,wsD,wsN] at hb1s);obtain ⟨hb1c,hb1f⟩:=bcell hb1;(try have : w.heap.size < w1.heap.size:=by omega);(try have : w.heap.size + 1 < w1.heap.size:=by omega);(try have : w.heap.size + 1 + 1 < w1.heap.size:=by omega);(try have : w.heap.size + 1 + 1 + 1 < w1.heap.size:=by omega)) | ((go_at_call 59;with_reducible refine (H3.out _ (by exact bel)).mono ?_);rintro _ w2 ⟨rfl,hb2⟩;have hb2s:=hb2.size;(try simp only [wsA,wsS,wsD,wsN] at hb2s);obtain ⟨hb2c,hb2f⟩:=bcell hb2;(try have : w.heap.size < w2.heap.size:=by omega);(try have : w.heap.size + 1 < w2.heap.size:=by omega);(try have : w.heap.size + 1 + 1 < w2.heap.size:=by omega);(try have : w.heap.size + 1 + 1 + 1 < w2.heap.size:=by omega);(try have : w1.heap.size < w2.heap.size:=by omega);(try have : w1.heap.size + 1 < w2.heap.size:=by omega);(try have : w1.heap.size + 1 + 1 < w2.heap.size:=by omega);(try have : w1.heap.size + 1 + 1 + 1 < w2.heap.size:=by omega)))
    go_ret
    exact ⟨rfl,by exact bel⟩
end Go.Proofs.YtbnadlpkbbdgjaaGreatDoor



namespace Go.Proofs.YtbnadlpkbbdgjaaGreatDoor
open Go.RowKit
open Go.ChangeShapes Go.WideShapes Go.ChangeAt
open Go.ChangeMaps (open_string shut_string)

theorem own : ownKnob Tryz.prog.godebug = none:=by kernel_rfl
section
variable {H : Type} {enc : TypeId × Value → H} {W : World} {b0 : Nat} {sp : Nat → Bool} {held : Bool}
/-- how deep: one depth for all of a list -/
theorem RV.mk {d : VD} {A : Option Addr} {C : Nat} {A2 : Option Addr} {C2 : Nat} (h1 : d.s.ok) (h2 : Vls (RV W) W (.slice A d.list.length C) d.list) (h3 : Nms W (.slice A2 d.names.length C2) d.names) : RV W (.slice A d.list.length C) (.slice A2 d.names.length C2) d:=by
 have up : ∀ (n : Nat) (k : Nat) (L N : Value) (x : VD),VR n W L N x → VR (n + k) W L N x:=fun n => by
  induction n with
  | zero => intro k L N x h;exact h.elim
  | succ n ih =>
   intro k L N x h
   rw [show n + 1 + k = (n + k) + 1 by omega]
   exact ⟨h.1,h.2.1.imp (fun _ _ _ q => ih k _ _ _ q),h.2.2⟩
 obtain ⟨A',C',e,hc,hr⟩:=h2
 have hall : ∃ m,∀ r,r < d.list.length → ∃ b o A1 C1 A2 C2,A' = some ⟨b,o,none⟩ ∧ At W b (o + r * 10) ((vg d.list r).s.cs ++ [.slice A1 (vg d.list r).list.length C1,.slice A2 (vg d.list r).names.length C2]) ∧ VR m W (.slice A1 (vg d.list r).list.length C1) (.slice A2 (vg d.list r).names.length C2) (vg d.list r):=by
  have key : ∀ n,n ≤ d.list.length → ∃ m,∀ r,r < n → ∃ b o A1 C1 A2 C2,A' = some ⟨b,o,none⟩ ∧ At W b (o + r * 10) ((vg d.list r).s.cs ++ [.slice A1 (vg d.list r).list.length C1,.slice A2 (vg d.list r).names.length C2]) ∧ VR m W (.slice A1 (vg d.list r).list.length C1) (.slice A2 (vg d.list r).names.length C2) (vg d.list r):=fun n => by
   induction n with
   | zero => intro _;exact ⟨0,fun r hr => absurd hr (Nat.not_lt_zero _)⟩
   | succ n ih =>
    intro hn
    obtain ⟨m,hm⟩:=ih (by omega)
    obtain ⟨b,o,A1,C1,A2,C2,q1,q2,m2,q3⟩:=hr n (by omega)
    refine ⟨m + m2,fun r hr => ?_⟩
    rcases Nat.lt_or_ge r n with h' | h'
    ·obtain ⟨b',o',A1',C1',A2',C2',p1,p2,p3⟩:=hm r h'
     exact ⟨b',o',A1',C1',A2',C2',p1,p2,up m m2 _ _ _ p3⟩
    ·obtain rfl : r = n:=by omega
     exact ⟨b,o,A1,C1,A2,C2,q1,q2,by rw [Nat.add_comm];exact up m2 m _ _ _ q3⟩
  exact key _ (Nat.le_refl _)
 obtain ⟨m,hm⟩:=hall
 exact ⟨m + 1,h1,⟨A',C',e,hc,hm⟩,h3⟩
end
end Go.Proofs.YtbnadlpkbbdgjaaGreatDoor



namespace Go.Proofs.YtbnadlpkbbdgjaaGreatDoor
open Go.RowKit

def ferr (x : Bool) : Int:=if x = true then 0 else 2
set_option maxHeartbeats 4000000 in
theorem formed_one (b : Bool) (c : Nat) (s : Int) (hc : c < 2 ^ 128) (g : Nat) (w : World) (hg : Bk w g 27 [.bool b,.int .u64 (wd (c) 1),.int .u64 (wd (c) 0),.int .i64 s]) :
  Calls Tryz.prog 47 #[.slice (some ⟨g,0,none⟩) 1 1] w fun e w' => e = .returned (.int .i64 (ferr (dform b c s))) ∧ Below w.heap.size w w':=by
 have HF:=Lib.hid (fun W => form_any b c s hc W)
 obtain ⟨v,hv⟩ : ∃ v,v = dform b c s:=⟨_,rfl⟩
 rw [← hv] at HF
 rw [← hv]
 generalize wd c 0 = x0 at *
 generalize wd c 1 = x1 at *
 have HG:=Lib.hid hg
 have hgl:=hg.lt
 clear hc hv hg
 go_enter Tryz.func47,Tryz.ntmps47
 go_wp2_with fail
 go_loopg [7] 1 (fun k i wr => ∃ t : Nat,k + t = 1 ∧ i = .int .i64 t ∧ (t = 0 ∨ v = true) ∧ Below w.heap.size w wr)
 case atStart => exact ⟨0,rfl,rfl,.inl rfl,by exact bel⟩
 case round =>
  obtain ⟨t,hk,rfl,hv,hbel⟩:=hrel
  have HK:=Lib.hid hk
  have hbs:=hbel.size
  have hc : t = 0 ∨ t = 1:=by omega
  clear hk
  rcases hc with rfl | rfl
  ·have bg:=HG.out.below hbel hgl
   have d0:=bg.cell 0 rfl
   have d1:=bg.cell 1 rfl
   have d2:=bg.cell 2 rfl
   have d3:=bg.cell 3 rfl
   clear bg hv
   cases v
   ·go_wp2_with ((go_at_call 70;with_reducible refine (HF.out _).mono ?_);rintro _ w1 ⟨rfl,hb1⟩;have hb1s:=hb1.size;(try simp only [wsA,wsS,wsD,wsN] at hb1s);obtain ⟨hb1c,hb1f⟩:=bcell hb1;(try have : w.heap.size < w1.heap.size:=by omega);(try have : w.heap.size + 1 < w1.heap.size:=by omega);(try have : w.heap.size + 1 + 1 < w1.heap.size:=by omega);(try have : w.heap.size + 1 + 1 + 1 < w1.heap.size:=by omega))
    go_ret
    exact ⟨rfl,by exact bel⟩
   ·go_wp2_with ((go_at_call 70;with_reducible refine (HF.out _).mono ?_);rintro _ w1 ⟨rfl,hb1⟩;have hb1s:=hb1.size;(try simp only [wsA,wsS,wsD,wsN] at hb1s);obtain ⟨hb1c,hb1f⟩:=bcell hb1;(try have : w.heap.size < w1.heap.size:=by omega);(try have : w.heap.size + 1 < w1.heap.size:=by omega);(try have : w.heap.size + 1 + 1 < w1.heap.size:=by omega);(try have : w.heap.size + 1 + 1 + 1 < w1.heap.size:=by omega))
    go_roundg 0
    case measure => have:=HK.out;omega
    case rel => exact ⟨1,rfl,rfl,.inr (by simp),by exact bel⟩
  ·obtain rfl : v = true:=by simpa using hv
   clear hv
   go_wp2_with fail
   go_ret
   exact ⟨rfl,by exact bel⟩
set_option maxHeartbeats 4000000 in
theorem formed_two (b : Bool) (c : Nat) (s : Int) (hc : c < 2 ^ 128) (b' : Bool) (c' : Nat) (s' : Int) (hc' : c' < 2 ^ 128) (g : Nat) (w : World) (hg : Bk w g 27 [.bool b,.int .u64 (wd c 1),.int .u64 (wd c 0),.int .i64 s,.bool b',.int .u64 (wd c' 1),.int .u64 (wd c' 0),.int .i64 s']) :
  Calls Tryz.prog 47 #[.slice (some ⟨g,0,none⟩) 2 2] w fun e w' => e = .returned (.int .i64 (ferr (dform b c s && dform b' c' s'))) ∧ Below w.heap.size w w':=by
 have HF:=Lib.hid (fun W => form_any b c s hc W)
 have HF':=Lib.hid (fun W => form_any b' c' s' hc' W)
 obtain ⟨v,hv⟩ : ∃ v,v = dform b c s:=⟨_,rfl⟩
 obtain ⟨v',hv'⟩ : ∃ v',v' = dform b' c' s':=⟨_,rfl⟩
 rw [← hv] at HF
 rw [← hv'] at HF'
 rw [← hv,← hv']
 generalize wd c 0 = x0 at *
 generalize wd c 1 = x1 at *
 generalize wd c' 0 = y0 at *
 generalize wd c' 1 = y1 at *
 have HG:=Lib.hid hg
 have hgl:=hg.lt
 clear hc hv hg hc' hv'
 go_enter Tryz.func47,Tryz.ntmps47
 go_wp2_with fail
 go_loopg [7] 2 (fun k i wr => ∃ t : Nat,k + t = 2 ∧ i = .int .i64 t ∧ (t = 0 ∨ v = true) ∧ (t ≤ 1 ∨ v' = true) ∧ Below w.heap.size w wr)
 case atStart => exact ⟨0,rfl,rfl,.inl rfl,.inl (by decide),by exact bel⟩
 case round =>
  obtain ⟨t,hk,rfl,hv,hv',hbel⟩:=hrel
  have HK:=Lib.hid hk
  have hbs:=hbel.size
  have hc : t = 0 ∨ t = 1 ∨ t = 2:=by omega
  have bg:=HG.out.below hbel hgl
  clear hk
  rcases hc with rfl | rfl | rfl
  ·have d0:=bg.cell 0 rfl
   have d1:=bg.cell 1 rfl
   have d2:=bg.cell 2 rfl
   have d3:=bg.cell 3 rfl
   clear bg hv hv'
   cases v
   ·go_wp2_with ((go_at_call 70;with_reducible refine (HF.out _).mono ?_);rintro _ w1 ⟨rfl,hb1⟩;have hb1s:=hb1.size;(try simp only [wsA,wsS,wsD,wsN] at hb1s);obtain ⟨hb1c,hb1f⟩:=bcell hb1;(try have : w.heap.size < w1.heap.size:=by omega);(try have : w.heap.size + 1 < w1.heap.size:=by omega);(try have : w.heap.size + 1 + 1 < w1.heap.size:=by omega);(try have : w.heap.size + 1 + 1 + 1 < w1.heap.size:=by omega))
    go_ret
    exact ⟨rfl,by exact bel⟩
   ·go_wp2_with ((go_at_call 70;with_reducible refine (HF.out _).mono ?_);rintro _ w1 ⟨rfl,hb1⟩;have hb1s:=hb1.size;(try simp only [wsA,wsS,wsD,wsN] at hb1s);obtain ⟨hb1c,hb1f⟩:=bcell hb1;(try have : w.heap.size < w1.heap.size:=by omega);(try have : w.heap.size + 1 < w1.heap.size:=by omega);(try have : w.heap.size + 1 + 1 < w1.heap.size:=by omega);(try have : w.heap.size + 1 + 1 + 1 < w1.heap.size:=by omega))
    go_roundg 1
    case measure => have:=HK.out;omega
    case rel => exact ⟨1,rfl,rfl,.inr (by simp),.inl (Nat.le_refl _),by exact bel⟩
  ·obtain rfl : v = true:=by simpa using hv
   have d0:=bg.cell 4 rfl
   have d1:=bg.cell 5 rfl
   have d2:=bg.cell 6 rfl
   have d3:=bg.cell 7 rfl
   clear bg hv hv' HF
   cases v'
   ·go_wp2_with ((go_at_call 70;with_reducible refine (HF'.out _).mono ?_);rintro _ w1 ⟨rfl,hb1⟩;have hb1s:=hb1.size;(try simp only [wsA,wsS,wsD,wsN] at hb1s);obtain ⟨hb1c,hb1f⟩:=bcell hb1;(try have : w.heap.size < w1.heap.size:=by omega);(try have : w.heap.size + 1 < w1.heap.size:=by omega);(try have : w.heap.size + 1 + 1 < w1.heap.size:=by omega);(try have : w.heap.size + 1 + 1 + 1 < w1.heap.size:=by omega))
    go_ret
    exact ⟨rfl,by exact bel⟩
   ·go_wp2_with ((go_at_call 70;with_reducible refine (HF'.out _).mono ?_);rintro _ w1 ⟨rfl,hb1⟩;have hb1s:=hb1.size;(try simp only [wsA,wsS,wsD,wsN] at hb1s);obtain ⟨hb1c,hb1f⟩:=bcell hb1;(try have : w.heap.size < w1.heap.size:=by omega);(try have : w.heap.size + 1 < w1.heap.size:=by omega);(try have : w.heap.size + 1 + 1 < w1.heap.size:=by omega);(try have : w.heap.size + 1 + 1 + 1 < w1.heap.size:=by omega))
    go_roundg 0
    case measure => have:=HK.out;omega
    case rel => exact ⟨2,rfl,rfl,.inr (by simp),.inr (by simp),by exact bel⟩
  ·obtain rfl : v = true:=by simpa using hv
   obtain rfl : v' = true:=by simpa using hv'
   clear hv hv' bg
   go_wp2_with fail
   go_ret
   exact ⟨rfl,by exact bel⟩
end Go.Proofs.YtbnadlpkbbdgjaaGreatDoor



namespace Go.Proofs.YtbnadlpkbbdgjaaGreatDoor
open Go.RowKit

theorem ten_step (x c : Int) (hx0 : 0 ≤ x) (hx : x < 18446744073709551616) (hc0 : 0 ≤ c) (hc : c < 18446744073709551616) :
  ∃ h l s k : Int,Hid (∀ w : World,Calls Tryz.prog 108 #[.int .u64 x,.int .u64 10] w fun e w' => e = .returned (.tuple #[.int .u64 h,.int .u64 l]) ∧ ∃ nn,w' = w.drewN nn) ∧
   (∀ W : World,(callFunc 109 #[.int .u64 l,.int .u64 c,.int .u64 0]).run Tryz.prog W = .ok (.value (.tuple #[.int .u64 s,.int .u64 k])) W) ∧
   Hid (s + 18446744073709551616 * (h + k) = x * 10 + c) ∧ 0 ≤ h ∧ 0 ≤ k ∧ 0 ≤ s ∧ s < 18446744073709551616 ∧ h + k < 18446744073709551616:=by
 obtain ⟨h,l,f,H⟩:=mul64_ex x 10 hx0 hx (by decide) (by decide)
 unfold Two at H
 obtain ⟨s,k,g,K⟩:=add64_ex l c 0 (by omega) (by omega) hc0 hc (by decide) (by decide)
 unfold Carry at K
 exact ⟨h,l,s,k,f,g,by show s + 18446744073709551616 * (h + k) = x * 10 + c;omega,by omega,by omega,by omega,by omega,by omega⟩
set_option maxHeartbeats 4000000 in
theorem times_any4 (c k : Nat) (hc : c < 2 ^ 128) (hk : k ≤ 1000) (h : c * 10 ^ k < 2 ^ 256) (w : World) : Calls Tryz.prog 71 #[.agg #[.int .u64 (wd c 1),.int .u64 (wd c 0)],.int .i64 k] w fun e w' => e = .returned (.agg #[.int .u64 (wd (c * 10 ^ k) 0),.int .u64 (wd (c * 10 ^ k) 1),.int .u64 (wd (c * 10 ^ k) 2),.int .u64 (wd (c * 10 ^ k) 3)]) ∧ Below w.heap.size w w':=by
 have HL:=Lib.hid (fun W => long_any c hc W)
 have H:=Far.mk h
 have k0 : (0 : Int) ≤ (k : Int):=by omega
 have k1 : (k : Int) ≤ 1000:=by omega
 obtain ⟨z,hz⟩ : ∃ z,z = c * 10 ^ k:=⟨_,rfl⟩
 rw [← hz]
 have HZ:=Far.mk hz
 clear hc h hz
 obtain ⟨x1,hx1⟩ : ∃ x1,x1 = wd c 1:=⟨_,rfl⟩
 obtain ⟨x0,hx0⟩ : ∃ x0,x0 = wd c 0:=⟨_,rfl⟩
 rw [← hx1,← hx0]
 rw [← hx1,← hx0] at HL
 have X1:=Lib.hid hx1
 have X0:=Lib.hid hx0
 clear hx1 hx0
 go_enter Tryz.func71,Tryz.ntmps71
 go_wp2_with fail
 refine (HL.out _).mono ?_
 rw [X1.out,X0.out]
 rintro _ w1 ⟨rfl,hb1⟩;have hb1s:=hb1.size;(try simp only [wsA,wsS,wsD,wsN] at hb1s);obtain ⟨hb1c,hb1f⟩:=bcell hb1;(try have : w.heap.size < w1.heap.size:=by omega);(try have : w.heap.size + 1 < w1.heap.size:=by omega);(try have : w.heap.size + 1 + 1 < w1.heap.size:=by omega);(try have : w.heap.size + 1 + 1 + 1 < w1.heap.size:=by omega)
 go_wp2_with fail
 go_loopg [14] k (fun kk i wr => ∃ t : Nat,kk + t = k ∧ i = .int .i64 t ∧ Bk wr w1.heap.size 80 (lcells (c * 10 ^ t)) ∧ Bk wr (w.heap.size + 1) 80 [.int .u64 0,.int .u64 0,.int .u64 0,.int .u64 0] ∧ w1.heap.size < wr.heap.size ∧ Below w.heap.size w wr)
 case atStart =>
  refine ⟨0,by omega,rfl, ?_,by exact bkk,by go_size,by exact bel⟩
  rw [Nat.pow_zero,Nat.mul_one,lcells_eq]
  exact bkk
 case round =>
  obtain ⟨t,hn,rfl,b1,b0,hsz,hbel⟩:=hrel
  have HK:=Lib.hid hn
  have HB1:=Lib.hid b1
  have HB0:=Lib.hid b0
  have ht : t ≤ k:=by omega
  clear hn b1 b0
  by_cases hlt : t < k
  ·have hM : c * 10 ^ t * 10 < 2 ^ 256:=by
    have h1:=H.out
    have h2 : c * 10 ^ t * 10 ≤ c * 10 ^ k:=by
     rw [Nat.mul_assoc,← Nat.pow_succ]
     exact Nat.mul_le_mul_left _ (Nat.pow_le_pow_right (by decide) hlt)
    omega
   obtain ⟨M,eM⟩ : ∃ M,M = c * 10 ^ t:=⟨_,rfl⟩
   rw [← eM] at hM HB1
   have EM:=Far.mk eM
   have HM:=Far.mk hM
   have HM0 : Far (M < 2 ^ 256):=Far.mk (by omega)
   have tlt : (t : Int) < (k : Int):=by omega
   clear eM hM
   go_wp2_with fail
   obtain ⟨wo,hwo⟩ : ∃ wo : World,wo = wr:=⟨_,rfl⟩
   obtain ⟨go,hgo⟩ : ∃ go : Nat,go = gk:=⟨_,rfl⟩
   rw [← hgo] at HK
   have HGO:=Lib.hid hgo
   clear hwo hgo
   go_loopg [6,16] 4 (fun kk cv j wr => ∃ (s : Nat) (cc : Int) (V : Nat),kk + s = 4 ∧ j = .int .i64 s ∧ cv = .int .u64 cc ∧ 0 ≤ cc ∧ cc < 18446744073709551616 ∧ Far (V < 2 ^ 256) ∧ Far ((V : Int) + cc * ((2 ^ (64 * s) : Nat) : Int) = M + 9 * ((M % 2 ^ (64 * s) : Nat) : Int)) ∧ Hid (∀ i,s ≤ i → i < 4 → wd V i = wd M i) ∧
    Bk wr w1.heap.size 80 (lcells V) ∧ Bk wr (w.heap.size + 1) 80 [.int .u64 0,.int .u64 0,.int .u64 0,.int .u64 0] ∧ w1.heap.size < wr.heap.size ∧ Below w.heap.size w wr)
   case atStart =>
    refine ⟨0,0,M,rfl,rfl,rfl,by decide,by decide,HM0,Far.mk ?_,Lib.hid (fun i _ _ => rfl),HB1.out,HB0.out,hsz,hbel⟩
    rw [Nat.mul_zero,Nat.pow_zero,Nat.mod_one];simp
   case round =>
    obtain ⟨s,cc,V,hk2,rfl,rfl,c0,c1,hV,hE,hU,b1,b0,hsz,hbel⟩:=hrel
    have HK2:=Lib.hid hk2
    have HB1:=Lib.hid b1
    have HB0:=Lib.hid b0
    have s4 : s ≤ 4:=by omega
    clear hk2 b1 b0
    by_cases hls : s < 4
    ·have s0' : (0 : Int) ≤ (s : Int):=by omega
     have s3' : (s : Int) < 4:=by omega
     have d0 : wr.cell? ⟨w1.heap.size,s,none⟩ = some (.int .u64 (wd V s)):=HB1.out.cell s (lcells_at V s hls)
     have f0:=HB1.out.frozen s
     obtain ⟨h,l,u,q,f,g,HS,h0,q0,u0,u1,hq⟩:=ten_step (wd V s) cc (wd_nn V s) (wd_lt V s) c0 c1
     obtain ⟨V',v1,v2,v3,v4,v5⟩:=lcells_set V s hls hV.out u u0 u1
     have HNEW:=Far.mk (ten_word hE.out rfl (hU.out s (Nat.le_refl _) hls) v2 HS.out)
     have HV':=Far.mk v1
     have HL:=Lib.hid v3
     have HU' : Hid (∀ i,s + 1 ≤ i → i < 4 → wd V' i = wd M i):=Lib.hid (fun i hi h4 => by rw [v4 i h4 (by omega)];exact hU.out i (by omega) h4)
     have hq0 : 0 ≤ h + q:=by omega
     clear v1 v2 v3 v4 v5 hE hV hU HS
     generalize wd V s = x at *
     go_wp2_with ((go_at_call 108;with_reducible refine (f.out _).mono ?_);rintro _ _ ⟨rfl,nn,rfl⟩)
     go_roundg (gk - 1)
     case measure => have:=HK2.out;omega
     case rel =>
      have b0:=HB0.out
      have b1:=HB1.out
      refine ⟨s + 1,h + q,V',by have:=HK2.out;omega,by go_num,rfl,hq0,hq,HV',HNEW,HU', ?_,by exact bkk,by go_size,by exact bel⟩
      rw [← HL.out]
      exact (b1.drewN _).set_ _ _
    ·obtain rfl : s = 4:=by omega
     have e:=ten_end hV.out HM.out c0 hE.out
     subst e
     clear hV hE
     go_wp2_with fail
     go_roundg (go - 1)
     case measure => have:=HK.out;have:=HGO.out;omega
     case rel =>
      refine ⟨t + 1,by have:=HK.out;omega,by go_num, ?_,HB0.out,hsz,hbel⟩
      rw [Nat.pow_succ,← Nat.mul_assoc,← EM.out]
      exact HB1.out
  ·obtain rfl : t = k:=by omega
   have b1:=HB1.out
   rw [← HZ.out,lcells_eq] at b1
   have b0:=HB0.out
   have d0:=b1.cell 0 rfl
   have d1:=b1.cell 1 rfl
   have d2:=b1.cell 2 rfl
   have d3:=b1.cell 3 rfl
   have e0:=b0.cell 0 rfl
   have e1:=b0.cell 1 rfl
   have e2:=b0.cell 2 rfl
   have e3:=b0.cell 3 rfl
   have g0:=b0.frozen 0
   have g1:=b0.frozen 1
   have g2:=b0.frozen 2
   have g3:=b0.frozen 3
   clear b0 b1
   go_wp2_with fail
   refine bodyPost_ret (by simp [results,Tryz.results71,go_sem, *];try rfl) rfl ?_
   exact ⟨rfl,by exact bel⟩
end Go.Proofs.YtbnadlpkbbdgjaaGreatDoor



namespace Go.Proofs.YtbnadlpkbbdgjaaGreatDoor
open Go.RowKit

set_option maxHeartbeats 2000000 in
theorem turned_any (b : Bool) (c : Nat) (s : Int) (hc : c < 2 ^ 128) (w : World) : Calls Tryz.prog 102 #[.agg #[.bool b,.int .u64 (wd (c) 1),.int .u64 (wd (c) 0),.int .i64 s]] w fun e w' => e = .returned (.agg #[.bool (sg (!b) c),.int .u64 (wd (c) 1),.int .u64 (wd (c) 0),.int .i64 s]) ∧ Below w.heap.size w w':=by
 have HZ:=Lib.hid (fun W => zero_any b c s hc W)
 obtain ⟨z,hz⟩ : ∃ z,z = decide (c = 0):=⟨_,rfl⟩
 obtain ⟨r,hr⟩ : ∃ r,r = sg (!b) c:=⟨_,rfl⟩
 have HR:=Lib.hid (show r = (!b && !z) by rw [hr,hz];unfold sg;simp)
 rw [← hz] at HZ
 rw [← hr]
 generalize wd c 0 = x0 at *
 generalize wd c 1 = x1 at *
 clear hc hz hr
 cases b
 ·go_enter Tryz.func102,Tryz.ntmps102
  go_wp2_with fail
  refine (HZ.out _).mono ?_
  rintro _ w1 ⟨rfl,hb1⟩;have hb1s:=hb1.size;(try simp only [wsA,wsS,wsD,wsN] at hb1s);obtain ⟨hb1c,hb1f⟩:=bcell hb1;(try have : w.heap.size < w1.heap.size:=by omega);(try have : w.heap.size + 1 < w1.heap.size:=by omega);(try have : w.heap.size + 1 + 1 < w1.heap.size:=by omega);(try have : w.heap.size + 1 + 1 + 1 < w1.heap.size:=by omega)
  have k : Bk w1 (w.heap.size) 27 [.bool false,.int .u64 x1,.int .u64 x0,.int .i64 s]:=by exact bkk
  have k_0:=k.cell 0 rfl
  have k_1:=k.cell 1 rfl
  have k_2:=k.cell 2 rfl
  have k_3:=k.cell 3 rfl
  have k_4:=k.frozen 0
  have k_5:=k.frozen 1
  have k_6:=k.frozen 2
  have k_7:=k.frozen 3
  have kl:=k.lt
  have r0 : Bk w1 (w.heap.size + 1) 27 [.bool false,.int .u64 0,.int .u64 0,.int .i64 0]:=by exact bkk
  have r0_0:=r0.cell 0 rfl
  have r0_1:=r0.cell 1 rfl
  have r0_2:=r0.cell 2 rfl
  have r0_3:=r0.cell 3 rfl
  have r0_4:=r0.frozen 0
  have r0_5:=r0.frozen 1
  have r0_6:=r0.frozen 2
  have r0_7:=r0.frozen 3
  have r0l:=r0.lt
  clear hb1c hb1f k r0
  go_wp2_with fail
  refine bodyPost_ret (by simp [results,Tryz.results102,go_sem, *];try rfl) rfl ?_
  exact ⟨by rw [HR.out];rfl,by exact bel⟩
 ·go_enter Tryz.func102,Tryz.ntmps102
  go_wp2_with fail
  refine bodyPost_ret (by simp [results,Tryz.results102,go_sem, *];try rfl) rfl ?_
  exact ⟨by rw [HR.out];rfl,by exact bel⟩
theorem times_sub (c m s : Nat) (hc : c < B34) (h : s ≤ m) (hm : m ≤ 18) (W : World) : Calls Tryz.prog 71 #[.agg #[.int .u64 (wd c 1),.int .u64 (wd c 0)],.int .i64 ((m : Int) - (s : Int))] W fun e w' => e = .returned (.agg #[.int .u64 (wd (c * 10 ^ (m - s)) 0),.int .u64 (wd (c * 10 ^ (m - s)) 1),.int .u64 (wd (c * 10 ^ (m - s)) 2),.int .u64 (wd (c * 10 ^ (m - s)) 3)]) ∧ Below W.heap.size W w':=by
 rw [show (m : Int) - (s : Int) = ((m - s : Nat) : Int) by omega]
 exact times_any4 c (m - s) (Nat.lt_trans hc B34_lt) (by omega) (Nat.lt_trans (scaled_lt hc hm) (by decide)) W
set_option maxHeartbeats 4000000 in
theorem both_any (b : Bool) (c s : Nat) (b' : Bool) (c' s' m : Nat) (hc : c < B34) (hc' : c' < B34) (hs : s ≤ 18) (hs' : s' ≤ 18) (hm : m = max s s') (w : World) :
  Calls Tryz.prog 48 #[.agg #[.bool b,.int .u64 (wd (c) 1),.int .u64 (wd (c) 0),.int .i64 s],.agg #[.bool b',.int .u64 (wd (c') 1),.int .u64 (wd (c') 0),.int .i64 s']] w fun e w' => e = .returned (.tuple #[.agg #[.int .u64 (wd (c * 10 ^ (m - s)) 0),.int .u64 (wd (c * 10 ^ (m - s)) 1),.int .u64 (wd (c * 10 ^ (m - s)) 2),.int .u64 (wd (c * 10 ^ (m - s)) 3)],.agg #[.int .u64 (wd (c' * 10 ^ (m - s')) 0),.int .u64 (wd (c' * 10 ^ (m - s')) 1),.int .u64 (wd (c' * 10 ^ (m - s')) 2),.int .u64 (wd (c' * 10 ^ (m - s')) 3)],.int .i64 m]) ∧ Below w.heap.size w w':=by
 have m18 : m ≤ 18:=by omega
 have sm : s ≤ m:=by omega
 have sm' : s' ≤ m:=by omega
 have HA:=Lib.hid (fun W => times_sub c m s hc sm m18 W)
 have HB:=Lib.hid (fun W => times_sub c' m s' hc' sm' m18 W)
 generalize c * 10 ^ (m - s) = X at *
 generalize c' * 10 ^ (m - s') = Y at *
 have ga : IntKind.i64.wrap ((m : Int) - (s : Int)) = (m : Int) - (s : Int):=IntWalk.i64_in _ (by omega)
 have gb : IntKind.i64.wrap ((m : Int) - (s' : Int)) = (m : Int) - (s' : Int):=IntWalk.i64_in _ (by omega)
 have GA:=Lib.hid ga
 have GB:=Lib.hid gb
 clear ga gb
 have hmi : max (s : Int) (s' : Int) = (m : Int):=by omega
 have HMI:=Lib.hid hmi
 generalize wd c 0 = x0 at *
 generalize wd c 1 = x1 at *
 generalize wd c' 0 = y0 at *
 generalize wd c' 1 = y1 at *
 clear hmi hm hc hc'
 go_enter Tryz.func48,Tryz.ntmps48
 go_wp2_with fail
 rw [HMI.out]
 have ga:=GA.out
 have gb:=GB.out
 go_region_held3 (fun w' => (w'.cell? ⟨w.heap.size,0,none⟩ = some (.bool b) ∧ w'.cell? ⟨w.heap.size,1,none⟩ = some (.int .u64 x1) ∧ w'.cell? ⟨w.heap.size,2,none⟩ = some (.int .u64 x0) ∧ w'.cell? ⟨w.heap.size,3,none⟩ = some (.int .i64 ((s : Int)))) ∧ (w'.cell? ⟨(w.heap.size + 1),0,none⟩ = some (.bool b') ∧ w'.cell? ⟨(w.heap.size + 1),1,none⟩ = some (.int .u64 y1) ∧ w'.cell? ⟨(w.heap.size + 1),2,none⟩ = some (.int .u64 y0) ∧ w'.cell? ⟨(w.heap.size + 1),3,none⟩ = some (.int .i64 ((s' : Int))))) (first | (first | (go_keep;done) | (simp [go_sem];done) | ((try dsimp only);(repeat' apply And.intro) <;> (first | (with_reducible assumption) | ((rw [World.cell?_alloc_lt _ _ _ (by show _ < _;omega)]);go_split_ands;(first | with_reducible assumption | (refine (World.cell?_alloc_lt _ _ _ (by show _ < _;omega)).symm.trans ?_;with_reducible assumption))) | ((rw [World.cell?_setCell_other _ _ _ _ (by intro e;injection e;omega)]);with_reducible assumption) | (go_keep;done) | (simp [go_sem];done) | (simp (disch:=go_size) [*,World.cell?_alloc_some,World.cell?_setCell_far];done)))) | ((refine ⟨?_, ?_⟩) <;> (first | ((refine ⟨Bk.cell (t:=27) (cs:=[.bool b,.int .u64 x1,.int .u64 x0,.int .i64 ((s : Int))]) ?_ 0 rfl,Bk.cell (t:=27) (cs:=[.bool b,.int .u64 x1,.int .u64 x0,.int .i64 ((s : Int))]) ?_ 1 rfl,Bk.cell (t:=27) (cs:=[.bool b,.int .u64 x1,.int .u64 x0,.int .i64 ((s : Int))]) ?_ 2 rfl,Bk.cell (t:=27) (cs:=[.bool b,.int .u64 x1,.int .u64 x0,.int .i64 ((s : Int))]) ?_ 3 rfl⟩) <;> ((repeat (first|(with_reducible assumption)|((with_reducible refine bkW ?_);(first|rfl|(simp only [wsA,wsS,wsD,wsN];done)))|(with_reducible first|refine bkA ?_ _|refine bkD ?_|refine bkN ?_ _)|((with_reducible refine bkF ?_ ?_ _);focus (simp only [];omega))|((with_reducible refine bkB (by assumption) ?_ ?_);focus (go_size;done))));done)) | ((refine ⟨Bk.cell (t:=27) (cs:=[.bool b',.int .u64 y1,.int .u64 y0,.int .i64 ((s' : Int))]) ?_ 0 rfl,Bk.cell (t:=27) (cs:=[.bool b',.int .u64 y1,.int .u64 y0,.int .i64 ((s' : Int))]) ?_ 1 rfl,Bk.cell (t:=27) (cs:=[.bool b',.int .u64 y1,.int .u64 y0,.int .i64 ((s' : Int))]) ?_ 2 rfl,Bk.cell (t:=27) (cs:=[.bool b',.int .u64 y1,.int .u64 y0,.int .i64 ((s' : Int))]) ?_ 3 rfl⟩) <;> ((repeat (first|(with_reducible assumption)|((with_reducible refine bkW ?_);(first|rfl|(simp only [wsA,wsS,wsD,wsN];done)))|(with_reducible first|refine bkA ?_ _|refine bkD ?_|refine bkN ?_ _)|((with_reducible refine bkF ?_ ?_ _);focus (simp only [];omega))|((with_reducible refine bkB (by assumption) ?_ ?_);focus (go_size;done))));done))))) (first | (go_at_call 71;(with_reducible refine (HA.out _).mono ?_);rintro _ w1 ⟨rfl,hb1⟩;have hb1s:=hb1.size;(try simp only [wsA,wsS,wsD,wsN] at hb1s);obtain ⟨hb1c,hb1f⟩:=bcell hb1;(try have : w.heap.size < w1.heap.size:=by omega);(try have : w.heap.size + 1 < w1.heap.size:=by omega);(try have : w.heap.size + 1 + 1 < w1.heap.size:=by omega);(try have : w.heap.size + 1 + 1 + 1 < w1.heap.size:=by omega);(try have : w2.heap.size < w1.heap.size:=by omega);(try have : w2.heap.size + 1 < w1.heap.size:=by omega);(try have : w2.heap.size + 1 + 1 < w1.heap.size:=by omega);(try have : w2.heap.size + 1 + 1 + 1 < w1.heap.size:=by omega)) | (go_at_call 71;(with_reducible refine (HB.out _).mono ?_);rintro _ w2 ⟨rfl,hb2⟩;have hb2s:=hb2.size;(try simp only [wsA,wsS,wsD,wsN] at hb2s);obtain ⟨hb2c,hb2f⟩:=bcell hb2;(try have : w.heap.size < w2.heap.size:=by omega);(try have : w.heap.size + 1 < w2.heap.size:=by omega);(try have : w.heap.size + 1 + 1 < w2.heap.size:=by omega);(try have : w.heap.size + 1 + 1 + 1 < w2.heap.size:=by omega);(try have : w1.heap.size < w2.heap.size:=by omega);(try have : w1.heap.size + 1 < w2.heap.size:=by omega);(try have : w1.heap.size + 1 + 1 < w2.heap.size:=by omega);(try have : w1.heap.size + 1 + 1 + 1 < w2.heap.size:=by omega)))
 all_goals
  go_wp2_with fail
  refine bodyPost_ret (by simp [results,Tryz.results48,go_sem, *];try rfl) rfl ?_
  exact ⟨rfl,by exact bel⟩
end Go.Proofs.YtbnadlpkbbdgjaaGreatDoor



namespace Go.Proofs.YtbnadlpkbbdgjaaGreatDoor
open Go.RowKit

theorem power_sub (k s : Nat) (h : s ≤ k) (hk : k ≤ 38) (W : World) : Calls Tryz.prog 150 #[.int .i64 ((k : Int) - (s : Int))] W fun e w' => e = .returned (.agg #[.int .u64 (wd (10 ^ (k - s)) 1),.int .u64 (wd (10 ^ (k - s)) 0)]) ∧ Below W.heap.size W w':=by
 rw [show (k : Int) - (s : Int) = ((k - s : Nat) : Int) by omega]
 exact power_any (k - s) (by omega) W
set_option maxHeartbeats 2000000 in
theorem canon_any (neg : Bool) (c s : Nat) (hc : c < B34) (hs : s ≤ 1000) (w : World) : Calls Tryz.prog 184 #[.bool neg,.agg #[.int .u64 (wd c 1),.int .u64 (wd c 0)],.int .i64 s] w fun e w' => e = .returned (.agg #[.bool (sg neg (stripC c s)),.int .u64 (wd ((stripC c s)) 1),.int .u64 (wd ((stripC c s)) 0),.int .i64 (stripS c s)]) ∧ Below w.heap.size w w':=by
 have hc2 : c < 2 ^ 128:=Nat.lt_trans hc B34_lt
 have s0 : (0 : Int) ≤ (s : Int):=by omega
 have s1 : (s : Int) ≤ 1000:=by omega
 have qz : ∀ W,(binOp .eql 25 (.agg #[.int .u64 (wd c 1),.int .u64 (wd c 0)]) (.agg #[.int .u64 0,.int .u64 0])).run Tryz.prog W = .ok (.bool (decide (c = 0))) W:=fun W => by rw [eq_wide,eq_nil hc2]
 by_cases hz : c = 0
 ·rw [decide_eq_true hz] at qz
  have e1 : stripC c s = 0:=stripC_zero.2 hz
  have e2 : stripS c s = 0:=by rw [hz];exact (strip_nil s).2
  rw [e1,e2,wd_zero,wd_zero]
  rw [sg_zero]
  generalize wd c 0 = x0 at *
  generalize wd c 1 = x1 at *
  clear hc hz e1 e2 hc2
  go_enter Tryz.func184,Tryz.ntmps184
  go_wp2_with fail
  refine bodyPost_ret (by simp [results,Tryz.results184,go_sem, *];try rfl) rfl ?_
  exact ⟨rfl,by exact bel⟩
 ·rw [decide_eq_false hz] at qz
  obtain ⟨T,k,ht⟩:=tz_upto c 34 hz hc
  have hk38:=ht.k_le hc2
  have HT:=Lib.hid (fun W => trim_any c T k hc2 ht W)
  have hne : sg neg (stripC c s) = neg:=sg_pos (fun e => hz (stripC_zero.1 e))
  rw [hne]
  have hT : T < 2 ^ 128:=by
   have h1:=ht.1
   have h2 : T ≤ c:=by rw [h1];exact Nat.le_mul_of_pos_right _ (Nat.pow_pos (by decide))
   omega
  obtain ⟨h1,h2⟩:=strip_trim T k s ht.2
  rw [← ht.1] at h1 h2
  have k0 : (0 : Int) ≤ (k : Int):=by omega
  have k1 : (k : Int) ≤ 38:=by omega
  by_cases hks : k ≤ s
  ·rw [(h1 hks).1,(h1 hks).2]
   have g1 : (k : Int) ≤ (s : Int):=by omega
   rw [show ((s - k : Nat) : Int) = (s : Int) - (k : Int) by omega]
   generalize wd c 0 = x0 at *
   generalize wd c 1 = x1 at *
   generalize wd T 0 = y0 at *
   generalize wd T 1 = y1 at *
   clear h1 h2 hc hc2 hz ht hne hT
   go_enter Tryz.func184,Tryz.ntmps184
   go_wp2_with ((go_at_call 106;with_reducible refine (HT.out _).mono ?_);rintro _ w1 ⟨rfl,hb1⟩;have hb1s:=hb1.size;(try simp only [wsA,wsS,wsD,wsN] at hb1s);obtain ⟨hb1c,hb1f⟩:=bcell hb1;(try have : w.heap.size < w1.heap.size:=by omega);(try have : w.heap.size + 1 < w1.heap.size:=by omega);(try have : w.heap.size + 1 + 1 < w1.heap.size:=by omega);(try have : w.heap.size + 1 + 1 + 1 < w1.heap.size:=by omega))
   refine bodyPost_ret (by simp [results,Tryz.results184,go_sem, *];try rfl) rfl ?_
   exact ⟨rfl,by exact bel⟩
  ·rw [(h2 (by omega)).1,(h2 (by omega)).2]
   have g1 : ¬ (k : Int) ≤ (s : Int):=by omega
   have hle : T * 10 ^ (k - s) < 2 ^ 128:=by
    have e:=ht.1
    rw [show k = k - s + s by omega,Nat.pow_add,← Nat.mul_assoc] at e
    have : T * 10 ^ (k - s) ≤ c:=by rw [e];exact Nat.le_mul_of_pos_right _ (Nat.pow_pos (by decide))
    omega
   have HP:=Lib.hid (fun W => power_sub k s (by omega) hk38 W)
   have HM:=Lib.hid (fun W => mul_any T (10 ^ (k - s)) hT (ten_38 (by omega)) W)
   have HN:=Lib.hid (fun W => narrow_any (T * 10 ^ (k - s)) (Nat.lt_trans hle (by decide)) W)
   rw [fit_id hle,over_id hle] at HN
   generalize T * 10 ^ (k - s) = P at *
   generalize 10 ^ (k - s) = Q at *
   generalize wd c 0 = x0 at *
   generalize wd c 1 = x1 at *
   generalize wd T 0 = y0 at *
   generalize wd T 1 = y1 at *
   generalize wd P 0 = z0 at *
   generalize wd P 1 = z1 at *
   generalize wd P 2 = z2 at *
   generalize wd P 3 = z3 at *
   generalize wd Q 0 = q0 at *
   generalize wd Q 1 = q1 at *
   clear h1 h2 hc hc2 hz ht hne hT hle
   go_enter Tryz.func184,Tryz.ntmps184
   have gs1 : IntKind.i64.wrap ((k : Int) - (s : Int)) = (k : Int) - (s : Int):=IntWalk.i64_in _ (by omega)
   go_wp2_with ((go_at_call 106;with_reducible refine (HT.out _).mono ?_);rintro _ w1 ⟨rfl,hb1⟩;have hb1s:=hb1.size;(try simp only [wsA,wsS,wsD,wsN] at hb1s);obtain ⟨hb1c,hb1f⟩:=bcell hb1;(try have : w.heap.size < w1.heap.size:=by omega);(try have : w.heap.size + 1 < w1.heap.size:=by omega);(try have : w.heap.size + 1 + 1 < w1.heap.size:=by omega);(try have : w.heap.size + 1 + 1 + 1 < w1.heap.size:=by omega))
   go_region_held3 (fun w' => w'.cell? ⟨w1.heap.size,0,none⟩ = some (.int .u64 y1) ∧ w'.cell? ⟨w1.heap.size,1,none⟩ = some (.int .u64 y0)) (first | (first | (go_keep;done) | (simp [go_sem];done) | ((try dsimp only);(repeat' apply And.intro) <;> (first | (with_reducible assumption) | ((rw [World.cell?_alloc_lt _ _ _ (by show _ < _;omega)]);go_split_ands;(first | with_reducible assumption | (refine (World.cell?_alloc_lt _ _ _ (by show _ < _;omega)).symm.trans ?_;with_reducible assumption))) | ((rw [World.cell?_setCell_other _ _ _ _ (by intro e;injection e;omega)]);with_reducible assumption) | (go_keep;done) | (simp [go_sem];done) | (simp (disch:=go_size) [*,World.cell?_alloc_some,World.cell?_setCell_far];done)))) | ((refine ⟨Bk.cell (t:=25) (cs:=[.int .u64 y1,.int .u64 y0]) ?_ 0 rfl,Bk.cell (t:=25) (cs:=[.int .u64 y1,.int .u64 y0]) ?_ 1 rfl⟩) <;> ((repeat (first|(with_reducible assumption)|((with_reducible refine bkW ?_);(first|rfl|(simp only [wsA,wsS,wsD,wsN];done)))|(with_reducible first|refine bkA ?_ _|refine bkD ?_|refine bkN ?_ _)|((with_reducible refine bkF ?_ ?_ _);focus (simp only [];omega))|((with_reducible refine bkB (by assumption) ?_ ?_);focus (go_size;done))));done))) (first | ((go_at_call 150;with_reducible refine (HP.out _).mono ?_);rintro _ w2 ⟨rfl,hb2⟩;have hb2s:=hb2.size;(try simp only [wsA,wsS,wsD,wsN] at hb2s);obtain ⟨hb2c,hb2f⟩:=bcell hb2;(try have : w.heap.size < w2.heap.size:=by omega);(try have : w.heap.size + 1 < w2.heap.size:=by omega);(try have : w.heap.size + 1 + 1 < w2.heap.size:=by omega);(try have : w.heap.size + 1 + 1 + 1 < w2.heap.size:=by omega);(try have : w1.heap.size < w2.heap.size:=by omega);(try have : w1.heap.size + 1 < w2.heap.size:=by omega);(try have : w1.heap.size + 1 + 1 < w2.heap.size:=by omega);(try have : w1.heap.size + 1 + 1 + 1 < w2.heap.size:=by omega)) | ((go_at_call 144;with_reducible refine (HM.out _).mono ?_);rintro _ w3 ⟨rfl,hb3⟩;have hb3s:=hb3.size;(try simp only [wsA,wsS,wsD,wsN] at hb3s);obtain ⟨hb3c,hb3f⟩:=bcell hb3;(try have : w.heap.size < w3.heap.size:=by omega);(try have : w.heap.size + 1 < w3.heap.size:=by omega);(try have : w.heap.size + 1 + 1 < w3.heap.size:=by omega);(try have : w.heap.size + 1 + 1 + 1 < w3.heap.size:=by omega);(try have : w1.heap.size < w3.heap.size:=by omega);(try have : w1.heap.size + 1 < w3.heap.size:=by omega);(try have : w1.heap.size + 1 + 1 < w3.heap.size:=by omega);(try have : w1.heap.size + 1 + 1 + 1 < w3.heap.size:=by omega);(try have : w2.heap.size < w3.heap.size:=by omega);(try have : w2.heap.size + 1 < w3.heap.size:=by omega);(try have : w2.heap.size + 1 + 1 < w3.heap.size:=by omega);(try have : w2.heap.size + 1 + 1 + 1 < w3.heap.size:=by omega)) | ((go_at_call 143;with_reducible refine (HN.out _).mono ?_);rintro _ w4 ⟨rfl,hb4⟩;have hb4s:=hb4.size;(try simp only [wsA,wsS,wsD,wsN] at hb4s);obtain ⟨hb4c,hb4f⟩:=bcell hb4;(try have : w.heap.size < w4.heap.size:=by omega);(try have : w.heap.size + 1 < w4.heap.size:=by omega);(try have : w.heap.size + 1 + 1 < w4.heap.size:=by omega);(try have : w.heap.size + 1 + 1 + 1 < w4.heap.size:=by omega);(try have : w1.heap.size < w4.heap.size:=by omega);(try have : w1.heap.size + 1 < w4.heap.size:=by omega);(try have : w1.heap.size + 1 + 1 < w4.heap.size:=by omega);(try have : w1.heap.size + 1 + 1 + 1 < w4.heap.size:=by omega);(try have : w2.heap.size < w4.heap.size:=by omega);(try have : w2.heap.size + 1 < w4.heap.size:=by omega);(try have : w2.heap.size + 1 + 1 < w4.heap.size:=by omega);(try have : w2.heap.size + 1 + 1 + 1 < w4.heap.size:=by omega);(try have : w3.heap.size < w4.heap.size:=by omega);(try have : w3.heap.size + 1 < w4.heap.size:=by omega);(try have : w3.heap.size + 1 + 1 < w4.heap.size:=by omega);(try have : w3.heap.size + 1 + 1 + 1 < w4.heap.size:=by omega)))
   all_goals
    first | (refine wp_named (fun W => Bk W (w1.heap.size + 1) 25 [.int .u64 z1,.int .u64 z0] ∧ Bk W (w.heap.size + 1) 27 [.bool false,.int .u64 0,.int .u64 0,.int .i64 0] ∧ Below w.heap.size w W) ⟨?h1, ?h2, ?h3⟩ ?_;(case h1 => (first | ((repeat (first|(with_reducible assumption)|((with_reducible refine bkW ?_);(first|rfl|(simp only [wsA,wsS,wsD,wsN];done)))|(with_reducible first|refine bkA ?_ _|refine bkD ?_|refine bkN ?_ _)|((with_reducible refine bkF ?_ ?_ _);focus (simp only [];omega))|((with_reducible refine bkB (by assumption) ?_ ?_);focus (go_size;done))));done) | ((repeat (first | (with_reducible refine Bk.alloc ?_ _) | (with_reducible refine Bk.drew ?_) | ((with_reducible refine Bk.far ?_ ?_ _);rotate_left;focus (simp only [];omega))));(refine ((?_ : Bk _ _ _ [.int .u64 0,.int .u64 0]).set_ 0 _).set_ 1 _);(repeat (first|(with_reducible assumption)|((with_reducible refine bkW ?_);(first|rfl|(simp only [wsA,wsS,wsD,wsN];done)))|(with_reducible first|refine bkA ?_ _|refine bkD ?_|refine bkN ?_ _)|((with_reducible refine bkF ?_ ?_ _);focus (simp only [];omega))|((with_reducible refine bkB (by assumption) ?_ ?_);focus (go_size;done)))));done));(case h2 => ((repeat (first|(with_reducible assumption)|((with_reducible refine bkW ?_);(first|rfl|(simp only [wsA,wsS,wsD,wsN];done)))|(with_reducible first|refine bkA ?_ _|refine bkD ?_|refine bkN ?_ _)|((with_reducible refine bkF ?_ ?_ _);focus (simp only [];omega))|((with_reducible refine bkB (by assumption) ?_ ?_);focus (go_size;done))));done));(case h3 => ((repeat' first|(with_reducible first|exact blR _ _|assumption|refine blD ?_|refine blN ?_ _)|((with_reducible first|refine blA ?_ ?_ _|refine blS ?_ ?_ _|refine blT (by assumption) ?_ ?_);focus (go_size;done)));done))) | (refine wp_named (fun W => Bk W (w2.heap.size) 25 [.int .u64 z1,.int .u64 z0] ∧ Bk W (w.heap.size + 1) 27 [.bool false,.int .u64 0,.int .u64 0,.int .i64 0] ∧ Below w.heap.size w W) ⟨?h1, ?h2, ?h3⟩ ?_;(case h1 => (first | ((repeat (first|(with_reducible assumption)|((with_reducible refine bkW ?_);(first|rfl|(simp only [wsA,wsS,wsD,wsN];done)))|(with_reducible first|refine bkA ?_ _|refine bkD ?_|refine bkN ?_ _)|((with_reducible refine bkF ?_ ?_ _);focus (simp only [];omega))|((with_reducible refine bkB (by assumption) ?_ ?_);focus (go_size;done))));done) | ((repeat (first | (with_reducible refine Bk.alloc ?_ _) | (with_reducible refine Bk.drew ?_) | ((with_reducible refine Bk.far ?_ ?_ _);rotate_left;focus (simp only [];omega))));(refine ((?_ : Bk _ _ _ [.int .u64 0,.int .u64 0]).set_ 0 _).set_ 1 _);(repeat (first|(with_reducible assumption)|((with_reducible refine bkW ?_);(first|rfl|(simp only [wsA,wsS,wsD,wsN];done)))|(with_reducible first|refine bkA ?_ _|refine bkD ?_|refine bkN ?_ _)|((with_reducible refine bkF ?_ ?_ _);focus (simp only [];omega))|((with_reducible refine bkB (by assumption) ?_ ?_);focus (go_size;done)))));done));(case h2 => ((repeat (first|(with_reducible assumption)|((with_reducible refine bkW ?_);(first|rfl|(simp only [wsA,wsS,wsD,wsN];done)))|(with_reducible first|refine bkA ?_ _|refine bkD ?_|refine bkN ?_ _)|((with_reducible refine bkF ?_ ?_ _);focus (simp only [];omega))|((with_reducible refine bkB (by assumption) ?_ ?_);focus (go_size;done))));done));(case h3 => ((repeat' first|(with_reducible first|exact blR _ _|assumption|refine blD ?_|refine blN ?_ _)|((with_reducible first|refine blA ?_ ?_ _|refine blS ?_ ?_ _|refine blT (by assumption) ?_ ?_);focus (go_size;done)));done))) | (refine wp_named (fun W => Bk W (w3.heap.size) 25 [.int .u64 z1,.int .u64 z0] ∧ Bk W (w.heap.size + 1) 27 [.bool false,.int .u64 0,.int .u64 0,.int .i64 0] ∧ Below w.heap.size w W) ⟨?h1, ?h2, ?h3⟩ ?_;(case h1 => (first | ((repeat (first|(with_reducible assumption)|((with_reducible refine bkW ?_);(first|rfl|(simp only [wsA,wsS,wsD,wsN];done)))|(with_reducible first|refine bkA ?_ _|refine bkD ?_|refine bkN ?_ _)|((with_reducible refine bkF ?_ ?_ _);focus (simp only [];omega))|((with_reducible refine bkB (by assumption) ?_ ?_);focus (go_size;done))));done) | ((repeat (first | (with_reducible refine Bk.alloc ?_ _) | (with_reducible refine Bk.drew ?_) | ((with_reducible refine Bk.far ?_ ?_ _);rotate_left;focus (simp only [];omega))));(refine ((?_ : Bk _ _ _ [.int .u64 0,.int .u64 0]).set_ 0 _).set_ 1 _);(repeat (first|(with_reducible assumption)|((with_reducible refine bkW ?_);(first|rfl|(simp only [wsA,wsS,wsD,wsN];done)))|(with_reducible first|refine bkA ?_ _|refine bkD ?_|refine bkN ?_ _)|((with_reducible refine bkF ?_ ?_ _);focus (simp only [];omega))|((with_reducible refine bkB (by assumption) ?_ ?_);focus (go_size;done)))));done));(case h2 => ((repeat (first|(with_reducible assumption)|((with_reducible refine bkW ?_);(first|rfl|(simp only [wsA,wsS,wsD,wsN];done)))|(with_reducible first|refine bkA ?_ _|refine bkD ?_|refine bkN ?_ _)|((with_reducible refine bkF ?_ ?_ _);focus (simp only [];omega))|((with_reducible refine bkB (by assumption) ?_ ?_);focus (go_size;done))));done));(case h3 => ((repeat' first|(with_reducible first|exact blR _ _|assumption|refine blD ?_|refine blN ?_ _)|((with_reducible first|refine blA ?_ ?_ _|refine blS ?_ ?_ _|refine blT (by assumption) ?_ ?_);focus (go_size;done)));done))) | (refine wp_named (fun W => Bk W (w4.heap.size) 25 [.int .u64 z1,.int .u64 z0] ∧ Bk W (w.heap.size + 1) 27 [.bool false,.int .u64 0,.int .u64 0,.int .i64 0] ∧ Below w.heap.size w W) ⟨?h1, ?h2, ?h3⟩ ?_;(case h1 => (first | ((repeat (first|(with_reducible assumption)|((with_reducible refine bkW ?_);(first|rfl|(simp only [wsA,wsS,wsD,wsN];done)))|(with_reducible first|refine bkA ?_ _|refine bkD ?_|refine bkN ?_ _)|((with_reducible refine bkF ?_ ?_ _);focus (simp only [];omega))|((with_reducible refine bkB (by assumption) ?_ ?_);focus (go_size;done))));done) | ((repeat (first | (with_reducible refine Bk.alloc ?_ _) | (with_reducible refine Bk.drew ?_) | ((with_reducible refine Bk.far ?_ ?_ _);rotate_left;focus (simp only [];omega))));(refine ((?_ : Bk _ _ _ [.int .u64 0,.int .u64 0]).set_ 0 _).set_ 1 _);(repeat (first|(with_reducible assumption)|((with_reducible refine bkW ?_);(first|rfl|(simp only [wsA,wsS,wsD,wsN];done)))|(with_reducible first|refine bkA ?_ _|refine bkD ?_|refine bkN ?_ _)|((with_reducible refine bkF ?_ ?_ _);focus (simp only [];omega))|((with_reducible refine bkB (by assumption) ?_ ?_);focus (go_size;done)))));done));(case h2 => ((repeat (first|(with_reducible assumption)|((with_reducible refine bkW ?_);(first|rfl|(simp only [wsA,wsS,wsD,wsN];done)))|(with_reducible first|refine bkA ?_ _|refine bkD ?_|refine bkN ?_ _)|((with_reducible refine bkF ?_ ?_ _);focus (simp only [];omega))|((with_reducible refine bkB (by assumption) ?_ ?_);focus (go_size;done))));done));(case h3 => ((repeat' first|(with_reducible first|exact blR _ _|assumption|refine blD ?_|refine blN ?_ _)|((with_reducible first|refine blA ?_ ?_ _|refine blS ?_ ?_ _|refine blT (by assumption) ?_ ?_);focus (go_size;done)));done)))
    rintro W ⟨k1,k2,mb⟩
    clear hb1 hb2 hb3 hb4 hb1c hb2c hb3c hb4c hb1f hb2f hb3f hb4f
    have c10:=k1.cell 0 rfl
    have c11:=k1.cell 1 rfl
    have c20:=k2.cell 0 rfl
    have c21:=k2.cell 1 rfl
    have c22:=k2.cell 2 rfl
    have c23:=k2.cell 3 rfl
    have f20:=k2.frozen 0
    have f21:=k2.frozen 1
    have f22:=k2.frozen 2
    have f23:=k2.frozen 3
    go_wp2_with fail
    refine bodyPost_ret (by simp [results,Tryz.results184,go_sem, *];try rfl) rfl ?_
    exact ⟨rfl,by exact bel⟩
end Go.Proofs.YtbnadlpkbbdgjaaGreatDoor



namespace Go.Proofs.YtbnadlpkbbdgjaaGreatDoor
open Go.RowKit

theorem fit_step_yes {n t j : Nat} (hj : j ≤ t) (h : near n (10 ^ (t - j)) < B34) (e : fin (fitK n (10 ^ t) (K19 n)) = fin (fitK n (10 ^ t) (j + 1))) :
  FitC n (10 ^ t) = stripC (near n (10 ^ (t - j))) j ∧ FitS n (10 ^ t) = stripS (near n (10 ^ (t - j))) j ∧ FitE n (10 ^ t) = 0:=by
 have hp:=near_pow n j t hj
 unfold FitC FitS FitE
 rw [e,fitK_yes (by rw [hp];exact h),hp]
 exact ⟨rfl,rfl,rfl⟩
theorem fit_step_no {n t j : Nat} (hj : j ≤ t) (h : ¬ near n (10 ^ (t - j)) < B34) (e : fin (fitK n (10 ^ t) (K19 n)) = fin (fitK n (10 ^ t) (j + 1))) :
  fin (fitK n (10 ^ t) (K19 n)) = fin (fitK n (10 ^ t) j):=by
 have hp:=near_pow n j t hj
 rw [e,fitK_no (by rw [hp];exact h)]
theorem fit_step_end {n t : Nat} (e : fin (fitK n (10 ^ t) (K19 n)) = fin (fitK n (10 ^ t) 0)) : FitC n (10 ^ t) = 0 ∧ FitS n (10 ^ t) = 0 ∧ FitE n (10 ^ t) = 3:=by
 unfold FitC FitS FitE
 rw [e]
 exact ⟨rfl,rfl,rfl⟩
theorem fit_begin (n t : Nat) : ∃ k,k ≤ 19 ∧ k = min 18 t + 1 ∧ k ≤ t + 1 ∧ fin (fitK n (10 ^ t) (K19 n)) = fin (fitK n (10 ^ t) k):=by
 refine ⟨min 18 t + 1,by omega,rfl,by omega, ?_⟩
 by_cases h : t ≤ 18
 ·rw [show min 18 t = t by omega];exact fit_top n t h
 ·rw [show min 18 t + 1 = K19 n by rw [K19_eq];omega]
set_option maxHeartbeats 4000000 in
theorem fit_any (neg : Bool) (n t : Nat) (hn : n < 2 ^ 256) (ht : t ≤ 76) (w : World) : Calls Tryz.prog 151 #[.bool neg,.agg #[.int .u64 (wd n 0),.int .u64 (wd n 1),.int .u64 (wd n 2),.int .u64 (wd n 3)],.int .i64 t] w fun e w' => e = .returned (.tuple #[.agg #[.bool (sg neg (FitC (n) (10 ^ t))),.int .u64 (wd (FitC (n) (10 ^ t)) 1),.int .u64 (wd (FitC (n) (10 ^ t)) 0),.int .i64 (FitS (n) (10 ^ t))],.int .i64 (FitE n (10 ^ t))]) ∧ Below w.heap.size w w':=by
 obtain ⟨k,k19,hk,kt,he⟩:=fit_begin n t
 have HE:=Far.mk he
 have HN:=Far.mk hn
 have HBD:=Lib.hid (fun W => bound_any W)
 obtain ⟨p0,hp0⟩ : ∃ p0,p0 = wd B34 0:=⟨_,rfl⟩
 obtain ⟨p1,hp1⟩ : ∃ p1,p1 = wd B34 1:=⟨_,rfl⟩
 rw [← hp0,← hp1] at HBD
 have HPW : Hid (p0 = wd B34 0 ∧ p1 = wd B34 1):=Lib.hid ⟨hp0,hp1⟩
 clear hp0 hp1
 obtain ⟨C,hC⟩ : ∃ C,C = FitC n (10 ^ t):=⟨_,rfl⟩
 obtain ⟨S,hS⟩ : ∃ S,S = FitS n (10 ^ t):=⟨_,rfl⟩
 obtain ⟨E,hE⟩ : ∃ E,E = FitE n (10 ^ t):=⟨_,rfl⟩
 rw [← hC,← hS,← hE]
 have EC:=Far.mk hC
 have ES:=Far.mk hS
 have EE:=Far.mk hE
 clear hC hS hE he hn
 have t0 : (0 : Int) ≤ (t : Int):=by omega
 have t76 : (t : Int) ≤ 76:=by omega
 by_cases h18 : t ≤ 18
 ·have g1 : (t : Int) ≤ 18:=by omega
  have hk2 : (t : Int) = (k : Int) - 1:=by omega
  have HK2:=Lib.hid hk2
  clear hk hk2
  go_enter Tryz.func151,Tryz.ntmps151
  go_wp2_with fail
  go_loopg [8] k (fun kk sv wr => kk ≤ t + 1 ∧ kk ≤ 19 ∧ sv = .int .i64 ((kk : Int) - 1) ∧ Far (fin (fitK n (10 ^ t) (K19 n)) = fin (fitK n (10 ^ t) kk)) ∧ Bk wr w.heap.size 80 (lcells n) ∧ Bk wr (w.heap.size + 1) 27 [.bool false,.int .u64 0,.int .u64 0,.int .i64 0] ∧ Below w.heap.size w wr)
  case atStart => exact ⟨kt,k19,congrArg (Value.int .i64) (by have:=HK2.out;omega),HE,by rw [lcells_eq];exact bkk,by exact bkk,by exact bel⟩
  case round =>
   obtain ⟨hkt,hk19,rfl,he,b0,b1,hbel⟩:=hrel
   have HB0:=Lib.hid b0
   have HB1:=Lib.hid b1
   have hbs:=hbel.size
   have l0:=b0.lt
   have l1:=b1.lt
   rw [lcells_eq] at b0
   have d0:=b0.cell 0 rfl
   have d1:=b0.cell 1 rfl
   have d2:=b0.cell 2 rfl
   have d3:=b0.cell 3 rfl
   clear b0
   by_cases hz : gk = 0
   ·subst hz
    have h0 : ¬ (0 : Int) ≤ ((0 : Nat) : Int) - 1:=by omega
    have c0:=b1.cell 0 rfl
    have c1:=b1.cell 1 rfl
    have c2:=b1.cell 2 rfl
    have c3:=b1.cell 3 rfl
    have f0:=b1.frozen 0
    have f1:=b1.frozen 1
    have f2:=b1.frozen 2
    have f3:=b1.frozen 3
    clear b1
    go_wp2_with fail
    refine bodyPost_ret (by simp [results,Tryz.results151,go_sem, *];try rfl) rfl ?_
    obtain ⟨e1,e2,e3⟩:=fit_step_end he.out
    exact ⟨by rw [EC.out,ES.out,EE.out,e1,e2,e3,wd_zero,wd_zero,sg_zero];rfl,by exact bel⟩
   ·obtain ⟨j,rfl⟩ : ∃ j,gk = j + 1:=⟨gk - 1,by omega⟩
    have hx : ((j + 1 : Nat) : Int) - 1 = (j : Int):=by omega
    rw [hx]
    have hjt : j ≤ t:=by omega
    have j0 : (0 : Int) ≤ (j : Int):=by omega
    have j18 : (j : Int) ≤ 18:=by omega
    have gs : IntKind.i64.wrap ((t : Int) - (j : Int)) = (t : Int) - (j : Int):=IntWalk.i64_in _ (by omega)
    have HR : Hid (∀ W,Calls Tryz.prog 183 #[.agg #[.int .u64 (wd n 0),.int .u64 (wd n 1),.int .u64 (wd n 2),.int .u64 (wd n 3)],.int .i64 ((t : Int) - (j : Int))] W fun e w' => e = .returned (.tuple #[.agg #[.int .u64 (wd (fitW (near n (10 ^ (t - j)))) 1),.int .u64 (wd (fitW (near n (10 ^ (t - j)))) 0)],.int .i64 (over (near n (10 ^ (t - j))))]) ∧ Below W.heap.size W w'):=Lib.hid (fun W => by
     rw [show (t : Int) - (j : Int) = ((t - j : Nat) : Int) by omega]
     exact round_any n HN.out (t - j) (by omega) W)
    have hyes:=fit_step_yes (n:=n) (t:=t) (j:=j) hjt
    have hno:=fit_step_no (n:=n) (t:=t) (j:=j) hjt
    have HYES:=Far.mk hyes
    have HNO:=Far.mk hno
    generalize near n (10 ^ (t - j)) = q at *
    clear hx hyes hno b1
    by_cases hq : q < B34
    ·have hq2 : q < 2 ^ 128:=Nat.lt_trans hq B34_lt
     obtain ⟨e1,e2,e3⟩:=HYES.out hq he.out
     have HCM:=Lib.hid (fun W => cmp_any q B34 hq2 B34_lt W)
     have hcc:=cmp_bound hq
     have HCN:=Lib.hid (fun W => canon_any neg q j hq (by omega) W)
     rw [fit_id hq2,over_id hq2] at HR
     rw [← e1,← e2,← EC.out,← ES.out] at HCN
     have E3:=Far.mk e3
     have HP0:=HPW
     obtain ⟨hp0,hp1⟩:=HP0.out
     rw [← hp0,← hp1] at HCM
     generalize cmpN q B34 = cc at *
     generalize wd q 0 = q0 at *
     generalize wd q 1 = q1 at *
     clear hq hq2 e1 e2 e3 HYES HNO he hp0 hp1
     go_wp2_with ((go_at_call 183;with_reducible refine (HR.out _).mono ?_);rintro _ w1 ⟨rfl,hb1⟩;have hb1s:=hb1.size;(try simp only [wsA,wsS,wsD,wsN] at hb1s);obtain ⟨hb1c,hb1f⟩:=bcell hb1;(try have : w.heap.size < w1.heap.size:=by omega);(try have : w.heap.size + 1 < w1.heap.size:=by omega);(try have : w.heap.size + 1 + 1 < w1.heap.size:=by omega);(try have : w.heap.size + 1 + 1 + 1 < w1.heap.size:=by omega))
     go_region_held3 (fun w' => w'.cell? ⟨w1.heap.size,0,none⟩ = some (.int .u64 q1) ∧ w'.cell? ⟨w1.heap.size,1,none⟩ = some (.int .u64 q0)) (first | (first | (go_keep;done) | (simp [go_sem];done) | ((try dsimp only);(repeat' apply And.intro) <;> (first | (with_reducible assumption) | ((rw [World.cell?_alloc_lt _ _ _ (by show _ < _;omega)]);go_split_ands;(first | with_reducible assumption | (refine (World.cell?_alloc_lt _ _ _ (by show _ < _;omega)).symm.trans ?_;with_reducible assumption))) | ((rw [World.cell?_setCell_other _ _ _ _ (by intro e;injection e;omega)]);with_reducible assumption) | (go_keep;done) | (simp [go_sem];done) | (simp (disch:=go_size) [*,World.cell?_alloc_some,World.cell?_setCell_far];done)))) | ((refine ⟨Bk.cell (t:=25) (cs:=[.int .u64 q1,.int .u64 q0]) ?_ 0 rfl,Bk.cell (t:=25) (cs:=[.int .u64 q1,.int .u64 q0]) ?_ 1 rfl⟩) <;> ((repeat (first|(with_reducible assumption)|((with_reducible refine bkW ?_);(first|rfl|(simp only [wsA,wsS,wsD,wsN];done)))|(with_reducible first|refine bkA ?_ _|refine bkD ?_|refine bkN ?_ _)|((with_reducible refine bkF ?_ ?_ _);focus (simp only [];omega))|((with_reducible refine bkB (by assumption) ?_ ?_);focus (go_size;done))));done))) (first | ((go_at_call 104;with_reducible refine (HBD.out _).mono ?_);rintro _ w2 ⟨rfl,hb2⟩;have hb2s:=hb2.size;(try simp only [wsA,wsS,wsD,wsN] at hb2s);obtain ⟨hb2c,hb2f⟩:=bcell hb2;(try have : w.heap.size < w2.heap.size:=by omega);(try have : w.heap.size + 1 < w2.heap.size:=by omega);(try have : w.heap.size + 1 + 1 < w2.heap.size:=by omega);(try have : w.heap.size + 1 + 1 + 1 < w2.heap.size:=by omega);(try have : w1.heap.size < w2.heap.size:=by omega);(try have : w1.heap.size + 1 < w2.heap.size:=by omega);(try have : w1.heap.size + 1 + 1 < w2.heap.size:=by omega);(try have : w1.heap.size + 1 + 1 + 1 < w2.heap.size:=by omega)) | ((go_at_call 103;with_reducible refine (HCM.out _).mono ?_);rintro _ w3 ⟨rfl,hb3⟩;have hb3s:=hb3.size;(try simp only [wsA,wsS,wsD,wsN] at hb3s);obtain ⟨hb3c,hb3f⟩:=bcell hb3;(try have : w.heap.size < w3.heap.size:=by omega);(try have : w.heap.size + 1 < w3.heap.size:=by omega);(try have : w.heap.size + 1 + 1 < w3.heap.size:=by omega);(try have : w.heap.size + 1 + 1 + 1 < w3.heap.size:=by omega);(try have : w1.heap.size < w3.heap.size:=by omega);(try have : w1.heap.size + 1 < w3.heap.size:=by omega);(try have : w1.heap.size + 1 + 1 < w3.heap.size:=by omega);(try have : w1.heap.size + 1 + 1 + 1 < w3.heap.size:=by omega);(try have : w2.heap.size < w3.heap.size:=by omega);(try have : w2.heap.size + 1 < w3.heap.size:=by omega);(try have : w2.heap.size + 1 + 1 < w3.heap.size:=by omega);(try have : w2.heap.size + 1 + 1 + 1 < w3.heap.size:=by omega)))
     all_goals
      refine wp_named (fun W => Bk W w1.heap.size 25 [.int .u64 q1,.int .u64 q0] ∧ Bk W (w.heap.size + 1) 27 [.bool false,.int .u64 0,.int .u64 0,.int .i64 0] ∧ Below w.heap.size w W) ⟨?h1, ?h2, ?h3⟩ ?_
      case h1 => ((repeat (first|(with_reducible assumption)|((with_reducible refine bkW ?_);(first|rfl|(simp only [wsA,wsS,wsD,wsN];done)))|(with_reducible first|refine bkA ?_ _|refine bkD ?_|refine bkN ?_ _)|((with_reducible refine bkF ?_ ?_ _);focus (simp only [];omega))|((with_reducible refine bkB (by assumption) ?_ ?_);focus (go_size;done))));done)
      case h2 =>
       have b1:=HB1.out
       ((repeat (first|(with_reducible assumption)|((with_reducible refine bkW ?_);(first|rfl|(simp only [wsA,wsS,wsD,wsN];done)))|(with_reducible first|refine bkA ?_ _|refine bkD ?_|refine bkN ?_ _)|((with_reducible refine bkF ?_ ?_ _);focus (simp only [];omega))|((with_reducible refine bkB (by assumption) ?_ ?_);focus (go_size;done))));done)
      case h3 => ((repeat' first|(with_reducible first|exact blR _ _|assumption|refine blD ?_|refine blN ?_ _)|((with_reducible first|refine blA ?_ ?_ _|refine blS ?_ ?_ _|refine blT (by assumption) ?_ ?_);focus (go_size;done)));done)
      rintro W ⟨k1,k2,mb⟩
      have kl1:=k1.lt
      have kl2:=k2.lt
      have c10:=k1.cell 0 rfl
      have c11:=k1.cell 1 rfl
      have c20:=k2.cell 0 rfl
      have c21:=k2.cell 1 rfl
      have c22:=k2.cell 2 rfl
      have c23:=k2.cell 3 rfl
      have f20:=k2.frozen 0
      have f21:=k2.frozen 1
      have f22:=k2.frozen 2
      have f23:=k2.frozen 3
      clear hb1 hb2 hb3 hb1c hb2c hb3c hb1f hb2f hb3f d0 d1 d2 d3
      go_wp2_with ((go_at_call 184;with_reducible refine (HCN.out _).mono ?_);rintro _ w4 ⟨rfl,hb4⟩;have hb4s:=hb4.size;(try simp only [wsA,wsS,wsD,wsN] at hb4s);obtain ⟨hb4c,hb4f⟩:=bcell hb4;(try have : w.heap.size < w4.heap.size:=by omega);(try have : w.heap.size + 1 < w4.heap.size:=by omega);(try have : w.heap.size + 1 + 1 < w4.heap.size:=by omega);(try have : w.heap.size + 1 + 1 + 1 < w4.heap.size:=by omega))
      refine bodyPost_ret (by simp [results,Tryz.results151,go_sem, *];try rfl) rfl ?_
      exact ⟨by rw [EE.out,E3.out],by exact bel⟩
    ·by_cases hq2 : q < 2 ^ 128
     ·have HCM:=Lib.hid (fun W => cmp_any q B34 hq2 B34_lt W)
      have hcc:=cmp_bound' hq
      have HNX:=Far.mk (HNO.out hq he.out)
      have hcn : ¬ cmpN q B34 < 0:=by omega
      rw [fit_id hq2,over_id hq2] at HR
      have HP0:=HPW
      obtain ⟨hp0,hp1⟩:=HP0.out
      rw [← hp0,← hp1] at HCM
      generalize cmpN q B34 = cc at *
      generalize wd q 0 = q0 at *
      generalize wd q 1 = q1 at *
      clear hq hq2 HYES HNO he hp0 hp1
      go_wp2_with ((go_at_call 183;with_reducible refine (HR.out _).mono ?_);rintro _ w1 ⟨rfl,hb1⟩;have hb1s:=hb1.size;(try simp only [wsA,wsS,wsD,wsN] at hb1s);obtain ⟨hb1c,hb1f⟩:=bcell hb1;(try have : w.heap.size < w1.heap.size:=by omega);(try have : w.heap.size + 1 < w1.heap.size:=by omega);(try have : w.heap.size + 1 + 1 < w1.heap.size:=by omega);(try have : w.heap.size + 1 + 1 + 1 < w1.heap.size:=by omega))
      go_region_held3 (fun w' => w'.cell? ⟨w1.heap.size,0,none⟩ = some (.int .u64 q1) ∧ w'.cell? ⟨w1.heap.size,1,none⟩ = some (.int .u64 q0)) (first | (first | (go_keep;done) | (simp [go_sem];done) | ((try dsimp only);(repeat' apply And.intro) <;> (first | (with_reducible assumption) | ((rw [World.cell?_alloc_lt _ _ _ (by show _ < _;omega)]);go_split_ands;(first | with_reducible assumption | (refine (World.cell?_alloc_lt _ _ _ (by show _ < _;omega)).symm.trans ?_;with_reducible assumption))) | ((rw [World.cell?_setCell_other _ _ _ _ (by intro e;injection e;omega)]);with_reducible assumption) | (go_keep;done) | (simp [go_sem];done) | (simp (disch:=go_size) [*,World.cell?_alloc_some,World.cell?_setCell_far];done)))) | ((refine ⟨Bk.cell (t:=25) (cs:=[.int .u64 q1,.int .u64 q0]) ?_ 0 rfl,Bk.cell (t:=25) (cs:=[.int .u64 q1,.int .u64 q0]) ?_ 1 rfl⟩) <;> ((repeat (first|(with_reducible assumption)|((with_reducible refine bkW ?_);(first|rfl|(simp only [wsA,wsS,wsD,wsN];done)))|(with_reducible first|refine bkA ?_ _|refine bkD ?_|refine bkN ?_ _)|((with_reducible refine bkF ?_ ?_ _);focus (simp only [];omega))|((with_reducible refine bkB (by assumption) ?_ ?_);focus (go_size;done))));done))) (first | ((go_at_call 104;with_reducible refine (HBD.out _).mono ?_);rintro _ w2 ⟨rfl,hb2⟩;have hb2s:=hb2.size;(try simp only [wsA,wsS,wsD,wsN] at hb2s);obtain ⟨hb2c,hb2f⟩:=bcell hb2;(try have : w.heap.size < w2.heap.size:=by omega);(try have : w.heap.size + 1 < w2.heap.size:=by omega);(try have : w.heap.size + 1 + 1 < w2.heap.size:=by omega);(try have : w.heap.size + 1 + 1 + 1 < w2.heap.size:=by omega);(try have : w1.heap.size < w2.heap.size:=by omega);(try have : w1.heap.size + 1 < w2.heap.size:=by omega);(try have : w1.heap.size + 1 + 1 < w2.heap.size:=by omega);(try have : w1.heap.size + 1 + 1 + 1 < w2.heap.size:=by omega)) | ((go_at_call 103;with_reducible refine (HCM.out _).mono ?_);rintro _ w3 ⟨rfl,hb3⟩;have hb3s:=hb3.size;(try simp only [wsA,wsS,wsD,wsN] at hb3s);obtain ⟨hb3c,hb3f⟩:=bcell hb3;(try have : w.heap.size < w3.heap.size:=by omega);(try have : w.heap.size + 1 < w3.heap.size:=by omega);(try have : w.heap.size + 1 + 1 < w3.heap.size:=by omega);(try have : w.heap.size + 1 + 1 + 1 < w3.heap.size:=by omega);(try have : w1.heap.size < w3.heap.size:=by omega);(try have : w1.heap.size + 1 < w3.heap.size:=by omega);(try have : w1.heap.size + 1 + 1 < w3.heap.size:=by omega);(try have : w1.heap.size + 1 + 1 + 1 < w3.heap.size:=by omega);(try have : w2.heap.size < w3.heap.size:=by omega);(try have : w2.heap.size + 1 < w3.heap.size:=by omega);(try have : w2.heap.size + 1 + 1 < w3.heap.size:=by omega);(try have : w2.heap.size + 1 + 1 + 1 < w3.heap.size:=by omega)))
      all_goals
       refine wp_named (fun W => Bk W w.heap.size 80 (lcells n) ∧ Bk W (w.heap.size + 1) 27 [.bool false,.int .u64 0,.int .u64 0,.int .i64 0] ∧ Below w.heap.size w W) ⟨?h1, ?h2, ?h3⟩ ?_
       case h1 =>
        have b0:=HB0.out
        ((repeat (first|(with_reducible assumption)|((with_reducible refine bkW ?_);(first|rfl|(simp only [wsA,wsS,wsD,wsN];done)))|(with_reducible first|refine bkA ?_ _|refine bkD ?_|refine bkN ?_ _)|((with_reducible refine bkF ?_ ?_ _);focus (simp only [];omega))|((with_reducible refine bkB (by assumption) ?_ ?_);focus (go_size;done))));done)
       case h2 =>
        have b1:=HB1.out
        ((repeat (first|(with_reducible assumption)|((with_reducible refine bkW ?_);(first|rfl|(simp only [wsA,wsS,wsD,wsN];done)))|(with_reducible first|refine bkA ?_ _|refine bkD ?_|refine bkN ?_ _)|((with_reducible refine bkF ?_ ?_ _);focus (simp only [];omega))|((with_reducible refine bkB (by assumption) ?_ ?_);focus (go_size;done))));done)
       case h3 => ((repeat' first|(with_reducible first|exact blR _ _|assumption|refine blD ?_|refine blN ?_ _)|((with_reducible first|refine blA ?_ ?_ _|refine blS ?_ ?_ _|refine blT (by assumption) ?_ ?_);focus (go_size;done)));done)
       rintro W ⟨k1,k2,mb⟩
       go_wp2_with fail
       go_roundg j
       case measure => omega
       case rel => exact ⟨by omega,by omega,rfl,HNX,k1,k2,mb⟩
     ·have HNX:=Far.mk (HNO.out hq he.out)
      have eo : over q = 3:=by unfold over;rw [if_neg hq2]
      rw [eo] at HR
      generalize wd (fitW q) 0 = q0 at *
      generalize wd (fitW q) 1 = q1 at *
      clear hq hq2 HYES HNO he
      go_wp2_with ((go_at_call 183;with_reducible refine (HR.out _).mono ?_);rintro _ w1 ⟨rfl,hb1⟩;have hb1s:=hb1.size;(try simp only [wsA,wsS,wsD,wsN] at hb1s);obtain ⟨hb1c,hb1f⟩:=bcell hb1;(try have : w.heap.size < w1.heap.size:=by omega);(try have : w.heap.size + 1 < w1.heap.size:=by omega);(try have : w.heap.size + 1 + 1 < w1.heap.size:=by omega);(try have : w.heap.size + 1 + 1 + 1 < w1.heap.size:=by omega))
      first | (go_region_with fail) | fail
      all_goals
       refine wp_named (fun W => Bk W w.heap.size 80 (lcells n) ∧ Bk W (w.heap.size + 1) 27 [.bool false,.int .u64 0,.int .u64 0,.int .i64 0] ∧ Below w.heap.size w W) ⟨?h1, ?h2, ?h3⟩ ?_
       case h1 =>
        have b0:=HB0.out
        ((repeat (first|(with_reducible assumption)|((with_reducible refine bkW ?_);(first|rfl|(simp only [wsA,wsS,wsD,wsN];done)))|(with_reducible first|refine bkA ?_ _|refine bkD ?_|refine bkN ?_ _)|((with_reducible refine bkF ?_ ?_ _);focus (simp only [];omega))|((with_reducible refine bkB (by assumption) ?_ ?_);focus (go_size;done))));done)
       case h2 =>
        have b1:=HB1.out
        ((repeat (first|(with_reducible assumption)|((with_reducible refine bkW ?_);(first|rfl|(simp only [wsA,wsS,wsD,wsN];done)))|(with_reducible first|refine bkA ?_ _|refine bkD ?_|refine bkN ?_ _)|((with_reducible refine bkF ?_ ?_ _);focus (simp only [];omega))|((with_reducible refine bkB (by assumption) ?_ ?_);focus (go_size;done))));done)
       case h3 => ((repeat' first|(with_reducible first|exact blR _ _|assumption|refine blD ?_|refine blN ?_ _)|((with_reducible first|refine blA ?_ ?_ _|refine blS ?_ ?_ _|refine blT (by assumption) ?_ ?_);focus (go_size;done)));done)
       rintro W ⟨k1,k2,mb⟩
       go_wp2_with fail
       go_roundg j
       case measure => omega
       case rel => exact ⟨by omega,by omega,rfl,HNX,k1,k2,mb⟩
 ·have g1 : ¬ (t : Int) ≤ 18:=by omega
  have hk2 : (18 : Int) = (k : Int) - 1:=by omega
  have HK2:=Lib.hid hk2
  clear hk hk2
  go_enter Tryz.func151,Tryz.ntmps151
  go_wp2_with fail
  go_loopg [8] k (fun kk sv wr => kk ≤ t + 1 ∧ kk ≤ 19 ∧ sv = .int .i64 ((kk : Int) - 1) ∧ Far (fin (fitK n (10 ^ t) (K19 n)) = fin (fitK n (10 ^ t) kk)) ∧ Bk wr w.heap.size 80 (lcells n) ∧ Bk wr (w.heap.size + 1) 27 [.bool false,.int .u64 0,.int .u64 0,.int .i64 0] ∧ Below w.heap.size w wr)
  case atStart => exact ⟨kt,k19,congrArg (Value.int .i64) (by have:=HK2.out;omega),HE,by rw [lcells_eq];exact bkk,by exact bkk,by exact bel⟩
  case round =>
   obtain ⟨hkt,hk19,rfl,he,b0,b1,hbel⟩:=hrel
   have HB0:=Lib.hid b0
   have HB1:=Lib.hid b1
   have hbs:=hbel.size
   have l0:=b0.lt
   have l1:=b1.lt
   rw [lcells_eq] at b0
   have d0:=b0.cell 0 rfl
   have d1:=b0.cell 1 rfl
   have d2:=b0.cell 2 rfl
   have d3:=b0.cell 3 rfl
   clear b0
   by_cases hz : gk = 0
   ·subst hz
    have h0 : ¬ (0 : Int) ≤ ((0 : Nat) : Int) - 1:=by omega
    have c0:=b1.cell 0 rfl
    have c1:=b1.cell 1 rfl
    have c2:=b1.cell 2 rfl
    have c3:=b1.cell 3 rfl
    have f0:=b1.frozen 0
    have f1:=b1.frozen 1
    have f2:=b1.frozen 2
    have f3:=b1.frozen 3
    clear b1
    go_wp2_with fail
    refine bodyPost_ret (by simp [results,Tryz.results151,go_sem, *];try rfl) rfl ?_
    obtain ⟨e1,e2,e3⟩:=fit_step_end he.out
    exact ⟨by rw [EC.out,ES.out,EE.out,e1,e2,e3,wd_zero,wd_zero,sg_zero];rfl,by exact bel⟩
   ·obtain ⟨j,rfl⟩ : ∃ j,gk = j + 1:=⟨gk - 1,by omega⟩
    have hx : ((j + 1 : Nat) : Int) - 1 = (j : Int):=by omega
    rw [hx]
    have hjt : j ≤ t:=by omega
    have j0 : (0 : Int) ≤ (j : Int):=by omega
    have j18 : (j : Int) ≤ 18:=by omega
    have gs : IntKind.i64.wrap ((t : Int) - (j : Int)) = (t : Int) - (j : Int):=IntWalk.i64_in _ (by omega)
    have HR : Hid (∀ W,Calls Tryz.prog 183 #[.agg #[.int .u64 (wd n 0),.int .u64 (wd n 1),.int .u64 (wd n 2),.int .u64 (wd n 3)],.int .i64 ((t : Int) - (j : Int))] W fun e w' => e = .returned (.tuple #[.agg #[.int .u64 (wd (fitW (near n (10 ^ (t - j)))) 1),.int .u64 (wd (fitW (near n (10 ^ (t - j)))) 0)],.int .i64 (over (near n (10 ^ (t - j))))]) ∧ Below W.heap.size W w'):=Lib.hid (fun W => by
     rw [show (t : Int) - (j : Int) = ((t - j : Nat) : Int) by omega]
     exact round_any n HN.out (t - j) (by omega) W)
    have hyes:=fit_step_yes (n:=n) (t:=t) (j:=j) hjt
    have hno:=fit_step_no (n:=n) (t:=t) (j:=j) hjt
    have HYES:=Far.mk hyes
    have HNO:=Far.mk hno
    generalize near n (10 ^ (t - j)) = q at *
    clear hx hyes hno b1
    by_cases hq : q < B34
    ·have hq2 : q < 2 ^ 128:=Nat.lt_trans hq B34_lt
     obtain ⟨e1,e2,e3⟩:=HYES.out hq he.out
     have HCM:=Lib.hid (fun W => cmp_any q B34 hq2 B34_lt W)
     have hcc:=cmp_bound hq
     have HCN:=Lib.hid (fun W => canon_any neg q j hq (by omega) W)
     rw [fit_id hq2,over_id hq2] at HR
     rw [← e1,← e2,← EC.out,← ES.out] at HCN
     have E3:=Far.mk e3
     have HP0:=HPW
     obtain ⟨hp0,hp1⟩:=HP0.out
     rw [← hp0,← hp1] at HCM
     generalize cmpN q B34 = cc at *
     generalize wd q 0 = q0 at *
     generalize wd q 1 = q1 at *
     clear hq hq2 e1 e2 e3 HYES HNO he hp0 hp1
     go_wp2_with ((go_at_call 183;with_reducible refine (HR.out _).mono ?_);rintro _ w1 ⟨rfl,hb1⟩;have hb1s:=hb1.size;(try simp only [wsA,wsS,wsD,wsN] at hb1s);obtain ⟨hb1c,hb1f⟩:=bcell hb1;(try have : w.heap.size < w1.heap.size:=by omega);(try have : w.heap.size + 1 < w1.heap.size:=by omega);(try have : w.heap.size + 1 + 1 < w1.heap.size:=by omega);(try have : w.heap.size + 1 + 1 + 1 < w1.heap.size:=by omega))
     go_region_held3 (fun w' => w'.cell? ⟨w1.heap.size,0,none⟩ = some (.int .u64 q1) ∧ w'.cell? ⟨w1.heap.size,1,none⟩ = some (.int .u64 q0)) (first | (first | (go_keep;done) | (simp [go_sem];done) | ((try dsimp only);(repeat' apply And.intro) <;> (first | (with_reducible assumption) | ((rw [World.cell?_alloc_lt _ _ _ (by show _ < _;omega)]);go_split_ands;(first | with_reducible assumption | (refine (World.cell?_alloc_lt _ _ _ (by show _ < _;omega)).symm.trans ?_;with_reducible assumption))) | ((rw [World.cell?_setCell_other _ _ _ _ (by intro e;injection e;omega)]);with_reducible assumption) | (go_keep;done) | (simp [go_sem];done) | (simp (disch:=go_size) [*,World.cell?_alloc_some,World.cell?_setCell_far];done)))) | ((refine ⟨Bk.cell (t:=25) (cs:=[.int .u64 q1,.int .u64 q0]) ?_ 0 rfl,Bk.cell (t:=25) (cs:=[.int .u64 q1,.int .u64 q0]) ?_ 1 rfl⟩) <;> ((repeat (first|(with_reducible assumption)|((with_reducible refine bkW ?_);(first|rfl|(simp only [wsA,wsS,wsD,wsN];done)))|(with_reducible first|refine bkA ?_ _|refine bkD ?_|refine bkN ?_ _)|((with_reducible refine bkF ?_ ?_ _);focus (simp only [];omega))|((with_reducible refine bkB (by assumption) ?_ ?_);focus (go_size;done))));done))) (first | ((go_at_call 104;with_reducible refine (HBD.out _).mono ?_);rintro _ w2 ⟨rfl,hb2⟩;have hb2s:=hb2.size;(try simp only [wsA,wsS,wsD,wsN] at hb2s);obtain ⟨hb2c,hb2f⟩:=bcell hb2;(try have : w.heap.size < w2.heap.size:=by omega);(try have : w.heap.size + 1 < w2.heap.size:=by omega);(try have : w.heap.size + 1 + 1 < w2.heap.size:=by omega);(try have : w.heap.size + 1 + 1 + 1 < w2.heap.size:=by omega);(try have : w1.heap.size < w2.heap.size:=by omega);(try have : w1.heap.size + 1 < w2.heap.size:=by omega);(try have : w1.heap.size + 1 + 1 < w2.heap.size:=by omega);(try have : w1.heap.size + 1 + 1 + 1 < w2.heap.size:=by omega)) | ((go_at_call 103;with_reducible refine (HCM.out _).mono ?_);rintro _ w3 ⟨rfl,hb3⟩;have hb3s:=hb3.size;(try simp only [wsA,wsS,wsD,wsN] at hb3s);obtain ⟨hb3c,hb3f⟩:=bcell hb3;(try have : w.heap.size < w3.heap.size:=by omega);(try have : w.heap.size + 1 < w3.heap.size:=by omega);(try have : w.heap.size + 1 + 1 < w3.heap.size:=by omega);(try have : w.heap.size + 1 + 1 + 1 < w3.heap.size:=by omega);(try have : w1.heap.size < w3.heap.size:=by omega);(try have : w1.heap.size + 1 < w3.heap.size:=by omega);(try have : w1.heap.size + 1 + 1 < w3.heap.size:=by omega);(try have : w1.heap.size + 1 + 1 + 1 < w3.heap.size:=by omega);(try have : w2.heap.size < w3.heap.size:=by omega);(try have : w2.heap.size + 1 < w3.heap.size:=by omega);(try have : w2.heap.size + 1 + 1 < w3.heap.size:=by omega);(try have : w2.heap.size + 1 + 1 + 1 < w3.heap.size:=by omega)))
     all_goals
      refine wp_named (fun W => Bk W w1.heap.size 25 [.int .u64 q1,.int .u64 q0] ∧ Bk W (w.heap.size + 1) 27 [.bool false,.int .u64 0,.int .u64 0,.int .i64 0] ∧ Below w.heap.size w W) ⟨?h1, ?h2, ?h3⟩ ?_
      case h1 => ((repeat (first|(with_reducible assumption)|((with_reducible refine bkW ?_);(first|rfl|(simp only [wsA,wsS,wsD,wsN];done)))|(with_reducible first|refine bkA ?_ _|refine bkD ?_|refine bkN ?_ _)|((with_reducible refine bkF ?_ ?_ _);focus (simp only [];omega))|((with_reducible refine bkB (by assumption) ?_ ?_);focus (go_size;done))));done)
      case h2 =>
       have b1:=HB1.out
       ((repeat (first|(with_reducible assumption)|((with_reducible refine bkW ?_);(first|rfl|(simp only [wsA,wsS,wsD,wsN];done)))|(with_reducible first|refine bkA ?_ _|refine bkD ?_|refine bkN ?_ _)|((with_reducible refine bkF ?_ ?_ _);focus (simp only [];omega))|((with_reducible refine bkB (by assumption) ?_ ?_);focus (go_size;done))));done)
      case h3 => ((repeat' first|(with_reducible first|exact blR _ _|assumption|refine blD ?_|refine blN ?_ _)|((with_reducible first|refine blA ?_ ?_ _|refine blS ?_ ?_ _|refine blT (by assumption) ?_ ?_);focus (go_size;done)));done)
      rintro W ⟨k1,k2,mb⟩
      have kl1:=k1.lt
      have kl2:=k2.lt
      have c10:=k1.cell 0 rfl
      have c11:=k1.cell 1 rfl
      have c20:=k2.cell 0 rfl
      have c21:=k2.cell 1 rfl
      have c22:=k2.cell 2 rfl
      have c23:=k2.cell 3 rfl
      have f20:=k2.frozen 0
      have f21:=k2.frozen 1
      have f22:=k2.frozen 2
      have f23:=k2.frozen 3
      clear hb1 hb2 hb3 hb1c hb2c hb3c hb1f hb2f hb3f d0 d1 d2 d3
      go_wp2_with ((go_at_call 184;with_reducible refine (HCN.out _).mono ?_);rintro _ w4 ⟨rfl,hb4⟩;have hb4s:=hb4.size;(try simp only [wsA,wsS,wsD,wsN] at hb4s);obtain ⟨hb4c,hb4f⟩:=bcell hb4;(try have : w.heap.size < w4.heap.size:=by omega);(try have : w.heap.size + 1 < w4.heap.size:=by omega);(try have : w.heap.size + 1 + 1 < w4.heap.size:=by omega);(try have : w.heap.size + 1 + 1 + 1 < w4.heap.size:=by omega))
      refine bodyPost_ret (by simp [results,Tryz.results151,go_sem, *];try rfl) rfl ?_
      exact ⟨by rw [EE.out,E3.out],by exact bel⟩
    ·by_cases hq2 : q < 2 ^ 128
     ·have HCM:=Lib.hid (fun W => cmp_any q B34 hq2 B34_lt W)
      have hcc:=cmp_bound' hq
      have HNX:=Far.mk (HNO.out hq he.out)
      have hcn : ¬ cmpN q B34 < 0:=by omega
      rw [fit_id hq2,over_id hq2] at HR
      have HP0:=HPW
      obtain ⟨hp0,hp1⟩:=HP0.out
      rw [← hp0,← hp1] at HCM
      generalize cmpN q B34 = cc at *
      generalize wd q 0 = q0 at *
      generalize wd q 1 = q1 at *
      clear hq hq2 HYES HNO he hp0 hp1
      go_wp2_with ((go_at_call 183;with_reducible refine (HR.out _).mono ?_);rintro _ w1 ⟨rfl,hb1⟩;have hb1s:=hb1.size;(try simp only [wsA,wsS,wsD,wsN] at hb1s);obtain ⟨hb1c,hb1f⟩:=bcell hb1;(try have : w.heap.size < w1.heap.size:=by omega);(try have : w.heap.size + 1 < w1.heap.size:=by omega);(try have : w.heap.size + 1 + 1 < w1.heap.size:=by omega);(try have : w.heap.size + 1 + 1 + 1 < w1.heap.size:=by omega))
      go_region_held3 (fun w' => w'.cell? ⟨w1.heap.size,0,none⟩ = some (.int .u64 q1) ∧ w'.cell? ⟨w1.heap.size,1,none⟩ = some (.int .u64 q0)) (first | (first | (go_keep;done) | (simp [go_sem];done) | ((try dsimp only);(repeat' apply And.intro) <;> (first | (with_reducible assumption) | ((rw [World.cell?_alloc_lt _ _ _ (by show _ < _;omega)]);go_split_ands;(first | with_reducible assumption | (refine (World.cell?_alloc_lt _ _ _ (by show _ < _;omega)).symm.trans ?_;with_reducible assumption))) | ((rw [World.cell?_setCell_other _ _ _ _ (by intro e;injection e;omega)]);with_reducible assumption) | (go_keep;done) | (simp [go_sem];done) | (simp (disch:=go_size) [*,World.cell?_alloc_some,World.cell?_setCell_far];done)))) | ((refine ⟨Bk.cell (t:=25) (cs:=[.int .u64 q1,.int .u64 q0]) ?_ 0 rfl,Bk.cell (t:=25) (cs:=[.int .u64 q1,.int .u64 q0]) ?_ 1 rfl⟩) <;> ((repeat (first|(with_reducible assumption)|((with_reducible refine bkW ?_);(first|rfl|(simp only [wsA,wsS,wsD,wsN];done)))|(with_reducible first|refine bkA ?_ _|refine bkD ?_|refine bkN ?_ _)|((with_reducible refine bkF ?_ ?_ _);focus (simp only [];omega))|((with_reducible refine bkB (by assumption) ?_ ?_);focus (go_size;done))));done))) (first | ((go_at_call 104;with_reducible refine (HBD.out _).mono ?_);rintro _ w2 ⟨rfl,hb2⟩;have hb2s:=hb2.size;(try simp only [wsA,wsS,wsD,wsN] at hb2s);obtain ⟨hb2c,hb2f⟩:=bcell hb2;(try have : w.heap.size < w2.heap.size:=by omega);(try have : w.heap.size + 1 < w2.heap.size:=by omega);(try have : w.heap.size + 1 + 1 < w2.heap.size:=by omega);(try have : w.heap.size + 1 + 1 + 1 < w2.heap.size:=by omega);(try have : w1.heap.size < w2.heap.size:=by omega);(try have : w1.heap.size + 1 < w2.heap.size:=by omega);(try have : w1.heap.size + 1 + 1 < w2.heap.size:=by omega);(try have : w1.heap.size + 1 + 1 + 1 < w2.heap.size:=by omega)) | ((go_at_call 103;with_reducible refine (HCM.out _).mono ?_);rintro _ w3 ⟨rfl,hb3⟩;have hb3s:=hb3.size;(try simp only [wsA,wsS,wsD,wsN] at hb3s);obtain ⟨hb3c,hb3f⟩:=bcell hb3;(try have : w.heap.size < w3.heap.size:=by omega);(try have : w.heap.size + 1 < w3.heap.size:=by omega);(try have : w.heap.size + 1 + 1 < w3.heap.size:=by omega);(try have : w.heap.size + 1 + 1 + 1 < w3.heap.size:=by omega);(try have : w1.heap.size < w3.heap.size:=by omega);(try have : w1.heap.size + 1 < w3.heap.size:=by omega);(try have : w1.heap.size + 1 + 1 < w3.heap.size:=by omega);(try have : w1.heap.size + 1 + 1 + 1 < w3.heap.size:=by omega);(try have : w2.heap.size < w3.heap.size:=by omega);(try have : w2.heap.size + 1 < w3.heap.size:=by omega);(try have : w2.heap.size + 1 + 1 < w3.heap.size:=by omega);(try have : w2.heap.size + 1 + 1 + 1 < w3.heap.size:=by omega)))
      all_goals
       refine wp_named (fun W => Bk W w.heap.size 80 (lcells n) ∧ Bk W (w.heap.size + 1) 27 [.bool false,.int .u64 0,.int .u64 0,.int .i64 0] ∧ Below w.heap.size w W) ⟨?h1, ?h2, ?h3⟩ ?_
       case h1 =>
        have b0:=HB0.out
        ((repeat (first|(with_reducible assumption)|((with_reducible refine bkW ?_);(first|rfl|(simp only [wsA,wsS,wsD,wsN];done)))|(with_reducible first|refine bkA ?_ _|refine bkD ?_|refine bkN ?_ _)|((with_reducible refine bkF ?_ ?_ _);focus (simp only [];omega))|((with_reducible refine bkB (by assumption) ?_ ?_);focus (go_size;done))));done)
       case h2 =>
        have b1:=HB1.out
        ((repeat (first|(with_reducible assumption)|((with_reducible refine bkW ?_);(first|rfl|(simp only [wsA,wsS,wsD,wsN];done)))|(with_reducible first|refine bkA ?_ _|refine bkD ?_|refine bkN ?_ _)|((with_reducible refine bkF ?_ ?_ _);focus (simp only [];omega))|((with_reducible refine bkB (by assumption) ?_ ?_);focus (go_size;done))));done)
       case h3 => ((repeat' first|(with_reducible first|exact blR _ _|assumption|refine blD ?_|refine blN ?_ _)|((with_reducible first|refine blA ?_ ?_ _|refine blS ?_ ?_ _|refine blT (by assumption) ?_ ?_);focus (go_size;done)));done)
       rintro W ⟨k1,k2,mb⟩
       go_wp2_with fail
       go_roundg j
       case measure => omega
       case rel => exact ⟨by omega,by omega,rfl,HNX,k1,k2,mb⟩
     ·have HNX:=Far.mk (HNO.out hq he.out)
      have eo : over q = 3:=by unfold over;rw [if_neg hq2]
      rw [eo] at HR
      generalize wd (fitW q) 0 = q0 at *
      generalize wd (fitW q) 1 = q1 at *
      clear hq hq2 HYES HNO he
      go_wp2_with ((go_at_call 183;with_reducible refine (HR.out _).mono ?_);rintro _ w1 ⟨rfl,hb1⟩;have hb1s:=hb1.size;(try simp only [wsA,wsS,wsD,wsN] at hb1s);obtain ⟨hb1c,hb1f⟩:=bcell hb1;(try have : w.heap.size < w1.heap.size:=by omega);(try have : w.heap.size + 1 < w1.heap.size:=by omega);(try have : w.heap.size + 1 + 1 < w1.heap.size:=by omega);(try have : w.heap.size + 1 + 1 + 1 < w1.heap.size:=by omega))
      first | (go_region_with fail) | fail
      all_goals
       refine wp_named (fun W => Bk W w.heap.size 80 (lcells n) ∧ Bk W (w.heap.size + 1) 27 [.bool false,.int .u64 0,.int .u64 0,.int .i64 0] ∧ Below w.heap.size w W) ⟨?h1, ?h2, ?h3⟩ ?_
       case h1 =>
        have b0:=HB0.out
        ((repeat (first|(with_reducible assumption)|((with_reducible refine bkW ?_);(first|rfl|(simp only [wsA,wsS,wsD,wsN];done)))|(with_reducible first|refine bkA ?_ _|refine bkD ?_|refine bkN ?_ _)|((with_reducible refine bkF ?_ ?_ _);focus (simp only [];omega))|((with_reducible refine bkB (by assumption) ?_ ?_);focus (go_size;done))));done)
       case h2 =>
        have b1:=HB1.out
        ((repeat (first|(with_reducible assumption)|((with_reducible refine bkW ?_);(first|rfl|(simp only [wsA,wsS,wsD,wsN];done)))|(with_reducible first|refine bkA ?_ _|refine bkD ?_|refine bkN ?_ _)|((with_reducible refine bkF ?_ ?_ _);focus (simp only [];omega))|((with_reducible refine bkB (by assumption) ?_ ?_);focus (go_size;done))));done)
       case h3 => ((repeat' first|(with_reducible first|exact blR _ _|assumption|refine blD ?_|refine blN ?_ _)|((with_reducible first|refine blA ?_ ?_ _|refine blS ?_ ?_ _|refine blT (by assumption) ?_ ?_);focus (go_size;done)));done)
       rintro W ⟨k1,k2,mb⟩
       go_wp2_with fail
       go_roundg j
       case measure => omega
       case rel => exact ⟨by omega,by omega,rfl,HNX,k1,k2,mb⟩
end Go.Proofs.YtbnadlpkbbdgjaaGreatDoor



namespace Go.Proofs.YtbnadlpkbbdgjaaGreatDoor
open Go.RowKit

set_option maxHeartbeats 4000000 in
theorem order_any (n m : Nat) (hn : n < 2 ^ 256) (hm : m < 2 ^ 256) (w : World) : Calls Tryz.prog 49 #[.agg #[.int .u64 (wd n 0),.int .u64 (wd n 1),.int .u64 (wd n 2),.int .u64 (wd n 3)],.agg #[.int .u64 (wd m 0),.int .u64 (wd m 1),.int .u64 (wd m 2),.int .u64 (wd m 3)]] w fun e w' => e = .returned (.int .i64 (cmpN n m)) ∧ Below w.heap.size w w':=by
 have H0:=Far.mk (top_none hn hm)
 obtain ⟨cc,hcc⟩ : ∃ cc,cc = cmpN n m:=⟨_,rfl⟩
 rw [← hcc]
 have HC:=Lib.hid hcc
 clear hn hm hcc
 go_enter Tryz.func49,Tryz.ntmps49
 go_wp2_with fail
 go_loopg [5] 4 (fun k i wr => k ≤ 4 ∧ i = .int .i64 ((k : Int) - 1) ∧ Far (n / 2 ^ (64 * k) = m / 2 ^ (64 * k)) ∧ Bk wr w.heap.size 80 (lcells n) ∧ Bk wr (w.heap.size + 1) 80 (lcells m) ∧ Below w.heap.size w wr)
 case atStart => exact ⟨Nat.le_refl _,rfl,H0,by rw [lcells_eq];exact bkk,by rw [lcells_eq];exact bkk,by exact bel⟩
 case round =>
  obtain ⟨hk,rfl,hd,b0,b1,hbel⟩:=hrel
  have HB0:=Lib.hid b0
  have HB1:=Lib.hid b1
  clear b0 b1 H0
  by_cases hz : gk = 0
  ·subst hz
   have e : n = m:=by have:=hd.out;rwa [Nat.mul_zero,Nat.pow_zero,Nat.div_one,Nat.div_one] at this
   have hc : cmpN n m = 0:=by unfold cmpN;rw [if_pos e]
   have HD:=Lib.hid hc
   have h0 : ¬ (0 : Int) ≤ ((0 : Nat) : Int) - 1:=by omega
   clear e hc hd
   go_wp2_with fail
   go_ret
   exact ⟨ret_int (by rw [HC.out,HD.out]),by exact bel⟩
  ·obtain ⟨j,rfl⟩ : ∃ j,gk = j + 1:=⟨gk - 1,by omega⟩
   have j4 : j < 4:=by omega
   have hx : ((j + 1 : Nat) : Int) - 1 = (j : Int):=by omega
   have c0 : wr.cell? ⟨w.heap.size,j,none⟩ = some (.int .u64 (wd n j)):=HB0.out.cell j (lcells_at n j j4)
   have c1 : wr.cell? ⟨w.heap.size + 1,j,none⟩ = some (.int .u64 (wd m j)):=HB1.out.cell j (lcells_at m j j4)
   obtain ⟨x,ex⟩ : ∃ x,x = wd n j:=⟨_,rfl⟩
   obtain ⟨y,ey⟩ : ∃ y,y = wd m j:=⟨_,rfl⟩
   rw [← ex] at c0
   rw [← ey] at c1
   have HX:=Lib.hid ex
   have HY:=Lib.hid ey
   clear ex ey hz
   rw [hx]
   have j0 : (0 : Int) ≤ (j : Int):=by omega
   have j3 : (j : Int) < 4:=by omega
   rcases Int.lt_trichotomy x y with hl | he | hg
   ·have hlt : n < m:=top_lt hd.out (by rw [← HX.out,← HY.out];exact hl)
    have hc : cmpN n m = -1:=by unfold cmpN;rw [if_neg (by omega),if_pos hlt]
    have HD:=Lib.hid hc
    clear hc hlt hx
    go_wp2_with fail
    go_region
    all_goals
     go_wp2_with fail
     go_ret
     exact ⟨ret_int (by rw [HC.out,HD.out]),by exact bel⟩
   ·have heq : n / 2 ^ (64 * j) = m / 2 ^ (64 * j):=top_eq hd.out (by rw [← HX.out,← HY.out];exact he)
    have HE:=Far.mk heq
    clear heq hx
    subst he
    go_wp2_with fail
    go_region
    all_goals
     go_wp2_with fail
     go_region
     all_goals
      go_wp2_with fail
      go_roundg j
      case measure => omega
      case rel =>
       have b0:=HB0.out
       have b1:=HB1.out
       exact ⟨by omega,rfl,HE,by exact bkk,by exact bkk,by exact bel⟩
   ·have hlt : m < n:=top_lt hd.out.symm (by rw [← HX.out,← HY.out];exact hg)
    have hc : cmpN n m = 1:=by unfold cmpN;rw [if_neg (by omega),if_neg (by omega)]
    have HD:=Lib.hid hc
    have hg2 : ¬ x < y:=by omega
    clear hc hlt hx
    go_wp2_with fail
    go_region
    all_goals
     go_wp2_with fail
     go_region
     all_goals
      go_wp2_with fail
      go_ret
      exact ⟨ret_int (by rw [HC.out,HD.out]),by exact bel⟩
end Go.Proofs.YtbnadlpkbbdgjaaGreatDoor



namespace Go.Proofs.YtbnadlpkbbdgjaaGreatDoor
open Go.RowKit

set_option maxHeartbeats 4000000 in
theorem plus4_any (n m : Nat) (hs : n + m < 2 ^ 256) (w : World) : Calls Tryz.prog 153 #[.agg #[.int .u64 (wd n 0),.int .u64 (wd n 1),.int .u64 (wd n 2),.int .u64 (wd n 3)],.agg #[.int .u64 (wd m 0),.int .u64 (wd m 1),.int .u64 (wd m 2),.int .u64 (wd m 3)]] w fun e w' => e = .returned (.agg #[.int .u64 (wd (n + m) 0),.int .u64 (wd (n + m) 1),.int .u64 (wd (n + m) 2),.int .u64 (wd (n + m) 3)]) ∧ Below w.heap.size w w':=by
 have hn : n < 2 ^ 256:=by omega
 have HN:=Far.mk hn
 have HS:=Far.mk hs
 obtain ⟨z,hz⟩ : ∃ z,z = n + m:=⟨_,rfl⟩
 rw [← hz]
 have HZ:=Lib.hid hz
 clear hn hs hz
 go_enter Tryz.func153,Tryz.ntmps153
 go_wp2_with fail
 go_loopg [5,7] 4 (fun k c i wr => ∃ (t : Nat) (cc : Int) (V : Nat),k + t = 4 ∧ i = .int .i64 t ∧ c = .int .u64 cc ∧ 0 ≤ cc ∧ cc ≤ 1 ∧ Far (V < 2 ^ 256) ∧ Far ((V : Int) + cc * ((2 ^ (64 * t) : Nat) : Int) = n + ((m % 2 ^ (64 * t) : Nat) : Int)) ∧
  Bk wr w.heap.size 80 (lcells V) ∧ Bk wr (w.heap.size + 1) 80 (lcells m) ∧ Bk wr (w.heap.size + 1 + 1) 80 [.int .u64 0,.int .u64 0,.int .u64 0,.int .u64 0] ∧ Below w.heap.size w wr)
 case atStart =>
  refine ⟨0,0,n,rfl,rfl,rfl,by decide,by decide,HN,Far.mk ?_,by rw [lcells_eq];exact bkk,by rw [lcells_eq];exact bkk,by exact bkk,by exact bel⟩
  rw [Nat.mul_zero,Nat.pow_zero,Nat.mod_one];simp
 case round =>
  obtain ⟨t,cc,V,hk,rfl,rfl,c0,c1,hV,hE,b0,b1,b2,hbel⟩:=hrel
  have HK:=Lib.hid hk
  have HB0:=Lib.hid b0
  have HB1:=Lib.hid b1
  have HB2:=Lib.hid b2
  have t4 : t ≤ 4:=by omega
  have l2:=b2.lt
  clear hk b0 b1 b2
  by_cases hlt : t < 4
  ·have t0 : (0 : Int) ≤ (t : Int):=by omega
   have t3 : (t : Int) < 4:=by omega
   have d0 : wr.cell? ⟨w.heap.size,t,none⟩ = some (.int .u64 (wd V t)):=HB0.out.cell t (lcells_at V t hlt)
   have d1 : wr.cell? ⟨w.heap.size + 1,t,none⟩ = some (.int .u64 (wd m t)):=HB1.out.cell t (lcells_at m t hlt)
   have f0:=HB0.out.frozen t
   obtain ⟨s,k,f,hC⟩:=add64_ex (wd V t) (wd m t) cc (wd_nn V t) (wd_lt V t) (wd_nn m t) (wd_lt m t) c0 c1
   unfold Carry at hC
   obtain ⟨i3,s0,s1,k0,k1⟩:=hC
   obtain ⟨V',v1,v2,v3,v4,v5⟩:=lcells_set V t hlt hV.out s s0 s1
   have HNEW:=Far.mk (plus_word hE.out rfl rfl v2 i3)
   have HV':=Far.mk v1
   have HL:=Lib.hid v3
   clear i3 v1 v2 v3 v4 v5 hE hV
   generalize wd V t = x at *
   generalize wd m t = y at *
   go_wp2_with fail
   go_region
   all_goals
    go_wp2_with fail
    go_roundg (gk - 1)
    case measure => have:=HK.out;omega
    case rel =>
     have b0:=HB0.out
     have b1:=HB1.out
     have b2:=HB2.out
     refine ⟨t + 1,k,V',by have:=HK.out;omega,by go_num,rfl,k0,k1,HV',HNEW, ?_,by exact bkk,by exact bkk,by exact bel⟩
     rw [← HL.out]
     repeat (first | refine Bk.drew ?_ | refine Bk.drewN ?_ _)
     exact b0.set_ _ _
  ·obtain rfl : t = 4:=by omega
   have e:=plus_end hV.out HS.out c0 hE.out
   rw [← HZ.out] at e
   subst e
   have b0:=HB0.out
   have b2:=HB2.out
   rw [lcells_eq] at b0
   have d0:=b0.cell 0 rfl
   have d1:=b0.cell 1 rfl
   have d2:=b0.cell 2 rfl
   have d3:=b0.cell 3 rfl
   have e0:=b2.cell 0 rfl
   have e1:=b2.cell 1 rfl
   have e2:=b2.cell 2 rfl
   have e3:=b2.cell 3 rfl
   have g0:=b2.frozen 0
   have g1:=b2.frozen 1
   have g2:=b2.frozen 2
   have g3:=b2.frozen 3
   clear b0 b2 hE hV HS
   go_wp2_with fail
   refine bodyPost_ret (by simp [results,Tryz.results153,go_sem, *];try rfl) rfl ?_
   exact ⟨rfl,by exact bel⟩
end Go.Proofs.YtbnadlpkbbdgjaaGreatDoor



namespace Go.Proofs.YtbnadlpkbbdgjaaGreatDoor
open Go.RowKit

set_option maxHeartbeats 4000000 in
theorem minus4_any (n m : Nat) (hn : n < 2 ^ 256) (hs : m ≤ n) (w : World) : Calls Tryz.prog 152 #[.agg #[.int .u64 (wd n 0),.int .u64 (wd n 1),.int .u64 (wd n 2),.int .u64 (wd n 3)],.agg #[.int .u64 (wd m 0),.int .u64 (wd m 1),.int .u64 (wd m 2),.int .u64 (wd m 3)]] w fun e w' => e = .returned (.agg #[.int .u64 (wd (n - m) 0),.int .u64 (wd (n - m) 1),.int .u64 (wd (n - m) 2),.int .u64 (wd (n - m) 3)]) ∧ Below w.heap.size w w':=by
 have HN:=Far.mk hn
 have HS:=Far.mk hs
 obtain ⟨z,hz⟩ : ∃ z,z = n - m:=⟨_,rfl⟩
 rw [← hz]
 have HZ:=Lib.hid hz
 clear hn hs hz
 go_enter Tryz.func152,Tryz.ntmps152
 go_wp2_with fail
 go_loopg [5,7] 4 (fun k c i wr => ∃ (t : Nat) (cc : Int) (V : Nat),k + t = 4 ∧ i = .int .i64 t ∧ c = .int .u64 cc ∧ 0 ≤ cc ∧ cc ≤ 1 ∧ Far (V < 2 ^ 256) ∧ Far ((V : Int) - cc * ((2 ^ (64 * t) : Nat) : Int) = n - ((m % 2 ^ (64 * t) : Nat) : Int)) ∧
  Bk wr w.heap.size 80 (lcells V) ∧ Bk wr (w.heap.size + 1) 80 (lcells m) ∧ Bk wr (w.heap.size + 1 + 1) 80 [.int .u64 0,.int .u64 0,.int .u64 0,.int .u64 0] ∧ Below w.heap.size w wr)
 case atStart =>
  refine ⟨0,0,n,rfl,rfl,rfl,by decide,by decide,HN,Far.mk ?_,by rw [lcells_eq];exact bkk,by rw [lcells_eq];exact bkk,by exact bkk,by exact bel⟩
  rw [Nat.mul_zero,Nat.pow_zero,Nat.mod_one];simp
 case round =>
  obtain ⟨t,cc,V,hk,rfl,rfl,c0,c1,hV,hE,b0,b1,b2,hbel⟩:=hrel
  have HK:=Lib.hid hk
  have HB0:=Lib.hid b0
  have HB1:=Lib.hid b1
  have HB2:=Lib.hid b2
  have t4 : t ≤ 4:=by omega
  have l2:=b2.lt
  clear hk b0 b1 b2
  by_cases hlt : t < 4
  ·have t0 : (0 : Int) ≤ (t : Int):=by omega
   have t3 : (t : Int) < 4:=by omega
   have d0 : wr.cell? ⟨w.heap.size,t,none⟩ = some (.int .u64 (wd V t)):=HB0.out.cell t (lcells_at V t hlt)
   have d1 : wr.cell? ⟨w.heap.size + 1,t,none⟩ = some (.int .u64 (wd m t)):=HB1.out.cell t (lcells_at m t hlt)
   have f0:=HB0.out.frozen t
   obtain ⟨s,k,f,hC⟩:=sub64_ex (wd V t) (wd m t) cc (wd_nn V t) (wd_lt V t) (wd_nn m t) (wd_lt m t) c0 c1
   unfold Borrow at hC
   obtain ⟨i3,s0,s1,k0,k1⟩:=hC
   obtain ⟨V',v1,v2,v3,v4,v5⟩:=lcells_set V t hlt hV.out s s0 s1
   have HNEW:=Far.mk (minus_word hE.out rfl rfl v2 i3)
   have HV':=Far.mk v1
   have HL:=Lib.hid v3
   clear i3 v1 v2 v3 v4 v5 hE hV
   generalize wd V t = x at *
   generalize wd m t = y at *
   go_wp2_with fail
   go_region
   all_goals
    go_wp2_with fail
    go_roundg (gk - 1)
    case measure => have:=HK.out;omega
    case rel =>
     have b0:=HB0.out
     have b1:=HB1.out
     have b2:=HB2.out
     refine ⟨t + 1,k,V',by have:=HK.out;omega,by go_num,rfl,k0,k1,HV',HNEW, ?_,by exact bkk,by exact bkk,by exact bel⟩
     rw [← HL.out]
     repeat (first | refine Bk.drew ?_ | refine Bk.drewN ?_ _)
     exact b0.set_ _ _
  ·obtain rfl : t = 4:=by omega
   have e:=minus_end hV.out HN.out HS.out c0 hE.out
   rw [← HZ.out] at e
   subst e
   have b0:=HB0.out
   have b2:=HB2.out
   rw [lcells_eq] at b0
   have d0:=b0.cell 0 rfl
   have d1:=b0.cell 1 rfl
   have d2:=b0.cell 2 rfl
   have d3:=b0.cell 3 rfl
   have e0:=b2.cell 0 rfl
   have e1:=b2.cell 1 rfl
   have e2:=b2.cell 2 rfl
   have e3:=b2.cell 3 rfl
   have g0:=b2.frozen 0
   have g1:=b2.frozen 1
   have g2:=b2.frozen 2
   have g3:=b2.frozen 3
   clear b0 b2 hE hV HS
   go_wp2_with fail
   refine bodyPost_ret (by simp [results,Tryz.results152,go_sem, *];try rfl) rfl ?_
   exact ⟨rfl,by exact bel⟩
end Go.Proofs.YtbnadlpkbbdgjaaGreatDoor



namespace Go.Proofs.YtbnadlpkbbdgjaaGreatDoor
open Go.RowKit

set_option maxRecDepth 100000 in
set_option maxHeartbeats 8000000 in
theorem dcmp_ok (b : Bool) (c s : Nat) (b' : Bool) (c' s' : Nat) (h : dform b c s = true) (h' : dform b' c' s' = true) (hc : c < B34) (hc' : c' < B34) (hs : s ≤ 18) (hs' : s' ≤ 18) (w : World) :
  Calls Tryz.prog 28 #[.agg #[.bool b,.int .u64 (wd (c) 1),.int .u64 (wd (c) 0),.int .i64 s],.agg #[.bool b',.int .u64 (wd (c') 1),.int .u64 (wd (c') 0),.int .i64 s']] w fun e w' => e = .returned (.tuple #[.int .i64 (ordD b (unit c s) b' (unit c' s')),.int .i64 0]) ∧ Below w.heap.size w w':=by
 obtain ⟨m,hm⟩ : ∃ m,m = max s s':=⟨_,rfl⟩
 rw [ord_units b b' c c' s s' m (by omega) (by omega) (by omega)]
 have HF:=Lib.hid (fun g W hg => formed_two b c s (Nat.lt_trans hc B34_lt) b' c' s' (Nat.lt_trans hc' B34_lt) g W hg)
 rw [h,h'] at HF
 simp only [ferr,Bool.and_true,if_true] at HF
 have HB:=Lib.hid (fun W => both_any b c s b' c' s' m hc hc' hs hs' hm W)
 have hX : c * 10 ^ (m - s) < 10 ^ 52:=scaled_lt hc (by omega)
 have hY : c' * 10 ^ (m - s') < 10 ^ 52:=scaled_lt hc' (by omega)
 generalize c * 10 ^ (m - s) = X at *
 generalize c' * 10 ^ (m - s') = Y at *
 have hX2 : X < 2 ^ 256:=Nat.lt_trans hX (by decide)
 have hY2 : Y < 2 ^ 256:=Nat.lt_trans hY (by decide)
 have HO:=Lib.hid (fun W => order_any X Y hX2 hY2 W)
 have HP:=Lib.hid (fun W => order_any Y X hY2 hX2 W)
 clear h h' hm hX hY hX2 hY2
 unfold ordD
 generalize cmpN X Y = c1 at *
 generalize cmpN Y X = c2 at *
 obtain ⟨sI,hsI⟩ : ∃ sI : Int,sI = (s : Int):=⟨_,rfl⟩
 obtain ⟨sJ,hsJ⟩ : ∃ sJ : Int,sJ = (s' : Int):=⟨_,rfl⟩
 rw [← hsI,← hsJ] at HF HB
 rw [← hsI,← hsJ]
 clear hsI hsJ hs hs'
 obtain ⟨s,rfl⟩ : ∃ s,s = sI:=⟨_,rfl⟩
 obtain ⟨s',rfl⟩ : ∃ s',s' = sJ:=⟨_,rfl⟩
 generalize wd X 0 = p0 at *
 generalize wd X 1 = p1 at *
 generalize wd X 2 = p2 at *
 generalize wd X 3 = p3 at *
 generalize wd Y 0 = q0 at *
 generalize wd Y 1 = q1 at *
 generalize wd Y 2 = q2 at *
 generalize wd Y 3 = q3 at *
 generalize wd c 0 = x0 at *
 generalize wd c 1 = x1 at *
 generalize wd c' 0 = y0 at *
 generalize wd c' 1 = y1 at *
 clear hc hc'
 cases b <;> cases b' <;> simp only [Bool.false_eq_true,if_true,if_false,reduceCtorEq]
 ·obtain ⟨b,hb⟩ : ∃ b,b = false:=⟨_,rfl⟩
  go_enter Tryz.func28,Tryz.ntmps28
  go_wp2_with fail
  (with_reducible refine (HF.out _ _ ?hg).mono ?_)
  case hg => ((repeat (first|(with_reducible assumption)|((with_reducible refine bkW ?_);(first|rfl|(simp only [wsA,wsS,wsD,wsN];done)))|(with_reducible first|refine bkA ?_ _|refine bkD ?_|refine bkN ?_ _)|((with_reducible refine bkF ?_ ?_ _);focus (simp only [];omega))|((with_reducible refine bkB (by assumption) ?_ ?_);focus (go_size;done))));done)
  rintro _ w1 ⟨rfl,hb1⟩;have hb1s:=hb1.size;(try simp only [wsA,wsS,wsD,wsN] at hb1s);obtain ⟨hb1c,hb1f⟩:=bcell hb1;(try have : w.heap.size < w1.heap.size:=by omega);(try have : w.heap.size + 1 < w1.heap.size:=by omega);(try have : w.heap.size + 1 + 1 < w1.heap.size:=by omega);(try have : w.heap.size + 1 + 1 + 1 < w1.heap.size:=by omega)
  have ka : Bk w1 (w.heap.size) 27 [.bool false,.int .u64 x1,.int .u64 x0,.int .i64 s]:=by exact bkk
  have ka_0:=ka.cell 0 rfl
  have ka_1:=ka.cell 1 rfl
  have ka_2:=ka.cell 2 rfl
  have ka_3:=ka.cell 3 rfl
  have ka_4:=ka.frozen 0
  have ka_5:=ka.frozen 1
  have ka_6:=ka.frozen 2
  have ka_7:=ka.frozen 3
  have kal:=ka.lt
  have kb : Bk w1 (w.heap.size + 1) 27 [.bool false,.int .u64 y1,.int .u64 y0,.int .i64 s']:=by exact bkk
  have kb_0:=kb.cell 0 rfl
  have kb_1:=kb.cell 1 rfl
  have kb_2:=kb.cell 2 rfl
  have kb_3:=kb.cell 3 rfl
  have kb_4:=kb.frozen 0
  have kb_5:=kb.frozen 1
  have kb_6:=kb.frozen 2
  have kb_7:=kb.frozen 3
  have kbl:=kb.lt
  clear hb1c hb1f
  go_wp2_with fail
  refine (HB.out _).mono ?_
  rintro _ w2 ⟨rfl,hb2⟩;have hb2s:=hb2.size;(try simp only [wsA,wsS,wsD,wsN] at hb2s);obtain ⟨hb2c,hb2f⟩:=bcell hb2;(try have : w.heap.size < w2.heap.size:=by omega);(try have : w.heap.size + 1 < w2.heap.size:=by omega);(try have : w.heap.size + 1 + 1 < w2.heap.size:=by omega);(try have : w.heap.size + 1 + 1 + 1 < w2.heap.size:=by omega)
  have ja : Bk w2 (w.heap.size) 27 [.bool false,.int .u64 x1,.int .u64 x0,.int .i64 s]:=by exact bkk
  have jb : Bk w2 (w.heap.size + 1) 27 [.bool false,.int .u64 y1,.int .u64 y0,.int .i64 s']:=by exact bkk
  clear hb2c hb2f ka_0 ka_1 ka_2 ka_3 ka_4 ka_5 ka_6 ka_7 kb_0 kb_1 kb_2 kb_3 kb_4 kb_5 kb_6 kb_7 ka kb
  have ja_0:=ja.cell 0 rfl
  have ja_1:=ja.cell 1 rfl
  have ja_2:=ja.cell 2 rfl
  have ja_3:=ja.cell 3 rfl
  have ja_4:=ja.frozen 0
  have ja_5:=ja.frozen 1
  have ja_6:=ja.frozen 2
  have ja_7:=ja.frozen 3
  have jb_0:=jb.cell 0 rfl
  have jb_1:=jb.cell 1 rfl
  have jb_2:=jb.cell 2 rfl
  have jb_3:=jb.cell 3 rfl
  have jb_4:=jb.frozen 0
  have jb_5:=jb.frozen 1
  have jb_6:=jb.frozen 2
  have jb_7:=jb.frozen 3
  have jal:=ja.lt
  have jbl:=jb.lt
  clear ja jb
  go_wp2_with fail
  refine (HO.out _).mono ?_
  rintro _ w3 ⟨rfl,hb3⟩;have hb3s:=hb3.size;(try simp only [wsA,wsS,wsD,wsN] at hb3s);obtain ⟨hb3c,hb3f⟩:=bcell hb3;(try have : w.heap.size < w3.heap.size:=by omega);(try have : w.heap.size + 1 < w3.heap.size:=by omega);(try have : w.heap.size + 1 + 1 < w3.heap.size:=by omega);(try have : w.heap.size + 1 + 1 + 1 < w3.heap.size:=by omega)
  go_wp2_with fail
  go_ret2
  exact ⟨rfl,by exact bel⟩
 ·
  go_enter Tryz.func28,Tryz.ntmps28
  go_wp2_with fail
  (with_reducible refine (HF.out _ _ ?hg).mono ?_)
  case hg => ((repeat (first|(with_reducible assumption)|((with_reducible refine bkW ?_);(first|rfl|(simp only [wsA,wsS,wsD,wsN];done)))|(with_reducible first|refine bkA ?_ _|refine bkD ?_|refine bkN ?_ _)|((with_reducible refine bkF ?_ ?_ _);focus (simp only [];omega))|((with_reducible refine bkB (by assumption) ?_ ?_);focus (go_size;done))));done)
  rintro _ w1 ⟨rfl,hb1⟩;have hb1s:=hb1.size;(try simp only [wsA,wsS,wsD,wsN] at hb1s);obtain ⟨hb1c,hb1f⟩:=bcell hb1;(try have : w.heap.size < w1.heap.size:=by omega);(try have : w.heap.size + 1 < w1.heap.size:=by omega);(try have : w.heap.size + 1 + 1 < w1.heap.size:=by omega);(try have : w.heap.size + 1 + 1 + 1 < w1.heap.size:=by omega)
  have ka : Bk w1 (w.heap.size) 27 [.bool false,.int .u64 x1,.int .u64 x0,.int .i64 s]:=by exact bkk
  have ka_0:=ka.cell 0 rfl
  have ka_1:=ka.cell 1 rfl
  have ka_2:=ka.cell 2 rfl
  have ka_3:=ka.cell 3 rfl
  have ka_4:=ka.frozen 0
  have ka_5:=ka.frozen 1
  have ka_6:=ka.frozen 2
  have ka_7:=ka.frozen 3
  have kal:=ka.lt
  have kb : Bk w1 (w.heap.size + 1) 27 [.bool true,.int .u64 y1,.int .u64 y0,.int .i64 s']:=by exact bkk
  have kb_0:=kb.cell 0 rfl
  have kb_1:=kb.cell 1 rfl
  have kb_2:=kb.cell 2 rfl
  have kb_3:=kb.cell 3 rfl
  have kb_4:=kb.frozen 0
  have kb_5:=kb.frozen 1
  have kb_6:=kb.frozen 2
  have kb_7:=kb.frozen 3
  have kbl:=kb.lt
  clear hb1c hb1f ka kb
  go_wp2_with fail
  go_ret2
  exact ⟨rfl,by exact bel⟩
 ·
  go_enter Tryz.func28,Tryz.ntmps28
  go_wp2_with fail
  (with_reducible refine (HF.out _ _ ?hg).mono ?_)
  case hg => ((repeat (first|(with_reducible assumption)|((with_reducible refine bkW ?_);(first|rfl|(simp only [wsA,wsS,wsD,wsN];done)))|(with_reducible first|refine bkA ?_ _|refine bkD ?_|refine bkN ?_ _)|((with_reducible refine bkF ?_ ?_ _);focus (simp only [];omega))|((with_reducible refine bkB (by assumption) ?_ ?_);focus (go_size;done))));done)
  rintro _ w1 ⟨rfl,hb1⟩;have hb1s:=hb1.size;(try simp only [wsA,wsS,wsD,wsN] at hb1s);obtain ⟨hb1c,hb1f⟩:=bcell hb1;(try have : w.heap.size < w1.heap.size:=by omega);(try have : w.heap.size + 1 < w1.heap.size:=by omega);(try have : w.heap.size + 1 + 1 < w1.heap.size:=by omega);(try have : w.heap.size + 1 + 1 + 1 < w1.heap.size:=by omega)
  have ka : Bk w1 (w.heap.size) 27 [.bool true,.int .u64 x1,.int .u64 x0,.int .i64 s]:=by exact bkk
  have ka_0:=ka.cell 0 rfl
  have ka_1:=ka.cell 1 rfl
  have ka_2:=ka.cell 2 rfl
  have ka_3:=ka.cell 3 rfl
  have ka_4:=ka.frozen 0
  have ka_5:=ka.frozen 1
  have ka_6:=ka.frozen 2
  have ka_7:=ka.frozen 3
  have kal:=ka.lt
  have kb : Bk w1 (w.heap.size + 1) 27 [.bool false,.int .u64 y1,.int .u64 y0,.int .i64 s']:=by exact bkk
  have kb_0:=kb.cell 0 rfl
  have kb_1:=kb.cell 1 rfl
  have kb_2:=kb.cell 2 rfl
  have kb_3:=kb.cell 3 rfl
  have kb_4:=kb.frozen 0
  have kb_5:=kb.frozen 1
  have kb_6:=kb.frozen 2
  have kb_7:=kb.frozen 3
  have kbl:=kb.lt
  clear hb1c hb1f ka kb
  go_wp2_with fail
  go_ret2
  exact ⟨rfl,by exact bel⟩
 ·obtain ⟨b,hb⟩ : ∃ b,b = true:=⟨_,rfl⟩
  go_enter Tryz.func28,Tryz.ntmps28
  go_wp2_with fail
  (with_reducible refine (HF.out _ _ ?hg).mono ?_)
  case hg => ((repeat (first|(with_reducible assumption)|((with_reducible refine bkW ?_);(first|rfl|(simp only [wsA,wsS,wsD,wsN];done)))|(with_reducible first|refine bkA ?_ _|refine bkD ?_|refine bkN ?_ _)|((with_reducible refine bkF ?_ ?_ _);focus (simp only [];omega))|((with_reducible refine bkB (by assumption) ?_ ?_);focus (go_size;done))));done)
  rintro _ w1 ⟨rfl,hb1⟩;have hb1s:=hb1.size;(try simp only [wsA,wsS,wsD,wsN] at hb1s);obtain ⟨hb1c,hb1f⟩:=bcell hb1;(try have : w.heap.size < w1.heap.size:=by omega);(try have : w.heap.size + 1 < w1.heap.size:=by omega);(try have : w.heap.size + 1 + 1 < w1.heap.size:=by omega);(try have : w.heap.size + 1 + 1 + 1 < w1.heap.size:=by omega)
  have ka : Bk w1 (w.heap.size) 27 [.bool true,.int .u64 x1,.int .u64 x0,.int .i64 s]:=by exact bkk
  have ka_0:=ka.cell 0 rfl
  have ka_1:=ka.cell 1 rfl
  have ka_2:=ka.cell 2 rfl
  have ka_3:=ka.cell 3 rfl
  have ka_4:=ka.frozen 0
  have ka_5:=ka.frozen 1
  have ka_6:=ka.frozen 2
  have ka_7:=ka.frozen 3
  have kal:=ka.lt
  have kb : Bk w1 (w.heap.size + 1) 27 [.bool true,.int .u64 y1,.int .u64 y0,.int .i64 s']:=by exact bkk
  have kb_0:=kb.cell 0 rfl
  have kb_1:=kb.cell 1 rfl
  have kb_2:=kb.cell 2 rfl
  have kb_3:=kb.cell 3 rfl
  have kb_4:=kb.frozen 0
  have kb_5:=kb.frozen 1
  have kb_6:=kb.frozen 2
  have kb_7:=kb.frozen 3
  have kbl:=kb.lt
  clear hb1c hb1f
  go_wp2_with fail
  refine (HB.out _).mono ?_
  rintro _ w2 ⟨rfl,hb2⟩;have hb2s:=hb2.size;(try simp only [wsA,wsS,wsD,wsN] at hb2s);obtain ⟨hb2c,hb2f⟩:=bcell hb2;(try have : w.heap.size < w2.heap.size:=by omega);(try have : w.heap.size + 1 < w2.heap.size:=by omega);(try have : w.heap.size + 1 + 1 < w2.heap.size:=by omega);(try have : w.heap.size + 1 + 1 + 1 < w2.heap.size:=by omega)
  have ja : Bk w2 (w.heap.size) 27 [.bool true,.int .u64 x1,.int .u64 x0,.int .i64 s]:=by exact bkk
  have jb : Bk w2 (w.heap.size + 1) 27 [.bool true,.int .u64 y1,.int .u64 y0,.int .i64 s']:=by exact bkk
  clear hb2c hb2f ka_0 ka_1 ka_2 ka_3 ka_4 ka_5 ka_6 ka_7 kb_0 kb_1 kb_2 kb_3 kb_4 kb_5 kb_6 kb_7 ka kb
  have ja_0:=ja.cell 0 rfl
  have ja_1:=ja.cell 1 rfl
  have ja_2:=ja.cell 2 rfl
  have ja_3:=ja.cell 3 rfl
  have ja_4:=ja.frozen 0
  have ja_5:=ja.frozen 1
  have ja_6:=ja.frozen 2
  have ja_7:=ja.frozen 3
  have jb_0:=jb.cell 0 rfl
  have jb_1:=jb.cell 1 rfl
  have jb_2:=jb.cell 2 rfl
  have jb_3:=jb.cell 3 rfl
  have jb_4:=jb.frozen 0
  have jb_5:=jb.frozen 1
  have jb_6:=jb.frozen 2
  have jb_7:=jb.frozen 3
  have jal:=ja.lt
  have jbl:=jb.lt
  clear ja jb
  go_wp2_with fail
  refine (HP.out _).mono ?_
  rintro _ w3 ⟨rfl,hb3⟩;have hb3s:=hb3.size;(try simp only [wsA,wsS,wsD,wsN] at hb3s);obtain ⟨hb3c,hb3f⟩:=bcell hb3;(try have : w.heap.size < w3.heap.size:=by omega);(try have : w.heap.size + 1 < w3.heap.size:=by omega);(try have : w.heap.size + 1 + 1 < w3.heap.size:=by omega);(try have : w.heap.size + 1 + 1 + 1 < w3.heap.size:=by omega)
  go_wp2_with fail
  go_ret2
  exact ⟨rfl,by exact bel⟩
end Go.Proofs.YtbnadlpkbbdgjaaGreatDoor



namespace Go.Proofs.YtbnadlpkbbdgjaaGreatDoor.B
open Go.RowKit

set_option maxHeartbeats 1000000 in
theorem cmp_int (a b c d : Int) (w : World) : Calls Tryz.prog 103 #[.agg #[.int .u64 a,.int .u64 b],.agg #[.int .u64 c,.int .u64 d]] w fun e w' => e = .returned (.int .i64 (cmpI a b c d)) ∧ Below w.heap.size w w':=by
  go_enter Tryz.func103,Tryz.ntmps103
  go_wp2
  all_goals go_ret
  all_goals refine ⟨?_,by exact bel⟩
  all_goals simp [cmpI]
  all_goals (first | done | omega | (simp_all;done) | (simp_all;omega))
theorem cmp_any (n m : Nat) (hn : n < 2 ^ 128) (hm : m < 2 ^ 128) (w : World) : Calls Tryz.prog 103 #[.agg #[.int .u64 (wd n 1),.int .u64 (wd n 0)],.agg #[.int .u64 (wd m 1),.int .u64 (wd m 0)]] w fun e w' => e = .returned (.int .i64 (cmpN n m)) ∧ Below w.heap.size w w':=by
  rw [← cmp_eq n m hn hm]
  exact cmp_int _ _ _ _ w

set_option maxHeartbeats 1000000 in
theorem narrow_any (n : Nat) (hn : n < 2 ^ 256) (w : World) : Calls Tryz.prog 143 #[.agg #[.int .u64 (wd n 0),.int .u64 (wd n 1),.int .u64 (wd n 2),.int .u64 (wd n 3)]] w fun e w' => e = .returned (.tuple #[.agg #[.int .u64 (wd (fitW n) 1),.int .u64 (wd (fitW n) 0)],.int .i64 (over n)]) ∧ Below w.heap.size w w':=by
  have hi:=wd_low4 hn
  by_cases h : n < 2 ^ 128
  · have e1 : over n = 0:=by unfold over;rw [if_pos h]
    have e2 : fitW n = n:=by unfold fitW;rw [if_pos h]
    obtain ⟨e3,e4⟩:=hi.2 h
    rw [e1,e2]
    have g3 : (wd n 2 == 0) = true:=by simp [e3]
    have g4 : (wd n 3 == 0) = true:=by simp [e4]
    have g5 : (wd n 2 != 0) = false:=by simp [e3]
    have g6 : (wd n 3 != 0) = false:=by simp [e4]
    clear e1 e2 e3 e4 hi h hn
    generalize wd n 0 = x0 at *
    generalize wd n 1 = x1 at *
    generalize wd n 2 = x2 at *
    generalize wd n 3 = x3 at *
    go_enter Tryz.func143,Tryz.ntmps143
    go_wp2
    refine bodyPost_ret (by simp [results,Tryz.results143,go_sem, *];try rfl) rfl ?_
    exact ⟨rfl,by exact bel⟩
  · have e1 : over n = 3:=by unfold over;rw [if_neg h]
    have e2 : fitW n = 0:=by unfold fitW;rw [if_neg h]
    rw [e1,e2,wd_zero,wd_zero]
    have hi' : ¬ (wd n 2 = 0 ∧ wd n 3 = 0):=fun x => h (hi.1 x)
    have H:=Lib.hid hi'
    clear e1 e2 hi hi' h hn
    generalize wd n 0 = x0 at *
    generalize wd n 1 = x1 at *
    generalize wd n 2 = x2 at *
    generalize wd n 3 = x3 at *
    go_enter Tryz.func143,Tryz.ntmps143
    go_wp2
    all_goals first
      | (exfalso;have:=H.out;simp_all;done)
      | (refine bodyPost_ret (by simp [results,Tryz.results143,go_sem, *];try rfl) rfl ?_
         exact ⟨rfl,by exact bel⟩)
set_option maxHeartbeats 2000000 in
theorem tenth_any (n : Nat) (hn : n < 2 ^ 256) (w : World) : Calls Tryz.prog 154 #[.agg #[.int .u64 (wd n 0),.int .u64 (wd n 1),.int .u64 (wd n 2),.int .u64 (wd n 3)]] w fun e w' => e = .returned (.tuple #[.agg #[.int .u64 (wd (n / 10) 0),.int .u64 (wd (n / 10) 1),.int .u64 (wd (n / 10) 2),.int .u64 (wd (n / 10) 3)],.int .u64 ((n % 10 : Nat) : Int)]) ∧ Below w.heap.size w w':=by
  have h:=wd_four hn
  have a0:=wd_nn n 0
  have a1:=wd_lt n 0
  have b0:=wd_nn n 1
  have b1:=wd_lt n 1
  have c0:=wd_nn n 2
  have c1:=wd_lt n 2
  have d0:=wd_nn n 3
  have d1:=wd_lt n 3
  obtain ⟨q3,r3,f3,H3⟩:=div10_ex 0 (wd n 3) (by decide) (by decide) d0 d1
  have G3:=H3
  unfold Ten at G3
  obtain ⟨q2,r2,f2,H2⟩:=div10_ex r3 (wd n 2) (by omega) (by omega) c0 c1
  have G2:=H2
  unfold Ten at G2
  obtain ⟨q1,r1,f1,H1⟩:=div10_ex r2 (wd n 1) (by omega) (by omega) b0 b1
  have G1:=H1
  unfold Ten at G1
  obtain ⟨q0,r0,f0,H0⟩:=div10_ex r1 (wd n 0) (by omega) (by omega) a0 a1
  have G0:=H0
  unfold Ten at G0
  have e:=wd_of4 (n / 10) q0 q1 q2 q3 (by omega) (by omega) (by omega) (by omega) (by omega) (by omega) (by omega) (by omega) (by omega)
  obtain ⟨e0,e1,e2,e3⟩:=e
  have er : ((n % 10 : Nat) : Int) = r0:=by omega
  rw [er,← e0,← e1,← e2,← e3]
  have F0:=Lib.hid f0
  have F1:=Lib.hid f1
  have F2:=Lib.hid f2
  have F3:=Lib.hid f3
  clear f0 f1 f2 f3 e0 e1 e2 e3 er H0 H1 H2 H3 G0 G1 G2 G3 h a0 a1 b0 b1 c0 c1 d0 d1 hn
  generalize wd n 0 = x0 at *
  generalize wd n 1 = x1 at *
  generalize wd n 2 = x2 at *
  generalize wd n 3 = x3 at *
  go_enter Tryz.func154,Tryz.ntmps154
  go_wp2_with fail
  refine wp_loop_rounds 5 ?_
  rw [rounds_succ]
  go_wp2_with ((go_at_call 186;with_reducible refine (F3.out _).mono ?_);rintro _ _ ⟨rfl,n1,rfl⟩)
  rw [rounds_succ]
  go_wp2_with ((go_at_call 186;with_reducible refine (F2.out _).mono ?_);rintro _ _ ⟨rfl,n2,rfl⟩)
  rw [rounds_succ]
  go_wp2_with ((go_at_call 186;with_reducible refine (F1.out _).mono ?_);rintro _ _ ⟨rfl,n3,rfl⟩)
  rw [rounds_succ]
  go_wp2_with ((go_at_call 186;with_reducible refine (F0.out _).mono ?_);rintro _ _ ⟨rfl,n4,rfl⟩)
  rw [rounds_succ]
  go_wp2_with fail
  refine bodyPost_ret (by simp [results,Tryz.results154,go_sem, *];try rfl) rfl ?_
  exact ⟨rfl,by exact bel⟩
end Go.Proofs.YtbnadlpkbbdgjaaGreatDoor.B



namespace Go.Proofs.YtbnadlpkbbdgjaaGreatDoor.B
open Go.RowKit

set_option maxHeartbeats 4000000 in
theorem mul_any (n m : Nat) (hn : n < 2 ^ 128) (hm : m < 2 ^ 128) (w : World) : Calls Tryz.prog 144 #[.agg #[.int .u64 (wd n 1),.int .u64 (wd n 0)],.agg #[.int .u64 (wd m 1),.int .u64 (wd m 0)]] w fun e w' => e = .returned (.agg #[.int .u64 (wd (n * m) 0),.int .u64 (wd (n * m) 1),.int .u64 (wd (n * m) 2),.int .u64 (wd (n * m) 3)]) ∧ Below w.heap.size w w':=by
 have HN:=Far.mk hn
 have HM:=Far.mk hm
 have a0:=wd_nn n 0
 have a1:=wd_lt n 0
 have b0:=wd_nn n 1
 have b1:=wd_lt n 1
 have c0:=wd_nn m 0
 have c1:=wd_lt m 0
 have d0:=wd_nn m 1
 have d1:=wd_lt m 1
 clear hn hm
 go_enter Tryz.func144,Tryz.ntmps144
 go_wp2_with fail
 go_region_held3 (fun w' => w'.cell? ⟨w.heap.size,0,none⟩ = some (.int .u64 (wd n 1)) ∧ w'.cell? ⟨w.heap.size,1,none⟩ = some (.int .u64 (wd n 0)) ∧ w'.cell? ⟨w.heap.size + 1,0,none⟩ = some (.int .u64 (wd m 1)) ∧ w'.cell? ⟨w.heap.size + 1,1,none⟩ = some (.int .u64 (wd m 0))) (first | (go_keep;done) | (simp [go_sem];done) | ((try dsimp only);(repeat' apply And.intro) <;> (first | (with_reducible assumption) | ((rw [World.cell?_alloc_lt _ _ _ (by show _ < _;omega)]);go_split_ands;(first | with_reducible assumption | (refine (World.cell?_alloc_lt _ _ _ (by show _ < _;omega)).symm.trans ?_;with_reducible assumption))) | ((rw [World.cell?_setCell_other _ _ _ _ (by intro e;injection e;omega)]);with_reducible assumption) | (go_keep;done) | (simp [go_sem];done) | (simp (disch:=go_size) [*,World.cell?_alloc_some,World.cell?_setCell_far];done)))) (fail)
 ·go_wp2_with fail
  clear a0 a1 b0 b1 c0 c1 d0 d1
  go_loopg [24] 2 (fun k i wr => ∃ t : Nat,k + t = 2 ∧ i = .int .i64 t ∧ Bk wr (w.heap.size + 1 + 1 + 1) 80 (lcells (n % 2 ^ (64 * t) * m)) ∧ Bk wr (w.heap.size + 1 + 1 + 1 + 1) 208 [.int .u64 (wd n 0),.int .u64 (wd n 1)] ∧ Bk wr (w.heap.size + 1 + 1 + 1 + 1 + 1) 208 [.int .u64 (wd m 0),.int .u64 (wd m 1)] ∧
   Bk wr (w.heap.size + 1 + 1) 80 [.int .u64 0,.int .u64 0,.int .u64 0,.int .u64 0] ∧ w.heap.size + 6 ≤ wr.heap.size ∧ Below w.heap.size w wr)
  case atStart =>
   refine ⟨0,rfl,rfl, ?_,by exact bkk,by exact bkk,by exact bkk,by go_size,by exact bel⟩
   rw [Nat.mul_zero,Nat.pow_zero,Nat.mod_one,Nat.zero_mul]
   show Bk _ _ _ [.int .u64 0,.int .u64 0,.int .u64 0,.int .u64 0]
   exact bkk
  case round =>
   obtain ⟨t,hk,rfl,bo,bx,by_,b4,hsz,hbel⟩:=hrel
   have HK:=Lib.hid hk
   have BO:=Lib.hid bo
   have BX:=Lib.hid bx
   have BY:=Lib.hid by_
   have B4:=Lib.hid b4
   have t2 : t ≤ 2:=by omega
   clear hk bo bx by_ b4
   (try have : w.heap.size < wr.heap.size:=by omega);(try have : w.heap.size + 1 < wr.heap.size:=by omega);(try have : w.heap.size + 1 + 1 < wr.heap.size:=by omega);(try have : w.heap.size + 1 + 1 + 1 < wr.heap.size:=by omega)
   by_cases hlt : t < 2
   ·go_wp2_with fail
    obtain ⟨wo,hwo⟩ : ∃ wo : World,wo = wr:=⟨_,rfl⟩
    clear hwo
    obtain ⟨go,hgo⟩ : ∃ go : Nat,go = gk:=⟨_,rfl⟩
    rw [← hgo] at HK
    have HGO:=Lib.hid hgo
    clear hgo
    have hO : n % 2 ^ (64 * t) * m < 2 ^ (64 * (t + 2)):=mul_low HM.out
    have hO2 : n % 2 ^ (64 * t) * m < 2 ^ 256:=Nat.lt_of_lt_of_le hO (Nat.pow_le_pow_right (by decide) (by omega))
    obtain ⟨O,eO⟩ : ∃ O,O = n % 2 ^ (64 * t) * m:=⟨_,rfl⟩
    rw [← eO] at hO hO2 BO
    have EO:=Far.mk eO
    have H1:=Far.mk hO
    have H2:=Far.mk hO2
    clear eO hO hO2
    go_loopg [9,27] 2 (fun k c j wr => ∃ (s : Nat) (cc : Int) (V : Nat),k + s = 2 ∧ j = .int .i64 s ∧ c = .int .u64 cc ∧ 0 ≤ cc ∧ cc < 18446744073709551616 ∧ V < 2 ^ 256 ∧
     (V : Int) + cc * ((2 ^ (64 * (t + s)) : Nat) : Int) = O + wd n t * ((m % 2 ^ (64 * s) : Nat) : Int) * ((2 ^ (64 * t) : Nat) : Int) ∧ (∀ j,t + 2 ≤ j → j < 4 → wd V j = 0) ∧
     Bk wr (w.heap.size + 1 + 1 + 1) 80 (lcells V) ∧ Bk wr (w.heap.size + 1 + 1 + 1 + 1) 208 [.int .u64 (wd n 0),.int .u64 (wd n 1)] ∧ Bk wr (w.heap.size + 1 + 1 + 1 + 1 + 1) 208 [.int .u64 (wd m 0),.int .u64 (wd m 1)] ∧
     Bk wr (w.heap.size + 1 + 1) 80 [.int .u64 0,.int .u64 0,.int .u64 0,.int .u64 0] ∧ w.heap.size + 6 ≤ wr.heap.size ∧ Below w.heap.size w wr)
    case atStart =>
     refine ⟨0,0,O,rfl,rfl,rfl,by omega,by omega,H2.out, ?_, ?_,BO.out,BX.out,BY.out,B4.out,hsz,hbel⟩
     ·rw [Nat.mul_zero,Nat.pow_zero,Nat.mod_one,Int.zero_mul,Int.natCast_zero,Int.mul_zero,Int.zero_mul]
     ·intro j hj _
      exact wd_past H1.out hj
    case round =>
     obtain ⟨s,cc,V,hk,rfl,rfl,hc0,hc1,hV,heq,hz,bo,bx,by_,b4,hsz,hbel⟩:=hrel
     have HK2:=Lib.hid hk
     have HV:=Far.mk hV
     have HE:=Far.mk heq
     have HZ:=Lib.hid hz
     have BO:=Lib.hid bo
     have BX:=Lib.hid bx
     have BY:=Lib.hid by_
     have B4:=Lib.hid b4
     have s2 : s ≤ 2:=by omega
     clear hk hV heq hz bo bx by_ b4
     (try have : w.heap.size < wr.heap.size:=by omega);(try have : w.heap.size + 1 < wr.heap.size:=by omega);(try have : w.heap.size + 1 + 1 < wr.heap.size:=by omega);(try have : w.heap.size + 1 + 1 + 1 < wr.heap.size:=by omega)
     by_cases hls : s < 2
     ·have cx : wr.cell? ⟨(w.heap.size + 1 + 1 + 1 + 1),t,none⟩ = some (.int .u64 (wd n t)):=BX.out.cell t (two_at n t hlt)
      have cy : wr.cell? ⟨(w.heap.size + 1 + 1 + 1 + 1 + 1),s,none⟩ = some (.int .u64 (wd m s)):=BY.out.cell s (two_at m s hls)
      have co : wr.cell? ⟨w.heap.size + 1 + 1 + 1,t + s,none⟩ = some (.int .u64 (wd V (t + s))):=BO.out.cell _ (lcells_at V _ (by omega))
      have fo:=BO.out.frozen (t + s)
      obtain ⟨h,l,s1,k1,s3,k3,f,g,e,HS,p1,p2,p3,p4,p5,p6,p7⟩:=mul_step (wd n t) (wd m s) (wd V (t + s)) cc (wd_nn n t) (wd_lt n t) (wd_nn m s) (wd_lt m s) (wd_nn V _) (wd_lt V _) hc0 hc1
      obtain ⟨V',v1,v2,v3,v4,v5⟩:=lcells_set V (t + s) (by omega) HV.out s3 p5 p6
      have L1:=Far.mk v1
      have L2:=Far.mk v2
      have L3:=Lib.hid v3
      have L4:=Lib.hid v4
      clear v1 v2 v3 v4 v5
      obtain ⟨X,hX⟩ : ∃ X,X = wd n t:=⟨_,rfl⟩
      obtain ⟨Y,hY⟩ : ∃ Y,Y = wd m s:=⟨_,rfl⟩
      obtain ⟨Z,hZ⟩ : ∃ Z,Z = wd V (t + s):=⟨_,rfl⟩
      rw [← hX] at cx f HS HE
      rw [← hY] at cy f HS
      rw [← hZ] at co g HS L2
      have EX:=Lib.hid hX
      have EY:=Lib.hid hY
      clear hX hY hZ
      go_wp2_with fail
      go_quiet ((go_at_call 108;(first | exact Calls.quiet_of (f.out _) | exact quiet_add (f.out _))))
      go_wp2_with fail
      go_roundg (gk - 1)
      case measure => have:=HK2.out;omega
      case rel =>
       have bx:=BX.out
       have by_:=BY.out
       have b4:=B4.out
       refine ⟨s + 1,h + k1 + k3,V',by have:=HK2.out;omega,by go_num,rfl,by omega,p7,L1.out, ?_, ?_, ?_,by exact bkk,by exact bkk,by exact bkk,by go_size,by exact bel⟩
       ·have i1:=HE.out
        have i2:=L2.out
        have i3:=HS.out
        have i4:=wd_mod_succ m s
        rw [← EY.out] at i4
        rw [← EX.out]
        exact mul_inv i1 i2 i3 i4
       ·intro j hj h4
        rw [L4.out j h4 (by omega)]
        exact HZ.out j hj h4
       ·rw [← L3.out]
        exact (BO.out.drewN _).set_ _ _
     ·obtain rfl : s = 2:=by omega
      have co : wr.cell? ⟨w.heap.size + 1 + 1 + 1,t + 2,none⟩ = some (.int .u64 (wd V (t + 2))):=BO.out.cell _ (lcells_at V _ (by omega))
      have fo:=BO.out.frozen (t + 2)
      obtain ⟨V',v1,v2,v3,v4,v5⟩:=lcells_set V (t + 2) (by omega) HV.out cc hc0 hc1
      have L2:=Far.mk v2
      have L3:=Lib.hid v3
      clear v1 v2 v3 v4 v5
      go_wp2_with fail
      go_roundg (go - 1)
      case measure => have:=HK.out;have:=HGO.out;omega
      case rel =>
       have bx:=BX.out
       have by_:=BY.out
       have b4:=B4.out
       refine ⟨t + 1,by have:=HK.out;omega,by go_num, ?_,by exact bkk,by exact bkk,by exact bkk,by go_size,by exact bel⟩
       have i1:=HE.out
       have i2:=L2.out
       have i3:=HZ.out (t + 2) (Nat.le_refl _) (by omega)
       have e : n % 2 ^ (64 * (t + 1)) * m = V':=mul_end HM.out EO.out i1 i2 i3
       rw [e,← L3.out]
       exact BO.out.set_ _ _
   ·obtain rfl : t = 2:=by omega
    have e : n % 2 ^ (64 * 2) * m = n * m:=by rw [Nat.mod_eq_of_lt HN.out]
    rw [e] at BO
    obtain ⟨z,hz⟩ : ∃ z,z = n * m:=⟨_,rfl⟩
    rw [← hz] at BO
    have EZ:=Lib.hid hz
    clear hz
    have bo:=BO.out
    rw [lcells_eq] at bo
    have c0:=bo.cell 0 rfl
    have c1:=bo.cell 1 rfl
    have c2:=bo.cell 2 rfl
    have c3:=bo.cell 3 rfl
    have d0:=B4.out.cell 0 rfl
    have d1:=B4.out.cell 1 rfl
    have d2:=B4.out.cell 2 rfl
    have d3:=B4.out.cell 3 rfl
    have f0:=B4.out.frozen 0
    have f1:=B4.out.frozen 1
    have f2:=B4.out.frozen 2
    have f3:=B4.out.frozen 3
    clear bo e
    go_wp2_with fail
    refine bodyPost_ret (by simp [results,Tryz.results144,go_sem, *];try rfl) rfl ?_
    exact ⟨by rw [EZ.out],by exact bel⟩
 ·go_wp2_with fail
  clear a0 a1 b0 b1 c0 c1 d0 d1
  go_loopg [24] 2 (fun k i wr => ∃ t : Nat,k + t = 2 ∧ i = .int .i64 t ∧ Bk wr (w.heap.size + 1 + 1 + 1) 80 (lcells (n % 2 ^ (64 * t) * m)) ∧ Bk wr (w.heap.size + 1 + 1 + 1 + 1 + 1) 208 [.int .u64 (wd n 0),.int .u64 (wd n 1)] ∧ Bk wr (w.heap.size + 1 + 1 + 1 + 1) 208 [.int .u64 (wd m 0),.int .u64 (wd m 1)] ∧
   Bk wr (w.heap.size + 1 + 1) 80 [.int .u64 0,.int .u64 0,.int .u64 0,.int .u64 0] ∧ w.heap.size + 6 ≤ wr.heap.size ∧ Below w.heap.size w wr)
  case atStart =>
   refine ⟨0,rfl,rfl, ?_,by exact bkk,by exact bkk,by exact bkk,by go_size,by exact bel⟩
   rw [Nat.mul_zero,Nat.pow_zero,Nat.mod_one,Nat.zero_mul]
   show Bk _ _ _ [.int .u64 0,.int .u64 0,.int .u64 0,.int .u64 0]
   exact bkk
  case round =>
   obtain ⟨t,hk,rfl,bo,bx,by_,b4,hsz,hbel⟩:=hrel
   have HK:=Lib.hid hk
   have BO:=Lib.hid bo
   have BX:=Lib.hid bx
   have BY:=Lib.hid by_
   have B4:=Lib.hid b4
   have t2 : t ≤ 2:=by omega
   clear hk bo bx by_ b4
   (try have : w.heap.size < wr.heap.size:=by omega);(try have : w.heap.size + 1 < wr.heap.size:=by omega);(try have : w.heap.size + 1 + 1 < wr.heap.size:=by omega);(try have : w.heap.size + 1 + 1 + 1 < wr.heap.size:=by omega)
   by_cases hlt : t < 2
   ·go_wp2_with fail
    obtain ⟨wo,hwo⟩ : ∃ wo : World,wo = wr:=⟨_,rfl⟩
    clear hwo
    obtain ⟨go,hgo⟩ : ∃ go : Nat,go = gk:=⟨_,rfl⟩
    rw [← hgo] at HK
    have HGO:=Lib.hid hgo
    clear hgo
    have hO : n % 2 ^ (64 * t) * m < 2 ^ (64 * (t + 2)):=mul_low HM.out
    have hO2 : n % 2 ^ (64 * t) * m < 2 ^ 256:=Nat.lt_of_lt_of_le hO (Nat.pow_le_pow_right (by decide) (by omega))
    obtain ⟨O,eO⟩ : ∃ O,O = n % 2 ^ (64 * t) * m:=⟨_,rfl⟩
    rw [← eO] at hO hO2 BO
    have EO:=Far.mk eO
    have H1:=Far.mk hO
    have H2:=Far.mk hO2
    clear eO hO hO2
    go_loopg [9,27] 2 (fun k c j wr => ∃ (s : Nat) (cc : Int) (V : Nat),k + s = 2 ∧ j = .int .i64 s ∧ c = .int .u64 cc ∧ 0 ≤ cc ∧ cc < 18446744073709551616 ∧ V < 2 ^ 256 ∧
     (V : Int) + cc * ((2 ^ (64 * (t + s)) : Nat) : Int) = O + wd n t * ((m % 2 ^ (64 * s) : Nat) : Int) * ((2 ^ (64 * t) : Nat) : Int) ∧ (∀ j,t + 2 ≤ j → j < 4 → wd V j = 0) ∧
     Bk wr (w.heap.size + 1 + 1 + 1) 80 (lcells V) ∧ Bk wr (w.heap.size + 1 + 1 + 1 + 1 + 1) 208 [.int .u64 (wd n 0),.int .u64 (wd n 1)] ∧ Bk wr (w.heap.size + 1 + 1 + 1 + 1) 208 [.int .u64 (wd m 0),.int .u64 (wd m 1)] ∧
     Bk wr (w.heap.size + 1 + 1) 80 [.int .u64 0,.int .u64 0,.int .u64 0,.int .u64 0] ∧ w.heap.size + 6 ≤ wr.heap.size ∧ Below w.heap.size w wr)
    case atStart =>
     refine ⟨0,0,O,rfl,rfl,rfl,by omega,by omega,H2.out, ?_, ?_,BO.out,BX.out,BY.out,B4.out,hsz,hbel⟩
     ·rw [Nat.mul_zero,Nat.pow_zero,Nat.mod_one,Int.zero_mul,Int.natCast_zero,Int.mul_zero,Int.zero_mul]
     ·intro j hj _
      exact wd_past H1.out hj
    case round =>
     obtain ⟨s,cc,V,hk,rfl,rfl,hc0,hc1,hV,heq,hz,bo,bx,by_,b4,hsz,hbel⟩:=hrel
     have HK2:=Lib.hid hk
     have HV:=Far.mk hV
     have HE:=Far.mk heq
     have HZ:=Lib.hid hz
     have BO:=Lib.hid bo
     have BX:=Lib.hid bx
     have BY:=Lib.hid by_
     have B4:=Lib.hid b4
     have s2 : s ≤ 2:=by omega
     clear hk hV heq hz bo bx by_ b4
     (try have : w.heap.size < wr.heap.size:=by omega);(try have : w.heap.size + 1 < wr.heap.size:=by omega);(try have : w.heap.size + 1 + 1 < wr.heap.size:=by omega);(try have : w.heap.size + 1 + 1 + 1 < wr.heap.size:=by omega)
     by_cases hls : s < 2
     ·have cx : wr.cell? ⟨(w.heap.size + 1 + 1 + 1 + 1 + 1),t,none⟩ = some (.int .u64 (wd n t)):=BX.out.cell t (two_at n t hlt)
      have cy : wr.cell? ⟨(w.heap.size + 1 + 1 + 1 + 1),s,none⟩ = some (.int .u64 (wd m s)):=BY.out.cell s (two_at m s hls)
      have co : wr.cell? ⟨w.heap.size + 1 + 1 + 1,t + s,none⟩ = some (.int .u64 (wd V (t + s))):=BO.out.cell _ (lcells_at V _ (by omega))
      have fo:=BO.out.frozen (t + s)
      obtain ⟨h,l,s1,k1,s3,k3,f,g,e,HS,p1,p2,p3,p4,p5,p6,p7⟩:=mul_step (wd n t) (wd m s) (wd V (t + s)) cc (wd_nn n t) (wd_lt n t) (wd_nn m s) (wd_lt m s) (wd_nn V _) (wd_lt V _) hc0 hc1
      obtain ⟨V',v1,v2,v3,v4,v5⟩:=lcells_set V (t + s) (by omega) HV.out s3 p5 p6
      have L1:=Far.mk v1
      have L2:=Far.mk v2
      have L3:=Lib.hid v3
      have L4:=Lib.hid v4
      clear v1 v2 v3 v4 v5
      obtain ⟨X,hX⟩ : ∃ X,X = wd n t:=⟨_,rfl⟩
      obtain ⟨Y,hY⟩ : ∃ Y,Y = wd m s:=⟨_,rfl⟩
      obtain ⟨Z,hZ⟩ : ∃ Z,Z = wd V (t + s):=⟨_,rfl⟩
      rw [← hX] at cx f HS HE
      rw [← hY] at cy f HS
      rw [← hZ] at co g HS L2
      have EX:=Lib.hid hX
      have EY:=Lib.hid hY
      clear hX hY hZ
      go_wp2_with fail
      go_quiet ((go_at_call 108;(first | exact Calls.quiet_of (f.out _) | exact quiet_add (f.out _))))
      go_wp2_with fail
      go_roundg (gk - 1)
      case measure => have:=HK2.out;omega
      case rel =>
       have bx:=BX.out
       have by_:=BY.out
       have b4:=B4.out
       refine ⟨s + 1,h + k1 + k3,V',by have:=HK2.out;omega,by go_num,rfl,by omega,p7,L1.out, ?_, ?_, ?_,by exact bkk,by exact bkk,by exact bkk,by go_size,by exact bel⟩
       ·have i1:=HE.out
        have i2:=L2.out
        have i3:=HS.out
        have i4:=wd_mod_succ m s
        rw [← EY.out] at i4
        rw [← EX.out]
        exact mul_inv i1 i2 i3 i4
       ·intro j hj h4
        rw [L4.out j h4 (by omega)]
        exact HZ.out j hj h4
       ·rw [← L3.out]
        exact (BO.out.drewN _).set_ _ _
     ·obtain rfl : s = 2:=by omega
      have co : wr.cell? ⟨w.heap.size + 1 + 1 + 1,t + 2,none⟩ = some (.int .u64 (wd V (t + 2))):=BO.out.cell _ (lcells_at V _ (by omega))
      have fo:=BO.out.frozen (t + 2)
      obtain ⟨V',v1,v2,v3,v4,v5⟩:=lcells_set V (t + 2) (by omega) HV.out cc hc0 hc1
      have L2:=Far.mk v2
      have L3:=Lib.hid v3
      clear v1 v2 v3 v4 v5
      go_wp2_with fail
      go_roundg (go - 1)
      case measure => have:=HK.out;have:=HGO.out;omega
      case rel =>
       have bx:=BX.out
       have by_:=BY.out
       have b4:=B4.out
       refine ⟨t + 1,by have:=HK.out;omega,by go_num, ?_,by exact bkk,by exact bkk,by exact bkk,by go_size,by exact bel⟩
       have i1:=HE.out
       have i2:=L2.out
       have i3:=HZ.out (t + 2) (Nat.le_refl _) (by omega)
       have e : n % 2 ^ (64 * (t + 1)) * m = V':=mul_end HM.out EO.out i1 i2 i3
       rw [e,← L3.out]
       exact BO.out.set_ _ _
   ·obtain rfl : t = 2:=by omega
    have e : n % 2 ^ (64 * 2) * m = n * m:=by rw [Nat.mod_eq_of_lt HN.out]
    rw [e] at BO
    obtain ⟨z,hz⟩ : ∃ z,z = n * m:=⟨_,rfl⟩
    rw [← hz] at BO
    have EZ:=Lib.hid hz
    clear hz
    have bo:=BO.out
    rw [lcells_eq] at bo
    have c0:=bo.cell 0 rfl
    have c1:=bo.cell 1 rfl
    have c2:=bo.cell 2 rfl
    have c3:=bo.cell 3 rfl
    have d0:=B4.out.cell 0 rfl
    have d1:=B4.out.cell 1 rfl
    have d2:=B4.out.cell 2 rfl
    have d3:=B4.out.cell 3 rfl
    have f0:=B4.out.frozen 0
    have f1:=B4.out.frozen 1
    have f2:=B4.out.frozen 2
    have f3:=B4.out.frozen 3
    clear bo e
    go_wp2_with fail
    refine bodyPost_ret (by simp [results,Tryz.results144,go_sem, *];try rfl) rfl ?_
    exact ⟨by rw [EZ.out],by exact bel⟩
end Go.Proofs.YtbnadlpkbbdgjaaGreatDoor.B



namespace Go.Proofs.YtbnadlpkbbdgjaaGreatDoor.B
open Go.RowKit

theorem mul_ten (X : Nat) (hX : X < 2 ^ 128) (W : World) : Calls Tryz.prog 144 #[.agg #[.int .u64 (wd X 1),.int .u64 (wd X 0)],.agg #[.int .u64 0,.int .u64 10]] W fun e w' => e = .returned (.agg #[.int .u64 (wd (X * 10) 0),.int .u64 (wd (X * 10) 1),.int .u64 (wd (X * 10) 2),.int .u64 (wd (X * 10) 3)]) ∧ Below W.heap.size W w':=by
 have h:=mul_any X 10 hX (by decide) W
 have b0 : wd 10 0 = 10:=by rw [wd0];rfl
 have b1 : wd 10 1 = 0:=by rw [wd1];rfl
 rw [b0,b1] at h
 exact h
set_option maxHeartbeats 4000000 in
theorem ten_any (k : Nat) (hk : k ≤ 38) (w : World) : Calls Tryz.prog 182 #[.int .i64 k] w fun e w' => e = .returned (.tuple #[.agg #[.int .u64 (wd (10 ^ k) 1),.int .u64 (wd (10 ^ k) 0)],.int .i64 0]) ∧ Below w.heap.size w w':=by
 have k0 : (0 : Int) ≤ (k : Int):=by omega
 have k1 : (k : Int) ≤ 38:=by omega
 go_enter Tryz.func182,Tryz.ntmps182
 go_wp2_with fail
 go_loopg [14] k (fun kk i wr => ∃ t : Nat,kk + t = k ∧ i = .int .i64 t ∧ Bk wr (w.heap.size + 1) 25 [.int .u64 (wd (10 ^ t) 1),.int .u64 (wd (10 ^ t) 0)] ∧ Bk wr w.heap.size 25 [.int .u64 0,.int .u64 0] ∧ w.heap.size + 2 ≤ wr.heap.size ∧ Below w.heap.size w wr)
 case atStart =>
  refine ⟨0,by omega,rfl, ?_,by exact bkk,by go_size,by exact bel⟩
  have b0 : wd (10 ^ 0) 0 = 1:=by rw [wd0];rfl
  have b1 : wd (10 ^ 0) 1 = 0:=by rw [wd1];rfl
  rw [b0,b1]
  exact bkk
 case round =>
  obtain ⟨t,hn,rfl,b1,b0,hsz,hbel⟩:=hrel
  have HK:=Lib.hid hn
  have ht : t ≤ k:=by omega
  have c0:=b1.cell 0 rfl
  have c1:=b1.cell 1 rfl
  have f0:=b1.frozen 0
  have f1:=b1.frozen 1
  have d0:=b0.cell 0 rfl
  have d1:=b0.cell 1 rfl
  have e0:=b0.frozen 0
  have e1:=b0.frozen 1
  have B0:=Lib.hid b0
  have B1:=Lib.hid b1
  (try have : w.heap.size < wr.heap.size:=by omega);(try have : w.heap.size + 1 < wr.heap.size:=by omega);(try have : w.heap.size + 1 + 1 < wr.heap.size:=by omega);(try have : w.heap.size + 1 + 1 + 1 < wr.heap.size:=by omega)
  clear hn b0 b1
  by_cases hlt : t < k
  ·have hx : 10 ^ t < 2 ^ 128:=ten_38 (by omega)
   have hy : 10 ^ t * 10 < 2 ^ 128:=by rw [← Nat.pow_succ];exact ten_38 (by omega)
   have HM:=Lib.hid (fun W => mul_ten (10 ^ t) hx W)
   have HN:=Lib.hid (fun W => narrow_any (10 ^ t * 10) (Nat.lt_trans hy (by decide)) W)
   rw [fit_id hy,over_id hy] at HN
   obtain ⟨X,hX⟩ : ∃ X,X = 10 ^ t:=⟨_,rfl⟩
   obtain ⟨Y,hY⟩ : ∃ Y,Y = X * 10:=⟨_,rfl⟩
   rw [← hX] at c0 c1 HM HN
   rw [← hY] at HM HN
   have EX:=Far.mk hX
   have EY:=Far.mk hY
   clear hX hY hx hy
   go_wp2_with (first
    | ((go_at_call 144;with_reducible refine (HM.out _).mono ?_);rintro _ w1 ⟨rfl,hb1⟩;have hb1s:=hb1.size;(try simp only [wsA,wsS,wsD,wsN] at hb1s);obtain ⟨hb1c,hb1f⟩:=bcell hb1;(try have : w.heap.size < w1.heap.size:=by omega);(try have : w.heap.size + 1 < w1.heap.size:=by omega);(try have : w.heap.size + 1 + 1 < w1.heap.size:=by omega);(try have : w.heap.size + 1 + 1 + 1 < w1.heap.size:=by omega))
    | ((go_at_call 143;with_reducible refine (HN.out _).mono ?_);rintro _ w2 ⟨rfl,hb2⟩;have hb2s:=hb2.size;(try simp only [wsA,wsS,wsD,wsN] at hb2s);obtain ⟨hb2c,hb2f⟩:=bcell hb2;(try have : w.heap.size < w2.heap.size:=by omega);(try have : w.heap.size + 1 < w2.heap.size:=by omega);(try have : w.heap.size + 1 + 1 < w2.heap.size:=by omega);(try have : w.heap.size + 1 + 1 + 1 < w2.heap.size:=by omega);(try have : w1.heap.size < w2.heap.size:=by omega);(try have : w1.heap.size + 1 < w2.heap.size:=by omega);(try have : w1.heap.size + 1 + 1 < w2.heap.size:=by omega);(try have : w1.heap.size + 1 + 1 + 1 < w2.heap.size:=by omega)))
   go_roundg (gk - 1)
   case measure => have:=HK.out;omega
   case rel =>
    have b0:=B0.out
    have b1:=B1.out
    refine ⟨t + 1,by have:=HK.out;omega,by go_num, ?_,by exact bkk,by go_size,by exact bel⟩
    have e : 10 ^ (t + 1) = Y:=by rw [EY.out,EX.out,Nat.pow_succ]
    rw [e]
    refine ((?_ : Bk w2 _ _ [.int .u64 (wd (10 ^ t) 1),.int .u64 (wd (10 ^ t) 0)]).set_ 0 _).set_ 1 _
    exact bkk
  ·obtain rfl : t = k:=by omega
   obtain ⟨X,hX⟩ : ∃ X,X = 10 ^ t:=⟨_,rfl⟩
   rw [← hX] at c0 c1
   have EX:=Far.mk hX
   clear hX
   go_wp2_with fail
   refine bodyPost_ret (by simp [results,Tryz.results182,go_sem, *];try rfl) rfl ?_
   exact ⟨by rw [EX.out],by exact bel⟩
end Go.Proofs.YtbnadlpkbbdgjaaGreatDoor.B



namespace Go.Proofs.YtbnadlpkbbdgjaaGreatDoor.B
open Go.RowKit

set_option maxHeartbeats 1000000 in
theorem trim_any (N T k : Nat) (hN : N < 2 ^ 128) (h : IsTz N T k) (w : World) : Calls Tryz.prog 106 #[.agg #[.int .u64 (wd N 1),.int .u64 (wd N 0)]] w fun e w' => e = .returned (.tuple #[.agg #[.int .u64 (wd T 1),.int .u64 (wd T 0)],.int .i64 k]) ∧ Below w.heap.size w w':=by
 have hk38:=h.k_le hN
 have h0 : N ≠ 0:=by
  rintro rfl
  have h1:=h.1
  have h2:=h.2
  rcases Nat.mul_eq_zero.1 h1.symm with h3 | h3
  ·subst h3;exact h2 rfl
  ·exact absurd h3 (Nat.ne_of_gt (Nat.pow_pos (by decide)))
 have qz : ∀ W,(binOp .eql 25 (.agg #[.int .u64 (wd N 1),.int .u64 (wd N 0)]) (.agg #[.int .u64 0,.int .u64 0])).run Tryz.prog W = .ok (.bool false) W:=fun W => by
  rw [eq_wide]
  have e:=wd_eq_iff hN (show 0 < 2 ^ 128 by decide)
  rw [wd_zero,wd_zero] at e
  rw [e,decide_eq_false h0]
 have e2 : wd N 2 = 0:=wd_past (k:=2) (by simpa using hN) (Nat.le_refl _)
 have e3 : wd N 3 = 0:=wd_past (k:=3) (Nat.lt_of_lt_of_le hN (Nat.pow_le_pow_right (by decide) (by decide))) (Nat.le_refl _)
 have E2:=Lib.hid e2
 have E3:=Lib.hid e3
 have HN:=Far.mk hN
 have HZ:=Far.mk h
 clear hN h h0 e2 e3
 go_enter Tryz.func106,Tryz.ntmps106
 go_wp2_with fail
 go_loopg [5] k (fun kk c wr => ∃ t : Nat,kk + t = k ∧ c = .int .i64 t ∧ Bk wr (w.heap.size + 1 + 1) 80 (lcells (N / 10 ^ t)) ∧ Bk wr (w.heap.size + 1) 25 [.int .u64 0,.int .u64 0] ∧ w.heap.size + 3 ≤ wr.heap.size ∧ Below w.heap.size w wr)
 case atStart =>
  refine ⟨0,by omega,rfl, ?_,by exact bkk,by go_size,by exact bel⟩
  rw [Nat.pow_zero,Nat.div_one,lcells_eq,E2.out,E3.out]
  exact bkk
 case round =>
  obtain ⟨t,hn,rfl,b2,b1,hsz,hbel⟩:=hrel
  have HK:=Lib.hid hn
  have ht : t ≤ k:=by omega
  have B2:=Lib.hid b2
  have B1:=Lib.hid b1
  have b2':=b2
  rw [lcells_eq] at b2'
  have c0:=b2'.cell 0 rfl
  have c1:=b2'.cell 1 rfl
  have c2:=b2'.cell 2 rfl
  have c3:=b2'.cell 3 rfl
  have f0:=b2.frozen 0
  have f1:=b2.frozen 1
  have f2:=b2.frozen 2
  have f3:=b2.frozen 3
  have d0:=b1.cell 0 rfl
  have d1:=b1.cell 1 rfl
  have g0:=b1.frozen 0
  have g1:=b1.frozen 1
  (try have : w.heap.size < wr.heap.size:=by omega);(try have : w.heap.size + 1 < wr.heap.size:=by omega);(try have : w.heap.size + 1 + 1 < wr.heap.size:=by omega);(try have : w.heap.size + 1 + 1 + 1 < wr.heap.size:=by omega)
  have HT:=Lib.hid (fun W => tenth_any (N / 10 ^ t) (Nat.lt_of_le_of_lt (Nat.div_le_self _ _) (Nat.lt_trans HN.out (by decide))) W)
  clear hn b2 b1 b2'
  by_cases hlt : t < k
  ·have hm:=HZ.out.mod_lt hlt
   rw [hm] at HT
   obtain ⟨X,hX⟩ : ∃ X,X = N / 10 ^ t:=⟨_,rfl⟩
   rw [← hX] at HT c0 c1 c2 c3 B2
   have EX:=Far.mk hX
   clear hX hm
   go_wp2_with ((go_at_call 154;with_reducible refine (HT.out _).mono ?_);rintro _ w1 ⟨rfl,hb1⟩;have hb1s:=hb1.size;(try simp only [wsA,wsS,wsD,wsN] at hb1s);obtain ⟨hb1c,hb1f⟩:=bcell hb1;(try have : w.heap.size < w1.heap.size:=by omega);(try have : w.heap.size + 1 < w1.heap.size:=by omega);(try have : w.heap.size + 1 + 1 < w1.heap.size:=by omega);(try have : w.heap.size + 1 + 1 + 1 < w1.heap.size:=by omega))
   go_roundg (gk - 1)
   case measure => have:=HK.out;omega
   case rel =>
    have b1:=B1.out
    refine ⟨t + 1,by have:=HK.out;omega,by go_num, ?_,by exact bkk,by go_size,by exact bel⟩
    have e : N / 10 ^ (t + 1) = X / 10:=by rw [EX.out,Nat.div_div_eq_div_mul,Nat.pow_succ]
    rw [e,lcells_eq]
    refine Bk.alloc ?_ _
    refine ((((?_ : Bk w1 _ _ [.int .u64 (wd X 0),.int .u64 (wd X 1),.int .u64 (wd X 2),.int .u64 (wd X 3)]).set_ 0 _).set_ 1 _).set_ 2 _).set_ 3 _
    have b2:=B2.out
    rw [lcells_eq] at b2
    exact bkk
  ·obtain rfl : t = k:=by omega
   have hm:=HZ.out.mod_eq
   rw [hm] at HT c0 c1 c2 c3 B2
   have hne : (((T % 10 : Nat) : Int) != 0) = true:=by
    have:=HZ.out.2
    simp;omega
   obtain ⟨dd,hdd⟩ : ∃ dd : Int,dd = ((T % 10 : Nat) : Int):=⟨_,rfl⟩
   rw [← hdd] at HT hne
   clear hm hdd
   go_wp2_with ((go_at_call 154;with_reducible refine (HT.out _).mono ?_);rintro _ w1 ⟨rfl,hb1⟩;have hb1s:=hb1.size;(try simp only [wsA,wsS,wsD,wsN] at hb1s);obtain ⟨hb1c,hb1f⟩:=bcell hb1;(try have : w.heap.size < w1.heap.size:=by omega);(try have : w.heap.size + 1 < w1.heap.size:=by omega);(try have : w.heap.size + 1 + 1 < w1.heap.size:=by omega);(try have : w.heap.size + 1 + 1 + 1 < w1.heap.size:=by omega))
   refine bodyPost_ret (by simp [results,Tryz.results106,go_sem, *];try rfl) rfl ?_
   exact ⟨rfl,by exact bel⟩
end Go.Proofs.YtbnadlpkbbdgjaaGreatDoor.B



namespace Go.Proofs.YtbnadlpkbbdgjaaGreatDoor.B
open Go.RowKit

set_option maxHeartbeats 1000000 in
theorem power_any (k : Nat) (hk : k ≤ 38) (w : World) : Calls Tryz.prog 150 #[.int .i64 k] w fun e w' => e = .returned (.agg #[.int .u64 (wd (10 ^ k) 1),.int .u64 (wd (10 ^ k) 0)]) ∧ Below w.heap.size w w':=by
 have HT:=Lib.hid (fun W => ten_any k hk W)
 generalize wd (10 ^ k) 0 = x0 at *
 generalize wd (10 ^ k) 1 = x1 at *
 go_enter Tryz.func150,Tryz.ntmps150
 go_wp2_with ((go_at_call 182;with_reducible refine (HT.out _).mono ?_);rintro _ w1 ⟨rfl,hb1⟩;have hb1s:=hb1.size;(try simp only [wsA,wsS,wsD,wsN] at hb1s);obtain ⟨hb1c,hb1f⟩:=bcell hb1;(try have : w.heap.size < w1.heap.size:=by omega);(try have : w.heap.size + 1 < w1.heap.size:=by omega);(try have : w.heap.size + 1 + 1 < w1.heap.size:=by omega);(try have : w.heap.size + 1 + 1 + 1 < w1.heap.size:=by omega))
 refine bodyPost_ret (by simp [results,Tryz.results150,go_sem, *];try rfl) rfl ?_
 exact ⟨rfl,by exact bel⟩
set_option maxHeartbeats 1000000 in
theorem bound_any (w : World) : Calls Tryz.prog 104 #[] w fun e w' => e = .returned (.agg #[.int .u64 (wd B34 1),.int .u64 (wd B34 0)]) ∧ Below w.heap.size w w':=by
 have HT : Hid (∀ W,Calls Tryz.prog 150 #[.int .i64 34] W fun e w' => e = .returned (.agg #[.int .u64 (wd B34 1),.int .u64 (wd B34 0)]) ∧ Below W.heap.size W w'):=Lib.hid (fun W => power_any 34 (by decide) W)
 generalize wd B34 0 = x0 at *
 generalize wd B34 1 = x1 at *
 go_enter Tryz.func104,Tryz.ntmps104
 go_wp2_with ((go_at_call 150;with_reducible refine (HT.out _).mono ?_);rintro _ w1 ⟨rfl,hb1⟩;have hb1s:=hb1.size;(try simp only [wsA,wsS,wsD,wsN] at hb1s);obtain ⟨hb1c,hb1f⟩:=bcell hb1;(try have : w.heap.size < w1.heap.size:=by omega);(try have : w.heap.size + 1 < w1.heap.size:=by omega);(try have : w.heap.size + 1 + 1 < w1.heap.size:=by omega);(try have : w.heap.size + 1 + 1 + 1 < w1.heap.size:=by omega))
 refine bodyPost_ret (by simp [results,Tryz.results104,go_sem, *];try rfl) rfl ?_
 exact ⟨rfl,by exact bel⟩
set_option maxHeartbeats 1000000 in
theorem long_any (n : Nat) (h : n < 2 ^ 128) (w : World) : Calls Tryz.prog 107 #[.agg #[.int .u64 (wd n 1),.int .u64 (wd n 0)]] w fun e w' => e = .returned (.agg #[.int .u64 (wd n 0),.int .u64 (wd n 1),.int .u64 (wd n 2),.int .u64 (wd n 3)]) ∧ Below w.heap.size w w':=by
 obtain ⟨e2,e3⟩:=wd_hi2 h
 rw [e2,e3]
 clear e2 e3 h
 generalize wd n 0 = x0 at *
 generalize wd n 1 = x1 at *
 go_enter Tryz.func107,Tryz.ntmps107
 go_wp2_with fail
 refine bodyPost_ret (by simp [results,Tryz.results107,go_sem, *];try rfl) rfl ?_
 exact ⟨rfl,by exact bel⟩
set_option maxHeartbeats 1000000 in
theorem zero_any (b : Bool) (c : Nat) (s : Int) (h : c < 2 ^ 128) (w : World) : Calls Tryz.prog 105 #[.agg #[.bool b,.int .u64 (wd (c) 1),.int .u64 (wd (c) 0),.int .i64 s]] w fun e w' => e = .returned (.bool (decide (c = 0))) ∧ Below w.heap.size w w':=by
 have qz : ∀ W,(binOp .eql 25 (.agg #[.int .u64 (wd c 1),.int .u64 (wd c 0)]) (.agg #[.int .u64 0,.int .u64 0])).run Tryz.prog W = .ok (.bool (decide (c = 0))) W:=fun W => by rw [eq_wide,eq_nil h]
 clear h
 generalize decide (c = 0) = z at *
 generalize wd c 0 = x0 at *
 generalize wd c 1 = x1 at *
 go_enter Tryz.func105,Tryz.ntmps105
 go_wp2_with fail
 refine bodyPost_ret (by simp [results,Tryz.results105,go_sem, *];try rfl) rfl ?_
 exact ⟨rfl,by exact bel⟩
end Go.Proofs.YtbnadlpkbbdgjaaGreatDoor.B



namespace Go.Proofs.YtbnadlpkbbdgjaaGreatDoor.B
open Go.RowKit

set_option maxHeartbeats 4000000 in
theorem form_any (b : Bool) (c : Nat) (s : Int) (hc : c < 2 ^ 128) (w : World) : Calls Tryz.prog 70 #[.agg #[.bool b,.int .u64 (wd (c) 1),.int .u64 (wd (c) 0),.int .i64 s]] w fun e w' => e = .returned (.bool (dform b c s)) ∧ Below w.heap.size w w':=by
 have HC:=Lib.hid (fun W => cmp_any c B34 hc B34_lt W)
 have HB:=Lib.hid (fun W => bound_any W)
 have HZ:=Lib.hid (fun W => zero_any b c s hc W)
 generalize wd B34 0 = p0 at *
 generalize wd B34 1 = p1 at *
 by_cases hb : c < B34
 ·have g1:=cmp_bound hb
  have g1' : decide (0 ≤ cmpN c B34) = false:=by simp;omega
  by_cases h0 : s < 0
  ·rw [dform_neg h0]
   generalize cmpN c B34 = cc at *
   generalize wd c 0 = x0 at *
   generalize wd c 1 = x1 at *
   clear hc hb
   generalize decide (c = 0) = zz at *
   go_enter Tryz.func70,Tryz.ntmps70
   go_wp2_with fail
   first | (go_region_with (first | ((go_at_call 104;with_reducible refine (HB.out _).mono ?_);rintro _ w1 ⟨rfl,hb1⟩;have hb1s:=hb1.size;(try simp only [wsA,wsS,wsD,wsN] at hb1s);obtain ⟨hb1c,hb1f⟩:=bcell hb1;(try have : w.heap.size < w1.heap.size:=by omega);(try have : w.heap.size + 1 < w1.heap.size:=by omega);(try have : w.heap.size + 1 + 1 < w1.heap.size:=by omega);(try have : w.heap.size + 1 + 1 + 1 < w1.heap.size:=by omega)) | ((go_at_call 103;with_reducible refine (HC.out _).mono ?_);rintro _ w2 ⟨rfl,hb2⟩;have hb2s:=hb2.size;(try simp only [wsA,wsS,wsD,wsN] at hb2s);obtain ⟨hb2c,hb2f⟩:=bcell hb2;(try have : w.heap.size < w2.heap.size:=by omega);(try have : w.heap.size + 1 < w2.heap.size:=by omega);(try have : w.heap.size + 1 + 1 < w2.heap.size:=by omega);(try have : w.heap.size + 1 + 1 + 1 < w2.heap.size:=by omega);(try have : w1.heap.size < w2.heap.size:=by omega);(try have : w1.heap.size + 1 < w2.heap.size:=by omega);(try have : w1.heap.size + 1 + 1 < w2.heap.size:=by omega);(try have : w1.heap.size + 1 + 1 + 1 < w2.heap.size:=by omega)))) | fail
   all_goals
    go_wp2_with fail
    go_ret
    exact ⟨rfl,by exact bel⟩
  ·by_cases h1 : 18 < s
   ·rw [dform_deep h1]
    have g3 : decide (s < 0) = false:=by simp;omega
    generalize cmpN c B34 = cc at *
    generalize wd c 0 = x0 at *
    generalize wd c 1 = x1 at *
    clear hc hb
    generalize decide (c = 0) = zz at *
    go_enter Tryz.func70,Tryz.ntmps70
    go_wp2_with fail
    first | (go_region_held3 (fun w' => w'.cell? ⟨w.heap.size,1,none⟩ = some (.int .u64 x1) ∧ w'.cell? ⟨w.heap.size,2,none⟩ = some (.int .u64 x0) ∧ w'.cell? ⟨w.heap.size,3,none⟩ = some (.int .i64 s)) (first | (first | (go_keep;done) | (simp [go_sem];done) | ((try dsimp only);(repeat' apply And.intro) <;> (first | (with_reducible assumption) | ((rw [World.cell?_alloc_lt _ _ _ (by show _ < _;omega)]);go_split_ands;(first | with_reducible assumption | (refine (World.cell?_alloc_lt _ _ _ (by show _ < _;omega)).symm.trans ?_;with_reducible assumption))) | ((rw [World.cell?_setCell_other _ _ _ _ (by intro e;injection e;omega)]);with_reducible assumption) | (go_keep;done) | (simp [go_sem];done) | (simp (disch:=go_size) [*,World.cell?_alloc_some,World.cell?_setCell_far];done))))) (first | ((go_at_call 104;with_reducible refine (HB.out _).mono ?_);rintro _ w1 ⟨rfl,hb1⟩;have hb1s:=hb1.size;(try simp only [wsA,wsS,wsD,wsN] at hb1s);obtain ⟨hb1c,hb1f⟩:=bcell hb1;(try have : w.heap.size < w1.heap.size:=by omega);(try have : w.heap.size + 1 < w1.heap.size:=by omega);(try have : w.heap.size + 1 + 1 < w1.heap.size:=by omega);(try have : w.heap.size + 1 + 1 + 1 < w1.heap.size:=by omega)) | ((go_at_call 103;with_reducible refine (HC.out _).mono ?_);rintro _ w2 ⟨rfl,hb2⟩;have hb2s:=hb2.size;(try simp only [wsA,wsS,wsD,wsN] at hb2s);obtain ⟨hb2c,hb2f⟩:=bcell hb2;(try have : w.heap.size < w2.heap.size:=by omega);(try have : w.heap.size + 1 < w2.heap.size:=by omega);(try have : w.heap.size + 1 + 1 < w2.heap.size:=by omega);(try have : w.heap.size + 1 + 1 + 1 < w2.heap.size:=by omega);(try have : w1.heap.size < w2.heap.size:=by omega);(try have : w1.heap.size + 1 < w2.heap.size:=by omega);(try have : w1.heap.size + 1 + 1 < w2.heap.size:=by omega);(try have : w1.heap.size + 1 + 1 + 1 < w2.heap.size:=by omega)))) | fail
    all_goals
     go_wp2_with fail
     go_ret
     exact ⟨rfl,by exact bel⟩
   ·rw [dform_in hb (by omega) (by omega)]
    have g3 : decide (s < 0) = false:=by simp;omega
    have g4 : decide (18 < s) = false:=by simp;omega
    by_cases hz : c = 0
    ·rw [if_pos hz]
     rw [decide_eq_true hz] at HZ
     have g2 : (s == 0) = decide (s = 0):=by rw [Bool.eq_iff_iff];simp
     generalize cmpN c B34 = cc at *
     generalize wd c 0 = x0 at *
     generalize wd c 1 = x1 at *
     clear hc hb
     generalize decide (s = 0) = sz at *
     clear hz
     cases b
     ·go_enter Tryz.func70,Tryz.ntmps70
      go_wp2_with fail
      first | (go_region_held3 (fun w' => w'.cell? ⟨w.heap.size,1,none⟩ = some (.int .u64 x1) ∧ w'.cell? ⟨w.heap.size,2,none⟩ = some (.int .u64 x0) ∧ w'.cell? ⟨w.heap.size,3,none⟩ = some (.int .i64 s)) (first | (first | (go_keep;done) | (simp [go_sem];done) | ((try dsimp only);(repeat' apply And.intro) <;> (first | (with_reducible assumption) | ((rw [World.cell?_alloc_lt _ _ _ (by show _ < _;omega)]);go_split_ands;(first | with_reducible assumption | (refine (World.cell?_alloc_lt _ _ _ (by show _ < _;omega)).symm.trans ?_;with_reducible assumption))) | ((rw [World.cell?_setCell_other _ _ _ _ (by intro e;injection e;omega)]);with_reducible assumption) | (go_keep;done) | (simp [go_sem];done) | (simp (disch:=go_size) [*,World.cell?_alloc_some,World.cell?_setCell_far];done))))) (first | ((go_at_call 104;with_reducible refine (HB.out _).mono ?_);rintro _ w1 ⟨rfl,hb1⟩;have hb1s:=hb1.size;(try simp only [wsA,wsS,wsD,wsN] at hb1s);obtain ⟨hb1c,hb1f⟩:=bcell hb1;(try have : w.heap.size < w1.heap.size:=by omega);(try have : w.heap.size + 1 < w1.heap.size:=by omega);(try have : w.heap.size + 1 + 1 < w1.heap.size:=by omega);(try have : w.heap.size + 1 + 1 + 1 < w1.heap.size:=by omega)) | ((go_at_call 103;with_reducible refine (HC.out _).mono ?_);rintro _ w2 ⟨rfl,hb2⟩;have hb2s:=hb2.size;(try simp only [wsA,wsS,wsD,wsN] at hb2s);obtain ⟨hb2c,hb2f⟩:=bcell hb2;(try have : w.heap.size < w2.heap.size:=by omega);(try have : w.heap.size + 1 < w2.heap.size:=by omega);(try have : w.heap.size + 1 + 1 < w2.heap.size:=by omega);(try have : w.heap.size + 1 + 1 + 1 < w2.heap.size:=by omega);(try have : w1.heap.size < w2.heap.size:=by omega);(try have : w1.heap.size + 1 < w2.heap.size:=by omega);(try have : w1.heap.size + 1 + 1 < w2.heap.size:=by omega);(try have : w1.heap.size + 1 + 1 + 1 < w2.heap.size:=by omega)))) | fail
      all_goals
       go_wp2_with ((go_at_call 105;with_reducible refine (HZ.out _).mono ?_);rintro _ w3 ⟨rfl,hb3⟩;have hb3s:=hb3.size;(try simp only [wsA,wsS,wsD,wsN] at hb3s);obtain ⟨hb3c,hb3f⟩:=bcell hb3;(try have : w.heap.size < w3.heap.size:=by omega);(try have : w.heap.size + 1 < w3.heap.size:=by omega);(try have : w.heap.size + 1 + 1 < w3.heap.size:=by omega);(try have : w.heap.size + 1 + 1 + 1 < w3.heap.size:=by omega);(try have : w1.heap.size < w3.heap.size:=by omega);(try have : w1.heap.size + 1 < w3.heap.size:=by omega);(try have : w1.heap.size + 1 + 1 < w3.heap.size:=by omega);(try have : w1.heap.size + 1 + 1 + 1 < w3.heap.size:=by omega);(try have : w2.heap.size < w3.heap.size:=by omega);(try have : w2.heap.size + 1 < w3.heap.size:=by omega);(try have : w2.heap.size + 1 + 1 < w3.heap.size:=by omega);(try have : w2.heap.size + 1 + 1 + 1 < w3.heap.size:=by omega))
       go_ret
       exact ⟨by simp,by exact bel⟩
     ·go_enter Tryz.func70,Tryz.ntmps70
      go_wp2_with fail
      first | (go_region_held3 (fun w' => w'.cell? ⟨w.heap.size,1,none⟩ = some (.int .u64 x1) ∧ w'.cell? ⟨w.heap.size,2,none⟩ = some (.int .u64 x0) ∧ w'.cell? ⟨w.heap.size,3,none⟩ = some (.int .i64 s)) (first | (first | (go_keep;done) | (simp [go_sem];done) | ((try dsimp only);(repeat' apply And.intro) <;> (first | (with_reducible assumption) | ((rw [World.cell?_alloc_lt _ _ _ (by show _ < _;omega)]);go_split_ands;(first | with_reducible assumption | (refine (World.cell?_alloc_lt _ _ _ (by show _ < _;omega)).symm.trans ?_;with_reducible assumption))) | ((rw [World.cell?_setCell_other _ _ _ _ (by intro e;injection e;omega)]);with_reducible assumption) | (go_keep;done) | (simp [go_sem];done) | (simp (disch:=go_size) [*,World.cell?_alloc_some,World.cell?_setCell_far];done))))) (first | ((go_at_call 104;with_reducible refine (HB.out _).mono ?_);rintro _ w1 ⟨rfl,hb1⟩;have hb1s:=hb1.size;(try simp only [wsA,wsS,wsD,wsN] at hb1s);obtain ⟨hb1c,hb1f⟩:=bcell hb1;(try have : w.heap.size < w1.heap.size:=by omega);(try have : w.heap.size + 1 < w1.heap.size:=by omega);(try have : w.heap.size + 1 + 1 < w1.heap.size:=by omega);(try have : w.heap.size + 1 + 1 + 1 < w1.heap.size:=by omega)) | ((go_at_call 103;with_reducible refine (HC.out _).mono ?_);rintro _ w2 ⟨rfl,hb2⟩;have hb2s:=hb2.size;(try simp only [wsA,wsS,wsD,wsN] at hb2s);obtain ⟨hb2c,hb2f⟩:=bcell hb2;(try have : w.heap.size < w2.heap.size:=by omega);(try have : w.heap.size + 1 < w2.heap.size:=by omega);(try have : w.heap.size + 1 + 1 < w2.heap.size:=by omega);(try have : w.heap.size + 1 + 1 + 1 < w2.heap.size:=by omega);(try have : w1.heap.size < w2.heap.size:=by omega);(try have : w1.heap.size + 1 < w2.heap.size:=by omega);(try have : w1.heap.size + 1 + 1 < w2.heap.size:=by omega);(try have : w1.heap.size + 1 + 1 + 1 < w2.heap.size:=by omega)))) | fail
      all_goals
       go_wp2_with ((go_at_call 105;with_reducible refine (HZ.out _).mono ?_);rintro _ w3 ⟨rfl,hb3⟩;have hb3s:=hb3.size;(try simp only [wsA,wsS,wsD,wsN] at hb3s);obtain ⟨hb3c,hb3f⟩:=bcell hb3;(try have : w.heap.size < w3.heap.size:=by omega);(try have : w.heap.size + 1 < w3.heap.size:=by omega);(try have : w.heap.size + 1 + 1 < w3.heap.size:=by omega);(try have : w.heap.size + 1 + 1 + 1 < w3.heap.size:=by omega);(try have : w1.heap.size < w3.heap.size:=by omega);(try have : w1.heap.size + 1 < w3.heap.size:=by omega);(try have : w1.heap.size + 1 + 1 < w3.heap.size:=by omega);(try have : w1.heap.size + 1 + 1 + 1 < w3.heap.size:=by omega);(try have : w2.heap.size < w3.heap.size:=by omega);(try have : w2.heap.size + 1 < w3.heap.size:=by omega);(try have : w2.heap.size + 1 + 1 < w3.heap.size:=by omega);(try have : w2.heap.size + 1 + 1 + 1 < w3.heap.size:=by omega))
       go_ret
       exact ⟨by simp,by exact bel⟩
    ·rw [if_neg hz]
     rw [decide_eq_false hz] at HZ
     obtain ⟨T,k,ht⟩:=tz_upto c 34 hz hb
     have HT:=Lib.hid (fun W => trim_any c T k hc ht W)
     have hk : decide (c % 10 ≠ 0) = decide ((k : Int) = 0):=by
      rw [Bool.eq_iff_iff]
      simp only [decide_eq_true_eq]
      constructor
      ·intro h
       rcases Nat.eq_zero_or_pos k with h0 | h0
       ·omega
       ·exact absurd (by have:=ht.mod_lt (t:=0) h0;rwa [Nat.pow_zero,Nat.div_one] at this) h
      ·intro h
       obtain rfl : k = 0:=by omega
       have:=ht.2
       have e:=ht.1
       rw [Nat.pow_zero,Nat.mul_one] at e
       rw [e];exact this
     rw [hk]
     have k0 : (0 : Int) ≤ (k : Int):=by omega
     generalize cmpN c B34 = cc at *
     generalize wd c 0 = x0 at *
     generalize wd c 1 = x1 at *
     clear hc hb
     generalize wd T 0 = y0 at *
     generalize wd T 1 = y1 at *
     clear hz ht hk
     by_cases hs : s = 0
     ·have g2 : (s == 0) = true:=by simpa using hs
      rw [decide_eq_true hs]
      have HS:=Lib.hid hs
      clear hs
      go_enter Tryz.func70,Tryz.ntmps70
      go_wp2_with fail
      first | (go_region_held3 (fun w' => w'.cell? ⟨w.heap.size,1,none⟩ = some (.int .u64 x1) ∧ w'.cell? ⟨w.heap.size,2,none⟩ = some (.int .u64 x0) ∧ w'.cell? ⟨w.heap.size,3,none⟩ = some (.int .i64 s)) (first | (first | (go_keep;done) | (simp [go_sem];done) | ((try dsimp only);(repeat' apply And.intro) <;> (first | (with_reducible assumption) | ((rw [World.cell?_alloc_lt _ _ _ (by show _ < _;omega)]);go_split_ands;(first | with_reducible assumption | (refine (World.cell?_alloc_lt _ _ _ (by show _ < _;omega)).symm.trans ?_;with_reducible assumption))) | ((rw [World.cell?_setCell_other _ _ _ _ (by intro e;injection e;omega)]);with_reducible assumption) | (go_keep;done) | (simp [go_sem];done) | (simp (disch:=go_size) [*,World.cell?_alloc_some,World.cell?_setCell_far];done))))) (first | ((go_at_call 104;with_reducible refine (HB.out _).mono ?_);rintro _ w1 ⟨rfl,hb1⟩;have hb1s:=hb1.size;(try simp only [wsA,wsS,wsD,wsN] at hb1s);obtain ⟨hb1c,hb1f⟩:=bcell hb1;(try have : w.heap.size < w1.heap.size:=by omega);(try have : w.heap.size + 1 < w1.heap.size:=by omega);(try have : w.heap.size + 1 + 1 < w1.heap.size:=by omega);(try have : w.heap.size + 1 + 1 + 1 < w1.heap.size:=by omega)) | ((go_at_call 103;with_reducible refine (HC.out _).mono ?_);rintro _ w2 ⟨rfl,hb2⟩;have hb2s:=hb2.size;(try simp only [wsA,wsS,wsD,wsN] at hb2s);obtain ⟨hb2c,hb2f⟩:=bcell hb2;(try have : w.heap.size < w2.heap.size:=by omega);(try have : w.heap.size + 1 < w2.heap.size:=by omega);(try have : w.heap.size + 1 + 1 < w2.heap.size:=by omega);(try have : w.heap.size + 1 + 1 + 1 < w2.heap.size:=by omega);(try have : w1.heap.size < w2.heap.size:=by omega);(try have : w1.heap.size + 1 < w2.heap.size:=by omega);(try have : w1.heap.size + 1 + 1 < w2.heap.size:=by omega);(try have : w1.heap.size + 1 + 1 + 1 < w2.heap.size:=by omega)))) | fail
      all_goals
       go_wp2_with (first | ((go_at_call 105;with_reducible refine (HZ.out _).mono ?_);rintro _ w3 ⟨rfl,hb3⟩;have hb3s:=hb3.size;(try simp only [wsA,wsS,wsD,wsN] at hb3s);obtain ⟨hb3c,hb3f⟩:=bcell hb3;(try have : w.heap.size < w3.heap.size:=by omega);(try have : w.heap.size + 1 < w3.heap.size:=by omega);(try have : w.heap.size + 1 + 1 < w3.heap.size:=by omega);(try have : w.heap.size + 1 + 1 + 1 < w3.heap.size:=by omega);(try have : w1.heap.size < w3.heap.size:=by omega);(try have : w1.heap.size + 1 < w3.heap.size:=by omega);(try have : w1.heap.size + 1 + 1 < w3.heap.size:=by omega);(try have : w1.heap.size + 1 + 1 + 1 < w3.heap.size:=by omega);(try have : w2.heap.size < w3.heap.size:=by omega);(try have : w2.heap.size + 1 < w3.heap.size:=by omega);(try have : w2.heap.size + 1 + 1 < w3.heap.size:=by omega);(try have : w2.heap.size + 1 + 1 + 1 < w3.heap.size:=by omega)) | ((go_at_call 106;with_reducible refine (HT.out _).mono ?_);rintro _ w4 ⟨rfl,hb4⟩;have hb4s:=hb4.size;(try simp only [wsA,wsS,wsD,wsN] at hb4s);obtain ⟨hb4c,hb4f⟩:=bcell hb4;(try have : w.heap.size < w4.heap.size:=by omega);(try have : w.heap.size + 1 < w4.heap.size:=by omega);(try have : w.heap.size + 1 + 1 < w4.heap.size:=by omega);(try have : w.heap.size + 1 + 1 + 1 < w4.heap.size:=by omega);(try have : w1.heap.size < w4.heap.size:=by omega);(try have : w1.heap.size + 1 < w4.heap.size:=by omega);(try have : w1.heap.size + 1 + 1 < w4.heap.size:=by omega);(try have : w1.heap.size + 1 + 1 + 1 < w4.heap.size:=by omega);(try have : w2.heap.size < w4.heap.size:=by omega);(try have : w2.heap.size + 1 < w4.heap.size:=by omega);(try have : w2.heap.size + 1 + 1 < w4.heap.size:=by omega);(try have : w2.heap.size + 1 + 1 + 1 < w4.heap.size:=by omega);(try have : w3.heap.size < w4.heap.size:=by omega);(try have : w3.heap.size + 1 < w4.heap.size:=by omega);(try have : w3.heap.size + 1 + 1 < w4.heap.size:=by omega);(try have : w3.heap.size + 1 + 1 + 1 < w4.heap.size:=by omega)))
       go_ret
       exact ⟨rfl,by exact bel⟩
     ·have g2 : (s == 0) = false:=by simpa using hs
      rw [decide_eq_false hs]
      clear hs
      go_enter Tryz.func70,Tryz.ntmps70
      go_wp2_with fail
      first | (go_region_held3 (fun w' => w'.cell? ⟨w.heap.size,1,none⟩ = some (.int .u64 x1) ∧ w'.cell? ⟨w.heap.size,2,none⟩ = some (.int .u64 x0) ∧ w'.cell? ⟨w.heap.size,3,none⟩ = some (.int .i64 s)) (first | (first | (go_keep;done) | (simp [go_sem];done) | ((try dsimp only);(repeat' apply And.intro) <;> (first | (with_reducible assumption) | ((rw [World.cell?_alloc_lt _ _ _ (by show _ < _;omega)]);go_split_ands;(first | with_reducible assumption | (refine (World.cell?_alloc_lt _ _ _ (by show _ < _;omega)).symm.trans ?_;with_reducible assumption))) | ((rw [World.cell?_setCell_other _ _ _ _ (by intro e;injection e;omega)]);with_reducible assumption) | (go_keep;done) | (simp [go_sem];done) | (simp (disch:=go_size) [*,World.cell?_alloc_some,World.cell?_setCell_far];done))))) (first | ((go_at_call 104;with_reducible refine (HB.out _).mono ?_);rintro _ w1 ⟨rfl,hb1⟩;have hb1s:=hb1.size;(try simp only [wsA,wsS,wsD,wsN] at hb1s);obtain ⟨hb1c,hb1f⟩:=bcell hb1;(try have : w.heap.size < w1.heap.size:=by omega);(try have : w.heap.size + 1 < w1.heap.size:=by omega);(try have : w.heap.size + 1 + 1 < w1.heap.size:=by omega);(try have : w.heap.size + 1 + 1 + 1 < w1.heap.size:=by omega)) | ((go_at_call 103;with_reducible refine (HC.out _).mono ?_);rintro _ w2 ⟨rfl,hb2⟩;have hb2s:=hb2.size;(try simp only [wsA,wsS,wsD,wsN] at hb2s);obtain ⟨hb2c,hb2f⟩:=bcell hb2;(try have : w.heap.size < w2.heap.size:=by omega);(try have : w.heap.size + 1 < w2.heap.size:=by omega);(try have : w.heap.size + 1 + 1 < w2.heap.size:=by omega);(try have : w.heap.size + 1 + 1 + 1 < w2.heap.size:=by omega);(try have : w1.heap.size < w2.heap.size:=by omega);(try have : w1.heap.size + 1 < w2.heap.size:=by omega);(try have : w1.heap.size + 1 + 1 < w2.heap.size:=by omega);(try have : w1.heap.size + 1 + 1 + 1 < w2.heap.size:=by omega)))) | fail
      all_goals
       go_wp2_with (first | ((go_at_call 105;with_reducible refine (HZ.out _).mono ?_);rintro _ w3 ⟨rfl,hb3⟩;have hb3s:=hb3.size;(try simp only [wsA,wsS,wsD,wsN] at hb3s);obtain ⟨hb3c,hb3f⟩:=bcell hb3;(try have : w.heap.size < w3.heap.size:=by omega);(try have : w.heap.size + 1 < w3.heap.size:=by omega);(try have : w.heap.size + 1 + 1 < w3.heap.size:=by omega);(try have : w.heap.size + 1 + 1 + 1 < w3.heap.size:=by omega);(try have : w1.heap.size < w3.heap.size:=by omega);(try have : w1.heap.size + 1 < w3.heap.size:=by omega);(try have : w1.heap.size + 1 + 1 < w3.heap.size:=by omega);(try have : w1.heap.size + 1 + 1 + 1 < w3.heap.size:=by omega);(try have : w2.heap.size < w3.heap.size:=by omega);(try have : w2.heap.size + 1 < w3.heap.size:=by omega);(try have : w2.heap.size + 1 + 1 < w3.heap.size:=by omega);(try have : w2.heap.size + 1 + 1 + 1 < w3.heap.size:=by omega)) | ((go_at_call 106;with_reducible refine (HT.out _).mono ?_);rintro _ w4 ⟨rfl,hb4⟩;have hb4s:=hb4.size;(try simp only [wsA,wsS,wsD,wsN] at hb4s);obtain ⟨hb4c,hb4f⟩:=bcell hb4;(try have : w.heap.size < w4.heap.size:=by omega);(try have : w.heap.size + 1 < w4.heap.size:=by omega);(try have : w.heap.size + 1 + 1 < w4.heap.size:=by omega);(try have : w.heap.size + 1 + 1 + 1 < w4.heap.size:=by omega);(try have : w1.heap.size < w4.heap.size:=by omega);(try have : w1.heap.size + 1 < w4.heap.size:=by omega);(try have : w1.heap.size + 1 + 1 < w4.heap.size:=by omega);(try have : w1.heap.size + 1 + 1 + 1 < w4.heap.size:=by omega);(try have : w2.heap.size < w4.heap.size:=by omega);(try have : w2.heap.size + 1 < w4.heap.size:=by omega);(try have : w2.heap.size + 1 + 1 < w4.heap.size:=by omega);(try have : w2.heap.size + 1 + 1 + 1 < w4.heap.size:=by omega);(try have : w3.heap.size < w4.heap.size:=by omega);(try have : w3.heap.size + 1 < w4.heap.size:=by omega);(try have : w3.heap.size + 1 + 1 < w4.heap.size:=by omega);(try have : w3.heap.size + 1 + 1 + 1 < w4.heap.size:=by omega)))
       go_ret
       exact ⟨ret_bool (by rw [Bool.eq_iff_iff];simp),by exact bel⟩
 ·have g1:=cmp_bound' hb
  have g1' : decide (0 ≤ cmpN c B34) = true:=by simp;omega
  rw [dform_hi hb]
  generalize cmpN c B34 = cc at *
  generalize wd c 0 = x0 at *
  generalize wd c 1 = x1 at *
  clear hc hb
  generalize decide (c = 0) = zz at *
  go_enter Tryz.func70,Tryz.ntmps70
  go_wp2_with fail
  first | (go_region_with (first | ((go_at_call 104;with_reducible refine (HB.out _).mono ?_);rintro _ w1 ⟨rfl,hb1⟩;have hb1s:=hb1.size;(try simp only [wsA,wsS,wsD,wsN] at hb1s);obtain ⟨hb1c,hb1f⟩:=bcell hb1;(try have : w.heap.size < w1.heap.size:=by omega);(try have : w.heap.size + 1 < w1.heap.size:=by omega);(try have : w.heap.size + 1 + 1 < w1.heap.size:=by omega);(try have : w.heap.size + 1 + 1 + 1 < w1.heap.size:=by omega)) | ((go_at_call 103;with_reducible refine (HC.out _).mono ?_);rintro _ w2 ⟨rfl,hb2⟩;have hb2s:=hb2.size;(try simp only [wsA,wsS,wsD,wsN] at hb2s);obtain ⟨hb2c,hb2f⟩:=bcell hb2;(try have : w.heap.size < w2.heap.size:=by omega);(try have : w.heap.size + 1 < w2.heap.size:=by omega);(try have : w.heap.size + 1 + 1 < w2.heap.size:=by omega);(try have : w.heap.size + 1 + 1 + 1 < w2.heap.size:=by omega);(try have : w1.heap.size < w2.heap.size:=by omega);(try have : w1.heap.size + 1 < w2.heap.size:=by omega);(try have : w1.heap.size + 1 + 1 < w2.heap.size:=by omega);(try have : w1.heap.size + 1 + 1 + 1 < w2.heap.size:=by omega)))) | fail
  all_goals
   go_wp2_with fail
   go_ret
   exact ⟨rfl,by exact bel⟩
end Go.Proofs.YtbnadlpkbbdgjaaGreatDoor.B



namespace Go.Proofs.YtbnadlpkbbdgjaaGreatDoor.B
open Go.RowKit

set_option maxHeartbeats 4000000 in
theorem formed_one (b : Bool) (c : Nat) (s : Int) (hc : c < 2 ^ 128) (g : Nat) (w : World) (hg : Bk w g 27 [.bool b,.int .u64 (wd (c) 1),.int .u64 (wd (c) 0),.int .i64 s]) :
  Calls Tryz.prog 47 #[.slice (some ⟨g,0,none⟩) 1 1] w fun e w' => e = .returned (.int .i64 (ferr (dform b c s))) ∧ Below w.heap.size w w':=by
 have HF:=Lib.hid (fun W => form_any b c s hc W)
 obtain ⟨v,hv⟩ : ∃ v,v = dform b c s:=⟨_,rfl⟩
 rw [← hv] at HF
 rw [← hv]
 generalize wd c 0 = x0 at *
 generalize wd c 1 = x1 at *
 have HG:=Lib.hid hg
 have hgl:=hg.lt
 clear hc hv hg
 go_enter Tryz.func47,Tryz.ntmps47
 go_wp2_with fail
 go_loopg [7] 1 (fun k i wr => ∃ t : Nat,k + t = 1 ∧ i = .int .i64 t ∧ (t = 0 ∨ v = true) ∧ Below w.heap.size w wr)
 case atStart => exact ⟨0,rfl,rfl,.inl rfl,by exact bel⟩
 case round =>
  obtain ⟨t,hk,rfl,hv,hbel⟩:=hrel
  have HK:=Lib.hid hk
  have hbs:=hbel.size
  have hc : t = 0 ∨ t = 1:=by omega
  clear hk
  rcases hc with rfl | rfl
  ·have bg:=HG.out.below hbel.toBelow hgl
   have d0:=bg.cell 0 rfl
   have d1:=bg.cell 1 rfl
   have d2:=bg.cell 2 rfl
   have d3:=bg.cell 3 rfl
   clear bg hv
   cases v
   ·go_wp2_with ((go_at_call 70;with_reducible refine (HF.out _).mono ?_);rintro _ w1 ⟨rfl,hb1⟩;have hb1s:=hb1.size;(try simp only [wsA,wsS,wsD,wsN] at hb1s);obtain ⟨hb1c,hb1f⟩:=bcell hb1;(try have : w.heap.size < w1.heap.size:=by omega);(try have : w.heap.size + 1 < w1.heap.size:=by omega);(try have : w.heap.size + 1 + 1 < w1.heap.size:=by omega);(try have : w.heap.size + 1 + 1 + 1 < w1.heap.size:=by omega))
    go_ret
    exact ⟨rfl,by exact bel⟩
   ·go_wp2_with ((go_at_call 70;with_reducible refine (HF.out _).mono ?_);rintro _ w1 ⟨rfl,hb1⟩;have hb1s:=hb1.size;(try simp only [wsA,wsS,wsD,wsN] at hb1s);obtain ⟨hb1c,hb1f⟩:=bcell hb1;(try have : w.heap.size < w1.heap.size:=by omega);(try have : w.heap.size + 1 < w1.heap.size:=by omega);(try have : w.heap.size + 1 + 1 < w1.heap.size:=by omega);(try have : w.heap.size + 1 + 1 + 1 < w1.heap.size:=by omega))
    go_roundg 0
    case measure => have:=HK.out;omega
    case rel => exact ⟨1,rfl,rfl,.inr (by simp),by exact bel⟩
  ·obtain rfl : v = true:=by simpa using hv
   clear hv
   go_wp2_with fail
   go_ret
   exact ⟨rfl,by exact bel⟩
set_option maxHeartbeats 4000000 in
theorem formed_two (b : Bool) (c : Nat) (s : Int) (hc : c < 2 ^ 128) (b' : Bool) (c' : Nat) (s' : Int) (hc' : c' < 2 ^ 128) (g : Nat) (w : World) (hg : Bk w g 27 [.bool b,.int .u64 (wd c 1),.int .u64 (wd c 0),.int .i64 s,.bool b',.int .u64 (wd c' 1),.int .u64 (wd c' 0),.int .i64 s']) :
  Calls Tryz.prog 47 #[.slice (some ⟨g,0,none⟩) 2 2] w fun e w' => e = .returned (.int .i64 (ferr (dform b c s && dform b' c' s'))) ∧ Below w.heap.size w w':=by
 have HF:=Lib.hid (fun W => form_any b c s hc W)
 have HF':=Lib.hid (fun W => form_any b' c' s' hc' W)
 obtain ⟨v,hv⟩ : ∃ v,v = dform b c s:=⟨_,rfl⟩
 obtain ⟨v',hv'⟩ : ∃ v',v' = dform b' c' s':=⟨_,rfl⟩
 rw [← hv] at HF
 rw [← hv'] at HF'
 rw [← hv,← hv']
 generalize wd c 0 = x0 at *
 generalize wd c 1 = x1 at *
 generalize wd c' 0 = y0 at *
 generalize wd c' 1 = y1 at *
 have HG:=Lib.hid hg
 have hgl:=hg.lt
 clear hc hv hg hc' hv'
 go_enter Tryz.func47,Tryz.ntmps47
 go_wp2_with fail
 go_loopg [7] 2 (fun k i wr => ∃ t : Nat,k + t = 2 ∧ i = .int .i64 t ∧ (t = 0 ∨ v = true) ∧ (t ≤ 1 ∨ v' = true) ∧ Below w.heap.size w wr)
 case atStart => exact ⟨0,rfl,rfl,.inl rfl,.inl (by decide),by exact bel⟩
 case round =>
  obtain ⟨t,hk,rfl,hv,hv',hbel⟩:=hrel
  have HK:=Lib.hid hk
  have hbs:=hbel.size
  have hc : t = 0 ∨ t = 1 ∨ t = 2:=by omega
  have bg:=HG.out.below hbel.toBelow hgl
  clear hk
  rcases hc with rfl | rfl | rfl
  ·have d0:=bg.cell 0 rfl
   have d1:=bg.cell 1 rfl
   have d2:=bg.cell 2 rfl
   have d3:=bg.cell 3 rfl
   clear bg hv hv'
   cases v
   ·go_wp2_with ((go_at_call 70;with_reducible refine (HF.out _).mono ?_);rintro _ w1 ⟨rfl,hb1⟩;have hb1s:=hb1.size;(try simp only [wsA,wsS,wsD,wsN] at hb1s);obtain ⟨hb1c,hb1f⟩:=bcell hb1;(try have : w.heap.size < w1.heap.size:=by omega);(try have : w.heap.size + 1 < w1.heap.size:=by omega);(try have : w.heap.size + 1 + 1 < w1.heap.size:=by omega);(try have : w.heap.size + 1 + 1 + 1 < w1.heap.size:=by omega))
    go_ret
    exact ⟨rfl,by exact bel⟩
   ·go_wp2_with ((go_at_call 70;with_reducible refine (HF.out _).mono ?_);rintro _ w1 ⟨rfl,hb1⟩;have hb1s:=hb1.size;(try simp only [wsA,wsS,wsD,wsN] at hb1s);obtain ⟨hb1c,hb1f⟩:=bcell hb1;(try have : w.heap.size < w1.heap.size:=by omega);(try have : w.heap.size + 1 < w1.heap.size:=by omega);(try have : w.heap.size + 1 + 1 < w1.heap.size:=by omega);(try have : w.heap.size + 1 + 1 + 1 < w1.heap.size:=by omega))
    go_roundg 1
    case measure => have:=HK.out;omega
    case rel => exact ⟨1,rfl,rfl,.inr (by simp),.inl (Nat.le_refl _),by exact bel⟩
  ·obtain rfl : v = true:=by simpa using hv
   have d0:=bg.cell 4 rfl
   have d1:=bg.cell 5 rfl
   have d2:=bg.cell 6 rfl
   have d3:=bg.cell 7 rfl
   clear bg hv hv' HF
   cases v'
   ·go_wp2_with ((go_at_call 70;with_reducible refine (HF'.out _).mono ?_);rintro _ w1 ⟨rfl,hb1⟩;have hb1s:=hb1.size;(try simp only [wsA,wsS,wsD,wsN] at hb1s);obtain ⟨hb1c,hb1f⟩:=bcell hb1;(try have : w.heap.size < w1.heap.size:=by omega);(try have : w.heap.size + 1 < w1.heap.size:=by omega);(try have : w.heap.size + 1 + 1 < w1.heap.size:=by omega);(try have : w.heap.size + 1 + 1 + 1 < w1.heap.size:=by omega))
    go_ret
    exact ⟨rfl,by exact bel⟩
   ·go_wp2_with ((go_at_call 70;with_reducible refine (HF'.out _).mono ?_);rintro _ w1 ⟨rfl,hb1⟩;have hb1s:=hb1.size;(try simp only [wsA,wsS,wsD,wsN] at hb1s);obtain ⟨hb1c,hb1f⟩:=bcell hb1;(try have : w.heap.size < w1.heap.size:=by omega);(try have : w.heap.size + 1 < w1.heap.size:=by omega);(try have : w.heap.size + 1 + 1 < w1.heap.size:=by omega);(try have : w.heap.size + 1 + 1 + 1 < w1.heap.size:=by omega))
    go_roundg 0
    case measure => have:=HK.out;omega
    case rel => exact ⟨2,rfl,rfl,.inr (by simp),.inr (by simp),by exact bel⟩
  ·obtain rfl : v = true:=by simpa using hv
   obtain rfl : v' = true:=by simpa using hv'
   clear hv hv' bg
   go_wp2_with fail
   go_ret
   exact ⟨rfl,by exact bel⟩
end Go.Proofs.YtbnadlpkbbdgjaaGreatDoor.B



namespace Go.Proofs.YtbnadlpkbbdgjaaGreatDoor.B
open Go.RowKit

set_option maxHeartbeats 4000000 in
theorem times_any4 (c k : Nat) (hc : c < 2 ^ 128) (hk : k ≤ 1000) (h : c * 10 ^ k < 2 ^ 256) (w : World) : Calls Tryz.prog 71 #[.agg #[.int .u64 (wd c 1),.int .u64 (wd c 0)],.int .i64 k] w fun e w' => e = .returned (.agg #[.int .u64 (wd (c * 10 ^ k) 0),.int .u64 (wd (c * 10 ^ k) 1),.int .u64 (wd (c * 10 ^ k) 2),.int .u64 (wd (c * 10 ^ k) 3)]) ∧ Below w.heap.size w w':=by
 have HL:=Lib.hid (fun W => long_any c hc W)
 have H:=Far.mk h
 have k0 : (0 : Int) ≤ (k : Int):=by omega
 have k1 : (k : Int) ≤ 1000:=by omega
 obtain ⟨z,hz⟩ : ∃ z,z = c * 10 ^ k:=⟨_,rfl⟩
 rw [← hz]
 have HZ:=Far.mk hz
 clear hc h hz
 obtain ⟨x1,hx1⟩ : ∃ x1,x1 = wd c 1:=⟨_,rfl⟩
 obtain ⟨x0,hx0⟩ : ∃ x0,x0 = wd c 0:=⟨_,rfl⟩
 rw [← hx1,← hx0]
 rw [← hx1,← hx0] at HL
 have X1:=Lib.hid hx1
 have X0:=Lib.hid hx0
 clear hx1 hx0
 go_enter Tryz.func71,Tryz.ntmps71
 go_wp2_with fail
 refine (HL.out _).mono ?_
 rw [X1.out,X0.out]
 rintro _ w1 ⟨rfl,hb1⟩;have hb1s:=hb1.size;(try simp only [wsA,wsS,wsD,wsN] at hb1s);obtain ⟨hb1c,hb1f⟩:=bcell hb1;(try have : w.heap.size < w1.heap.size:=by omega);(try have : w.heap.size + 1 < w1.heap.size:=by omega);(try have : w.heap.size + 1 + 1 < w1.heap.size:=by omega);(try have : w.heap.size + 1 + 1 + 1 < w1.heap.size:=by omega)
 go_wp2_with fail
 go_loopg [14] k (fun kk i wr => ∃ t : Nat,kk + t = k ∧ i = .int .i64 t ∧ Bk wr w1.heap.size 80 (lcells (c * 10 ^ t)) ∧ Bk wr (w.heap.size + 1) 80 [.int .u64 0,.int .u64 0,.int .u64 0,.int .u64 0] ∧ w1.heap.size < wr.heap.size ∧ Below w.heap.size w wr)
 case atStart =>
  refine ⟨0,by omega,rfl, ?_,by exact bkk,by go_size,by exact bel⟩
  rw [Nat.pow_zero,Nat.mul_one,lcells_eq]
  exact bkk
 case round =>
  obtain ⟨t,hn,rfl,b1,b0,hsz,hbel⟩:=hrel
  have HK:=Lib.hid hn
  have HB1:=Lib.hid b1
  have HB0:=Lib.hid b0
  have ht : t ≤ k:=by omega
  clear hn b1 b0
  by_cases hlt : t < k
  ·have hM : c * 10 ^ t * 10 < 2 ^ 256:=by
    have h1:=H.out
    have h2 : c * 10 ^ t * 10 ≤ c * 10 ^ k:=by
     rw [Nat.mul_assoc,← Nat.pow_succ]
     exact Nat.mul_le_mul_left _ (Nat.pow_le_pow_right (by decide) hlt)
    omega
   obtain ⟨M,eM⟩ : ∃ M,M = c * 10 ^ t:=⟨_,rfl⟩
   rw [← eM] at hM HB1
   have EM:=Far.mk eM
   have HM:=Far.mk hM
   have HM0 : Far (M < 2 ^ 256):=Far.mk (by omega)
   have tlt : (t : Int) < (k : Int):=by omega
   clear eM hM
   go_wp2_with fail
   obtain ⟨wo,hwo⟩ : ∃ wo : World,wo = wr:=⟨_,rfl⟩
   obtain ⟨go,hgo⟩ : ∃ go : Nat,go = gk:=⟨_,rfl⟩
   rw [← hgo] at HK
   have HGO:=Lib.hid hgo
   clear hwo hgo
   go_loopg [6,16] 4 (fun kk cv j wr => ∃ (s : Nat) (cc : Int) (V : Nat),kk + s = 4 ∧ j = .int .i64 s ∧ cv = .int .u64 cc ∧ 0 ≤ cc ∧ cc < 18446744073709551616 ∧ Far (V < 2 ^ 256) ∧ Far ((V : Int) + cc * ((2 ^ (64 * s) : Nat) : Int) = M + 9 * ((M % 2 ^ (64 * s) : Nat) : Int)) ∧ Hid (∀ i,s ≤ i → i < 4 → wd V i = wd M i) ∧
    Bk wr w1.heap.size 80 (lcells V) ∧ Bk wr (w.heap.size + 1) 80 [.int .u64 0,.int .u64 0,.int .u64 0,.int .u64 0] ∧ w1.heap.size < wr.heap.size ∧ Below w.heap.size w wr)
   case atStart =>
    refine ⟨0,0,M,rfl,rfl,rfl,by decide,by decide,HM0,Far.mk ?_,Lib.hid (fun i _ _ => rfl),HB1.out,HB0.out,hsz,hbel⟩
    rw [Nat.mul_zero,Nat.pow_zero,Nat.mod_one];simp
   case round =>
    obtain ⟨s,cc,V,hk2,rfl,rfl,c0,c1,hV,hE,hU,b1,b0,hsz,hbel⟩:=hrel
    have HK2:=Lib.hid hk2
    have HB1:=Lib.hid b1
    have HB0:=Lib.hid b0
    have s4 : s ≤ 4:=by omega
    clear hk2 b1 b0
    by_cases hls : s < 4
    ·have s0' : (0 : Int) ≤ (s : Int):=by omega
     have s3' : (s : Int) < 4:=by omega
     have d0 : wr.cell? ⟨w1.heap.size,s,none⟩ = some (.int .u64 (wd V s)):=HB1.out.cell s (lcells_at V s hls)
     have f0:=HB1.out.frozen s
     obtain ⟨h,l,u,q,f,g,HS,h0,q0,u0,u1,hq⟩:=ten_step (wd V s) cc (wd_nn V s) (wd_lt V s) c0 c1
     obtain ⟨V',v1,v2,v3,v4,v5⟩:=lcells_set V s hls hV.out u u0 u1
     have HNEW:=Far.mk (ten_word hE.out rfl (hU.out s (Nat.le_refl _) hls) v2 HS.out)
     have HV':=Far.mk v1
     have HL:=Lib.hid v3
     have HU' : Hid (∀ i,s + 1 ≤ i → i < 4 → wd V' i = wd M i):=Lib.hid (fun i hi h4 => by rw [v4 i h4 (by omega)];exact hU.out i (by omega) h4)
     have hq0 : 0 ≤ h + q:=by omega
     clear v1 v2 v3 v4 v5 hE hV hU HS
     generalize wd V s = x at *
     go_wp2_with ((go_at_call 108;with_reducible refine (f.out _).mono ?_);rintro _ _ ⟨rfl,nn,rfl⟩)
     go_roundg (gk - 1)
     case measure => have:=HK2.out;omega
     case rel =>
      have b0:=HB0.out
      have b1:=HB1.out
      refine ⟨s + 1,h + q,V',by have:=HK2.out;omega,by go_num,rfl,hq0,hq,HV',HNEW,HU', ?_,by exact bkk,by go_size,by exact bel⟩
      rw [← HL.out]
      exact (b1.drewN _).set_ _ _
    ·obtain rfl : s = 4:=by omega
     have e:=ten_end hV.out HM.out c0 hE.out
     subst e
     clear hV hE
     go_wp2_with fail
     go_roundg (go - 1)
     case measure => have:=HK.out;have:=HGO.out;omega
     case rel =>
      refine ⟨t + 1,by have:=HK.out;omega,by go_num, ?_,HB0.out,hsz,hbel⟩
      rw [Nat.pow_succ,← Nat.mul_assoc,← EM.out]
      exact HB1.out
  ·obtain rfl : t = k:=by omega
   have b1:=HB1.out
   rw [← HZ.out,lcells_eq] at b1
   have b0:=HB0.out
   have d0:=b1.cell 0 rfl
   have d1:=b1.cell 1 rfl
   have d2:=b1.cell 2 rfl
   have d3:=b1.cell 3 rfl
   have e0:=b0.cell 0 rfl
   have e1:=b0.cell 1 rfl
   have e2:=b0.cell 2 rfl
   have e3:=b0.cell 3 rfl
   have g0:=b0.frozen 0
   have g1:=b0.frozen 1
   have g2:=b0.frozen 2
   have g3:=b0.frozen 3
   clear b0 b1
   go_wp2_with fail
   refine bodyPost_ret (by simp [results,Tryz.results71,go_sem, *];try rfl) rfl ?_
   exact ⟨rfl,by exact bel⟩
end Go.Proofs.YtbnadlpkbbdgjaaGreatDoor.B



namespace Go.Proofs.YtbnadlpkbbdgjaaGreatDoor.B
open Go.RowKit

set_option maxHeartbeats 4000000 in
theorem order_any (n m : Nat) (hn : n < 2 ^ 256) (hm : m < 2 ^ 256) (w : World) : Calls Tryz.prog 49 #[.agg #[.int .u64 (wd n 0),.int .u64 (wd n 1),.int .u64 (wd n 2),.int .u64 (wd n 3)],.agg #[.int .u64 (wd m 0),.int .u64 (wd m 1),.int .u64 (wd m 2),.int .u64 (wd m 3)]] w fun e w' => e = .returned (.int .i64 (cmpN n m)) ∧ Below w.heap.size w w':=by
 have H0:=Far.mk (top_none hn hm)
 obtain ⟨cc,hcc⟩ : ∃ cc,cc = cmpN n m:=⟨_,rfl⟩
 rw [← hcc]
 have HC:=Lib.hid hcc
 clear hn hm hcc
 go_enter Tryz.func49,Tryz.ntmps49
 go_wp2_with fail
 go_loopg [5] 4 (fun k i wr => k ≤ 4 ∧ i = .int .i64 ((k : Int) - 1) ∧ Far (n / 2 ^ (64 * k) = m / 2 ^ (64 * k)) ∧ Bk wr w.heap.size 80 (lcells n) ∧ Bk wr (w.heap.size + 1) 80 (lcells m) ∧ Below w.heap.size w wr)
 case atStart => exact ⟨Nat.le_refl _,rfl,H0,by rw [lcells_eq];exact bkk,by rw [lcells_eq];exact bkk,by exact bel⟩
 case round =>
  obtain ⟨hk,rfl,hd,b0,b1,hbel⟩:=hrel
  have HB0:=Lib.hid b0
  have HB1:=Lib.hid b1
  clear b0 b1 H0
  by_cases hz : gk = 0
  ·subst hz
   have e : n = m:=by have:=hd.out;rwa [Nat.mul_zero,Nat.pow_zero,Nat.div_one,Nat.div_one] at this
   have hc : cmpN n m = 0:=by unfold cmpN;rw [if_pos e]
   have HD:=Lib.hid hc
   have h0 : ¬ (0 : Int) ≤ ((0 : Nat) : Int) - 1:=by omega
   clear e hc hd
   go_wp2_with fail
   go_ret
   exact ⟨ret_int (by rw [HC.out,HD.out]),by exact bel⟩
  ·obtain ⟨j,rfl⟩ : ∃ j,gk = j + 1:=⟨gk - 1,by omega⟩
   have j4 : j < 4:=by omega
   have hx : ((j + 1 : Nat) : Int) - 1 = (j : Int):=by omega
   have c0 : wr.cell? ⟨w.heap.size,j,none⟩ = some (.int .u64 (wd n j)):=HB0.out.cell j (lcells_at n j j4)
   have c1 : wr.cell? ⟨w.heap.size + 1,j,none⟩ = some (.int .u64 (wd m j)):=HB1.out.cell j (lcells_at m j j4)
   obtain ⟨x,ex⟩ : ∃ x,x = wd n j:=⟨_,rfl⟩
   obtain ⟨y,ey⟩ : ∃ y,y = wd m j:=⟨_,rfl⟩
   rw [← ex] at c0
   rw [← ey] at c1
   have HX:=Lib.hid ex
   have HY:=Lib.hid ey
   clear ex ey hz
   rw [hx]
   have j0 : (0 : Int) ≤ (j : Int):=by omega
   have j3 : (j : Int) < 4:=by omega
   rcases Int.lt_trichotomy x y with hl | he | hg
   ·have hlt : n < m:=top_lt hd.out (by rw [← HX.out,← HY.out];exact hl)
    have hc : cmpN n m = -1:=by unfold cmpN;rw [if_neg (by omega),if_pos hlt]
    have HD:=Lib.hid hc
    clear hc hlt hx
    go_wp2_with fail
    go_region
    all_goals
     go_wp2_with fail
     go_ret
     exact ⟨ret_int (by rw [HC.out,HD.out]),by exact bel⟩
   ·have heq : n / 2 ^ (64 * j) = m / 2 ^ (64 * j):=top_eq hd.out (by rw [← HX.out,← HY.out];exact he)
    have HE:=Far.mk heq
    clear heq hx
    subst he
    go_wp2_with fail
    go_region
    all_goals
     go_wp2_with fail
     go_region
     all_goals
      go_wp2_with fail
      go_roundg j
      case measure => omega
      case rel =>
       have b0:=HB0.out
       have b1:=HB1.out
       exact ⟨by omega,rfl,HE,by exact bkk,by exact bkk,by exact bel⟩
   ·have hlt : m < n:=top_lt hd.out.symm (by rw [← HX.out,← HY.out];exact hg)
    have hc : cmpN n m = 1:=by unfold cmpN;rw [if_neg (by omega),if_neg (by omega)]
    have HD:=Lib.hid hc
    have hg2 : ¬ x < y:=by omega
    clear hc hlt hx
    go_wp2_with fail
    go_region
    all_goals
     go_wp2_with fail
     go_region
     all_goals
      go_wp2_with fail
      go_ret
      exact ⟨ret_int (by rw [HC.out,HD.out]),by exact bel⟩
end Go.Proofs.YtbnadlpkbbdgjaaGreatDoor.B



namespace Go.Proofs.YtbnadlpkbbdgjaaGreatDoor.B
open Go.RowKit

theorem times_sub (c m s : Nat) (hc : c < B34) (h : s ≤ m) (hm : m ≤ 18) (W : World) : Calls Tryz.prog 71 #[.agg #[.int .u64 (wd c 1),.int .u64 (wd c 0)],.int .i64 ((m : Int) - (s : Int))] W fun e w' => e = .returned (.agg #[.int .u64 (wd (c * 10 ^ (m - s)) 0),.int .u64 (wd (c * 10 ^ (m - s)) 1),.int .u64 (wd (c * 10 ^ (m - s)) 2),.int .u64 (wd (c * 10 ^ (m - s)) 3)]) ∧ Below W.heap.size W w':=by
 rw [show (m : Int) - (s : Int) = ((m - s : Nat) : Int) by omega]
 exact times_any4 c (m - s) (Nat.lt_trans hc B34_lt) (by omega) (Nat.lt_trans (scaled_lt hc hm) (by decide)) W
set_option maxHeartbeats 4000000 in
theorem both_any (b : Bool) (c s : Nat) (b' : Bool) (c' s' m : Nat) (hc : c < B34) (hc' : c' < B34) (hs : s ≤ 18) (hs' : s' ≤ 18) (hm : m = max s s') (w : World) :
  Calls Tryz.prog 48 #[.agg #[.bool b,.int .u64 (wd (c) 1),.int .u64 (wd (c) 0),.int .i64 s],.agg #[.bool b',.int .u64 (wd (c') 1),.int .u64 (wd (c') 0),.int .i64 s']] w fun e w' => e = .returned (.tuple #[.agg #[.int .u64 (wd (c * 10 ^ (m - s)) 0),.int .u64 (wd (c * 10 ^ (m - s)) 1),.int .u64 (wd (c * 10 ^ (m - s)) 2),.int .u64 (wd (c * 10 ^ (m - s)) 3)],.agg #[.int .u64 (wd (c' * 10 ^ (m - s')) 0),.int .u64 (wd (c' * 10 ^ (m - s')) 1),.int .u64 (wd (c' * 10 ^ (m - s')) 2),.int .u64 (wd (c' * 10 ^ (m - s')) 3)],.int .i64 m]) ∧ Below w.heap.size w w':=by
 have m18 : m ≤ 18:=by omega
 have sm : s ≤ m:=by omega
 have sm' : s' ≤ m:=by omega
 have HA:=Lib.hid (fun W => times_sub c m s hc sm m18 W)
 have HB:=Lib.hid (fun W => times_sub c' m s' hc' sm' m18 W)
 generalize c * 10 ^ (m - s) = X at *
 generalize c' * 10 ^ (m - s') = Y at *
 have ga : IntKind.i64.wrap ((m : Int) - (s : Int)) = (m : Int) - (s : Int):=IntWalk.i64_in _ (by omega)
 have gb : IntKind.i64.wrap ((m : Int) - (s' : Int)) = (m : Int) - (s' : Int):=IntWalk.i64_in _ (by omega)
 have GA:=Lib.hid ga
 have GB:=Lib.hid gb
 clear ga gb
 have hmi : max (s : Int) (s' : Int) = (m : Int):=by omega
 have HMI:=Lib.hid hmi
 generalize wd c 0 = x0 at *
 generalize wd c 1 = x1 at *
 generalize wd c' 0 = y0 at *
 generalize wd c' 1 = y1 at *
 clear hmi hm hc hc'
 go_enter Tryz.func48,Tryz.ntmps48
 go_wp2_with fail
 rw [HMI.out]
 have ga:=GA.out
 have gb:=GB.out
 go_region_held3 (fun w' => (w'.cell? ⟨w.heap.size,0,none⟩ = some (.bool b) ∧ w'.cell? ⟨w.heap.size,1,none⟩ = some (.int .u64 x1) ∧ w'.cell? ⟨w.heap.size,2,none⟩ = some (.int .u64 x0) ∧ w'.cell? ⟨w.heap.size,3,none⟩ = some (.int .i64 ((s : Int)))) ∧ (w'.cell? ⟨(w.heap.size + 1),0,none⟩ = some (.bool b') ∧ w'.cell? ⟨(w.heap.size + 1),1,none⟩ = some (.int .u64 y1) ∧ w'.cell? ⟨(w.heap.size + 1),2,none⟩ = some (.int .u64 y0) ∧ w'.cell? ⟨(w.heap.size + 1),3,none⟩ = some (.int .i64 ((s' : Int))))) (first | (first | (go_keep;done) | (simp [go_sem];done) | ((try dsimp only);(repeat' apply And.intro) <;> (first | (with_reducible assumption) | ((rw [World.cell?_alloc_lt _ _ _ (by show _ < _;omega)]);go_split_ands;(first | with_reducible assumption | (refine (World.cell?_alloc_lt _ _ _ (by show _ < _;omega)).symm.trans ?_;with_reducible assumption))) | ((rw [World.cell?_setCell_other _ _ _ _ (by intro e;injection e;omega)]);with_reducible assumption) | (go_keep;done) | (simp [go_sem];done) | (simp (disch:=go_size) [*,World.cell?_alloc_some,World.cell?_setCell_far];done)))) | ((refine ⟨?_, ?_⟩) <;> (first | ((refine ⟨Bk.cell (t:=27) (cs:=[.bool b,.int .u64 x1,.int .u64 x0,.int .i64 ((s : Int))]) ?_ 0 rfl,Bk.cell (t:=27) (cs:=[.bool b,.int .u64 x1,.int .u64 x0,.int .i64 ((s : Int))]) ?_ 1 rfl,Bk.cell (t:=27) (cs:=[.bool b,.int .u64 x1,.int .u64 x0,.int .i64 ((s : Int))]) ?_ 2 rfl,Bk.cell (t:=27) (cs:=[.bool b,.int .u64 x1,.int .u64 x0,.int .i64 ((s : Int))]) ?_ 3 rfl⟩) <;> ((repeat (first|(with_reducible assumption)|((with_reducible refine bkW ?_);(first|rfl|(simp only [wsA,wsS,wsD,wsN];done)))|(with_reducible first|refine bkA ?_ _|refine bkD ?_|refine bkN ?_ _)|((with_reducible refine bkF ?_ ?_ _);focus (simp only [];omega))|((with_reducible refine bkB (by assumption) ?_ ?_);focus (go_size;done))));done)) | ((refine ⟨Bk.cell (t:=27) (cs:=[.bool b',.int .u64 y1,.int .u64 y0,.int .i64 ((s' : Int))]) ?_ 0 rfl,Bk.cell (t:=27) (cs:=[.bool b',.int .u64 y1,.int .u64 y0,.int .i64 ((s' : Int))]) ?_ 1 rfl,Bk.cell (t:=27) (cs:=[.bool b',.int .u64 y1,.int .u64 y0,.int .i64 ((s' : Int))]) ?_ 2 rfl,Bk.cell (t:=27) (cs:=[.bool b',.int .u64 y1,.int .u64 y0,.int .i64 ((s' : Int))]) ?_ 3 rfl⟩) <;> ((repeat (first|(with_reducible assumption)|((with_reducible refine bkW ?_);(first|rfl|(simp only [wsA,wsS,wsD,wsN];done)))|(with_reducible first|refine bkA ?_ _|refine bkD ?_|refine bkN ?_ _)|((with_reducible refine bkF ?_ ?_ _);focus (simp only [];omega))|((with_reducible refine bkB (by assumption) ?_ ?_);focus (go_size;done))));done))))) (first | (go_at_call 71;(with_reducible refine (HA.out _).mono ?_);rintro _ w1 ⟨rfl,hb1⟩;have hb1s:=hb1.size;(try simp only [wsA,wsS,wsD,wsN] at hb1s);obtain ⟨hb1c,hb1f⟩:=bcell hb1;(try have : w.heap.size < w1.heap.size:=by omega);(try have : w.heap.size + 1 < w1.heap.size:=by omega);(try have : w.heap.size + 1 + 1 < w1.heap.size:=by omega);(try have : w.heap.size + 1 + 1 + 1 < w1.heap.size:=by omega);(try have : w2.heap.size < w1.heap.size:=by omega);(try have : w2.heap.size + 1 < w1.heap.size:=by omega);(try have : w2.heap.size + 1 + 1 < w1.heap.size:=by omega);(try have : w2.heap.size + 1 + 1 + 1 < w1.heap.size:=by omega)) | (go_at_call 71;(with_reducible refine (HB.out _).mono ?_);rintro _ w2 ⟨rfl,hb2⟩;have hb2s:=hb2.size;(try simp only [wsA,wsS,wsD,wsN] at hb2s);obtain ⟨hb2c,hb2f⟩:=bcell hb2;(try have : w.heap.size < w2.heap.size:=by omega);(try have : w.heap.size + 1 < w2.heap.size:=by omega);(try have : w.heap.size + 1 + 1 < w2.heap.size:=by omega);(try have : w.heap.size + 1 + 1 + 1 < w2.heap.size:=by omega);(try have : w1.heap.size < w2.heap.size:=by omega);(try have : w1.heap.size + 1 < w2.heap.size:=by omega);(try have : w1.heap.size + 1 + 1 < w2.heap.size:=by omega);(try have : w1.heap.size + 1 + 1 + 1 < w2.heap.size:=by omega)))
 all_goals
  go_wp2_with fail
  refine bodyPost_ret (by simp [results,Tryz.results48,go_sem, *];try rfl) rfl ?_
  exact ⟨rfl,by exact bel⟩
end Go.Proofs.YtbnadlpkbbdgjaaGreatDoor.B



namespace Go.Proofs.YtbnadlpkbbdgjaaGreatDoor.B
open Go.RowKit

set_option maxRecDepth 100000 in
set_option maxHeartbeats 8000000 in
theorem dcmp_ok (b : Bool) (c s : Nat) (b' : Bool) (c' s' : Nat) (h : dform b c s = true) (h' : dform b' c' s' = true) (hc : c < B34) (hc' : c' < B34) (hs : s ≤ 18) (hs' : s' ≤ 18) (w : World) :
  Calls Tryz.prog 28 #[.agg #[.bool b,.int .u64 (wd (c) 1),.int .u64 (wd (c) 0),.int .i64 s],.agg #[.bool b',.int .u64 (wd (c') 1),.int .u64 (wd (c') 0),.int .i64 s']] w fun e w' => e = .returned (.tuple #[.int .i64 (ordD b (unit c s) b' (unit c' s')),.int .i64 0]) ∧ Below w.heap.size w w':=by
 obtain ⟨m,hm⟩ : ∃ m,m = max s s':=⟨_,rfl⟩
 rw [ord_units b b' c c' s s' m (by omega) (by omega) (by omega)]
 have HF:=Lib.hid (fun g W hg => formed_two b c s (Nat.lt_trans hc B34_lt) b' c' s' (Nat.lt_trans hc' B34_lt) g W hg)
 rw [h,h'] at HF
 simp only [ferr,Bool.and_true,if_true] at HF
 have HB:=Lib.hid (fun W => both_any b c s b' c' s' m hc hc' hs hs' hm W)
 have hX : c * 10 ^ (m - s) < 10 ^ 52:=scaled_lt hc (by omega)
 have hY : c' * 10 ^ (m - s') < 10 ^ 52:=scaled_lt hc' (by omega)
 generalize c * 10 ^ (m - s) = X at *
 generalize c' * 10 ^ (m - s') = Y at *
 have hX2 : X < 2 ^ 256:=Nat.lt_trans hX (by decide)
 have hY2 : Y < 2 ^ 256:=Nat.lt_trans hY (by decide)
 have HO:=Lib.hid (fun W => order_any X Y hX2 hY2 W)
 have HP:=Lib.hid (fun W => order_any Y X hY2 hX2 W)
 clear h h' hm hX hY hX2 hY2
 unfold ordD
 generalize cmpN X Y = c1 at *
 generalize cmpN Y X = c2 at *
 obtain ⟨sI,hsI⟩ : ∃ sI : Int,sI = (s : Int):=⟨_,rfl⟩
 obtain ⟨sJ,hsJ⟩ : ∃ sJ : Int,sJ = (s' : Int):=⟨_,rfl⟩
 rw [← hsI,← hsJ] at HF HB
 rw [← hsI,← hsJ]
 clear hsI hsJ hs hs'
 obtain ⟨s,rfl⟩ : ∃ s,s = sI:=⟨_,rfl⟩
 obtain ⟨s',rfl⟩ : ∃ s',s' = sJ:=⟨_,rfl⟩
 generalize wd X 0 = p0 at *
 generalize wd X 1 = p1 at *
 generalize wd X 2 = p2 at *
 generalize wd X 3 = p3 at *
 generalize wd Y 0 = q0 at *
 generalize wd Y 1 = q1 at *
 generalize wd Y 2 = q2 at *
 generalize wd Y 3 = q3 at *
 generalize wd c 0 = x0 at *
 generalize wd c 1 = x1 at *
 generalize wd c' 0 = y0 at *
 generalize wd c' 1 = y1 at *
 clear hc hc'
 cases b <;> cases b' <;> simp only [Bool.false_eq_true,if_true,if_false,reduceCtorEq]
 ·obtain ⟨b,hb⟩ : ∃ b,b = false:=⟨_,rfl⟩
  go_enter Tryz.func28,Tryz.ntmps28
  go_wp2_with fail
  (with_reducible refine (HF.out _ _ ?hg).mono ?_)
  case hg => ((repeat (first|(with_reducible assumption)|((with_reducible refine bkW ?_);(first|rfl|(simp only [wsA,wsS,wsD,wsN];done)))|(with_reducible first|refine bkA ?_ _|refine bkD ?_|refine bkN ?_ _)|((with_reducible refine bkF ?_ ?_ _);focus (simp only [];omega))|((with_reducible refine bkB (by assumption) ?_ ?_);focus (go_size;done))));done)
  rintro _ w1 ⟨rfl,hb1⟩;have hb1s:=hb1.size;(try simp only [wsA,wsS,wsD,wsN] at hb1s);obtain ⟨hb1c,hb1f⟩:=bcell hb1;(try have : w.heap.size < w1.heap.size:=by omega);(try have : w.heap.size + 1 < w1.heap.size:=by omega);(try have : w.heap.size + 1 + 1 < w1.heap.size:=by omega);(try have : w.heap.size + 1 + 1 + 1 < w1.heap.size:=by omega)
  have ka : Bk w1 (w.heap.size) 27 [.bool false,.int .u64 x1,.int .u64 x0,.int .i64 s]:=by exact bkk
  have ka_0:=ka.cell 0 rfl
  have ka_1:=ka.cell 1 rfl
  have ka_2:=ka.cell 2 rfl
  have ka_3:=ka.cell 3 rfl
  have ka_4:=ka.frozen 0
  have ka_5:=ka.frozen 1
  have ka_6:=ka.frozen 2
  have ka_7:=ka.frozen 3
  have kal:=ka.lt
  have kb : Bk w1 (w.heap.size + 1) 27 [.bool false,.int .u64 y1,.int .u64 y0,.int .i64 s']:=by exact bkk
  have kb_0:=kb.cell 0 rfl
  have kb_1:=kb.cell 1 rfl
  have kb_2:=kb.cell 2 rfl
  have kb_3:=kb.cell 3 rfl
  have kb_4:=kb.frozen 0
  have kb_5:=kb.frozen 1
  have kb_6:=kb.frozen 2
  have kb_7:=kb.frozen 3
  have kbl:=kb.lt
  clear hb1c hb1f
  go_wp2_with fail
  refine (HB.out _).mono ?_
  rintro _ w2 ⟨rfl,hb2⟩;have hb2s:=hb2.size;(try simp only [wsA,wsS,wsD,wsN] at hb2s);obtain ⟨hb2c,hb2f⟩:=bcell hb2;(try have : w.heap.size < w2.heap.size:=by omega);(try have : w.heap.size + 1 < w2.heap.size:=by omega);(try have : w.heap.size + 1 + 1 < w2.heap.size:=by omega);(try have : w.heap.size + 1 + 1 + 1 < w2.heap.size:=by omega)
  have ja : Bk w2 (w.heap.size) 27 [.bool false,.int .u64 x1,.int .u64 x0,.int .i64 s]:=by exact bkk
  have jb : Bk w2 (w.heap.size + 1) 27 [.bool false,.int .u64 y1,.int .u64 y0,.int .i64 s']:=by exact bkk
  clear hb2c hb2f ka_0 ka_1 ka_2 ka_3 ka_4 ka_5 ka_6 ka_7 kb_0 kb_1 kb_2 kb_3 kb_4 kb_5 kb_6 kb_7 ka kb
  have ja_0:=ja.cell 0 rfl
  have ja_1:=ja.cell 1 rfl
  have ja_2:=ja.cell 2 rfl
  have ja_3:=ja.cell 3 rfl
  have ja_4:=ja.frozen 0
  have ja_5:=ja.frozen 1
  have ja_6:=ja.frozen 2
  have ja_7:=ja.frozen 3
  have jb_0:=jb.cell 0 rfl
  have jb_1:=jb.cell 1 rfl
  have jb_2:=jb.cell 2 rfl
  have jb_3:=jb.cell 3 rfl
  have jb_4:=jb.frozen 0
  have jb_5:=jb.frozen 1
  have jb_6:=jb.frozen 2
  have jb_7:=jb.frozen 3
  have jal:=ja.lt
  have jbl:=jb.lt
  clear ja jb
  go_wp2_with fail
  refine (HO.out _).mono ?_
  rintro _ w3 ⟨rfl,hb3⟩;have hb3s:=hb3.size;(try simp only [wsA,wsS,wsD,wsN] at hb3s);obtain ⟨hb3c,hb3f⟩:=bcell hb3;(try have : w.heap.size < w3.heap.size:=by omega);(try have : w.heap.size + 1 < w3.heap.size:=by omega);(try have : w.heap.size + 1 + 1 < w3.heap.size:=by omega);(try have : w.heap.size + 1 + 1 + 1 < w3.heap.size:=by omega)
  go_wp2_with fail
  go_ret2
  exact ⟨rfl,by exact bel⟩
 ·
  go_enter Tryz.func28,Tryz.ntmps28
  go_wp2_with fail
  (with_reducible refine (HF.out _ _ ?hg).mono ?_)
  case hg => ((repeat (first|(with_reducible assumption)|((with_reducible refine bkW ?_);(first|rfl|(simp only [wsA,wsS,wsD,wsN];done)))|(with_reducible first|refine bkA ?_ _|refine bkD ?_|refine bkN ?_ _)|((with_reducible refine bkF ?_ ?_ _);focus (simp only [];omega))|((with_reducible refine bkB (by assumption) ?_ ?_);focus (go_size;done))));done)
  rintro _ w1 ⟨rfl,hb1⟩;have hb1s:=hb1.size;(try simp only [wsA,wsS,wsD,wsN] at hb1s);obtain ⟨hb1c,hb1f⟩:=bcell hb1;(try have : w.heap.size < w1.heap.size:=by omega);(try have : w.heap.size + 1 < w1.heap.size:=by omega);(try have : w.heap.size + 1 + 1 < w1.heap.size:=by omega);(try have : w.heap.size + 1 + 1 + 1 < w1.heap.size:=by omega)
  have ka : Bk w1 (w.heap.size) 27 [.bool false,.int .u64 x1,.int .u64 x0,.int .i64 s]:=by exact bkk
  have ka_0:=ka.cell 0 rfl
  have ka_1:=ka.cell 1 rfl
  have ka_2:=ka.cell 2 rfl
  have ka_3:=ka.cell 3 rfl
  have ka_4:=ka.frozen 0
  have ka_5:=ka.frozen 1
  have ka_6:=ka.frozen 2
  have ka_7:=ka.frozen 3
  have kal:=ka.lt
  have kb : Bk w1 (w.heap.size + 1) 27 [.bool true,.int .u64 y1,.int .u64 y0,.int .i64 s']:=by exact bkk
  have kb_0:=kb.cell 0 rfl
  have kb_1:=kb.cell 1 rfl
  have kb_2:=kb.cell 2 rfl
  have kb_3:=kb.cell 3 rfl
  have kb_4:=kb.frozen 0
  have kb_5:=kb.frozen 1
  have kb_6:=kb.frozen 2
  have kb_7:=kb.frozen 3
  have kbl:=kb.lt
  clear hb1c hb1f ka kb
  go_wp2_with fail
  go_ret2
  exact ⟨rfl,by exact bel⟩
 ·
  go_enter Tryz.func28,Tryz.ntmps28
  go_wp2_with fail
  (with_reducible refine (HF.out _ _ ?hg).mono ?_)
  case hg => ((repeat (first|(with_reducible assumption)|((with_reducible refine bkW ?_);(first|rfl|(simp only [wsA,wsS,wsD,wsN];done)))|(with_reducible first|refine bkA ?_ _|refine bkD ?_|refine bkN ?_ _)|((with_reducible refine bkF ?_ ?_ _);focus (simp only [];omega))|((with_reducible refine bkB (by assumption) ?_ ?_);focus (go_size;done))));done)
  rintro _ w1 ⟨rfl,hb1⟩;have hb1s:=hb1.size;(try simp only [wsA,wsS,wsD,wsN] at hb1s);obtain ⟨hb1c,hb1f⟩:=bcell hb1;(try have : w.heap.size < w1.heap.size:=by omega);(try have : w.heap.size + 1 < w1.heap.size:=by omega);(try have : w.heap.size + 1 + 1 < w1.heap.size:=by omega);(try have : w.heap.size + 1 + 1 + 1 < w1.heap.size:=by omega)
  have ka : Bk w1 (w.heap.size) 27 [.bool true,.int .u64 x1,.int .u64 x0,.int .i64 s]:=by exact bkk
  have ka_0:=ka.cell 0 rfl
  have ka_1:=ka.cell 1 rfl
  have ka_2:=ka.cell 2 rfl
  have ka_3:=ka.cell 3 rfl
  have ka_4:=ka.frozen 0
  have ka_5:=ka.frozen 1
  have ka_6:=ka.frozen 2
  have ka_7:=ka.frozen 3
  have kal:=ka.lt
  have kb : Bk w1 (w.heap.size + 1) 27 [.bool false,.int .u64 y1,.int .u64 y0,.int .i64 s']:=by exact bkk
  have kb_0:=kb.cell 0 rfl
  have kb_1:=kb.cell 1 rfl
  have kb_2:=kb.cell 2 rfl
  have kb_3:=kb.cell 3 rfl
  have kb_4:=kb.frozen 0
  have kb_5:=kb.frozen 1
  have kb_6:=kb.frozen 2
  have kb_7:=kb.frozen 3
  have kbl:=kb.lt
  clear hb1c hb1f ka kb
  go_wp2_with fail
  go_ret2
  exact ⟨rfl,by exact bel⟩
 ·obtain ⟨b,hb⟩ : ∃ b,b = true:=⟨_,rfl⟩
  go_enter Tryz.func28,Tryz.ntmps28
  go_wp2_with fail
  (with_reducible refine (HF.out _ _ ?hg).mono ?_)
  case hg => ((repeat (first|(with_reducible assumption)|((with_reducible refine bkW ?_);(first|rfl|(simp only [wsA,wsS,wsD,wsN];done)))|(with_reducible first|refine bkA ?_ _|refine bkD ?_|refine bkN ?_ _)|((with_reducible refine bkF ?_ ?_ _);focus (simp only [];omega))|((with_reducible refine bkB (by assumption) ?_ ?_);focus (go_size;done))));done)
  rintro _ w1 ⟨rfl,hb1⟩;have hb1s:=hb1.size;(try simp only [wsA,wsS,wsD,wsN] at hb1s);obtain ⟨hb1c,hb1f⟩:=bcell hb1;(try have : w.heap.size < w1.heap.size:=by omega);(try have : w.heap.size + 1 < w1.heap.size:=by omega);(try have : w.heap.size + 1 + 1 < w1.heap.size:=by omega);(try have : w.heap.size + 1 + 1 + 1 < w1.heap.size:=by omega)
  have ka : Bk w1 (w.heap.size) 27 [.bool true,.int .u64 x1,.int .u64 x0,.int .i64 s]:=by exact bkk
  have ka_0:=ka.cell 0 rfl
  have ka_1:=ka.cell 1 rfl
  have ka_2:=ka.cell 2 rfl
  have ka_3:=ka.cell 3 rfl
  have ka_4:=ka.frozen 0
  have ka_5:=ka.frozen 1
  have ka_6:=ka.frozen 2
  have ka_7:=ka.frozen 3
  have kal:=ka.lt
  have kb : Bk w1 (w.heap.size + 1) 27 [.bool true,.int .u64 y1,.int .u64 y0,.int .i64 s']:=by exact bkk
  have kb_0:=kb.cell 0 rfl
  have kb_1:=kb.cell 1 rfl
  have kb_2:=kb.cell 2 rfl
  have kb_3:=kb.cell 3 rfl
  have kb_4:=kb.frozen 0
  have kb_5:=kb.frozen 1
  have kb_6:=kb.frozen 2
  have kb_7:=kb.frozen 3
  have kbl:=kb.lt
  clear hb1c hb1f
  go_wp2_with fail
  refine (HB.out _).mono ?_
  rintro _ w2 ⟨rfl,hb2⟩;have hb2s:=hb2.size;(try simp only [wsA,wsS,wsD,wsN] at hb2s);obtain ⟨hb2c,hb2f⟩:=bcell hb2;(try have : w.heap.size < w2.heap.size:=by omega);(try have : w.heap.size + 1 < w2.heap.size:=by omega);(try have : w.heap.size + 1 + 1 < w2.heap.size:=by omega);(try have : w.heap.size + 1 + 1 + 1 < w2.heap.size:=by omega)
  have ja : Bk w2 (w.heap.size) 27 [.bool true,.int .u64 x1,.int .u64 x0,.int .i64 s]:=by exact bkk
  have jb : Bk w2 (w.heap.size + 1) 27 [.bool true,.int .u64 y1,.int .u64 y0,.int .i64 s']:=by exact bkk
  clear hb2c hb2f ka_0 ka_1 ka_2 ka_3 ka_4 ka_5 ka_6 ka_7 kb_0 kb_1 kb_2 kb_3 kb_4 kb_5 kb_6 kb_7 ka kb
  have ja_0:=ja.cell 0 rfl
  have ja_1:=ja.cell 1 rfl
  have ja_2:=ja.cell 2 rfl
  have ja_3:=ja.cell 3 rfl
  have ja_4:=ja.frozen 0
  have ja_5:=ja.frozen 1
  have ja_6:=ja.frozen 2
  have ja_7:=ja.frozen 3
  have jb_0:=jb.cell 0 rfl
  have jb_1:=jb.cell 1 rfl
  have jb_2:=jb.cell 2 rfl
  have jb_3:=jb.cell 3 rfl
  have jb_4:=jb.frozen 0
  have jb_5:=jb.frozen 1
  have jb_6:=jb.frozen 2
  have jb_7:=jb.frozen 3
  have jal:=ja.lt
  have jbl:=jb.lt
  clear ja jb
  go_wp2_with fail
  refine (HP.out _).mono ?_
  rintro _ w3 ⟨rfl,hb3⟩;have hb3s:=hb3.size;(try simp only [wsA,wsS,wsD,wsN] at hb3s);obtain ⟨hb3c,hb3f⟩:=bcell hb3;(try have : w.heap.size < w3.heap.size:=by omega);(try have : w.heap.size + 1 < w3.heap.size:=by omega);(try have : w.heap.size + 1 + 1 < w3.heap.size:=by omega);(try have : w.heap.size + 1 + 1 + 1 < w3.heap.size:=by omega)
  go_wp2_with fail
  go_ret2
  exact ⟨rfl,by exact bel⟩
end Go.Proofs.YtbnadlpkbbdgjaaGreatDoor.B



namespace Go.Proofs.YtbnadlpkbbdgjaaGreatDoor
open Go.RowKit

/-- a step farther from nought, or nearer to it, trying the scales below k: the size, and whether there is one -/
def upK (x : Nat) (down : Bool) : Nat → Nat × Bool
 | 0 => (0,false)
 | s + 1 => if down = true then (if x ≤ B34 * 10 ^ (18 - s) then (x - 10 ^ (18 - s),true) else upK x down s)
  else if x < B34 * 10 ^ (18 - s) ∧ (s = 0 → x + 10 ^ (18 - s) < B34 * 10 ^ 18) then (x + 10 ^ (18 - s),true) else upK x down s
theorem upK_down {x s : Nat} (h : x ≤ B34 * 10 ^ (18 - s)) : upK x true (s + 1) = (x - 10 ^ (18 - s),true):=by rw [upK,if_pos rfl,if_pos h]
theorem upK_down' {x s : Nat} (h : ¬ x ≤ B34 * 10 ^ (18 - s)) : upK x true (s + 1) = upK x true s:=by rw [upK,if_pos rfl,if_neg h]
theorem upK_up {x s : Nat} (h : x < B34 * 10 ^ (18 - s)) (h0 : s = 0 → x + 10 ^ (18 - s) < B34 * 10 ^ 18) : upK x false (s + 1) = (x + 10 ^ (18 - s),true):=by
 rw [upK,if_neg (by decide),if_pos ⟨h,h0⟩]
theorem upK_up' {x s : Nat} (h : ¬ (x < B34 * 10 ^ (18 - s) ∧ (s = 0 → x + 10 ^ (18 - s) < B34 * 10 ^ 18))) : upK x false (s + 1) = upK x false s:=by
 rw [upK,if_neg (by decide),if_neg h]
/-- the decimal that comes of it -/
def NbC (r : Nat × Bool) : Nat:=if r.2 = true then FitC r.1 (10 ^ 18) else 0
def NbS (r : Nat × Bool) : Nat:=if r.2 = true then FitS r.1 (10 ^ 18) else 0
def NbE (r : Nat × Bool) : Int:=if r.2 = true then FitE r.1 (10 ^ 18) else 3
theorem nb_yes (n : Nat) : NbC (n,true) = FitC n (10 ^ 18) ∧ NbS (n,true) = FitS n (10 ^ 18) ∧ NbE (n,true) = FitE n (10 ^ 18):=⟨if_pos rfl,if_pos rfl,if_pos rfl⟩
theorem nb_no (n : Nat) : NbC (n,false) = 0 ∧ NbS (n,false) = 0 ∧ NbE (n,false) = 3:=⟨if_neg Bool.false_ne_true,if_neg Bool.false_ne_true,if_neg Bool.false_ne_true⟩
def nb (c s : Nat) (down : Bool) : Nat × Bool:=upK (unit c s) down (K19 c)
/-- before a step nearer to nought there is room for it -/
theorem down_room {x s : Nat} (hx : 0 < x) (hs : s ≤ 18) (h : s = 18 ∨ B34 * 10 ^ (18 - (s + 1)) < x) : 10 ^ (18 - s) ≤ x:=by
 rcases h with h | h
 ·subst h;exact hx
 ·by_cases h18 : s = 18
  ·subst h18;exact hx
  ·have e : 10 ^ (18 - s) = 10 * 10 ^ (18 - (s + 1)):=by rw [← Nat.pow_succ'];congr 1;omega
   have h2 : 10 * 10 ^ (18 - (s + 1)) ≤ B34 * 10 ^ (18 - (s + 1)):=Nat.mul_le_mul_right _ (by unfold B34;decide)
   omega
theorem bound_units (s : Nat) : B34 * 10 ^ (18 - s) ≤ 10 ^ 52:=by
 have h1 : B34 * 10 ^ (18 - s) ≤ B34 * 10 ^ 18:=Nat.mul_le_mul_left _ (Nat.pow_le_pow_right (by decide) (by omega))
 have h3 : B34 * 10 ^ 18 = 10 ^ 52:=by unfold B34;decide
 rw [h3] at h1
 exact h1
theorem step_le (s : Nat) : 10 ^ (18 - s) ≤ 10 ^ 18:=Nat.pow_le_pow_right (by decide) (by omega)
end Go.Proofs.YtbnadlpkbbdgjaaGreatDoor



namespace Go.Proofs.YtbnadlpkbbdgjaaGreatDoor
open Go.RowKit

/-- the size in units of 10^-18 of what is fitted -/
def rval (r : Nat × Nat × Int) : Nat:=r.1 * 10 ^ (18 - r.2.1)
/-- without noughts behind the point it is the same size -/
theorem unit_strip (c s : Nat) (h : s ≤ 18) : unit (stripC c s) (stripS c s) = c * 10 ^ (18 - s):=by
 obtain ⟨e,hl⟩:=strip_val c s
 unfold unit
 have e2 : 10 ^ (18 - stripS c s) = 10 ^ (s - stripS c s) * 10 ^ (18 - s):=by rw [← Nat.pow_add];congr 1;omega
 rw [e2,← Nat.mul_assoc,e]
theorem unit_fit (n d : Nat) : unit (FitC n d) (FitS n d) = rval (fitK n d (K19 n)):=by
 obtain ⟨_,h2,_⟩:=fitK_lt n d (K19 n)
 have h19:=K19_eq n
 exact unit_strip _ _ (by omega)
end Go.Proofs.YtbnadlpkbbdgjaaGreatDoor



namespace Go.Proofs.YtbnadlpkbbdgjaaGreatDoor
open Go.RowKit

/-- the number in units, with its sign -/
def sval (b : Bool) (u : Nat) : Int:=if b = true then -(u : Int) else (u : Int)
def ordS (x y : Int) : Int:=if x = y then 0 else if x < y then -1 else 1
theorem ordD_sval {an bn : Bool} {x y : Nat} (ha : x = 0 → an = false) (hb : y = 0 → bn = false) : ordD an x bn y = ordS (sval an x) (sval bn y):=by
 cases an <;> cases bn <;> simp [ordD,ordS,sval,cmpN] at * <;> (repeat' split) <;> omega
theorem unit_nil {c s : Nat} : unit c s = 0 ↔ c = 0:=by
 unfold unit
 rw [Nat.mul_eq_zero]
 have : 10 ^ (18 - s) ≠ 0:=Nat.ne_of_gt (Nat.pow_pos (by decide))
 constructor
 ·rintro (h | h)
  ·exact h
  ·exact absurd h this
 ·exact .inl
theorem sval_sg (b : Bool) (c s : Nat) : sval (sg b c) (unit c s) = sval b (unit c s):=by
 by_cases h : c = 0
 ·rw [h,sg_zero]
  have e : unit 0 s = 0:=unit_nil.2 rfl
  rw [e];unfold sval;cases b <;> rfl
 ·rw [sg_pos h]
theorem ordS_swap (x y : Int) : ordS y x = -ordS x y:=by
 unfold ordS;(repeat' split) <;> omega
theorem ordS_zero (x y : Int) : ordS x y = 0 ↔ x = y:=by
 unfold ordS;(repeat' split) <;> omega
/-- one number, one decimal in form -/
theorem unit_inj {c s c' s' : Nat} (hs : s ≤ 18) (hs' : s' ≤ 18) (h : unit c s = unit c' s') (f1 : c = 0 → s = 0) (f2 : s = 0 ∨ c % 10 ≠ 0) (f3 : c' = 0 → s' = 0) (f4 : s' = 0 ∨ c' % 10 ≠ 0) : c = c' ∧ s = s':=by
 have key : ∀ {c s c' s' : Nat},s < s' → s' ≤ 18 → unit c s = unit c' s' → (s' = 0 ∨ c' % 10 ≠ 0) → False:=by
  intro c s c' s' hlt h18 h f4
  unfold unit at h
  rw [show 18 - s = s' - s - 1 + 1 + (18 - s') by omega,Nat.pow_add,← Nat.mul_assoc] at h
  have e:=Nat.eq_of_mul_eq_mul_right (Nat.pow_pos (by decide)) h
  rw [Nat.pow_succ,← Nat.mul_assoc] at e
  have : c' % 10 = 0:=by rw [← e];exact Nat.mul_mod_left _ _
  omega
 rcases Nat.lt_trichotomy s s' with hl | he | hg
 ·exact (key hl hs' h f4).elim
 ·subst he
  exact ⟨Nat.eq_of_mul_eq_mul_right (Nat.pow_pos (by decide)) h,rfl⟩
 ·exact (key hg hs h.symm f2).elim
theorem sval_inj {b b' : Bool} {u v : Nat} (h : sval b u = sval b' v) (h1 : u = 0 → b = false) (h2 : v = 0 → b' = false) : b = b' ∧ u = v:=by
 cases b <;> cases b' <;> simp [sval] at * <;> omega
/-- what is fitted, in units -/
def fitU (n : Nat) : Nat:=unit (FitC n (10 ^ 18)) (FitS n (10 ^ 18))
end Go.Proofs.YtbnadlpkbbdgjaaGreatDoor



namespace Go.Proofs.YtbnadlpkbbdgjaaGreatDoor
open Go.RowKit

/-- a size that a decimal has -/
def Rep (X : Nat) : Prop:=∃ k s,s ≤ 18 ∧ k < B34 ∧ X = k * 10 ^ (18 - s)
theorem rep_unit {c s : Nat} (hc : c < B34) (hs : s ≤ 18) : Rep (unit c s):=⟨c,s,hs,hc,rfl⟩
theorem fitK_exact {k s0 : Nat} (hs : s0 ≤ 18) (hk : k < B34) (j : Nat) (hj : s0 < j) (hj19 : j ≤ 19) :
  (fitK (k * 10 ^ (18 - s0)) (10 ^ 18) j).2.2 = 0 ∧ rval (fitK (k * 10 ^ (18 - s0)) (10 ^ 18) j) = k * 10 ^ (18 - s0):=by
 induction j with
 | zero => omega
 | succ t ih =>
  have e : k * 10 ^ (18 - s0) * 10 ^ t = k * 10 ^ (t - s0) * 10 ^ 18:=by
   rw [Nat.mul_assoc,Nat.mul_assoc,← Nat.pow_add,← Nat.pow_add];congr 2;omega
  have hn : near (k * 10 ^ (18 - s0) * 10 ^ t) (10 ^ 18) = k * 10 ^ (t - s0):=by
   rw [e];exact near_exact _ _ (Nat.pow_pos (by decide))
  by_cases h : k * 10 ^ (t - s0) < B34
  ·rw [fitK_yes (by rw [hn];exact h),hn]
   refine ⟨rfl, ?_⟩
   show k * 10 ^ (t - s0) * 10 ^ (18 - t) = _
   rw [Nat.mul_assoc,← Nat.pow_add];congr 2;omega
  ·have ht : s0 < t:=by
    rcases Nat.lt_or_ge s0 t with h1 | h1
    ·exact h1
    ·exfalso;apply h;rw [show t - s0 = 0 by omega,Nat.pow_zero,Nat.mul_one];exact hk
   rw [fitK_no (by rw [hn];exact h)]
   exact ih ht (by omega)
theorem fit_rep {X : Nat} (h : Rep X) : FitE X (10 ^ 18) = 0 ∧ fitU X = X:=by
 obtain ⟨k,s,hs,hk,rfl⟩:=h
 obtain ⟨h1,h2⟩:=fitK_exact hs hk (K19 (k * 10 ^ (18 - s))) (by rw [K19_eq];omega) (by rw [K19_eq];exact Nat.le_refl _)
 refine ⟨h1, ?_⟩
 unfold fitU
 rw [unit_fit]
 exact h2
theorem pow_split {s : Nat} (h : s < 18) : 10 ^ (18 - s) = 10 * 10 ^ (18 - (s + 1)):=by rw [← Nat.pow_succ'];congr 1;omega
theorem B34_ten : B34 = 10 ^ 33 * 10:=by unfold B34;rw [← Nat.pow_succ]
theorem bound_split {s : Nat} (h : s < 18) : B34 * 10 ^ (18 - (s + 1)) = 10 ^ 33 * 10 ^ (18 - s):=by
 rw [pow_split h,B34_ten,Nat.mul_assoc]
theorem rep_dvd {X s : Nat} (h : Rep X) (hr : s = 18 ∨ B34 * 10 ^ (18 - (s + 1)) ≤ X) : 10 ^ (18 - s) ∣ X:=by
 obtain ⟨k,t,ht,hk,rfl⟩:=h
 rcases hr with rfl | hr
 ·exact ⟨_,by rw [show 18 - 18 = 0 by omega,Nat.pow_zero,Nat.one_mul]⟩
 ·rcases Nat.lt_or_ge s t with hl | hl
  ·exfalso
   have h1 : 10 ^ (18 - t) ≤ 10 ^ (18 - (s + 1)):=Nat.pow_le_pow_right (by decide) (by omega)
   have h2:=Nat.mul_lt_mul_of_lt_of_le hk h1 (Nat.pow_pos (by decide))
   omega
  ·exact Nat.dvd_trans (Nat.pow_dvd_pow 10 (by omega)) (Nat.dvd_mul_left _ _)
theorem step_pos (s : Nat) : 0 < 10 ^ (18 - s):=Nat.pow_pos (by decide)
theorem mul_step_le {X Y d : Nat} (hx : d ∣ X) (hy : d ∣ Y) (h : X < Y) : X + d ≤ Y:=by
 obtain ⟨a,rfl⟩:=hx
 obtain ⟨b,rfl⟩:=hy
 have hab : a + 1 ≤ b:=Nat.lt_of_mul_lt_mul_left h
 have:=Nat.mul_le_mul_left d hab
 rwa [Nat.mul_add,Nat.mul_one] at this
theorem rep_next {X s : Nat} (hs : s ≤ 18) (hd : 10 ^ (18 - s) ∣ X) (hl : X < B34 * 10 ^ (18 - s)) (h0 : s = 0 → X + 10 ^ (18 - s) < B34 * 10 ^ 18) : Rep (X + 10 ^ (18 - s)):=by
 obtain ⟨q,rfl⟩:=hd
 have hq : q < B34:=by
  rw [Nat.mul_comm] at hl
  exact Nat.lt_of_mul_lt_mul_right hl
 have e : 10 ^ (18 - s) * q + 10 ^ (18 - s) = (q + 1) * 10 ^ (18 - s):=by rw [Nat.add_mul,Nat.one_mul,Nat.mul_comm]
 rw [e] at h0 ⊢
 rcases Nat.lt_or_ge (q + 1) B34 with h | h
 ·exact ⟨q + 1,s,hs,h,rfl⟩
 ·have hB : q + 1 = B34:=by omega
  rw [hB] at h0 ⊢
  have hs0 : s ≠ 0:=by rintro rfl;exact absurd (h0 rfl) (Nat.lt_irrefl _)
  refine ⟨10 ^ 33,s - 1,by omega, ?_, ?_⟩
  ·unfold B34;exact Nat.pow_lt_pow_right (by decide) (by decide)
  ·have:=bound_split (s:=s - 1) (by omega)
   rw [show s - 1 + 1 = s by omega] at this
   exact this
theorem rep_prev {X s : Nat} (hs : s ≤ 18) (hd : 10 ^ (18 - s) ∣ X) (hl : X ≤ B34 * 10 ^ (18 - s)) (h0 : 0 < X) : Rep (X - 10 ^ (18 - s)) ∧ 10 ^ (18 - s) ≤ X:=by
 obtain ⟨q,rfl⟩:=hd
 have hq : q ≤ B34:=by
  rw [Nat.mul_comm] at hl
  exact Nat.le_of_mul_le_mul_right hl (step_pos s)
 have hq0 : q ≠ 0:=by rintro rfl;exact absurd h0 (by rw [Nat.mul_zero];exact Nat.lt_irrefl _)
 obtain ⟨t,rfl⟩ : ∃ t,q = t + 1:=⟨q - 1,by omega⟩
 have e : 10 ^ (18 - s) * (t + 1) = t * 10 ^ (18 - s) + 10 ^ (18 - s):=by rw [Nat.mul_add,Nat.mul_one,Nat.mul_comm]
 rw [e]
 exact ⟨⟨t,s,hs,by omega,Nat.add_sub_cancel _ _⟩,Nat.le_add_left _ _⟩
theorem bound_mono {s t : Nat} (h : s ≤ t) : B34 * 10 ^ (18 - t) ≤ B34 * 10 ^ (18 - s):=Nat.mul_le_mul_left _ (Nat.pow_le_pow_right (by decide) (by omega))
theorem upK_up_spec {X : Nat} (j : Nat) (hj : j ≤ 19) (hr : j = 19 ∨ B34 * 10 ^ (18 - j) ≤ X) :
  (∃ s,s ≤ 18 ∧ upK X false j = (X + 10 ^ (18 - s),true) ∧ X < B34 * 10 ^ (18 - s) ∧ (s = 18 ∨ B34 * 10 ^ (18 - (s + 1)) ≤ X) ∧ (s = 0 → X + 10 ^ (18 - s) < B34 * 10 ^ 18)) ∨
  (upK X false j = (0,false) ∧ B34 * 10 ^ 18 ≤ X + 10 ^ 18):=by
 induction j with
 | zero =>
  right
  rcases hr with h | h
  ·omega
  ·exact ⟨rfl,Nat.le_trans h (Nat.le_add_right _ _)⟩
 | succ s ih =>
  by_cases h : X < B34 * 10 ^ (18 - s) ∧ (s = 0 → X + 10 ^ (18 - s) < B34 * 10 ^ 18)
  ·left
   refine ⟨s,by omega,upK_up h.1 h.2,h.1, ?_,h.2⟩
   rcases hr with hr | hr
   ·left;omega
   ·right;exact hr
  ·rw [upK_up' h]
   by_cases h1 : X < B34 * 10 ^ (18 - s)
   ·right
    have h2 : ¬ (s = 0 → X + 10 ^ (18 - s) < B34 * 10 ^ 18):=fun h2 => h ⟨h1,h2⟩
    by_cases hs : s = 0
    ·subst hs
     have h3 : ¬ X + 10 ^ (18 - 0) < B34 * 10 ^ 18:=fun h3 => h2 fun _ => h3
     exact ⟨rfl,Nat.le_of_not_lt h3⟩
    ·exact absurd (fun h => absurd h hs) h2
   ·exact ih (by omega) (.inr (Nat.le_of_not_lt h1))
theorem upK_down_spec {X : Nat} (hX : X ≤ B34 * 10 ^ 18) (j : Nat) (hj : j ≤ 19) (hr : j = 19 ∨ B34 * 10 ^ (18 - j) < X) :
  ∃ s,s ≤ 18 ∧ upK X true j = (X - 10 ^ (18 - s),true) ∧ X ≤ B34 * 10 ^ (18 - s) ∧ (s = 18 ∨ B34 * 10 ^ (18 - (s + 1)) < X):=by
 induction j with
 | zero =>
  rcases hr with h | h
  ·omega
  ·exact absurd hX (Nat.not_le_of_lt h)
 | succ s ih =>
  by_cases h : X ≤ B34 * 10 ^ (18 - s)
  ·refine ⟨s,by omega,upK_down h,h, ?_⟩
   rcases hr with hr | hr
   ·left;omega
   ·right;exact hr
  ·rw [upK_down' h]
   exact ih (by omega) (.inr (Nat.lt_of_not_le h))
theorem upK_down_at {X s : Nat} (hs : s ≤ 18) (h1 : X ≤ B34 * 10 ^ (18 - s)) (h2 : s = 18 ∨ B34 * 10 ^ (18 - (s + 1)) < X) (j : Nat) (hj : j ≤ 19) (hsj : s < j) : upK X true j = (X - 10 ^ (18 - s),true):=by
 induction j with
 | zero => omega
 | succ t ih =>
  by_cases ht : t = s
  ·subst ht;exact upK_down h1
  ·have hlt : s < t:=by omega
   rw [upK_down' (by
    rcases h2 with h2 | h2
    ·omega
    ·have:=bound_mono (show s + 1 ≤ t by omega)
     omega)]
   exact ih (by omega) hlt
theorem upK_up_at {X s : Nat} (hs : s ≤ 18) (h1 : X < B34 * 10 ^ (18 - s)) (h2 : s = 18 ∨ B34 * 10 ^ (18 - (s + 1)) ≤ X) (h3 : s = 0 → X + 10 ^ (18 - s) < B34 * 10 ^ 18) (j : Nat) (hj : j ≤ 19) (hsj : s < j) : upK X false j = (X + 10 ^ (18 - s),true):=by
 induction j with
 | zero => omega
 | succ t ih =>
  by_cases ht : t = s
  ·subst ht;exact upK_up h1 h3
  ·have hlt : s < t:=by omega
   rw [upK_up' (by
    rintro ⟨h4,_⟩
    rcases h2 with h2 | h2
    ·omega
    ·have:=bound_mono (show s + 1 ≤ t by omega)
     omega)]
   exact ih (by omega) hlt
theorem rep_lt {X : Nat} (h : Rep X) : X < B34 * 10 ^ 18:=by
 obtain ⟨k,t,ht,hk,rfl⟩:=h
 exact Nat.mul_lt_mul_of_lt_of_le hk (Nat.pow_le_pow_right (by decide) (by omega)) (Nat.pow_pos (by decide))
/-- the least size above -/
theorem above {X : Nat} (h : Rep X) : (∃ Y,upK X false 19 = (Y,true) ∧ X < Y ∧ Rep Y ∧ upK Y true 19 = (X,true) ∧ ∀ Z,Rep Z → X < Z → Y ≤ Z) ∨ (upK X false 19 = (0,false) ∧ 0 < X):=by
 rcases upK_up_spec (X:=X) 19 (Nat.le_refl _) (.inl rfl) with ⟨s,hs,e,h1,h2,h3⟩ | ⟨e,h1⟩
 ·left
  have hd:=rep_dvd h h2
  have hp:=step_pos s
  refine ⟨_,e,by omega,rep_next hs hd h1 h3, ?_, ?_⟩
  ·have hb:=mul_step_le hd (Nat.dvd_mul_left _ _) h1
   have:=upK_down_at (X:=X + 10 ^ (18 - s)) hs hb (by
    rcases h2 with h2 | h2
    ·exact .inl h2
    ·right;omega) 19 (Nat.le_refl _) (by omega)
   rw [this,Nat.add_sub_cancel]
  ·intro Z hZ hlt
   exact mul_step_le hd (rep_dvd hZ (by
    rcases h2 with h2 | h2
    ·exact .inl h2
    ·right;omega)) hlt
 ·right
  refine ⟨e, ?_⟩
  have h5 : 1 < B34:=by unfold B34;exact Nat.one_lt_pow (by decide) (by decide)
  omega
/-- the greatest size below -/
theorem below_ {X : Nat} (h : Rep X) (h0 : 0 < X) : ∃ Y,upK X true 19 = (Y,true) ∧ Y < X ∧ Rep Y ∧ upK Y false 19 = (X,true) ∧ ∀ Z,Rep Z → Z < X → Z ≤ Y:=by
 obtain ⟨s,hs,e,h1,h2⟩:=upK_down_spec (X:=X) (Nat.le_of_lt (rep_lt h)) 19 (Nat.le_refl _) (.inl rfl)
 have h2' : s = 18 ∨ B34 * 10 ^ (18 - (s + 1)) ≤ X:=by
  rcases h2 with h2 | h2
  ·exact .inl h2
  ·right;omega
 have hd:=rep_dvd h h2'
 have hp:=step_pos s
 obtain ⟨hr,hle⟩:=rep_prev hs hd h1 h0
 have h4 : s = 18 ∨ B34 * 10 ^ (18 - (s + 1)) ≤ X - 10 ^ (18 - s):=by
  by_cases h18 : s = 18
  ·exact .inl h18
  ·rcases h2 with h2 | h2
   ·exact .inl h2
   ·right
    have:=mul_step_le (by rw [bound_split (by omega)];exact Nat.dvd_mul_left _ _) hd h2
    omega
 refine ⟨_,e,by omega,hr, ?_, ?_⟩
 ·have:=upK_up_at (X:=X - 10 ^ (18 - s)) hs (by omega) h4 (fun hs0 => by
   have:=rep_lt h
   omega) 19 (Nat.le_refl _) (by omega)
  rw [this,Nat.sub_add_cancel hle]
 ·intro Z hZ hlt
  by_cases hz : s = 18 ∨ B34 * 10 ^ (18 - (s + 1)) ≤ Z
  ·have:=mul_step_le (rep_dvd hZ hz) hd hlt
   omega
  ·rcases h4 with h4 | h4
   ·exact absurd (.inl h4) hz
   ·have : ¬ B34 * 10 ^ (18 - (s + 1)) ≤ Z:=fun h => hz (.inr h)
    omega
theorem ord_dec {b b' : Bool} {c s c' s' : Nat} (h1 : c = 0 → b = false) (h2 : c' = 0 → b' = false) : ordD b (unit c s) b' (unit c' s') = ordS (sval b (unit c s)) (sval b' (unit c' s')) :=
 ordD_sval (fun h => h1 (unit_nil.1 h)) (fun h => h2 (unit_nil.1 h))
end Go.Proofs.YtbnadlpkbbdgjaaGreatDoor

