/- What this law reaches beyond the common contracts, part 2. -/
import Derived.Deep.RegionHeld3
import Derived.RegionTactic
import Derived.IntWalk
import Derived.BigQuiet
import Derived.ProofKit
import Derived.OpenShut
import Derived.ShutString
import Derived.ChangeOld
import Derived.Below
import Derived.Lib.SmallJoins
import Derived.Deep.Matrix
import Derived.ChangeArms
import Derived.Lib.LaidIn
import Derived.Lib.LaidU8T
import Derived.Deep.AppendLies
import Derived.Test.YtkjecoanlppeaaaGreatDoorM4
import Derived.Test.YtkjecoanlppeaaaGreatDoorXDo1
set_option linter.unusedSimpArgs false
set_option linter.unusedVariables false


namespace Go.Proofs.YtkjecoanlppeaaaGreatDoor
open Go.RowKit

set_option maxHeartbeats 1000000 in
theorem rchar_any (r : Nat) (w : World) : Calls Tryz.prog 156 #[.int .i64 r] w fun e w'=>e = .returned (.bool (chr r)) ∧ w = w':=by
 obtain ⟨z,hz⟩ : ∃ z,z = chr r:=⟨_,rfl⟩
 have hc : z = true ↔ chrP r:=by rw [hz];exact decide_eq_true_iff
 rw [← hz]
 have HC:=Far.mk hc
 clear hz hc
 go_enter Tryz.func156,Tryz.ntmps156
 go_wp2
 all_goals go_ret
 all_goals refine ⟨ret_bool ?_,rfl⟩
 all_goals rw [Bool.eq_iff_iff,HC.out]
 all_goals clear HC
 all_goals simp [chrP]
 all_goals (first | done | omega | (simp_all;done) | (simp_all;omega))
set_option maxRecDepth 100000 in
theorem and192 : ∀ X : Fin 256,bits .and .u8 ((X.val : Nat) : Int) 192 = ((X.val / 64 * 64 : Nat) : Int):=by decide
set_option maxRecDepth 100000 in
theorem and63 : ∀ X : Fin 256,bits .and .u8 ((X.val : Nat) : Int) 63 = ((X.val % 64 : Nat) : Int):=by decide
def tailL (l : List UInt8) (p : Nat) : Nat × Bool:=if p < l.length ∧ (l.getD p 0).toNat / 64 = 2 then ((l.getD p 0).toNat % 64,true) else (0,false)
set_option maxHeartbeats 1000000 in
theorem tail_any (l : List UInt8) (hl : l.length ≤ 9223372036854775000) (p : Nat) (hp : p ≤ l.length + 10) (w : World) :
  Calls Tryz.prog 166 #[.string ⟨l.toArray⟩,.int .i64 p] w fun e w'=>e = .returned (.tuple #[.int .i64 (tailL l p).1,.bool (tailL l p).2]) ∧ w = w':=by
 by_cases hlt : p < l.length
 ·have hs : p < (⟨l.toArray⟩ : ByteArray).size:=by show p < l.toArray.size;simpa using hlt
  have hc : (⟨l.toArray⟩ : ByteArray)[p] = l.getD p 0:=by
   rw [List.getD_eq_getElem?_getD,List.getElem?_eq_getElem hlt];rfl
  have hu:=UInt8.toNat_lt (l.getD p 0)
  have hg : l[p] = l.getD p 0:=by rw [List.getD_eq_getElem?_getD,List.getElem?_eq_getElem hlt];rfl
  obtain ⟨c,hcc⟩ : ∃ c,c = (l.getD p 0).toNat:=⟨_,rfl⟩
  have b1:=and192 ⟨c,by omega⟩
  have b2:=and63 ⟨c,by omega⟩
  dsimp only at b1 b2
  by_cases ht : c / 64 = 2
  ·have e : tailL l p = (c % 64,true):=by unfold tailL;rw [← hcc,if_pos ⟨hlt,ht⟩]
   rw [e]
   rw [ht] at b1
   have b1a : bits .and .u8 (l[p].toNat : Int) 192 = 128:=by rw [hg,← hcc];exact b1
   have b1b : bits .and .u8 ((⟨l.toArray⟩ : ByteArray)[p].toNat : Int) 192 = 128:=by rw [hc,← hcc];exact b1
   have b2a : bits .and .u8 (l[p].toNat : Int) 63 = ((c % 64 : Nat) : Int):=by rw [hg,← hcc];exact b2
   have b2b : bits .and .u8 ((⟨l.toArray⟩ : ByteArray)[p].toNat : Int) 63 = ((c % 64 : Nat) : Int):=by rw [hc,← hcc];exact b2
   have hlp : ¬ l.length ≤ p:=by omega
   obtain ⟨d,hd⟩ : ∃ d,d = c % 64:=⟨_,rfl⟩
   rw [← hd] at b2a b2b ⊢
   have hd2 : d ≤ 63:=by omega
   clear b1 b2 hc hg hcc e ht hd hu
   go_enter Tryz.func166,Tryz.ntmps166
   go_wp2_with fail
   go_ret2
   exact ⟨rfl,rfl⟩
  ·have e : tailL l p = (0,false):=by unfold tailL;rw [← hcc,if_neg (fun h=>ht h.2)]
   rw [e]
   obtain ⟨q,hq⟩ : ∃ q : Int,q = ((c / 64 * 64 : Nat) : Int):=⟨_,rfl⟩
   have b1a : bits .and .u8 (l[p].toNat : Int) 192 = q:=by rw [hg,← hcc,hq];exact b1
   have b1b : bits .and .u8 ((⟨l.toArray⟩ : ByteArray)[p].toNat : Int) 192 = q:=by rw [hc,← hcc,hq];exact b1
   have hq2 : (q != 128) = true:=by simp;omega
   have hlp : ¬ l.length ≤ p:=by omega
   clear b1 b2 hc hg hcc e ht hu hq
   go_enter Tryz.func166,Tryz.ntmps166
   go_wp2_with fail
   go_ret2
   exact ⟨rfl,rfl⟩
 ·have e : tailL l p = (0,false):=by unfold tailL;rw [if_neg (fun h=>hlt h.1)]
  rw [e]
  have hge : (l.length : Int) ≤ (p : Int):=by omega
  go_enter Tryz.func166,Tryz.ntmps166
  go_wp2_with fail
  go_ret2
  exact ⟨rfl,rfl⟩
set_option maxRecDepth 100000 in
theorem and31 : ∀ X : Fin 256,bits .and .i64 ((X.val : Nat) : Int) 31 = ((X.val % 32 : Nat) : Int):=by decide
set_option maxRecDepth 100000 in
theorem and15 : ∀ X : Fin 256,bits .and .i64 ((X.val : Nat) : Int) 15 = ((X.val % 16 : Nat) : Int):=by decide
set_option maxRecDepth 100000 in
theorem and7 : ∀ X : Fin 256,bits .and .i64 ((X.val : Nat) : Int) 7 = ((X.val % 8 : Nat) : Int):=by decide
def oneA (l : List UInt8) (i : Nat) : Nat × Nat × Bool:=oneN (l.length - i) (l.getD i 0).toNat (l.getD (i + 1) 0).toNat (l.getD (i + 2) 0).toNat (l.getD (i + 3) 0).toNat
def okT (l : List UInt8) (i j : Nat) : Prop:=i + j < l.length ∧ (l.getD (i + j) 0).toNat / 64 = 2
def accF (c : Nat) (l : List UInt8) (i : Nat) : Nat → Nat
 | 0=>c
 | j + 1=>accF c l i j * 64 + (l.getD (i + (j + 1)) 0).toNat % 64
theorem yes2 {l : List UInt8} {i : Nat} (hb : 192 ≤ (l.getD i 0).toNat ∧ (l.getD i 0).toNat < 224) (h : ∀ j,1 ≤ j → j < 2 → okT l i j) : oneA l i = (accF ((l.getD i 0).toNat % 32) l i (2 - 1),2,decide (128 ≤ accF ((l.getD i 0).toNat % 32) l i (2 - 1))):=by
 have h1:=h 1 (by omega) (by omega)
 unfold okT at h1
 unfold oneA oneN
 rw [if_neg (by omega),if_pos hb,if_pos ⟨by omega,h1.2⟩];rfl
theorem yes3 {l : List UInt8} {i : Nat} (hb : 224 ≤ (l.getD i 0).toNat ∧ (l.getD i 0).toNat < 240) (h : ∀ j,1 ≤ j → j < 3 → okT l i j) : oneA l i = (accF ((l.getD i 0).toNat % 16) l i (3 - 1),3,decide (2048 ≤ accF ((l.getD i 0).toNat % 16) l i (3 - 1))):=by
 have h1:=h 1 (by omega) (by omega)
 have h2:=h 2 (by omega) (by omega)
 unfold okT at h1 h2
 unfold oneA oneN
 rw [if_neg (by omega),if_neg (by omega),if_pos hb,if_pos ⟨by omega,h1.2⟩,if_pos ⟨by omega,h2.2⟩];rfl
theorem yes4 {l : List UInt8} {i : Nat} (hb : 240 ≤ (l.getD i 0).toNat ∧ (l.getD i 0).toNat < 248) (h : ∀ j,1 ≤ j → j < 4 → okT l i j) : oneA l i = (accF ((l.getD i 0).toNat % 8) l i (4 - 1),4,decide (65536 ≤ accF ((l.getD i 0).toNat % 8) l i (4 - 1))):=by
 have h1:=h 1 (by omega) (by omega)
 have h2:=h 2 (by omega) (by omega)
 have h3:=h 3 (by omega) (by omega)
 unfold okT at h1 h2 h3
 unfold oneA oneN
 rw [if_neg (by omega),if_neg (by omega),if_neg (by omega),if_pos hb,if_pos ⟨by omega,h1.2⟩,if_pos ⟨by omega,h2.2⟩,if_pos ⟨by omega,h3.2⟩];rfl
theorem no2 {l : List UInt8} {i j : Nat} (hb : 192 ≤ (l.getD i 0).toNat ∧ (l.getD i 0).toNat < 224) (a : 1 ≤ j) (b : j < 2) (h : ¬ okT l i j) : oneA l i = (0,0,false):=by
 obtain rfl : j = 1:=by omega
 unfold okT at h
 unfold oneA oneN
 rw [if_neg (by omega),if_pos hb,if_neg (fun hh=>h ⟨by omega,hh.2⟩)]
theorem no3 {l : List UInt8} {i j : Nat} (hb : 224 ≤ (l.getD i 0).toNat ∧ (l.getD i 0).toNat < 240) (a : 1 ≤ j) (b : j < 3) (h : ¬ okT l i j) : oneA l i = (0,0,false):=by
 unfold okT at h
 unfold oneA oneN
 rw [if_neg (by omega),if_neg (by omega),if_pos hb]
 have hj : j = 1 ∨ j = 2:=by omega
 rcases hj with rfl | rfl
 ·rw [if_neg (fun hh=>h ⟨by omega,hh.2⟩)]
 ·rw [if_neg (c:=2 < l.length - i ∧ _) (fun hh=>h ⟨by omega,hh.2⟩)]
  split <;> rfl
theorem no4 {l : List UInt8} {i j : Nat} (hb : 240 ≤ (l.getD i 0).toNat ∧ (l.getD i 0).toNat < 248) (a : 1 ≤ j) (b : j < 4) (h : ¬ okT l i j) : oneA l i = (0,0,false):=by
 unfold okT at h
 unfold oneA oneN
 rw [if_neg (by omega),if_neg (by omega),if_neg (by omega),if_pos hb]
 have hj : j = 1 ∨ j = 2 ∨ j = 3:=by omega
 rcases hj with rfl | rfl | rfl
 ·rw [if_neg (fun hh=>h ⟨by omega,hh.2⟩)]
 ·rw [if_neg (c:=2 < l.length - i ∧ _) (fun hh=>h ⟨by omega,hh.2⟩)]
  split <;> rfl
 ·rw [if_neg (c:=3 < l.length - i ∧ _) (fun hh=>h ⟨by omega,hh.2⟩)]
  split
  ·split <;> rfl
  ·rfl
set_option maxRecDepth 100000 in
set_option maxHeartbeats 2000000 in
theorem chone_any (l : List UInt8) (hl : l.length ≤ 9223372036854770000) (i : Nat) (hi : i < l.length) (w : World) :
  Calls Tryz.prog 155 #[.string ⟨l.toArray⟩,.int .i64 i] w fun e w'=>e = .returned (.tuple #[.int .i64 (oneA l i).1,.int .i64 (oneA l i).2.1,.bool (oneA l i).2.2]) ∧ w = w':=by
 have hs : i < (⟨l.toArray⟩ : ByteArray).size:=by show i < l.toArray.size;simpa using hi
 have hc : (⟨l.toArray⟩ : ByteArray)[i] = l.getD i 0:=by
  rw [List.getD_eq_getElem?_getD,List.getElem?_eq_getElem hi];rfl
 have hg : l[i] = l.getD i 0:=by rw [List.getD_eq_getElem?_getD,List.getElem?_eq_getElem hi];rfl
 have hu:=UInt8.toNat_lt (l.getD i 0)
 have hcase : ((l.getD i 0).toNat ≤ 127) ∨ (128 ≤ (l.getD i 0).toNat ∧ (l.getD i 0).toNat ≤ 191) ∨ (192 ≤ (l.getD i 0).toNat ∧ (l.getD i 0).toNat ≤ 223) ∨ (224 ≤ (l.getD i 0).toNat ∧ (l.getD i 0).toNat ≤ 239) ∨ (240 ≤ (l.getD i 0).toNat ∧ (l.getD i 0).toNat ≤ 247) ∨ (248 ≤ (l.getD i 0).toNat):=by omega
 rcases hcase with hcase | hcase | hcase | hcase | hcase | hcase
 ·have e : oneA l i = ((l.getD i 0).toNat,1,true):=by unfold oneA oneN;rw [if_pos (by omega)]
  rw [e]
  have x1 : (0 : Int) ≤ ((⟨l.toArray⟩ : ByteArray)[i].toNat : Int):=by rw [hc];omega
  have x2 : ((⟨l.toArray⟩ : ByteArray)[i].toNat : Int) ≤ (127 : Int):=by rw [hc];omega
  have x3 : (0 : Int) ≤ (l[i].toNat : Int):=by rw [hg];omega
  have x4 : (l[i].toNat : Int) ≤ (127 : Int):=by rw [hg];omega
  have HC:=Lib.hid hc
  clear hc hg hcase e
  go_enter Tryz.func155,Tryz.ntmps155
  go_wp2_with fail
  go_ret3
  exact ⟨by rw [← HC.out];rfl,rfl⟩
 ·have e : oneA l i = (0,0,false):=by unfold oneA oneN;rw [if_neg (by omega),if_neg (by omega),if_neg (by omega),if_neg (by omega)]
  rw [e]
  have x1 : (128 : Int) ≤ ((⟨l.toArray⟩ : ByteArray)[i].toNat : Int):=by rw [hc];omega
  have x2 : ((⟨l.toArray⟩ : ByteArray)[i].toNat : Int) ≤ (191 : Int):=by rw [hc];omega
  have x3 : (128 : Int) ≤ (l[i].toNat : Int):=by rw [hg];omega
  have x4 : (l[i].toNat : Int) ≤ (191 : Int):=by rw [hg];omega
  clear hc hg hcase e
  go_enter Tryz.func155,Tryz.ntmps155
  go_wp2_with fail
  go_ret3
  exact ⟨rfl,rfl⟩
 ·have tk:=trivial
  obtain ⟨c0,hc0⟩ : ∃ c0,c0 = (l.getD i 0).toNat % 32:=⟨_,rfl⟩
  have m1 : bits .and .i64 ((⟨l.toArray⟩ : ByteArray)[i].toNat : Int) 31 = (c0 : Int):=by rw [hc,hc0];exact and31 ⟨(l.getD i 0).toNat,UInt8.toNat_lt _⟩
  have m2 : bits .and .i64 (l[i].toNat : Int) 31 = (c0 : Int):=by rw [hg,hc0];exact and31 ⟨(l.getD i 0).toNat,UInt8.toNat_lt _⟩
  have hcl : c0 < 32:=by omega
  have x1 : (192 : Int) ≤ ((⟨l.toArray⟩ : ByteArray)[i].toNat : Int):=by rw [hc];omega
  have x2 : ((⟨l.toArray⟩ : ByteArray)[i].toNat : Int) ≤ (223 : Int):=by rw [hc];omega
  have x3 : (192 : Int) ≤ (l[i].toNat : Int):=by rw [hg];omega
  have x4 : (l[i].toNat : Int) ≤ (223 : Int):=by rw [hg];omega
  have HYES : Far ((∀ j,1 ≤ j → j < 2 → okT l i j) → oneA l i = (accF c0 l i (2 - 1),2,decide (128 ≤ accF c0 l i (2 - 1)))):=Far.mk (fun h=>by rw [hc0];exact yes2 ⟨by omega,by omega⟩ h)
  have HNO : Far (∀ j,1 ≤ j → j < 2 → ¬ okT l i j → oneA l i = (0,0,false)):=Far.mk (fun j a b h=>no2 ⟨by omega,by omega⟩ a b h)
  have y224a : ((⟨l.toArray⟩ : ByteArray)[i].toNat : Int) < 224 ↔ (223 : Int) < 224:=by rw [hc];omega
  have y224b : (l[i].toNat : Int) < 224 ↔ (223 : Int) < 224:=by rw [hg];omega
  have z224a : decide (((⟨l.toArray⟩ : ByteArray)[i].toNat : Int) < 224) = decide ((223 : Int) < 224):=by rw [decide_eq_decide];exact y224a
  have z224b : decide ((l[i].toNat : Int) < 224) = decide ((223 : Int) < 224):=by rw [decide_eq_decide];exact y224b
  simp at z224a z224b
  clear y224a y224b
  have y240a : ((⟨l.toArray⟩ : ByteArray)[i].toNat : Int) < 240 ↔ (223 : Int) < 240:=by rw [hc];omega
  have y240b : (l[i].toNat : Int) < 240 ↔ (223 : Int) < 240:=by rw [hg];omega
  have z240a : decide (((⟨l.toArray⟩ : ByteArray)[i].toNat : Int) < 240) = decide ((223 : Int) < 240):=by rw [decide_eq_decide];exact y240a
  have z240b : decide ((l[i].toNat : Int) < 240) = decide ((223 : Int) < 240):=by rw [decide_eq_decide];exact y240b
  simp at z240a z240b
  clear y240a y240b
  have y248a : ((⟨l.toArray⟩ : ByteArray)[i].toNat : Int) < 248 ↔ (223 : Int) < 248:=by rw [hc];omega
  have y248b : (l[i].toNat : Int) < 248 ↔ (223 : Int) < 248:=by rw [hg];omega
  have z248a : decide (((⟨l.toArray⟩ : ByteArray)[i].toNat : Int) < 248) = decide ((223 : Int) < 248):=by rw [decide_eq_decide];exact y248a
  have z248b : decide ((l[i].toNat : Int) < 248) = decide ((223 : Int) < 248):=by rw [decide_eq_decide];exact y248b
  simp at z248a z248b
  clear y248a y248b
  clear hc hg hc0 hcase
  go_enter Tryz.func155,Tryz.ntmps155
  go_wp2_with fail
  go_loopg [7,10] (2 - 1) (fun k s7 s10 wr=>∃ t c : Nat,k + t = 2 ∧ 1 ≤ t ∧ s7 = .int .i64 c ∧ s10 = .int .i64 t ∧ Hid (c = accF c0 l i (t - 1)) ∧ Hid (c < 32 * 64 ^ (t - 1)) ∧ Hid (∀ j,1 ≤ j → j < t → okT l i j) ∧ w = wr)
  case atStart=>exact ⟨1,c0,by omega,Nat.le_refl _,rfl,rfl,Lib.hid rfl,Lib.hid hcl,Lib.hid (fun j a b=>by omega),rfl⟩
  case round =>
   obtain ⟨t,c,hk,ht1,rfl,rfl,HCA,HCB,HOK,rfl⟩:=hrel
   have HK:=Lib.hid hk
   have htn : t ≤ 2:=by omega
   have hcb : c < 8388608:=by
    have:=HCB.out
    have h4 : t = 1 ∨ t = 2 ∨ t = 3 ∨ t = 4:=by omega
    rcases h4 with rfl | rfl | rfl | rfl <;> (simp at this;omega)
   clear hk
   by_cases hlt : t < 2
   ·obtain ⟨p,hp⟩ : ∃ p,p = i + t:=⟨_,rfl⟩
    have hpi : (i : Int) + (t : Int) = (p : Int):=by omega
    have HT:=Lib.hid (tail_any l (by omega) p (by omega) w)
    by_cases hok : okT l i t
    ·have et : tailL l p = ((l.getD p 0).toNat % 64,true):=by unfold tailL;rw [if_pos (by rw [hp];exact hok)]
     rw [et] at HT
     obtain ⟨x,hx⟩ : ∃ x,x = (l.getD p 0).toNat % 64:=⟨_,rfl⟩
     rw [← hx] at HT
     have hx2 : x ≤ 63:=by omega
     have hca : Hid (c * 64 + x = accF c0 l i (t + 1 - 1)):=Lib.hid (by
      have e1 : t + 1 - 1 = (t - 1) + 1:=by omega
      rw [e1]
      show c * 64 + x = accF c0 l i (t - 1) * 64 + (l.getD (i + (t - 1 + 1)) 0).toNat % 64
      rw [← HCA.out,hx,hp,show t - 1 + 1 = t by omega])
     have hcb2 : Hid (c * 64 + x < 32 * 64 ^ (t + 1 - 1)):=Lib.hid (by
      have:=HCB.out
      have e1 : t + 1 - 1 = (t - 1) + 1:=by omega
      rw [e1,Nat.pow_succ]
      generalize 64 ^ (t - 1) = q at *
      omega)
     have hok2 : Hid (∀ j,1 ≤ j → j < t + 1 → okT l i j):=Lib.hid (fun j a b=>by
      by_cases e : j = t
      ·subst e;exact hok
      ·exact HOK.out j a (by omega))
     clear hok et hx hp
     go_wp2_with fail
     refine HT.out.mono ?_
     rintro _ _ ⟨rfl,rfl⟩
     go_wp2_with fail
     go_roundg (gk - 1)
     case measure=>have:=HK.out;omega
     case rel=>exact ⟨t + 1,c * 64 + x,by have:=HK.out;omega,by omega,by go_num,by go_num,hca,hcb2,hok2,rfl⟩
    ·have et : tailL l p = (0,false):=by unfold tailL;rw [if_neg (by rw [hp];exact hok)]
     rw [et] at HT
     have HR:=Lib.hid (HNO.out t ht1 hlt hok)
     clear hok et hp
     go_wp2_with fail
     refine HT.out.mono ?_
     rintro _ _ ⟨rfl,rfl⟩
     go_wp2_with fail
     go_ret3
     exact ⟨by rw [HR.out];rfl,rfl⟩
   ·obtain rfl : t = 2:=by omega
    have hr:=HYES.out (fun j a b=>HOK.out j a b)
    have hca:=HCA.out
    rw [← hca] at hr
    have HR:=Lib.hid hr
    clear hr hca
    go_wp2_with fail
    go_ret3
    exact ⟨by rw [HR.out];simp <;> omega,rfl⟩
 ·have tk:=trivial
  obtain ⟨c0,hc0⟩ : ∃ c0,c0 = (l.getD i 0).toNat % 16:=⟨_,rfl⟩
  have m1 : bits .and .i64 ((⟨l.toArray⟩ : ByteArray)[i].toNat : Int) 15 = (c0 : Int):=by rw [hc,hc0];exact and15 ⟨(l.getD i 0).toNat,UInt8.toNat_lt _⟩
  have m2 : bits .and .i64 (l[i].toNat : Int) 15 = (c0 : Int):=by rw [hg,hc0];exact and15 ⟨(l.getD i 0).toNat,UInt8.toNat_lt _⟩
  have hcl : c0 < 32:=by omega
  have x1 : (224 : Int) ≤ ((⟨l.toArray⟩ : ByteArray)[i].toNat : Int):=by rw [hc];omega
  have x2 : ((⟨l.toArray⟩ : ByteArray)[i].toNat : Int) ≤ (239 : Int):=by rw [hc];omega
  have x3 : (224 : Int) ≤ (l[i].toNat : Int):=by rw [hg];omega
  have x4 : (l[i].toNat : Int) ≤ (239 : Int):=by rw [hg];omega
  have HYES : Far ((∀ j,1 ≤ j → j < 3 → okT l i j) → oneA l i = (accF c0 l i (3 - 1),3,decide (2048 ≤ accF c0 l i (3 - 1)))):=Far.mk (fun h=>by rw [hc0];exact yes3 ⟨by omega,by omega⟩ h)
  have HNO : Far (∀ j,1 ≤ j → j < 3 → ¬ okT l i j → oneA l i = (0,0,false)):=Far.mk (fun j a b h=>no3 ⟨by omega,by omega⟩ a b h)
  have y224a : ((⟨l.toArray⟩ : ByteArray)[i].toNat : Int) < 224 ↔ (239 : Int) < 224:=by rw [hc];omega
  have y224b : (l[i].toNat : Int) < 224 ↔ (239 : Int) < 224:=by rw [hg];omega
  have z224a : decide (((⟨l.toArray⟩ : ByteArray)[i].toNat : Int) < 224) = decide ((239 : Int) < 224):=by rw [decide_eq_decide];exact y224a
  have z224b : decide ((l[i].toNat : Int) < 224) = decide ((239 : Int) < 224):=by rw [decide_eq_decide];exact y224b
  simp at z224a z224b
  clear y224a y224b
  have y240a : ((⟨l.toArray⟩ : ByteArray)[i].toNat : Int) < 240 ↔ (239 : Int) < 240:=by rw [hc];omega
  have y240b : (l[i].toNat : Int) < 240 ↔ (239 : Int) < 240:=by rw [hg];omega
  have z240a : decide (((⟨l.toArray⟩ : ByteArray)[i].toNat : Int) < 240) = decide ((239 : Int) < 240):=by rw [decide_eq_decide];exact y240a
  have z240b : decide ((l[i].toNat : Int) < 240) = decide ((239 : Int) < 240):=by rw [decide_eq_decide];exact y240b
  simp at z240a z240b
  clear y240a y240b
  have y248a : ((⟨l.toArray⟩ : ByteArray)[i].toNat : Int) < 248 ↔ (239 : Int) < 248:=by rw [hc];omega
  have y248b : (l[i].toNat : Int) < 248 ↔ (239 : Int) < 248:=by rw [hg];omega
  have z248a : decide (((⟨l.toArray⟩ : ByteArray)[i].toNat : Int) < 248) = decide ((239 : Int) < 248):=by rw [decide_eq_decide];exact y248a
  have z248b : decide ((l[i].toNat : Int) < 248) = decide ((239 : Int) < 248):=by rw [decide_eq_decide];exact y248b
  simp at z248a z248b
  clear y248a y248b
  clear hc hg hc0 hcase
  go_enter Tryz.func155,Tryz.ntmps155
  go_wp2_with fail
  go_loopg [7,10] (3 - 1) (fun k s7 s10 wr=>∃ t c : Nat,k + t = 3 ∧ 1 ≤ t ∧ s7 = .int .i64 c ∧ s10 = .int .i64 t ∧ Hid (c = accF c0 l i (t - 1)) ∧ Hid (c < 32 * 64 ^ (t - 1)) ∧ Hid (∀ j,1 ≤ j → j < t → okT l i j) ∧ w = wr)
  case atStart=>exact ⟨1,c0,by omega,Nat.le_refl _,rfl,rfl,Lib.hid rfl,Lib.hid hcl,Lib.hid (fun j a b=>by omega),rfl⟩
  case round =>
   obtain ⟨t,c,hk,ht1,rfl,rfl,HCA,HCB,HOK,rfl⟩:=hrel
   have HK:=Lib.hid hk
   have htn : t ≤ 3:=by omega
   have hcb : c < 8388608:=by
    have:=HCB.out
    have h4 : t = 1 ∨ t = 2 ∨ t = 3 ∨ t = 4:=by omega
    rcases h4 with rfl | rfl | rfl | rfl <;> (simp at this;omega)
   clear hk
   by_cases hlt : t < 3
   ·obtain ⟨p,hp⟩ : ∃ p,p = i + t:=⟨_,rfl⟩
    have hpi : (i : Int) + (t : Int) = (p : Int):=by omega
    have HT:=Lib.hid (tail_any l (by omega) p (by omega) w)
    by_cases hok : okT l i t
    ·have et : tailL l p = ((l.getD p 0).toNat % 64,true):=by unfold tailL;rw [if_pos (by rw [hp];exact hok)]
     rw [et] at HT
     obtain ⟨x,hx⟩ : ∃ x,x = (l.getD p 0).toNat % 64:=⟨_,rfl⟩
     rw [← hx] at HT
     have hx2 : x ≤ 63:=by omega
     have hca : Hid (c * 64 + x = accF c0 l i (t + 1 - 1)):=Lib.hid (by
      have e1 : t + 1 - 1 = (t - 1) + 1:=by omega
      rw [e1]
      show c * 64 + x = accF c0 l i (t - 1) * 64 + (l.getD (i + (t - 1 + 1)) 0).toNat % 64
      rw [← HCA.out,hx,hp,show t - 1 + 1 = t by omega])
     have hcb2 : Hid (c * 64 + x < 32 * 64 ^ (t + 1 - 1)):=Lib.hid (by
      have:=HCB.out
      have e1 : t + 1 - 1 = (t - 1) + 1:=by omega
      rw [e1,Nat.pow_succ]
      generalize 64 ^ (t - 1) = q at *
      omega)
     have hok2 : Hid (∀ j,1 ≤ j → j < t + 1 → okT l i j):=Lib.hid (fun j a b=>by
      by_cases e : j = t
      ·subst e;exact hok
      ·exact HOK.out j a (by omega))
     clear hok et hx hp
     go_wp2_with fail
     refine HT.out.mono ?_
     rintro _ _ ⟨rfl,rfl⟩
     go_wp2_with fail
     go_roundg (gk - 1)
     case measure=>have:=HK.out;omega
     case rel=>exact ⟨t + 1,c * 64 + x,by have:=HK.out;omega,by omega,by go_num,by go_num,hca,hcb2,hok2,rfl⟩
    ·have et : tailL l p = (0,false):=by unfold tailL;rw [if_neg (by rw [hp];exact hok)]
     rw [et] at HT
     have HR:=Lib.hid (HNO.out t ht1 hlt hok)
     clear hok et hp
     go_wp2_with fail
     refine HT.out.mono ?_
     rintro _ _ ⟨rfl,rfl⟩
     go_wp2_with fail
     go_ret3
     exact ⟨by rw [HR.out];rfl,rfl⟩
   ·obtain rfl : t = 3:=by omega
    have hr:=HYES.out (fun j a b=>HOK.out j a b)
    have hca:=HCA.out
    rw [← hca] at hr
    have HR:=Lib.hid hr
    clear hr hca
    go_wp2_with fail
    go_ret3
    exact ⟨by rw [HR.out];simp <;> omega,rfl⟩
 ·have tk:=trivial
  obtain ⟨c0,hc0⟩ : ∃ c0,c0 = (l.getD i 0).toNat % 8:=⟨_,rfl⟩
  have m1 : bits .and .i64 ((⟨l.toArray⟩ : ByteArray)[i].toNat : Int) 7 = (c0 : Int):=by rw [hc,hc0];exact and7 ⟨(l.getD i 0).toNat,UInt8.toNat_lt _⟩
  have m2 : bits .and .i64 (l[i].toNat : Int) 7 = (c0 : Int):=by rw [hg,hc0];exact and7 ⟨(l.getD i 0).toNat,UInt8.toNat_lt _⟩
  have hcl : c0 < 32:=by omega
  have x1 : (240 : Int) ≤ ((⟨l.toArray⟩ : ByteArray)[i].toNat : Int):=by rw [hc];omega
  have x2 : ((⟨l.toArray⟩ : ByteArray)[i].toNat : Int) ≤ (247 : Int):=by rw [hc];omega
  have x3 : (240 : Int) ≤ (l[i].toNat : Int):=by rw [hg];omega
  have x4 : (l[i].toNat : Int) ≤ (247 : Int):=by rw [hg];omega
  have HYES : Far ((∀ j,1 ≤ j → j < 4 → okT l i j) → oneA l i = (accF c0 l i (4 - 1),4,decide (65536 ≤ accF c0 l i (4 - 1)))):=Far.mk (fun h=>by rw [hc0];exact yes4 ⟨by omega,by omega⟩ h)
  have HNO : Far (∀ j,1 ≤ j → j < 4 → ¬ okT l i j → oneA l i = (0,0,false)):=Far.mk (fun j a b h=>no4 ⟨by omega,by omega⟩ a b h)
  have y224a : ((⟨l.toArray⟩ : ByteArray)[i].toNat : Int) < 224 ↔ (247 : Int) < 224:=by rw [hc];omega
  have y224b : (l[i].toNat : Int) < 224 ↔ (247 : Int) < 224:=by rw [hg];omega
  have z224a : decide (((⟨l.toArray⟩ : ByteArray)[i].toNat : Int) < 224) = decide ((247 : Int) < 224):=by rw [decide_eq_decide];exact y224a
  have z224b : decide ((l[i].toNat : Int) < 224) = decide ((247 : Int) < 224):=by rw [decide_eq_decide];exact y224b
  simp at z224a z224b
  clear y224a y224b
  have y240a : ((⟨l.toArray⟩ : ByteArray)[i].toNat : Int) < 240 ↔ (247 : Int) < 240:=by rw [hc];omega
  have y240b : (l[i].toNat : Int) < 240 ↔ (247 : Int) < 240:=by rw [hg];omega
  have z240a : decide (((⟨l.toArray⟩ : ByteArray)[i].toNat : Int) < 240) = decide ((247 : Int) < 240):=by rw [decide_eq_decide];exact y240a
  have z240b : decide ((l[i].toNat : Int) < 240) = decide ((247 : Int) < 240):=by rw [decide_eq_decide];exact y240b
  simp at z240a z240b
  clear y240a y240b
  have y248a : ((⟨l.toArray⟩ : ByteArray)[i].toNat : Int) < 248 ↔ (247 : Int) < 248:=by rw [hc];omega
  have y248b : (l[i].toNat : Int) < 248 ↔ (247 : Int) < 248:=by rw [hg];omega
  have z248a : decide (((⟨l.toArray⟩ : ByteArray)[i].toNat : Int) < 248) = decide ((247 : Int) < 248):=by rw [decide_eq_decide];exact y248a
  have z248b : decide ((l[i].toNat : Int) < 248) = decide ((247 : Int) < 248):=by rw [decide_eq_decide];exact y248b
  simp at z248a z248b
  clear y248a y248b
  clear hc hg hc0 hcase
  go_enter Tryz.func155,Tryz.ntmps155
  go_wp2_with fail
  go_loopg [7,10] (4 - 1) (fun k s7 s10 wr=>∃ t c : Nat,k + t = 4 ∧ 1 ≤ t ∧ s7 = .int .i64 c ∧ s10 = .int .i64 t ∧ Hid (c = accF c0 l i (t - 1)) ∧ Hid (c < 32 * 64 ^ (t - 1)) ∧ Hid (∀ j,1 ≤ j → j < t → okT l i j) ∧ w = wr)
  case atStart=>exact ⟨1,c0,by omega,Nat.le_refl _,rfl,rfl,Lib.hid rfl,Lib.hid hcl,Lib.hid (fun j a b=>by omega),rfl⟩
  case round =>
   obtain ⟨t,c,hk,ht1,rfl,rfl,HCA,HCB,HOK,rfl⟩:=hrel
   have HK:=Lib.hid hk
   have htn : t ≤ 4:=by omega
   have hcb : c < 8388608:=by
    have:=HCB.out
    have h4 : t = 1 ∨ t = 2 ∨ t = 3 ∨ t = 4:=by omega
    rcases h4 with rfl | rfl | rfl | rfl <;> (simp at this;omega)
   clear hk
   by_cases hlt : t < 4
   ·obtain ⟨p,hp⟩ : ∃ p,p = i + t:=⟨_,rfl⟩
    have hpi : (i : Int) + (t : Int) = (p : Int):=by omega
    have HT:=Lib.hid (tail_any l (by omega) p (by omega) w)
    by_cases hok : okT l i t
    ·have et : tailL l p = ((l.getD p 0).toNat % 64,true):=by unfold tailL;rw [if_pos (by rw [hp];exact hok)]
     rw [et] at HT
     obtain ⟨x,hx⟩ : ∃ x,x = (l.getD p 0).toNat % 64:=⟨_,rfl⟩
     rw [← hx] at HT
     have hx2 : x ≤ 63:=by omega
     have hca : Hid (c * 64 + x = accF c0 l i (t + 1 - 1)):=Lib.hid (by
      have e1 : t + 1 - 1 = (t - 1) + 1:=by omega
      rw [e1]
      show c * 64 + x = accF c0 l i (t - 1) * 64 + (l.getD (i + (t - 1 + 1)) 0).toNat % 64
      rw [← HCA.out,hx,hp,show t - 1 + 1 = t by omega])
     have hcb2 : Hid (c * 64 + x < 32 * 64 ^ (t + 1 - 1)):=Lib.hid (by
      have:=HCB.out
      have e1 : t + 1 - 1 = (t - 1) + 1:=by omega
      rw [e1,Nat.pow_succ]
      generalize 64 ^ (t - 1) = q at *
      omega)
     have hok2 : Hid (∀ j,1 ≤ j → j < t + 1 → okT l i j):=Lib.hid (fun j a b=>by
      by_cases e : j = t
      ·subst e;exact hok
      ·exact HOK.out j a (by omega))
     clear hok et hx hp
     go_wp2_with fail
     refine HT.out.mono ?_
     rintro _ _ ⟨rfl,rfl⟩
     go_wp2_with fail
     go_roundg (gk - 1)
     case measure=>have:=HK.out;omega
     case rel=>exact ⟨t + 1,c * 64 + x,by have:=HK.out;omega,by omega,by go_num,by go_num,hca,hcb2,hok2,rfl⟩
    ·have et : tailL l p = (0,false):=by unfold tailL;rw [if_neg (by rw [hp];exact hok)]
     rw [et] at HT
     have HR:=Lib.hid (HNO.out t ht1 hlt hok)
     clear hok et hp
     go_wp2_with fail
     refine HT.out.mono ?_
     rintro _ _ ⟨rfl,rfl⟩
     go_wp2_with fail
     go_ret3
     exact ⟨by rw [HR.out];rfl,rfl⟩
   ·obtain rfl : t = 4:=by omega
    have hr:=HYES.out (fun j a b=>HOK.out j a b)
    have hca:=HCA.out
    rw [← hca] at hr
    have HR:=Lib.hid hr
    clear hr hca
    go_wp2_with fail
    go_ret3
    exact ⟨by rw [HR.out];simp <;> omega,rfl⟩
 ·have e : oneA l i = (0,0,false):=by unfold oneA oneN;rw [if_neg (by omega),if_neg (by omega),if_neg (by omega),if_neg (by omega)]
  rw [e]
  have x1 : (248 : Int) ≤ ((⟨l.toArray⟩ : ByteArray)[i].toNat : Int):=by rw [hc];omega
  have x2 : ((⟨l.toArray⟩ : ByteArray)[i].toNat : Int) ≤ (255 : Int):=by rw [hc];omega
  have x3 : (248 : Int) ≤ (l[i].toNat : Int):=by rw [hg];omega
  have x4 : (l[i].toNat : Int) ≤ (255 : Int):=by rw [hg];omega
  clear hc hg hcase e
  go_enter Tryz.func155,Tryz.ntmps155
  go_wp2_with fail
  go_ret3
  exact ⟨rfl,rfl⟩
end Go.Proofs.YtkjecoanlppeaaaGreatDoor



namespace Go.Proofs.YtkjecoanlppeaaaGreatDoor
open Go.RowKit

theorem oneA_L (l : List UInt8) (i : Nat) (h : i ≤ l.length) : oneA l i = oneL (l.drop i):=by
 unfold oneA oneL
 have e : ∀ j,(l.drop i).getD j 0 = l.getD (i + j) 0:=fun j=>by
  rw [List.getD_eq_getElem?_getD,List.getD_eq_getElem?_getD,List.getElem?_drop]
 rw [e,e,e,e,List.length_drop];rfl
theorem txt_step {l : List UInt8} {i : Nat} (h : i < l.length) (a : (oneA l i).2.2 = true) (b : chr (oneA l i).1 = true) : ztxt (l.drop i) = ztxt (l.drop (i + (oneA l i).2.1)) ∧ 1 ≤ (oneA l i).2.1:=by
 rw [oneA_L l i (by omega)] at a b ⊢
 have hp : 1 ≤ (oneL (l.drop i)).2.1:=oneN_pos a
 have hl : (l.drop i).length = l.length - i:=List.length_drop
 have hne : ¬ l.drop i = []:=fun e=>by rw [e] at hl;simp at hl;omega
 refine ⟨?_,hp⟩
 obtain ⟨f,hf⟩ : ∃ f,(l.drop i).length = f + 1:=⟨(l.drop i).length - 1,by omega⟩
 have e1 : ztxt (l.drop i) = ztxtF (f + 1) (l.drop i):=by unfold ztxt;rw [hf]
 rw [e1]
 show (if l.drop i = [] then true else if (oneL (l.drop i)).2.2 = true ∧ chrP (oneL (l.drop i)).1 then ztxtF f ((l.drop i).drop (oneL (l.drop i)).2.1) else false) = _
 rw [if_neg hne,if_pos ⟨a,of_decide_eq_true b⟩,List.drop_drop]
 exact txtF_eq f (by rw [List.length_drop];omega)
theorem txt_stop {l : List UInt8} {i : Nat} (h : i < l.length) (a : (oneA l i).2.2 = false ∨ chr (oneA l i).1 = false) : ztxt (l.drop i) = false:=by
 rw [oneA_L l i (by omega)] at a
 have hl : (l.drop i).length = l.length - i:=List.length_drop
 have hne : ¬ l.drop i = []:=fun e=>by rw [e] at hl;simp at hl;omega
 obtain ⟨f,hf⟩ : ∃ f,(l.drop i).length = f + 1:=⟨(l.drop i).length - 1,by omega⟩
 have e1 : ztxt (l.drop i) = ztxtF (f + 1) (l.drop i):=by unfold ztxt;rw [hf]
 rw [e1]
 show (if l.drop i = [] then true else if (oneL (l.drop i)).2.2 = true ∧ chrP (oneL (l.drop i)).1 then ztxtF f ((l.drop i).drop (oneL (l.drop i)).2.1) else false) = _
 rw [if_neg hne,if_neg]
 rintro ⟨p,q⟩
 rcases a with a | a
 ·rw [a] at p;exact Bool.noConfusion p
 ·exact of_decide_eq_false a q
theorem oneN_le (n b0 b1 b2 b3 : Nat) (h : 1 ≤ n) : (oneN n b0 b1 b2 b3).2.1 ≤ n:=by
 unfold oneN
 repeat' split
 all_goals dsimp only
 all_goals omega
theorem oneA_le {l : List UInt8} {i : Nat} (h : i < l.length) : i + (oneA l i).2.1 ≤ l.length:=by
 have:=oneN_le (l.length - i) (l.getD i 0).toNat (l.getD (i + 1) 0).toNat (l.getD (i + 2) 0).toNat (l.getD (i + 3) 0).toNat (by omega)
 unfold oneA
 omega
def CharsPost (l : List UInt8) (w : World) (e : Ending) (w' : World) : Prop:=∃ v,e = .returned (.tuple #[v,.bool (ztxt l)]) ∧ Below w.heap.size w w'
set_option maxHeartbeats 1000000 in
theorem chars_any (l : List UInt8) (hl : l.length ≤ 1048576) (w : World) : Calls Tryz.prog 135 #[.string ⟨l.toArray⟩] w (CharsPost l w):=by
 obtain ⟨z,hz⟩ : ∃ z,z = ztxt l:=⟨_,rfl⟩
 have HZ:=Lib.hid hz
 have HP : Hid (∀ (v : Value) (w' : World),Below w.heap.size w w' → CharsPost l w (.returned (.tuple #[v,.bool z])) w'):=Lib.hid (fun v w' h2=>⟨v,by rw [hz],h2⟩)
 have HLEN:=Lib.hid hl
 clear hz
 go_enter Tryz.func135,Tryz.ntmps135
 go_wp2_with fail
 go_loopg [4,5] l.length (fun k v i wr=>∃ (t : Nat) (ds : List Int),t ≤ l.length ∧ k = l.length - t ∧ i = .int .i64 t ∧ wr.ownsRow w.heap.size 3 1 v ds.length (ds.map (Value.int .i64)) ∧ ds.length ≤ t ∧ Hid (z = ztxt (l.drop t)) ∧ Below w.heap.size w wr)
 case atStart=>clear hl;exact ⟨0,[],by omega,by omega,rfl,World.ownsRow_nil _ _ _ _,by simp,Lib.hid (by rw [List.drop_zero];exact HZ.out),by (repeat' first|(with_reducible first|exact blR _ _|assumption|refine blD ?_|refine blN ?_ _)|((with_reducible first|refine blA ?_ ?_ _|refine blS ?_ ?_ _|refine blT (by assumption) ?_ ?_);focus (go_size;done)))⟩
 case round =>
  obtain ⟨t,ds,htl,hk,rfl,hown,hdl,HT,hbel⟩:=hrel
  have HK:=Lib.hid hk
  have HDL:=Lib.hid hdl
  clear hk hdl hl
  by_cases hlt : t < l.length
  ·have HO:=Lib.hid (chone_any l (by have:=HLEN.out;omega) t hlt wr)
   have HLE:=Lib.hid (oneA_le hlt)
   have HST:=Lib.hid (fun a b=>txt_step (l:=l) (i:=t) hlt a b)
   have HSP:=Lib.hid (fun a=>txt_stop (l:=l) (i:=t) hlt a)
   obtain ⟨c,hc⟩ : ∃ c,c = (oneA l t).1:=⟨_,rfl⟩
   obtain ⟨m,hm⟩ : ∃ m,m = (oneA l t).2.1:=⟨_,rfl⟩
   obtain ⟨ok,hok⟩ : ∃ ok,ok = (oneA l t).2.2:=⟨_,rfl⟩
   rw [← hc,← hm,← hok] at HO
   rw [← hm] at HLE
   rw [← hc,← hm,← hok] at HST
   rw [← hc,← hok] at HSP
   have HC:=Lib.hid (rchar_any c wr)
   clear hc hm hok
   cases ok with
   | false =>
    have hz : z = false:=by rw [HT.out];exact HSP.out (.inl rfl)
    subst hz
    go_wp2_with fail
    refine HO.out.mono ?_
    rintro _ _ ⟨rfl,rfl⟩
    go_wp2_with fail
    go_ret2
    exact HP.out (.slice none 0 0) _ (by (repeat' first|(with_reducible first|exact blR _ _|assumption|refine blD ?_|refine blN ?_ _)|((with_reducible first|refine blA ?_ ?_ _|refine blS ?_ ?_ _|refine blT (by assumption) ?_ ?_);focus (go_size;done))))
   | true =>
    obtain ⟨y,hy⟩ : ∃ y,y = chr c:=⟨_,rfl⟩
    rw [← hy] at HC HST HSP
    clear hy
    cases y with
    | false =>
     have hz : z = false:=by rw [HT.out];exact HSP.out (.inr rfl)
     subst hz
     go_wp2_with fail
     refine HO.out.mono ?_
     rintro _ _ ⟨rfl,rfl⟩
     go_wp2_with fail
     refine HC.out.mono ?_
     rintro _ _ ⟨rfl,rfl⟩
     go_wp2_with fail
     go_ret2
     exact HP.out (.slice none 0 0) _ (by (repeat' first|(with_reducible first|exact blR _ _|assumption|refine blD ?_|refine blN ?_ _)|((with_reducible first|refine blA ?_ ?_ _|refine blS ?_ ?_ _|refine blT (by assumption) ?_ ?_);focus (go_size;done))))
    | true =>
     obtain ⟨h1,h2⟩:=HST.out rfl rfl
     have h3:=HLE.out
     have h4 : (t : Int) + (m : Int) ≤ 1048576:=by have:=HLEN.out;omega
     have H1:=Lib.hid h1
     clear HST HSP h1
     go_wp2_with fail
     refine HO.out.mono ?_
     rintro _ _ ⟨rfl,rfl⟩
     go_wp2_with fail
     refine HC.out.mono ?_
     rintro _ wr ⟨rfl,rfl⟩
     go_wp2_with (at_builtin;refine wpList_push rfl (.tmp 27) (.tmp 29) rfl w.heap.size u4 ds rfl (hown.alloc _) wr.heap.size (t : Int) rfl ?hc ?hl ?hb ?_;rotate_left 3;intro v1 w1 hown1 hg1)
     case hc=>simp [go_sem]
     case hl=>have:=HDL.out;have:=HLEN.out;omega
     case hb=>have:=hbel.size;rw [World.size_alloc];omega
     have hbp:=below_push (hbel.alloc hbel.size _) (hown.alloc _) hg1 (by have:=hbel.size;rw [World.size_alloc];omega)
     go_wp2_with fail
     go_roundg (gk - m)
     case measure=>have:=HK.out;omega
     case rel=>exact ⟨t + m,ds ++ [(t : Int)],h3,by have:=HK.out;omega,by go_num,hown1,by rw [List.length_append,List.length_singleton];have:=HDL.out;omega,Lib.hid (by rw [HT.out,H1.out]),hbp⟩
  ·obtain rfl : t = l.length:=by omega
   have hz : z = true:=by rw [HT.out,List.drop_length];rfl
   subst hz
   clear hlt
   go_wp2_with (at_builtin;refine wpList_push rfl (.tmp 34) (.tmp 36) rfl w.heap.size u4 ds rfl (hown.alloc _) wr.heap.size (l.length : Int) rfl ?hc ?hl ?hb ?_;rotate_left 3;intro v1 w1 hown1 hg1)
   case hc=>simp [go_sem]
   case hl=>have:=HDL.out;have:=HLEN.out;omega
   case hb=>have:=hbel.size;rw [World.size_alloc];omega
   have hbp:=below_push (hbel.alloc hbel.size _) (hown.alloc _) hg1 (by have:=hbel.size;rw [World.size_alloc];omega)
   go_wp2_with fail
   go_ret2
   exact HP.out _ _ hbp
theorem rvalid_any (l : List UInt8) (hl : l.length ≤ 1048576) (w : World) : Calls Tryz.prog 102 #[.string ⟨l.toArray⟩] w fun e w'=>e = .returned (.bool (ztxt l)) ∧ Below w.heap.size w w':=by
 have HC:=Lib.hid (chars_any l hl w)
 obtain ⟨z,hz⟩ : ∃ z,z = ztxt l:=⟨_,rfl⟩
 unfold CharsPost at HC
 rw [← hz] at HC ⊢
 clear hz hl
 go_enter Tryz.func102,Tryz.ntmps102
 go_wp2_with fail
 refine HC.out.mono ?_
 rintro _ w1 ⟨v,rfl,hb⟩
 go_wp2_with fail
 go_ret
 exact ⟨rfl,hb⟩
end Go.Proofs.YtkjecoanlppeaaaGreatDoor



namespace Go.Proofs.YtkjecoanlppeaaaGreatDoor
open Go.RowKit

theorem unit_lt {c s : Nat} (h : c < B34) : unit c s < 10 ^ 52:=by
 unfold unit
 have h1 : c * 10 ^ (18 - s) ≤ c * 10 ^ 18:=Nat.mul_le_mul_left _ (Nat.pow_le_pow_right (by decide) (by omega))
 have h2 : c * 10 ^ 18 < B34 * 10 ^ 18:=Nat.mul_lt_mul_of_pos_right h (by decide)
 have h3 : B34 * 10 ^ 18 = 10 ^ 52:=by unfold B34;decide
 omega
theorem sab_le (an bn : Bool) (x y : Nat) : sab an x bn y ≤ x + y:=by unfold sab;split;omega;split <;> omega
theorem ord_sum (an bn : Bool) (x y : Nat) (ha : x = 0 → an = false) (hb : y = 0 → bn = false) :
  ordD an x bn y = if sab an x (!bn) y = 0 then 0 else if sgn an x (!bn) y = true then -1 else 1:=by
 cases an <;> cases bn <;> simp [ordD,sab,sgn,cmpN] at * <;> (repeat' split) <;> omega
end Go.Proofs.YtkjecoanlppeaaaGreatDoor



namespace Go.Proofs.YtkjecoanlppeaaaGreatDoor
open Go.RowKit

theorem cmp_top {xs ys : List Int} (hx : Digs xs) (hy : Digs ys) (k : Nat) (h1 : k < xs.length) (h2 : k < ys.length) (he : xs.length = ys.length) (heq : xs.drop (k + 1) = ys.drop (k + 1)) (hlt : xs.getD k 0 < ys.getD k 0) : dval xs < dval ys:=by
 have a:=dval_append (xs.take k) (xs.drop k)
 have b:=dval_append (ys.take k) (ys.drop k)
 rw [List.take_append_drop,List.length_take,Nat.min_eq_left (by omega),dval_drop xs k h1] at a
 rw [List.take_append_drop,List.length_take,Nat.min_eq_left (by omega),dval_drop ys k h2,← heq] at b
 have ba:=dval_bd (hx.take k)
 have bb:=dval_bd (hy.take k)
 rw [List.length_take,Nat.min_eq_left (by omega)] at ba bb
 have hp:=ten_pos k
 generalize dval (xs.drop (k + 1)) = T at *
 have hm : (10 : Int) ^ k * (xs.getD k 0 + 10 * T) + 10 ^ k ≤ 10 ^ k * (ys.getD k 0 + 10 * T):=by
  have : (10 : Int) ^ k * (xs.getD k 0 + 10 * T + 1) ≤ 10 ^ k * (ys.getD k 0 + 10 * T):=Int.mul_le_mul_of_nonneg_left (by omega) (by omega)
  rw [Int.mul_add,Int.mul_one] at this
  exact this
 omega
theorem cmp_long {xs ys : List Int} {n m : Nat} (hx : IsDg xs n) (hy : IsDg ys m) (h : xs.length < ys.length) : n < m:=by
 have h1:=hx.lt_of_len (k:=ys.length - 1) (by omega)
 have h2:=hy.le_of_ne (by intro e;subst e;simp at h)
 omega
set_option maxHeartbeats 1000000 in
theorem rcmp_any (n m : Nat) (u v : Value) (w : World) (hu : Dg w u n) (hv : Dg w v m) (hn : Small n) (hm : Small m) :
  Calls Tryz.prog 152 #[u,v] w fun e w'=>e = .returned (.int .i64 (cmpN n m)) ∧ ∃ nn,w' = w.drewN nn:=by
 obtain ⟨xs,⟨A,c,rfl,hc,hs⟩,hd⟩:=hu
 obtain ⟨ys,⟨B,d,rfl,hc2,hs2⟩,hd2⟩:=hv
 have hlx:=pow_big hn hd
 have hly:=pow_big hm hd2
 have HX:=Lib.hid hd
 have HY:=Lib.hid hd2
 have HS:=Lib.hid hs
 have HT:=Lib.hid hs2
 clear hd hd2 hs hs2 hn hm
 by_cases h1 : xs.length < ys.length
 ·have e : cmpN n m = -1:=by have:=cmp_long HX.out HY.out h1;unfold cmpN;rw [if_neg (by omega),if_pos this]
  rw [e]
  have g1 : ((xs.length : Int) == (ys.length : Int)) = false:=by simp;omega
  clear e
  go_enter Tryz.func152,Tryz.ntmps152
  go_wp2_with fail
  go_ret
  exact ⟨rfl,0,rfl⟩
 by_cases h2 : ys.length < xs.length
 ·have e : cmpN n m = 1:=by have:=cmp_long HY.out HX.out h2;unfold cmpN;rw [if_neg (by omega),if_neg (by omega)]
  rw [e]
  have g1 : ((xs.length : Int) == (ys.length : Int)) = false:=by simp;omega
  clear e
  go_enter Tryz.func152,Tryz.ntmps152
  go_wp2_with fail
  go_ret
  exact ⟨rfl,0,rfl⟩
 have hle : xs.length = ys.length:=by omega
 have g1 : ((xs.length : Int) == (ys.length : Int)) = true:=by simp;omega
 have HL:=Lib.hid hle
 have hl1 : xs.length ≤ ys.length:=by omega
 have hl2 : ys.length ≤ xs.length:=by omega
 clear hle h1 h2
 go_enter Tryz.func152,Tryz.ntmps152
 go_wp2_with fail
 go_loopg [5] xs.length (fun k i wr=>k ≤ xs.length ∧ i = .int .i64 ((k : Int) - 1) ∧ xs.drop k = ys.drop k ∧ ∃ nn,wr = w.drewN nn)
 case atStart =>
  exact ⟨Nat.le_refl _,rfl,by rw [List.drop_of_length_le (Nat.le_refl _),List.drop_of_length_le (by omega)],0,rfl⟩
 case round =>
  obtain ⟨hk,rfl,heq,nn,rfl⟩:=hrel
  have HE:=Lib.hid heq
  clear heq
  by_cases h0 : gk = 0
  ·subst h0
   have hm : ¬ (0 : Int) ≤ ((0 : Nat) : Int) - 1:=by omega
   go_wp2_with fail
   go_ret
   refine ⟨?_,nn,rfl⟩
   have e:=HE.out
   rw [List.drop_zero,List.drop_zero] at e
   have h1:=HX.out.2.2
   have h2:=HY.out.2.2
   rw [e] at h1
   have : n = m:=by omega
   unfold cmpN
   rw [if_pos this];rfl
  ·obtain ⟨k,rfl⟩ : ∃ k,gk = k + 1:=⟨gk - 1,by omega⟩
   obtain ⟨g,o,rfl,hg,hcell⟩:=HS.out.at_ (k:=k) (by omega)
   obtain ⟨g2,o2,rfl,hg2,hcell2⟩:=HT.out.at_ (k:=k) (by omega)
   obtain ⟨a,ha⟩ : ∃ a,a = xs.getD k 0:=⟨_,rfl⟩
   obtain ⟨b,hb⟩ : ∃ b,b = ys.getD k 0:=⟨_,rfl⟩
   rw [← ha] at hcell
   rw [← hb] at hcell2
   have HA:=Lib.hid ha
   have HB:=Lib.hid hb
   have hp : (0 : Int) < ((k + 1 : Nat) : Int):=by omega
   have hx : ((k + 1 : Nat) : Int) - 1 = (k : Int):=by omega
   have k0 : (0 : Int) ≤ (k : Int):=by omega
   have k1 : (k : Int) < (xs.length : Int):=by omega
   have k2 : (k : Int) < (ys.length : Int):=by omega
   clear h0 ha hb
   go_wp2_with fail
   go_quiet (fail)
   go_wp2_with fail
   ·have hlt : a < b:=by assumption
    go_ret
    refine ⟨?_,by (try simp only [World.drewN_drewN]);exact ⟨_,rfl⟩⟩
    have:=cmp_top HX.out.1 HY.out.1 k (by omega) (by omega) HL.out HE.out (by rw [← HA.out,← HB.out];exact hlt)
    rw [HX.out.2.2,HY.out.2.2] at this
    unfold cmpN
    rw [if_neg (by omega),if_pos (by omega)];rfl
   ·go_quiet (fail)
    go_wp2_with fail
    ·have hlt : b < a:=by assumption
     go_ret
     refine ⟨?_,by (try simp only [World.drewN_drewN]);exact ⟨_,rfl⟩⟩
     have:=cmp_top HY.out.1 HX.out.1 k (by omega) (by omega) HL.out.symm HE.out.symm (by rw [← HA.out,← HB.out];exact hlt)
     rw [HX.out.2.2,HY.out.2.2] at this
     unfold cmpN
     rw [if_neg (by omega),if_neg (by omega)];rfl
    ·go_roundg k
     case measure=>omega
     case rel =>
      refine ⟨by omega,rfl, ?_,by (try simp only [World.drewN_drewN]);exact ⟨_,rfl⟩⟩
      have hab : a = b:=by omega
      rw [List.drop_eq_getElem_cons (by omega),List.drop_eq_getElem_cons (l:=ys) (by omega),HE.out,← getD_lt _ _ (by omega),← getD_lt _ _ (by omega),← HA.out,← HB.out,hab]
end Go.Proofs.YtkjecoanlppeaaaGreatDoor



namespace Go.Proofs.YtkjecoanlppeaaaGreatDoor
open Go.RowKit

theorem zrow_own (w : World) (n : Nat) (hn : n ≤ 1000000) : (w.alloc (.cells (zrow n).toArray 3)).ownsRow w.heap.size 3 1 (.slice (some ⟨w.heap.size,0,none⟩) n n) (List.replicate n (0 : Int)).length ((List.replicate n (0 : Int)).map (Value.int .i64)):=by
 refine ⟨by simp,.inr ⟨w.heap.size,n,(zrow n).toArray,by simp,Nat.le_refl _,heap_alloc_new w _,by simp,by unfold maxLen;omega,by simp [zrow],by simp [zrow]⟩⟩
theorem IsDg.shift {l : List Int} {n : Nat} (h : IsDg l n) (hne : l ≠ []) (k : Nat) : IsDg (List.replicate k 0 ++ l) (n * 10 ^ k):=by
 refine ⟨(Digs.zeros k).append h.1, ?_, ?_⟩
 ·have ht:=h.2.1
  obtain ⟨i,x,rfl⟩ : ∃ i x,l = i ++ [x]:=⟨l.dropLast,l.getLast hne,(List.dropLast_concat_getLast hne).symm⟩
  unfold Top at *
  rw [← List.append_assoc]
  simpa using ht
 ·rw [dval_append,dval_replicate,List.length_replicate,h.2.2,Int.zero_add,Int.natCast_mul,Int.natCast_pow,Int.mul_comm];rfl
set_option maxHeartbeats 1000000 in
theorem shift_any (N k : Nat) (hk : k ≤ 1000) (v : Value) (w : World) (hv : Dg w v N) (hN : Small N) :
  Calls Tryz.prog 150 #[v,.int .i64 k] w (RetDg (N * 10 ^ k) w):=by
 obtain ⟨xs,⟨A,c,rfl,hc,hs⟩,hd⟩:=hv
 have hlen:=pow_big hN hd
 by_cases hx : xs = []
 ·subst hx
  have hz : N = 0:=hd.zero_iff.1 rfl
  subst hz
  go_enter Tryz.func150,Tryz.ntmps150
  go_wp2_with fail
  go_ret
  exact ⟨_,rfl,⟨[],⟨none,0,rfl,Nat.le_refl _,fun h=>absurd rfl h⟩,by rw [Nat.zero_mul];exact IsDg.nil⟩,by (repeat' first|(with_reducible first|exact blR _ _|assumption|refine blD ?_|refine blN ?_ _)|((with_reducible first|refine blA ?_ ?_ _|refine blS ?_ ?_ _|refine blT (by assumption) ?_ ?_);focus (go_size;done)))⟩
 ·have hpos : 0 < xs.length:=List.length_pos_iff.2 hx
  have g1 : ((xs.length : Int) == 0) = false:=by simp;exact hx
  have HD:=Lib.hid (hd.shift hx k)
  have HS:=Lib.hid hs
  have hmk:=fun W=>make_ints k (by omega) W
  have k0 : (0 : Int) ≤ (k : Int):=by omega
  clear hd hs hN hx
  go_enter Tryz.func150,Tryz.ntmps150
  go_wp2_with (at_builtin;refine wpList_join rfl (.tmp 9) (.tmp 10) rfl w.heap.size (.slice (some ⟨w.heap.size,0,none⟩) k k) (List.replicate k 0) rfl (zrow_own w k (by omega)) A c xs rfl ?hs ?hl ?hb ?_;rotate_left 3;intro v1 w1 hown1 hg1)
  case hs=>exact HS.out.below (by (repeat' first|(with_reducible first|exact blR _ _|assumption|refine blD ?_|refine blN ?_ _)|((with_reducible first|refine blA ?_ ?_ _|refine blS ?_ ?_ _|refine blT (by assumption) ?_ ?_);focus (go_size;done))))
  case hl=>rw [List.length_replicate];omega
  case hb=>go_size
  go_ret
  exact ⟨v1,rfl,⟨_,IsSl.of_own hown1,HD.out⟩,below_push ((Below.refl _ _).alloc (Nat.le_refl _) _) (zrow_own w k (by omega)) hg1 (by go_size)⟩

theorem dval_take_any (l : List Int) (n : Nat) : dval (l.take (n + 1)) = dval (l.take n) + 10 ^ n * l.getD n 0:=by
 by_cases h : n < l.length
 ·exact dval_take_succ l n h
 ·rw [List.take_of_length_le (by omega),List.take_of_length_le (by omega),List.getD_eq_getElem?_getD,List.getElem?_eq_none (by omega)]
  simp
theorem getD_past (l : List Int) (n : Nat) (h : l.length ≤ n) : l.getD n 0 = 0:=by
 rw [List.getD_eq_getElem?_getD,List.getElem?_eq_none h];rfl
theorem plus_step (ds : List Int) (cc s : Int) (n : Nat) (xs ys : List Int) (hv : dval ds + 10 ^ n * cc = dval (xs.take n) + dval (ys.take n)) (hs : s = cc + xs.getD n 0 + ys.getD n 0) (hl : ds.length = n) :
  dval (ds ++ [s % 10]) + 10 ^ (n + 1) * (s / 10) = dval (xs.take (n + 1)) + dval (ys.take (n + 1)):=by
 rw [dval_snoc,hl,dval_take_any,dval_take_any,Int.pow_succ]
 have e1:=carry_step (10 ^ n) s
 have e2 : (10 : Int) ^ n * s = 10 ^ n * cc + 10 ^ n * xs.getD n 0 + 10 ^ n * ys.getD n 0:=by rw [hs,Int.mul_add,Int.mul_add]
 omega
set_option maxHeartbeats 2000000 in
theorem plus_any (N M : Nat) (u v : Value) (w : World) (hu : Dg w u N) (hv : Dg w v M) (hN : Small N) (hM : Small M) :
  Calls Tryz.prog 151 #[u,v] w (RetDg (N + M) w):=by
 obtain ⟨xs,⟨A,c,rfl,hc,hs⟩,hd⟩:=hu
 obtain ⟨ys,⟨B,d,rfl,hc2,hs2⟩,hd2⟩:=hv
 have hlx:=pow_big hN hd
 have hly:=pow_big hM hd2
 have HX:=Lib.hid hd
 have HY:=Lib.hid hd2
 have HS:=Lib.hid hs
 have HT:=Lib.hid hs2
 obtain ⟨m,hm1,hm2,hm3⟩ : ∃ m,xs.length ≤ m ∧ ys.length ≤ m ∧ m ≤ 1000:=⟨max xs.length ys.length,Nat.le_max_left _ _,Nat.le_max_right _ _,Nat.max_le.2 ⟨hlx,hly⟩⟩
 obtain ⟨m',hm4⟩ : ∃ m',m' = max xs.length ys.length:=⟨_,rfl⟩
 clear hd hd2 hs hs2 hN hM m hm1 hm2 hm3
 have hm1 : xs.length ≤ m':=by rw [hm4];exact Nat.le_max_left _ _
 have hm2 : ys.length ≤ m':=by rw [hm4];exact Nat.le_max_right _ _
 have hm3 : m' ≤ 1000:=by rw [hm4];exact Nat.max_le.2 ⟨hlx,hly⟩
 clear hm4
 go_enter Tryz.func151,Tryz.ntmps151
 go_wp2_with fail
 go_loopg [5,6,7] (m' + 1) (fun k out cv i wr=>∃ (n : Nat) (cc : Int) (ds : List Int),k + n = m' + 1 ∧ i = .int .i64 n ∧ cv = .int .i64 cc ∧ 0 ≤ cc ∧ cc ≤ 1 ∧ (n ≤ m' ∨ cc = 0) ∧
  wr.ownsRow w.heap.size 3 1 out ds.length (ds.map (Value.int .i64)) ∧ ds.length = n ∧ Digs ds ∧ dval ds + 10 ^ n * cc = dval (xs.take n) + dval (ys.take n) ∧ Below w.heap.size w wr)
 case atStart =>
  exact ⟨0,0,[],by omega,rfl,rfl,by decide,by decide,.inl (by omega),World.ownsRow_nil _ _ _ _,rfl,Digs.nil,by simp [dval],Below.refl _ _⟩
 case round =>
  obtain ⟨n,cc,ds,hk,rfl,rfl,hc0,hc1,hnm,hown,hdl,hdd,hval,hbel⟩:=hrel
  have HK:=Lib.hid hk
  have HL:=Lib.hid hdl
  have HDD:=Lib.hid hdd
  have HV:=Lib.hid hval
  have HNM:=Lib.hid hnm
  have hn : n ≤ m' + 1:=by omega
  have hwr:=hbel.size
  clear hk hdl hdd hval hnm
  obtain ⟨p,hp⟩ : ∃ p,p = xs.getD n 0:=⟨_,rfl⟩
  obtain ⟨q,hq⟩ : ∃ q,q = ys.getD n 0:=⟨_,rfl⟩
  have hpb:=HX.out.get n
  have hqb:=HY.out.get n
  rw [← hp] at hpb
  rw [← hq] at hqb
  obtain ⟨p0,p9⟩:=hpb
  obtain ⟨q0,q9⟩:=hqb
  have HA:=Lib.hid hp
  have HB:=Lib.hid hq
  by_cases h1 : n < xs.length
  ·obtain ⟨g,o,rfl,hg,hcell⟩:=HS.out.at_ h1
   have hcella:=(hbel.cell (p:=⟨g,o + n,none⟩) hg).trans hcell
   rw [← hp] at hcella
   by_cases h2 : n < ys.length
   ·obtain ⟨g2,o2,rfl,hg2,hcell2⟩:=HT.out.at_ h2
    have hcellb:=(hbel.cell (p:=⟨g2,o2 + n,none⟩) hg2).trans hcell2
    rw [← hq] at hcellb
    clear hp hq hcell hcell2
    go_wp2_with (at_builtin;refine wpList_push rfl (.tmp 46) (.tmp 49) rfl w.heap.size u5 ds rfl (hown.alloc _) wr.heap.size ((cc + p + q) % 10) rfl ?hc ?hl ?hb ?_;rotate_left 3;intro v1 w1 hown1 hg1)
    case hc=>simp [go_sem]
    case hl=>have:=HL.out;omega
    case hb=>go_size
    go_roundg (gk - 1)
    case measure=>have:=HK.out;omega
    case rel =>
     refine ⟨n + 1,(cc + p + q) / 10,ds ++ [(cc + p + q) % 10],by have:=HK.out;omega,by go_num,rfl,by omega,by omega,.inl (by omega),hown1,by rw [List.length_append,HL.out];rfl,HDD.out.snoc (by omega) (by omega), ?_,below_push (hbel.alloc (by go_size) _) (hown.alloc _) hg1 (by go_size)⟩
     exact plus_step ds cc ((cc + p + q)) n xs ys HV.out (by have h1:=HA.out;have h2:=HB.out;omega) HL.out
   ·have HQ : Hid (q = 0):=Lib.hid (by rw [hq];exact getD_past ys n (by omega))
    clear hp hq hcell
    go_wp2_with (at_builtin;refine wpList_push rfl (.tmp 46) (.tmp 49) rfl w.heap.size u5 ds rfl (hown.alloc _) wr.heap.size ((cc + p) % 10) rfl ?hc ?hl ?hb ?_;rotate_left 3;intro v1 w1 hown1 hg1)
    case hc=>simp [go_sem]
    case hl=>have:=HL.out;omega
    case hb=>go_size
    go_roundg (gk - 1)
    case measure=>have:=HK.out;omega
    case rel =>
     refine ⟨n + 1,(cc + p) / 10,ds ++ [(cc + p) % 10],by have:=HK.out;omega,by go_num,rfl,by omega,by omega,.inl (by omega),hown1,by rw [List.length_append,HL.out];rfl,HDD.out.snoc (by omega) (by omega), ?_,below_push (hbel.alloc (by go_size) _) (hown.alloc _) hg1 (by go_size)⟩
     exact plus_step ds cc ((cc + p)) n xs ys HV.out (by have h1:=HA.out;have h2:=HB.out;have h3:=HQ.out;omega) HL.out
  ·have HP : Hid (p = 0):=Lib.hid (by rw [hp];exact getD_past xs n (by omega))
   by_cases h2 : n < ys.length
   ·obtain ⟨g2,o2,rfl,hg2,hcell2⟩:=HT.out.at_ h2
    have hcellb:=(hbel.cell (p:=⟨g2,o2 + n,none⟩) hg2).trans hcell2
    rw [← hq] at hcellb
    clear hp hq hcell2
    go_wp2_with (at_builtin;refine wpList_push rfl (.tmp 46) (.tmp 49) rfl w.heap.size u5 ds rfl (hown.alloc _) wr.heap.size ((cc + q) % 10) rfl ?hc ?hl ?hb ?_;rotate_left 3;intro v1 w1 hown1 hg1)
    case hc=>simp [go_sem]
    case hl=>have:=HL.out;omega
    case hb=>go_size
    go_roundg (gk - 1)
    case measure=>have:=HK.out;omega
    case rel =>
     refine ⟨n + 1,(cc + q) / 10,ds ++ [(cc + q) % 10],by have:=HK.out;omega,by go_num,rfl,by omega,by omega,.inl (by omega),hown1,by rw [List.length_append,HL.out];rfl,HDD.out.snoc (by omega) (by omega), ?_,below_push (hbel.alloc (by go_size) _) (hown.alloc _) hg1 (by go_size)⟩
     exact plus_step ds cc ((cc + q)) n xs ys HV.out (by have h1:=HA.out;have h2:=HB.out;have h3:=HP.out;omega) HL.out
   ·have HQ : Hid (q = 0):=Lib.hid (by rw [hq];exact getD_past ys n (by omega))
    clear hp hq
    have hcc : cc = 0 ∨ cc = 1:=by omega
    rcases hcc with rfl | rfl
    ·go_wp2_with fail
     refine (cut_any ds _ _ (IsSl.of_own hown) HDD.out (by have:=HL.out;omega)).mono ?_
     rintro _ w2 ⟨v2,rfl,hdg,hb2⟩
     have HD:=Lib.hid hdg
     clear hdg
     go_wp2_with fail
     go_ret
     refine ⟨v2,rfl, ?_,by (repeat' first|(with_reducible first|exact blR _ _|assumption|refine blD ?_|refine blN ?_ _)|((with_reducible first|refine blA ?_ ?_ _|refine blS ?_ ?_ _|refine blT (by assumption) ?_ ?_);focus (go_size;done)))⟩
     have e:=HV.out
     rw [List.take_of_length_le (by omega),List.take_of_length_le (by omega),HX.out.2.2,HY.out.2.2] at e
     have e2 : (dval ds).toNat = N + M:=by omega
     rw [← e2]
     exact HD.out
    ·have hnm : n = m' ∨ n < m':=by have:=HNM.out;omega
     go_wp2_with (at_builtin;refine wpList_push rfl (.tmp 46) (.tmp 49) rfl w.heap.size u5 ds rfl (hown.alloc _) wr.heap.size 1 rfl ?hc ?hl ?hb ?_;rotate_left 3;intro v1 w1 hown1 hg1)
     case hc=>simp [go_sem]
     case hl=>have:=HL.out;omega
     case hb=>go_size
     go_roundg (gk - 1)
     case measure=>have:=HK.out;omega
     case rel =>
      refine ⟨n + 1,0,ds ++ [1],by have:=HK.out;omega,by go_num,rfl,by decide,by decide,.inr rfl,hown1,by rw [List.length_append,HL.out];rfl,HDD.out.snoc (by decide) (by decide), ?_,below_push (hbel.alloc (by go_size) _) (hown.alloc _) hg1 (by go_size)⟩
      exact plus_step ds 1 1 n xs ys HV.out (by have h1:=HA.out;have h2:=HB.out;have h3:=HQ.out;have h4:=HP.out;omega) HL.out
end Go.Proofs.YtkjecoanlppeaaaGreatDoor



namespace Go.Proofs.YtkjecoanlppeaaaGreatDoor
open Go.RowKit

theorem own_bk {w : World} {base : Nat} {v : Value} {xs : List Int} (h : w.ownsRow base 3 1 v xs.length (xs.map (Value.int .i64))) (hne : xs ≠ []) :
  ∃ g cap rest,v = .slice (some ⟨g,0,none⟩) xs.length cap ∧ base ≤ g ∧ Bk w g 3 (xs.map (Value.int .i64) ++ rest) ∧ xs.length ≤ cap:=by
 rcases h.2 with ⟨_,hn⟩ | ⟨g,cap,cur,rfl,hg,hh,r1,r2,r3,r4⟩
 ·exact absurd (List.length_eq_zero_iff.1 hn) hne
 ·refine ⟨g,cap,cur.toList.drop xs.length,rfl,hg, ?_,r1⟩
  unfold Bk
  rw [Nat.mul_one] at r4
  rw [← r4,List.take_append_drop]
  simpa using hh
theorem bk_at {w : World} {g : Nat} {zs : List Int} {rest : List Value} (h : Bk w g 3 (zs.map (Value.int .i64) ++ rest)) {k : Nat} (hk : k < zs.length) : w.cell? ⟨g,k,none⟩ = some (.int .i64 (zs.getD k 0)):=by
 refine h.cell _ ?_
 rw [List.getElem?_append_left (by simpa using hk),List.getElem?_map,List.getElem?_eq_getElem hk,getD_lt _ _ hk];rfl
theorem bk_set {w : World} {g : Nat} {zs : List Int} {rest : List Value} (h : Bk w g 3 (zs.map (Value.int .i64) ++ rest)) {k : Nat} (hk : k < zs.length) (x : Int) : Bk (w.setCell ⟨g,k,none⟩ (.int .i64 x)) g 3 ((zs.set k x).map (Value.int .i64) ++ rest):=by
 have:=h.set_ k (.int .i64 x)
 rwa [List.set_append_left _ _ (by simpa using hk),← List.map_set] at this
theorem IsSl.of_bk2 {w : World} {g : Nat} {ds : List Int} {rest : List Value} {n c : Nat} (h : Bk w g 3 (ds.map (Value.int .i64) ++ rest)) (hn : ds.length = n) (hc : n ≤ c) : IsSl w (.slice (some ⟨g,0,none⟩) n c) ds:=by
 subst hn
 refine ⟨_,c,rfl,hc,fun hne=>⟨g,0,_,rfl,h,fun j hj=>?_⟩⟩
 rw [Nat.zero_add,List.getElem?_append_left (by simpa using hj),List.getElem?_map,List.getElem?_eq_getElem hj,getD_lt _ _ hj];rfl
theorem getD_set (l : List Int) (k j : Nat) (x : Int) (hk : k < l.length) : (l.set k x).getD j 0 = if j = k then x else l.getD j 0:=by
 rw [List.getD_eq_getElem?_getD,List.getElem?_set]
 by_cases h : j = k
 ·subst h;rw [if_pos rfl,if_pos rfl,if_pos hk];rfl
 ·rw [if_neg (fun e=>h e.symm),if_neg h,List.getD_eq_getElem?_getD]
theorem dval_set (l : List Int) (k : Nat) (x : Int) (hk : k < l.length) : dval (l.set k x) = dval l + 10 ^ k * (x - l.getD k 0):=by
 have a:=dval_append (l.take k) (l.drop k)
 rw [List.take_append_drop,List.length_take,Nat.min_eq_left (by omega),dval_drop l k hk] at a
 have b:=dval_append ((l.set k x).take k) ((l.set k x).drop k)
 rw [List.take_append_drop,List.length_take,List.length_set,Nat.min_eq_left (by omega),drop_set _ _ _ hk,List.take_set_of_le (by omega)] at b
 rw [a,b]
 show _ + 10 ^ k * (x + 10 * dval (l.drop (k + 1))) = _
 rw [Int.mul_add,Int.mul_add,Int.mul_sub]
 omega
theorem len_mono {xs ys : List Int} {n m : Nat} (hx : IsDg xs n) (hy : IsDg ys m) (h : m ≤ n) : ys.length ≤ xs.length:=by
 rcases Nat.lt_or_ge xs.length ys.length with hlt | hge
 ·have:=cmp_long hx hy hlt;omega
 ·exact hge
theorem digs_end (zs : List Int) (L : Nat) (hL : zs.length = L + 1) (h0 : ∀ j,j < L → 0 ≤ zs.getD j 0) (h9 : ∀ j,zs.getD j 0 ≤ 9) (hv : 0 ≤ dval zs) : Digs zs:=by
 have hd : Digs (zs.take L):=by
  intro d hd
  obtain ⟨i,hi,rfl⟩:=List.getElem_of_mem hd
  rw [List.length_take] at hi
  rw [List.getElem_take,← getD_lt _ _ (by omega)]
  exact ⟨h0 i (by omega),h9 i⟩
 have e:=dval_take_succ zs L (by omega)
 rw [List.take_of_length_le (by omega)] at e
 have hb:=dval_bd hd
 rw [List.length_take,Nat.min_eq_left (by omega)] at hb
 have htop : 0 ≤ zs.getD L 0:=by
  rcases Int.lt_or_le (zs.getD L 0) 0 with hlt | hge
  ·have hm : (10 : Int) ^ L * zs.getD L 0 ≤ 10 ^ L * (-1):=Int.mul_le_mul_of_nonneg_left (by omega) (Int.le_of_lt (ten_pos L))
   omega
  ·exact hge
 intro d hd'
 obtain ⟨i,hi,rfl⟩:=List.getElem_of_mem hd'
 rw [← getD_lt _ _ hi]
 by_cases hi2 : i < L
 ·exact ⟨h0 i hi2,h9 i⟩
 ·have : i = L:=by omega
  subst this
  exact ⟨htop,h9 i⟩
end Go.Proofs.YtkjecoanlppeaaaGreatDoor



namespace Go.Proofs.YtkjecoanlppeaaaGreatDoor
open Go.RowKit

theorem empty_own (w : World) : (w.alloc (.cells #[] 3)).ownsRow w.heap.size 3 1 (.slice (some ⟨w.heap.size,0,none⟩) 0 0) ([] : List Int).length (([] : List Int).map (Value.int .i64)) :=
 World.ownsRow_made w #[] 0 (Nat.le_refl _) (by unfold maxLen;omega) (by simp)
def RetNew (n : Nat) (w : World) (e : Ending) (w' : World) : Prop:=∃ v,e = .returned v ∧ New w.heap.size v ∧ Dg w' v n ∧ Below w.heap.size w w'
set_option maxHeartbeats 4000000 in
theorem rless_new (N M : Nat) (hle : M ≤ N) (u v : Value) (w : World) (hu : Dg w u N) (hv : Dg w v M) (hN : Small N) (hM : Small M) :
  Calls Tryz.prog 153 #[u,v] w (RetNew (N - M) w):=by
 obtain ⟨xs,⟨A,c,rfl,hc,hs⟩,hd⟩:=hu
 obtain ⟨ys,⟨B,d,rfl,hc2,hs2⟩,hd2⟩:=hv
 have hlx:=pow_big hN hd
 have hly:=len_mono hd hd2 hle
 have HX:=Lib.hid hd
 have HY:=Lib.hid hd2
 have HS:=Lib.hid hs
 have HT:=Lib.hid hs2
 have HLE:=Lib.hid hle
 clear hd hd2 hs hs2 hN hM hle
 go_enter Tryz.func153,Tryz.ntmps153
 go_wp2_with (at_builtin;refine wpList_join rfl (.tmp 8) (.tmp 9) rfl w.heap.size (.slice (some ⟨w.heap.size,0,none⟩) 0 0) [] rfl (empty_own w) A c xs rfl ?hs ?hl ?hb ?_;rotate_left 3;intro v1 w1 hown1 hg1)
 case hs=>exact HS.out.below (by (repeat' first|(with_reducible first|exact blR _ _|assumption|refine blD ?_|refine blN ?_ _)|((with_reducible first|refine blA ?_ ?_ _|refine blS ?_ ?_ _|refine blT (by assumption) ?_ ?_);focus (go_size;done))))
 case hl=>simp;omega
 case hb=>go_size
 have hbel1 : Below w.heap.size w w1:=below_push ((Below.refl _ _).alloc (Nat.le_refl _) _) (empty_own w) hg1 (by go_size)
 clear hg1
 rw [List.nil_append] at hown1
 by_cases hx : xs = []
 ·subst hx
  have hy : ys = []:=List.length_eq_zero_iff.1 (by simpa using hly)
  subst hy
  have h1:=HX.out.zero_iff.1 rfl
  have hnew:=New.own hown1
  have hsl:=IsSl.of_own hown1
  obtain ⟨A1,c1,rfl,hc1,hs1⟩:=hsl
  have HNW:=Lib.hid hnew
  clear hnew
  have HS1:=Lib.hid hs1
  refine wp_loop_rounds 1 ?_
  rw [rounds_succ]
  go_wp2_with fail
  refine wp_loop_rounds 1 ?_
  rw [rounds_succ]
  go_wp2_with fail
  refine (cut_at [] A1 c1 _ hc1 HS1.out Digs.nil (by simp)).mono ?_
  rintro _ w2 ⟨k2,c2,rfl,hdg,hb2⟩
  have HD:=Lib.hid hdg
  have hbs:=hbel1.size
  clear hdg
  go_wp2_with fail
  go_ret
  refine ⟨_,rfl,HNW.out.same _ _, ?_,by (repeat' first|(with_reducible first|exact blR _ _|assumption|refine blD ?_|refine blN ?_ _)|((with_reducible first|refine blA ?_ ?_ _|refine blS ?_ ?_ _|refine blT (by assumption) ?_ ?_);focus (go_size;done)))⟩
  have e : N - M = (dval []).toNat:=by rw [h1,Nat.zero_sub];rfl
  rw [e]
  exact HD.out
 ·obtain ⟨g,cap,rest,rfl,hg,hbk,hcap⟩:=own_bk hown1 hx
  have HB:=Lib.hid hbk
  have hglt:=hbk.lt
  have hpos : 0 < xs.length:=List.length_pos_iff.2 hx
  clear hown1 hbk hx
  go_loopg [6] ys.length (fun k i wr=>∃ (n : Nat) (zs : List Int),k + n = ys.length ∧ i = .int .i64 n ∧ zs.length = xs.length ∧ Bk wr g 3 (zs.map (Value.int .i64) ++ rest) ∧
   (∀ j,-9 ≤ zs.getD j 0 ∧ zs.getD j 0 ≤ 9) ∧ zs.drop n = xs.drop n ∧ dval zs = dval xs - dval (ys.take n) ∧ w1.heap.size ≤ wr.heap.size ∧ Below w.heap.size w wr)
  case atStart =>
   refine ⟨0,xs,by omega,rfl,rfl,HB.out,fun j=>?_,rfl,by simp [dval],Nat.le_refl _,hbel1⟩
   have:=HX.out.get j
   omega
  case round =>
   obtain ⟨n,zs,hk,rfl,hzl,hbk,hbd,hdr,hval,hsz,hbel⟩:=hrel
   have HK:=Lib.hid hk
   have HZ:=Lib.hid hzl
   have HB2:=Lib.hid hbk
   have HBD:=Lib.hid hbd
   have HDR:=Lib.hid hdr
   have HV:=Lib.hid hval
   have hn : n ≤ ys.length:=by omega
   clear hk hzl hbk hbd hdr hval
   by_cases hlt : n < ys.length
   ·obtain ⟨g2,o2,rfl,hg2,hcell⟩:=HT.out.at_ hlt
    have hcell2:=(hbel.cell (p:=⟨g2,o2 + n,none⟩) hg2).trans hcell
    have hnz : n < zs.length:=by have:=HZ.out;omega
    have hcz:=bk_at HB2.out hnz
    have hfz:=HB2.out.frozen n
    have hzx : zs.getD n 0 = xs.getD n 0:=by
     have e:=HDR.out
     rw [List.drop_eq_getElem_cons hnz,List.drop_eq_getElem_cons (l:=xs) (by omega)] at e
     injection e with e _
     rw [getD_lt _ _ hnz,getD_lt _ _ (by omega),e]
    obtain ⟨p,hp⟩ : ∃ p,p = zs.getD n 0:=⟨_,rfl⟩
    obtain ⟨q,hq⟩ : ∃ q,q = ys.getD n 0:=⟨_,rfl⟩
    have hpb:=HX.out.get n
    have hqb:=HY.out.get n
    rw [← hzx,← hp] at hpb
    rw [← hq] at hqb
    rw [← hp] at hcz
    rw [← hq] at hcell2
    obtain ⟨p0,p9⟩:=hpb
    obtain ⟨q0,q9⟩:=hqb
    have HP:=Lib.hid hp
    have HQ:=Lib.hid hq
    have n0 : (0 : Int) ≤ (n : Int):=by omega
    have n1 : (n : Int) < (xs.length : Int):=by omega
    have n2 : (n : Int) < (ys.length : Int):=by omega
    clear hp hq hcell hzx hnz
    go_wp2_with fail
    go_region
    go_wp2_with fail
    go_roundg (gk - 1)
    case measure=>have:=HK.out;omega
    case rel =>
     have hnz : n < zs.length:=by have:=HZ.out;omega
     refine ⟨n + 1,zs.set n (p - q),by have:=HK.out;omega,by go_num,by rw [List.length_set];exact HZ.out,(bk_set HB2.out hnz _).drew, ?_, ?_, ?_,by go_size,by (repeat' first|(with_reducible first|exact blR _ _|assumption|refine blD ?_|refine blN ?_ _)|((with_reducible first|refine blA ?_ ?_ _|refine blS ?_ ?_ _|refine blT (by assumption) ?_ ?_);focus (go_size;done)))⟩
     ·intro j
      rw [getD_set _ _ _ _ hnz]
      split
      ·omega
      ·exact HBD.out j
     ·rw [List.drop_set_of_lt (by omega)]
      have e:=HDR.out
      rw [List.drop_eq_getElem_cons hnz,List.drop_eq_getElem_cons (l:=xs) (by have:=HZ.out;omega)] at e
      injection e
     ·rw [dval_set _ _ _ hnz,dval_take_any,← HP.out,← HQ.out,HV.out]
      have e : (10 : Int) ^ n * (p - q - p) = - (10 ^ n * q):=by rw [show p - q - p = -q by omega,Int.mul_neg]
      omega
   ·obtain rfl : n = ys.length:=by omega
    go_wp2_with fail
    obtain ⟨wo,hwo⟩ : ∃ wo : World,wo = wr:=⟨_,rfl⟩
    go_loopg [7] (xs.length - 1) (fun k i wr=>∃ (n : Nat) (zs : List Int),k + n = xs.length - 1 ∧ i = .int .i64 n ∧ zs.length = xs.length ∧ Bk wr g 3 (zs.map (Value.int .i64) ++ rest) ∧
     (∀ j,zs.getD j 0 ≤ 9) ∧ (∀ j,j < n → 0 ≤ zs.getD j 0) ∧ -10 ≤ zs.getD n 0 ∧ (∀ j,n < j → -9 ≤ zs.getD j 0) ∧ dval zs = (N : Int) - M ∧ w1.heap.size ≤ wr.heap.size ∧ Below w.heap.size w wr)
    case atStart =>
     refine ⟨0,zs,by omega,rfl,HZ.out,HB2.out,fun j=>(HBD.out j).2,fun j hj=>absurd hj (by omega),by have:=HBD.out 0;omega,fun j _=>(HBD.out j).1, ?_,hsz,hbel⟩
     have:=HV.out
     rw [List.take_length,HX.out.2.2,HY.out.2.2] at this
     exact this
    case round =>
     obtain ⟨n,zs,hk,rfl,hzl,hbk,h9,h0,hm10,hm9,hval,hsz,hbel⟩:=hrel
     have HK:=Lib.hid hk
     have HZ:=Lib.hid hzl
     have HB2:=Lib.hid hbk
     have H9:=Lib.hid h9
     have H0:=Lib.hid h0
     have HM9:=Lib.hid hm9
     have HV:=Lib.hid hval
     have hn : n ≤ xs.length - 1:=by omega
     clear hk hzl hbk h9 h0 hm9 hval
     by_cases hlt : n + 1 < xs.length
     ·have hnz : n < zs.length:=by have:=HZ.out;omega
      have hnz2 : n + 1 < zs.length:=by have:=HZ.out;omega
      have hcz:=bk_at HB2.out hnz
      have hcz2:=bk_at HB2.out hnz2
      have hfz:=HB2.out.frozen n
      have hfz2:=HB2.out.frozen (n + 1)
      obtain ⟨p,hp⟩ : ∃ p,p = zs.getD n 0:=⟨_,rfl⟩
      obtain ⟨q,hq⟩ : ∃ q,q = zs.getD (n + 1) 0:=⟨_,rfl⟩
      have p9:=H9.out n
      have q9:=H9.out (n + 1)
      have qm:=HM9.out (n + 1) (by omega)
      rw [← hp] at hcz p9 hm10
      rw [← hq] at hcz2 q9 qm
      have HP:=Lib.hid hp
      have HQ:=Lib.hid hq
      have n0 : (0 : Int) ≤ (n : Int):=by omega
      have n1 : (n : Int) < (xs.length : Int):=by omega
      have n2 : (n : Int) + 1 < (xs.length : Int):=by omega
      clear hp hq hnz hnz2
      by_cases hneg : p < 0
      ·go_wp2_with fail
       go_roundg (gk - 1)
       case measure=>have:=HK.out;omega
       case rel =>
        have hnz : n < zs.length:=by have:=HZ.out;omega
        have hnz2 : n + 1 < zs.length:=by have:=HZ.out;omega
        have hnz3 : n + 1 < (zs.set n (p + 10)).length:=by rw [List.length_set];exact hnz2
        refine ⟨n + 1,(zs.set n (p + 10)).set (n + 1) (q - 1),by have:=HK.out;omega,by go_num,by rw [List.length_set,List.length_set];exact HZ.out,bk_set (bk_set HB2.out hnz _) hnz3 _, ?_, ?_, ?_, ?_, ?_,by go_size,by (repeat' first|(with_reducible first|exact blR _ _|assumption|refine blD ?_|refine blN ?_ _)|((with_reducible first|refine blA ?_ ?_ _|refine blS ?_ ?_ _|refine blT (by assumption) ?_ ?_);focus (go_size;done)))⟩
        ·intro j
         rw [getD_set _ _ _ _ hnz3,getD_set _ _ _ _ hnz]
         split
         ·omega
         ·split
          ·omega
          ·exact H9.out j
        ·intro j hj
         rw [getD_set _ _ _ _ hnz3,getD_set _ _ _ _ hnz,if_neg (by omega)]
         split
         ·omega
         ·exact H0.out j (by omega)
        ·rw [getD_set _ _ _ _ hnz3,if_pos rfl];omega
        ·intro j hj
         rw [getD_set _ _ _ _ hnz3,getD_set _ _ _ _ hnz,if_neg (by omega),if_neg (by omega)]
         exact HM9.out j (by omega)
        ·rw [dval_set _ _ _ hnz3,dval_set _ _ _ hnz,getD_set _ _ _ _ hnz,if_neg (by omega),← HP.out,← HQ.out,HV.out,Int.pow_succ]
         have e1 : (10 : Int) ^ n * (p + 10 - p) = 10 ^ n * 10:=by rw [show p + 10 - p = 10 by omega]
         have e2 : (10 : Int) ^ n * 10 * (q - 1 - q) = - (10 ^ n * 10):=by rw [show q - 1 - q = -1 by omega,Int.mul_neg,Int.mul_one]
         omega
      ·go_wp2_with fail
       go_roundg (gk - 1)
       case measure=>have:=HK.out;omega
       case rel =>
        refine ⟨n + 1,zs,by have:=HK.out;omega,by go_num,HZ.out,HB2.out,H9.out, ?_,by rw [← HQ.out];omega,fun j hj=>HM9.out j (by omega),HV.out,hsz,hbel⟩
        intro j hj
        by_cases hj2 : j = n
        ·rw [hj2,← HP.out];omega
        ·exact H0.out j (by omega)
     ·have hn2 : n = xs.length - 1:=by omega
      have hle:=HLE.out
      have hdig : Digs zs:=digs_end zs n (by have:=HZ.out;omega) H0.out H9.out (by rw [HV.out];omega)
      have hnn : ¬ (n : Int) + 1 < (xs.length : Int):=by omega
      have HD:=Lib.hid hdig
      clear hdig hn2 hle
      go_wp2_with fail
      refine (cut_is zs (some ⟨g,0,none⟩) _ _ _ (IsSl.of_bk2 HB2.out HZ.out hcap) HD.out (by have:=HZ.out;omega)).mono ?_
      rintro _ w2 ⟨k2,c2,rfl,hdg,hb2⟩
      have HDG:=Lib.hid hdg
      clear hdg
      go_wp2_with fail
      go_ret
      refine ⟨_,rfl,New.at_ hg _ _ _ _, ?_,by (repeat' first|(with_reducible first|exact blR _ _|assumption|refine blD ?_|refine blN ?_ _)|((with_reducible first|refine blA ?_ ?_ _|refine blS ?_ ?_ _|refine blT (by assumption) ?_ ?_);focus (go_size;done)))⟩
      have e : N - M = (dval zs).toNat:=by rw [HV.out];omega
      rw [e]
      exact HDG.out
theorem rless_any (N M : Nat) (hle : M ≤ N) (u v : Value) (w : World) (hu : Dg w u N) (hv : Dg w v M) (hN : Small N) (hM : Small M) :
  Calls Tryz.prog 153 #[u,v] w (RetDg (N - M) w) :=
 (rless_new N M hle u v w hu hv hN hM).mono fun e w' ⟨v,he,_,hdg,hb⟩=>⟨v,he,hdg,hb⟩
end Go.Proofs.YtkjecoanlppeaaaGreatDoor



namespace Go.Proofs.YtkjecoanlppeaaaGreatDoor
open Go.RowKit

theorem quo_head {xs : List Int} {N : Nat} (h : IsDg xs N) (k : Nat) (hk : k < xs.length) : N / 10 ^ k = 10 * (N / 10 ^ (k + 1)) + (xs.getD k 0).toNat:=by
 have hd:=dval_digit h.1 k hk
 have hg:=h.get k
 rw [h.2.2] at hd
 have e : ((N / 10 ^ k % 10 : Nat) : Int) = xs.getD k 0:=by
  rw [hd,Int.natCast_emod,Int.natCast_ediv,Int.natCast_pow];rfl
 have e2 : (xs.getD k 0).toNat = N / 10 ^ k % 10:=by rw [← e];rfl
 rw [e2,Nat.pow_succ,← Nat.div_div_eq_div_mul]
 omega
theorem quo_top {xs : List Int} {N : Nat} (h : IsDg xs N) : N / 10 ^ xs.length = 0:=Nat.div_eq_of_lt (h.lt_of_len (Nat.le_refl _))
theorem quo_step (P M d t r : Nat) (hM : 0 < M) (hr : r < M) (h : 10 * (P % M) + d = t * M + r) : (10 * P + d) / M = 10 * (P / M) + t ∧ (10 * P + d) % M = r:=by
 have e : 10 * P + d = r + M * (10 * (P / M) + t):=by
  have h1:=Nat.div_add_mod P M
  rw [Nat.mul_add,Nat.mul_comm M t,Nat.mul_left_comm]
  omega
 rw [e,Nat.add_mul_div_left _ _ hM,Nat.div_eq_of_lt hr,Nat.zero_add,Nat.add_mul_mod_self_left,Nat.mod_eq_of_lt hr]
 exact ⟨rfl,rfl⟩
theorem cons_dg {l : List Int} {n : Nat} (h : IsDg l n) (d : Int) (h0 : 0 ≤ d) (h9 : d ≤ 9) : Digs (d :: l) ∧ dval (d :: l) = ((10 * n + d.toNat : Nat) : Int):=by
 refine ⟨fun x hx=>?_, ?_⟩
 ·rcases List.mem_cons.1 hx with rfl | hx
  ·exact ⟨h0,h9⟩
  ·exact h.1 x hx
 ·simp only [dval,h.2.2];omega
theorem below_trans_drewN {w w' : World} {n : Nat} (h : Below (w.drewN n).heap.size (w.drewN n) w') : Below w.heap.size w w':=(below_drewN (Below.refl _ w) n).trans h
def RetTwo (n m : Nat) (w : World) (e : Ending) (w' : World) : Prop:=∃ u v,e = .returned (.tuple #[u,v]) ∧ Dg w' u n ∧ Dg w' v m ∧ Below w.heap.size w w'
theorem own_of_bk1 {w : World} {g B : Nat} {d : Int} (hg : B ≤ g) (h : Bk w g 3 [.int .i64 d]) : w.ownsRow B 3 1 (.slice (some ⟨g,0,none⟩) 1 1) ([d] : List Int).length (([d] : List Int).map (Value.int .i64)):=by
 refine ⟨by simp,.inr ⟨g,1,#[.int .i64 d],by simp,hg,h,by simp,by unfold maxLen;omega,by simp,by simp⟩⟩
set_option maxHeartbeats 4000000 in
theorem quo_any (N M : Nat) (hM : 0 < M) (u v : Value) (w : World) (hu : Dg w u N) (hv : Dg w v M) (hN : Small N) (hMs : Small M) :
  Calls Tryz.prog 165 #[u,v] w (RetTwo (N / M) (N % M) w):=by
 obtain ⟨xs,⟨A,c,rfl,hc,hs⟩,hd⟩:=hu
 have hlen:=pow_big hN hd
 have HD:=Lib.hid hd
 have HS:=Lib.hid hs
 have HV:=Lib.hid hv
 have HN:=Lib.hid hN
 have HM:=Lib.hid hMs
 have HP:=Lib.hid hM
 have hmk:=fun W=>make_ints xs.length (by omega) W
 clear hd hs hN hv hMs hM
 go_enter Tryz.func165,Tryz.ntmps165
 go_wp2_with fail
 clear hmk
 go_loopg [7,8] xs.length (fun k l i wr=>∃ (ds : List Int),k ≤ xs.length ∧ i = .int .i64 ((k : Int) - 1) ∧ Dg wr l (N / 10 ^ k % M) ∧ New (w.heap.size + 1) l ∧
  Bk wr w.heap.size 3 (ds.map (Value.int .i64)) ∧ ds.length = xs.length ∧ Digs ds ∧ (∀ j,j < k → ds.getD j 0 = 0) ∧ dval (ds.drop k) = ((N / 10 ^ k / M : Nat) : Int) ∧ w.heap.size < wr.heap.size ∧ Below w.heap.size w wr)
 case atStart =>
  refine ⟨List.replicate xs.length 0,Nat.le_refl _,rfl,⟨[],⟨none,0,rfl,Nat.le_refl _,fun h=>absurd rfl h⟩, ?_⟩,New.nil _ _ _,Bk.new_ rfl,by simp,Digs.zeros _, ?_, ?_,by go_size,by (repeat' first|(with_reducible first|exact blR _ _|assumption|refine blD ?_|refine blN ?_ _)|((with_reducible first|refine blA ?_ ?_ _|refine blS ?_ ?_ _|refine blT (by assumption) ?_ ?_);focus (go_size;done)))⟩
  ·rw [quo_top HD.out,Nat.zero_mod];exact IsDg.nil
  ·intro j hj
   rw [getD_lt _ _ (by simpa using hj)];simp
  ·rw [List.drop_of_length_le (by simp),quo_top HD.out,Nat.zero_div];rfl
 case round =>
  obtain ⟨ds,hk,rfl,hl,hnew,hbk,hdl,hdd,hz,hval,hsz,hbel⟩:=hrel
  have HB:=Lib.hid hbk
  have HL:=Lib.hid hdl
  have HDD:=Lib.hid hdd
  have HZ:=Lib.hid hz
  have HVL:=Lib.hid hval
  have HDL:=Lib.hid hl
  have HNW:=Lib.hid hnew
  clear hbk hdl hdd hz hval hl hnew
  by_cases h0 : gk = 0
  ·subst h0
   have hm : ¬ (0 : Int) ≤ ((0 : Nat) : Int) - 1:=by omega
   go_wp2_with fail
   refine (cut_any ds _ _ (IsSl.of_bk HB.out HL.out (Nat.le_refl _)) HDD.out (by rw [HL.out];omega)).mono ?_
   rintro _ w2 ⟨v2,rfl,hdg,hb2⟩
   have HDG:=Lib.hid hdg
   clear hdg
   go_wp2_with fail
   go_ret2
   have hv:=HVL.out
   rw [List.drop_zero,Nat.pow_zero,Nat.div_one] at hv
   have e1 : (dval ds).toNat = N / M:=by rw [hv];exact Int.toNat_natCast _
   have hdg:=HDG.out
   have hl:=HDL.out
   rw [e1] at hdg
   rw [Nat.pow_zero,Nat.div_one] at hl
   exact ⟨v2,_,rfl,hdg,hl.below (by (repeat' first|(with_reducible first|exact blR _ _|assumption|refine blD ?_|refine blN ?_ _)|((with_reducible first|refine blA ?_ ?_ _|refine blS ?_ ?_ _|refine blT (by assumption) ?_ ?_);focus (go_size;done)))),by (repeat' first|(with_reducible first|exact blR _ _|assumption|refine blD ?_|refine blN ?_ _)|((with_reducible first|refine blA ?_ ?_ _|refine blS ?_ ?_ _|refine blT (by assumption) ?_ ?_);focus (go_size;done)))⟩
  ·obtain ⟨m,rfl⟩ : ∃ m,gk = m + 1:=⟨gk - 1,by omega⟩
   obtain ⟨g,o,rfl,hg,hcell⟩:=HS.out.at_ (k:=m) (by omega)
   have hcell2:=(hbel.cell (p:=⟨g,o + m,none⟩) hg).trans hcell
   obtain ⟨d0,d9⟩:=HD.out.get m
   have hqh:=quo_head HD.out m (by omega)
   obtain ⟨d,hd⟩ : ∃ d,d = xs.getD m 0:=⟨_,rfl⟩
   rw [← hd] at hcell2 d0 d9 hqh
   obtain ⟨P,hP⟩ : ∃ P,P = N / 10 ^ (m + 1):=⟨_,rfl⟩
   rw [← hP] at hqh HDL HVL
   obtain ⟨ls,⟨A2,c2,rfl,hc2,hs2⟩,hld⟩:=HDL.out
   have hll:=pow_big (HN.out.of_le (Nat.le_trans (Nat.mod_le _ _) (by rw [hP];exact Nat.div_le_self _ _))) hld
   have HS2:=Lib.hid hs2
   have HLD:=Lib.hid hld
   have HQH:=Lib.hid hqh
   have HPP:=Lib.hid hP
   have hp : (0 : Int) < ((m + 1 : Nat) : Int):=by omega
   have hx : ((m + 1 : Nat) : Int) - 1 = (m : Int):=by omega
   have m0 : (0 : Int) ≤ (m : Int):=by omega
   have m1 : (m : Int) < (xs.length : Int):=by omega
   clear h0 hd hcell hqh hP hs2 hld
   go_wp2_with (at_builtin;refine wpList_join rfl (.tmp 23) (.tmp 24) rfl wr.heap.size (.slice (some ⟨wr.heap.size,0,none⟩) 1 1) [d] rfl (own_of_bk1 (Nat.le_refl _) (Bk.new_ rfl)) A2 c2 ls rfl ?hs ?hl ?hb ?_;rotate_left 3;intro v1 w1 hown1 hg1)
   case hs=>exact HS2.out.below (by (repeat' first|(with_reducible first|exact blR _ _|assumption|refine blD ?_|refine blN ?_ _)|((with_reducible first|refine blA ?_ ?_ _|refine blS ?_ ?_ _|refine blT (by assumption) ?_ ?_);focus (go_size;done))))
   case hl=>simp only [List.length_cons,List.length_nil];omega
   case hb=>go_size
   have hbel1 : Below wr.heap.size wr w1:=below_push ((Below.refl _ _).alloc (Nat.le_refl _) _) (own_of_bk1 (Nat.le_refl _) (Bk.new_ rfl)) hg1 (by go_size)
   have hnw1:=New.own hown1
   have hb1s:=hbel1.size
   obtain ⟨hcd,hcv⟩:=cons_dg HLD.out d d0 d9
   have hsl:=IsSl.of_own hown1
   obtain ⟨A1,c1,rfl,hc1,hs1⟩:=hsl
   have HNW1:=Lib.hid hnw1
   have HS1:=Lib.hid hs1
   have HCD:=Lib.hid hcd
   have HCV:=Lib.hid hcv
   clear hnw1 hs1 hcd hcv hown1 hg1
   go_wp2_with fail
   refine (cut_at ([d] ++ ls) A1 c1 _ hc1 HS1.out HCD.out (by simp only [List.length_append,List.length_cons,List.length_nil];omega)).mono ?_
   rintro _ w2 ⟨k2,c2',rfl,hdg2,hb2⟩
   have hb2s:=hb2.size
   obtain ⟨X,hX⟩ : ∃ X,X = 10 * (P % M) + d.toNat:=⟨_,rfl⟩
   have hdg2' : Dg w2 (.slice A1 k2 c2') X:=by
    have e : (dval ([d] ++ ls)).toNat = X:=by
     rw [show [d] ++ ls = d :: ls from rfl,HCV.out,hX];omega
    rw [← e];exact hdg2
   have hXM : X / M ≤ 9:=by
    have h1:=Nat.mod_lt P HP.out
    have h2 : X < M * 10:=by omega
    have:=Nat.div_lt_of_lt_mul h2
    omega
   have HDG2:=Lib.hid hdg2'
   have HX:=Lib.hid hX
   have hw2 : w.heap.size < w2.heap.size:=by omega
   have hbel2 : Below w.heap.size w w2:=by (repeat' first|(with_reducible first|exact blR _ _|assumption|refine blD ?_|refine blN ?_ _)|((with_reducible first|refine blA ?_ ?_ _|refine blS ?_ ?_ _|refine blT (by assumption) ?_ ?_);focus (go_size;done)))
   have hbk2 : Bk w2 w.heap.size 3 (ds.map (Value.int .i64)):=by
    have : Bk w1 w.heap.size 3 (ds.map (Value.int .i64)):=HB.out.below hbel1 hsz
    exact this.below hb2 (by omega)
   have HBK2:=Lib.hid hbk2
   clear hdg2 hdg2' hX hbk2
   have hnew2 : New (w.heap.size + 1) (.slice A1 k2 c2'):=(HNW1.out.same _ _).mono (by omega)
   have HN2:=Lib.hid hnew2
   clear hnew2
   go_wp2_with fail
   obtain ⟨wo,hwo⟩ : ∃ wo : World,wo = wr:=⟨_,rfl⟩
   clear hwo
   go_loopg [7] (X / M) (fun k l wr=>∃ (t : Nat),k + t = X / M ∧ Dg wr l (X - t * M) ∧ New (w.heap.size + 1) l ∧ Bk wr w.heap.size 3 ((ds.set m (t : Int)).map (Value.int .i64)) ∧ w.heap.size < wr.heap.size ∧ Below w.heap.size w wr)
   case atStart =>
    refine ⟨0,by omega,by rw [Nat.zero_mul];exact HDG2.out,HN2.out, ?_,hw2,hbel2⟩
    have e : ds.set m ((0 : Nat) : Int) = ds:=by
     have hz:=HZ.out m (by omega)
     have hl:=HL.out
     apply List.ext_getElem
     ·simp
     ·intro j h1 h2
      rw [List.getElem_set]
      split
      ·next e=>subst e;rw [← getD_lt _ _ h2,hz];rfl
      ·rfl
    rw [e];exact HBK2.out
   case round =>
    obtain ⟨t,hk2,hdl,hnl,hbki,hwi,hbeli⟩:=hrel
    have HK2:=Lib.hid hk2
    have HDL2:=Lib.hid hdl
    have HNL:=Lib.hid hnl
    have HBKI:=Lib.hid hbki
    have ht9 : t ≤ 9:=by omega
    have HSX : Hid (Small (X - t * M)):=Lib.hid (by
     intro _
     have h1:=HN.out trivial
     have h2 : X ≤ N:=by
      rw [HX.out]
      have h3:=HQH.out
      have h4 : 10 * (P % M) ≤ 10 * P:=Nat.mul_le_mul_left _ (Nat.mod_le _ _)
      have h5 : N / 10 ^ m ≤ N:=Nat.div_le_self _ _
      omega
     exact Nat.lt_of_le_of_lt (Nat.le_trans (Nat.sub_le _ _) h2) h1)
    have hdsl : m < ds.length:=by rw [HL.out];omega
    have hci : wr.cell? ⟨w.heap.size,m,none⟩ = some (.int .i64 (t : Int)):=by
     refine HBKI.out.cell _ ?_
     rw [List.getElem?_map,List.getElem?_set_self hdsl];rfl
    have HCI:=Lib.hid hci
    have HDSL:=Lib.hid hdsl
    clear hk2 hdl hnl hbki hci hdsl
    go_wp2_with fail
    refine (rcmp_any (X - t * M) M _ _ _ HDL2.out (HV.out.below hbeli) HSX.out HM.out).mono ?_
    rintro _ w3 ⟨rfl,nn,rfl⟩
    by_cases hge : M ≤ X - t * M
    ·have hcc : (0 : Int) ≤ cmpN (X - t * M) M:=by unfold cmpN;split;omega;split;omega;omega
     generalize cmpN (X - t * M) M = cc at *
     have HGE:=Lib.hid hge
     clear hge
     go_wp2_with fail
     refine (rless_new (X - t * M) M HGE.out _ _ _ (HDL2.out.drewN nn) ((HV.out.below hbeli).drewN nn) HSX.out HM.out).mono ?_
     rintro _ w4 ⟨v4,rfl,hnw4,hdg4,hb4⟩
     have hb4s : wr.heap.size ≤ w4.heap.size:=hb4.size
     have hb4' : Below wr.heap.size wr w4:=below_trans_drewN hb4
     have HNW4:=Lib.hid hnw4
     have HDG4:=Lib.hid hdg4
     have hc4 : w4.cell? ⟨w.heap.size,m,none⟩ = some (.int .i64 (t : Int)):=(hb4'.cell (p:=⟨w.heap.size,m,none⟩) hwi).trans HCI.out
     have hf4 : w4.frozen? ⟨w.heap.size,m,none⟩ = false:=(hb4'.frozen (p:=⟨w.heap.size,m,none⟩) hwi).trans (HBKI.out.frozen m)
     clear hnw4 hdg4 hb4
     go_wp2_with fail
     go_roundg (gk - 1)
     case measure =>
      have h1:=HK2.out
      have h2:=HGE.out
      have h3:=HP.out
      have h4 : (t + 1) * M ≤ X:=by rw [Nat.add_mul,Nat.one_mul];omega
      have h5:=(Nat.le_div_iff_mul_le h3).2 h4
      omega
     case rel =>
      have h1:=HK2.out
      have h2:=HGE.out
      have h3:=HP.out
      have h4 : (t + 1) * M ≤ X:=by rw [Nat.add_mul,Nat.one_mul];omega
      have h5:=(Nat.le_div_iff_mul_le h3).2 h4
      refine ⟨t + 1,by omega, ?_, ?_, ?_,by go_size, ?_⟩
      ·have h6:=HDG4.out
       rw [Nat.sub_sub,← Nat.succ_mul] at h6
       exact h6.away (HNW4.out.mono (Nat.le_refl _)) hwi _ _
      ·exact HNW4.out.mono hwi
      ·have h6:=(HBKI.out.below hb4' hwi).set_ m (.int .i64 ((t : Int) + 1))
       rw [← List.map_set,List.set_set] at h6
       exact h6
      ·exact (hbeli.trans (hb4'.mono (Nat.le_of_lt hwi))).setCell (Nat.le_refl _) _
    ·have hcc : ¬ (0 : Int) ≤ cmpN (X - t * M) M:=by unfold cmpN;split;omega;split;omega;omega
     generalize cmpN (X - t * M) M = cc at *
     have HGE:=Lib.hid hge
     clear hge
     go_wp2_with fail
     go_roundg m
     case measure=>omega
     case rel =>
      have h0 : X = t * M + (X - t * M):=by
       have h1 : t * M ≤ X:=by
        have h2:=HK2.out
        have h3 : t * M ≤ X / M * M:=Nat.mul_le_mul_right _ (by omega)
        have h4:=Nat.div_mul_le_self X M
        omega
       omega
      have hq:=quo_step P M d.toNat t (X - t * M) HP.out (by have:=HGE.out;omega) (by rw [← HX.out];exact h0)
      rw [← HQH.out] at hq
      obtain ⟨hq1,hq2⟩:=hq
      have hdsl:=HDSL.out
      refine ⟨ds.set m (t : Int),by omega,rfl, ?_,HNL.out,HBKI.out.drewN nn,by rw [List.length_set];exact HL.out,HDD.out.set_ m (by omega) (by omega), ?_, ?_,hwi,by (repeat' first|(with_reducible first|exact blR _ _|assumption|refine blD ?_|refine blN ?_ _)|((with_reducible first|refine blA ?_ ?_ _|refine blS ?_ ?_ _|refine blT (by assumption) ?_ ?_);focus (go_size;done)))⟩
      ·rw [hq2];exact HDL2.out.drewN nn
      ·intro j hj
       rw [getD_set _ _ _ _ hdsl,if_neg (by omega)]
       exact HZ.out j (by omega)
      ·rw [drop_set _ _ _ hdsl,hq1]
       have h5:=HVL.out
       show (t : Int) + 10 * dval (ds.drop (m + 1)) = _
       rw [h5]
       generalize P / M = Y
       omega
end Go.Proofs.YtkjecoanlppeaaaGreatDoor



namespace Go.Proofs.YtkjecoanlppeaaaGreatDoor
open Go.RowKit

theorem dg_one {w : World} {g : Nat} (h : Bk w g 3 [.int .i64 1]) : Dg w (.slice (some ⟨g,0,none⟩) 1 1) 1 :=
 ⟨[1],IsSl.of_bk (ds:=[1]) h rfl (Nat.le_refl _),IsDg.one⟩
theorem near_up (N M : Nat) (h : M < N % M + N % M ∨ (N % M + N % M = M ∧ N / M % 2 = 1)) : near N M = N / M + 1:=by
 unfold near;rw [if_pos (by omega)]
theorem near_stay (N M : Nat) (h : N % M + N % M < M ∨ (N % M + N % M = M ∧ N / M % 2 = 0)) : near N M = N / M:=by
 unfold near;rw [if_neg (by omega)];rfl
theorem dg_first {w : World} {v : Value} {n : Nat} (h : Dg w v n) (hn : n ≠ 0) : ∃ g o k c,v = .slice (some ⟨g,o,none⟩) (k + 1) c ∧ k + 1 ≤ c ∧ w.cell? ⟨g,o,none⟩ = some (.int .i64 ((n % 10 : Nat) : Int)) ∧ g < w.heap.size:=by
 obtain ⟨xs,⟨A,c,rfl,hc,hs⟩,hd⟩:=h
 have hz:=hd.zero_iff
 obtain ⟨k,hk⟩ : ∃ k,xs.length = k + 1:=⟨xs.length - 1,by omega⟩
 obtain ⟨g,o,rfl,hg,hcell⟩:=hs.at_ (k:=0) (by omega)
 refine ⟨g,o,k,c,by rw [hk],by omega, ?_,hg⟩
 rw [Nat.add_zero] at hcell
 rw [hcell,dval_digit hd.1 0 (by omega),hd.2.2,Int.pow_zero,Int.ediv_one]
 rfl
def Tiny (n : Nat) : Prop:=True → n < 10 ^ 999
theorem ten_lt (a b : Nat) (h : a < b) : (10 : Nat) ^ a < 10 ^ b:=Nat.pow_lt_pow_right (by decide) h
theorem one_lt_ten (a : Nat) (h : 0 < a) : 1 < (10 : Nat) ^ a:=Nat.one_lt_pow (by omega) (by decide)
theorem ten_next (a b : Nat) (h : b = a + 1) : (10 : Nat) ^ b = 10 * 10 ^ a:=by rw [h,Nat.pow_succ,Nat.mul_comm]
theorem small_add {n m : Nat} (hn : Tiny n) (hm : Tiny m) : Small (n + m):=by
 intro _
 have e:=ten_next 999 1000 rfl
 have h1:=hn trivial
 have h2:=hm trivial
 rw [e]
 generalize (10 : Nat) ^ 999 = T at *
 omega
theorem Tiny.of_le {n m : Nat} (h : Tiny n) (hm : m ≤ n) : Tiny m:=fun t=>Nat.lt_of_le_of_lt hm (h t)
theorem Tiny.small {n : Nat} (h : Tiny n) : Small n:=fun t=>Nat.lt_trans (h t) (ten_lt 999 1000 (by decide))
theorem near_le (N M : Nat) : near N M ≤ N + 1:=by
 unfold near
 have:=Nat.div_le_self N M
 split <;> omega
set_option maxHeartbeats 2000000 in
theorem near_any (N M : Nat) (hM : 0 < M) (u v : Value) (w : World) (hu : Dg w u N) (hv : Dg w v M) (hN : Tiny N) (hMs : Tiny M) :
  Calls Tryz.prog 154 #[u,v] w (RetDg (near N M) w):=by
 have HU:=Lib.hid hu
 have HV:=Lib.hid hv
 have HN:=Lib.hid hN
 have HM:=Lib.hid hMs
 have HP:=Lib.hid hM
 have HR : Hid (Tiny (N % M)):=Lib.hid (hN.of_le (Nat.mod_le _ _))
 have HQ : Hid (Tiny (N / M)):=Lib.hid (hN.of_le (Nat.div_le_self _ _))
 have HO : Hid (Small (N / M + 1)):=Lib.hid (small_add HQ.out (fun _=>one_lt_ten 999 (by decide)))
 have hup:=near_up N M
 have hst:=near_stay N M
 clear hu hv hN hMs hM
 obtain ⟨q,hq⟩ : ∃ q,q = N / M:=⟨_,rfl⟩
 obtain ⟨r,hr⟩ : ∃ r,r = N % M:=⟨_,rfl⟩
 obtain ⟨z,hz⟩ : ∃ z,z = near N M:=⟨_,rfl⟩
 rw [← hz,← hq,← hr] at hup hst
 rw [← hr] at HR
 rw [← hq] at HQ HO
 rw [← hz]
 have H1:=Lib.hid hq
 have H2:=Lib.hid hr
 have H3:=Lib.hid hup
 have H4:=Lib.hid hst
 clear hq hr hz hup hst
 go_enter Tryz.func154,Tryz.ntmps154
 go_wp2_with fail
 refine (quo_any N M HP.out _ _ _ HU.out HV.out HN.out.small HM.out.small).mono ?_
 rw [← H1.out,← H2.out]
 rintro _ w1 ⟨v1,v2,rfl,hq1,hr1,hb1⟩
 have HQ1:=Lib.hid hq1
 have HR1:=Lib.hid hr1
 have HV1:=Lib.hid (HV.out.below hb1)
 have hb1s:=hb1.size
 clear hq1 hr1
 go_wp2_with fail
 refine (plus_any r r _ _ _ HR1.out HR1.out HR.out.small HR.out.small).mono ?_
 rintro _ w2 ⟨v3,rfl,hd3,hb2⟩
 have HD3:=Lib.hid hd3
 have HV2:=Lib.hid (HV1.out.below hb2)
 have HQ2:=Lib.hid (HQ1.out.below hb2)
 have hb2s:=hb2.size
 clear hd3
 go_wp2_with fail
 refine (rcmp_any (r + r) M _ _ _ HD3.out HV2.out (small_add HR.out HR.out) HM.out.small).mono ?_
 rcases Nat.lt_trichotomy (r + r) M with hlt | heq | hgt
 ·have hc : cmpN (r + r) M = -1:=by unfold cmpN;rw [if_neg (by omega),if_pos hlt]
  have hz:=H4.out (.inl hlt)
  rw [hc]
  have HZ:=Lib.hid hz
  clear hc hz hlt
  rintro _ w3 ⟨rfl,nn,rfl⟩
  go_wp2_with fail
  go_ret
  exact ⟨_,rfl,by rw [HZ.out];exact HQ2.out.drewN nn,by (repeat' first|(with_reducible first|exact blR _ _|assumption|refine blD ?_|refine blN ?_ _)|((with_reducible first|refine blA ?_ ?_ _|refine blS ?_ ?_ _|refine blT (by assumption) ?_ ?_);focus (go_size;done)))⟩
 ·have hc : cmpN (r + r) M = 0:=by unfold cmpN;rw [if_pos heq]
  rw [hc]
  have HE:=Lib.hid heq
  clear hc heq
  rintro _ w3 ⟨rfl,nn,rfl⟩
  by_cases h0 : q = 0
  ·have hz:=H4.out (.inr ⟨HE.out,by rw [h0]⟩)
   have HZ:=Lib.hid hz
   clear hz
   subst h0
   obtain ⟨xs,⟨A,c,rfl,hc,hs⟩,hd⟩:=HQ2.out
   have hx0:=hd.zero_iff.2 rfl
   obtain rfl : xs = []:=List.length_eq_zero_iff.1 hx0
   have HS:=Lib.hid hs
   have HD:=Lib.hid hd
   clear hs hd hx0
   go_wp2_with fail
   go_ret
   exact ⟨_,rfl,by rw [HZ.out];exact HQ2.out.drewN nn,by (repeat' first|(with_reducible first|exact blR _ _|assumption|refine blD ?_|refine blN ?_ _)|((with_reducible first|refine blA ?_ ?_ _|refine blS ?_ ?_ _|refine blT (by assumption) ?_ ?_);focus (go_size;done)))⟩
  ·obtain ⟨g,o,k,c,rfl,hkc,hcell,hg⟩:=dg_first HQ2.out h0
   have k0 : (0 : Int) < (k : Int) + 1:=by omega
   have e1 : ((k + 1 : Nat) : Int) = (k : Int) + 1:=by omega
   rcases Nat.mod_two_eq_zero_or_one q with hp | hp
   ·have hz:=H4.out (.inr ⟨HE.out,hp⟩)
    have HZ:=Lib.hid hz
    have g1 : (((q % 10 : Nat) : Int) % 2 == 1) = false:=by simp;omega
    have d0 : (0 : Int) ≤ ((q % 10 : Nat) : Int):=by omega
    obtain ⟨d,hd⟩ : ∃ d : Int,d = ((q % 10 : Nat) : Int):=⟨_,rfl⟩
    rw [← hd] at g1 hcell d0
    clear hz hp h0 hd
    go_wp2_with fail
    go_ret
    exact ⟨_,rfl,by rw [HZ.out];exact HQ2.out.drewN nn,by (repeat' first|(with_reducible first|exact blR _ _|assumption|refine blD ?_|refine blN ?_ _)|((with_reducible first|refine blA ?_ ?_ _|refine blS ?_ ?_ _|refine blT (by assumption) ?_ ?_);focus (go_size;done)))⟩
   ·have hz:=H3.out (.inr ⟨HE.out,hp⟩)
    have HZ:=Lib.hid hz
    have g1 : (((q % 10 : Nat) : Int) % 2 == 1) = true:=by simp;omega
    have d0 : (0 : Int) ≤ ((q % 10 : Nat) : Int):=by omega
    obtain ⟨d,hd⟩ : ∃ d : Int,d = ((q % 10 : Nat) : Int):=⟨_,rfl⟩
    rw [← hd] at g1 hcell d0
    clear hz hp h0 hd
    go_wp2_with fail
    refine (plus_any q 1 _ _ _ (HQ2.out.below (by (repeat' first|(with_reducible first|exact blR _ _|assumption|refine blD ?_|refine blN ?_ _)|((with_reducible first|refine blA ?_ ?_ _|refine blS ?_ ?_ _|refine blT (by assumption) ?_ ?_);focus (go_size;done))))) (dg_one (Bk.new_ rfl)) HQ.out.small (Small.of_le HO.out (by omega))).mono ?_
    rintro _ w4 ⟨v4,rfl,hd4,hb4⟩
    have HD4:=Lib.hid hd4
    clear hd4
    go_wp2_with fail
    go_ret
    exact ⟨_,rfl,by rw [HZ.out];exact HD4.out,by (repeat' first|(with_reducible first|exact blR _ _|assumption|refine blD ?_|refine blN ?_ _)|((with_reducible first|refine blA ?_ ?_ _|refine blS ?_ ?_ _|refine blT (by assumption) ?_ ?_);focus (go_size;done)))⟩
 ·have hc : cmpN (r + r) M = 1:=by unfold cmpN;rw [if_neg (by omega),if_neg (by omega)]
  have hz:=H3.out (.inl hgt)
  rw [hc]
  have HZ:=Lib.hid hz
  clear hc hz hgt
  rintro _ w3 ⟨rfl,nn,rfl⟩
  go_wp2_with fail
  refine (plus_any q 1 _ _ _ (HQ2.out.below (by (repeat' first|(with_reducible first|exact blR _ _|assumption|refine blD ?_|refine blN ?_ _)|((with_reducible first|refine blA ?_ ?_ _|refine blS ?_ ?_ _|refine blT (by assumption) ?_ ?_);focus (go_size;done))))) (dg_one (Bk.new_ rfl)) HQ.out.small (Small.of_le HO.out (by omega))).mono ?_
  rintro _ w4 ⟨v4,rfl,hd4,hb4⟩
  have HD4:=Lib.hid hd4
  clear hd4
  go_wp2_with fail
  go_ret
  exact ⟨_,rfl,by rw [HZ.out];exact HD4.out,by (repeat' first|(with_reducible first|exact blR _ _|assumption|refine blD ?_|refine blN ?_ _)|((with_reducible first|refine blA ?_ ?_ _|refine blS ?_ ?_ _|refine blT (by assumption) ?_ ?_);focus (go_size;done)))⟩
end Go.Proofs.YtkjecoanlppeaaaGreatDoor



namespace Go.Proofs.YtkjecoanlppeaaaGreatDoor
open Go.RowKit

theorem ten_le (a b : Nat) (h : a ≤ b) : (10 : Nat) ^ a ≤ 10 ^ b:=Nat.pow_le_pow_right (by decide) h
theorem lt_256_tiny {N : Nat} (h : N < 2 ^ 256) : Tiny N:=fun _=>by
 have h1 : (2 : Nat) ^ 256 ≤ 10 ^ 78:=by decide
 exact Nat.lt_of_lt_of_le h (Nat.le_trans h1 (ten_le 78 999 (by decide)))
theorem small_one : Small 1:=fun _=>one_lt_ten 1000 (by decide)
theorem near_small {N : Nat} (h : Tiny N) (M : Nat) : Small (near N M):=(small_add h (fun _=>one_lt_ten 999 (by decide))).of_le (near_le N M)
end Go.Proofs.YtkjecoanlppeaaaGreatDoor



namespace Go.Proofs.YtkjecoanlppeaaaGreatDoor
open Go.RowKit

theorem rcmp_bel (n m : Nat) (u v : Value) (w : World) (hu : Dg w u n) (hv : Dg w v m) (hn : Small n) (hm : Small m) :
  Calls Tryz.prog 152 #[u,v] w fun e w'=>e = .returned (.int .i64 (cmpN n m)) ∧ Below w.heap.size w w' :=
 (rcmp_any n m u v w hu hv hn hm).mono fun _ _ ⟨he,nn,hw⟩=>⟨he,by rw [hw];exact below_drewN (Below.refl _ _) nn⟩
theorem lt_128_tiny {N : Nat} (h : N < 2 ^ 128) : Tiny N:=lt_256_tiny (Nat.lt_of_lt_of_le h (Nat.pow_le_pow_right (by decide) (by decide)))
end Go.Proofs.YtkjecoanlppeaaaGreatDoor



namespace Go.Proofs.YtkjecoanlppeaaaGreatDoor
open Go.RowKit

theorem dg_len {w : World} {v : Value} {n : Nat} (h : Dg w v n) : ∃ (A : Option Addr) (k c : Nat),v = .slice A k c ∧ (k = 0 ↔ n = 0) ∧ k ≤ c:=by
 obtain ⟨xs,⟨A,c,rfl,hc,hs⟩,hd⟩:=h
 exact ⟨A,xs.length,c,rfl,hd.zero_iff,hc⟩
end Go.Proofs.YtkjecoanlppeaaaGreatDoor



namespace Go.Proofs.YtkjecoanlppeaaaGreatDoor
open Go.RowKit

theorem IsDg.drop_zeros {l : List Int} {N : Nat} (h : IsDg l N) (k : Nat) (hk : k ≤ l.length) (hz : ∀ j,j < k → l.getD j 0 = 0) : IsDg (l.drop k) (N / 10 ^ k) ∧ N = N / 10 ^ k * 10 ^ k:=by
 have e:=dval_append (l.take k) (l.drop k)
 rw [List.take_append_drop,List.length_take,Nat.min_eq_left hk] at e
 have hz0 : dval (l.take k) = 0:=dval_zeros (fun d hd=>by
  obtain ⟨i,hi,rfl⟩:=List.getElem_of_mem hd
  rw [List.length_take] at hi
  rw [List.getElem_take,← getD_lt _ _ (by omega)]
  exact hz i (by omega))
 rw [hz0,Int.zero_add,h.2.2] at e
 have hb:=dval_bd (h.1.drop k)
 obtain ⟨V,hV⟩ : ∃ V : Nat,dval (l.drop k) = (V : Int):=⟨(dval (l.drop k)).toNat,by omega⟩
 rw [hV] at e
 have e2 : N = 10 ^ k * V:=by exact_mod_cast e
 have e3 : N / 10 ^ k = V:=by rw [e2,Nat.mul_div_cancel_left _ (Nat.pow_pos (by decide))]
 refine ⟨⟨h.1.drop k, ?_,by rw [hV,e3]⟩,by rw [e3,Nat.mul_comm];exact e2⟩
 have ht:=h.2.1
 unfold Top at *
 by_cases hlt : k < l.length
 ·rw [List.getLast?_drop,if_neg (by omega)];exact ht
 ·rw [List.drop_of_length_le (by omega)];simp
theorem sl_drop {w : World} {g o t c : Nat} {xs : List Int} (h : Sl w (some ⟨g,o,none⟩) xs) (ht : t < xs.length) (hc : xs.length ≤ c) : IsSl w (.slice (some ⟨g,o + t,none⟩) (xs.length - t) (c - t)) (xs.drop t):=by
 refine ⟨_,_,by rw [List.length_drop],by rw [List.length_drop];omega,fun _=>?_⟩
 obtain ⟨g',o',cs,e,hb,hcs⟩:=h (by intro e;subst e;simp at ht)
 injection e with e
 injection e with e1 e2
 subst e1 e2
 refine ⟨g,o + t,cs,rfl,hb,fun j hj=>?_⟩
 rw [List.length_drop] at hj
 rw [Nat.add_assoc,hcs (t + j) (by omega),getD_lt _ _ (by omega),getD_lt _ _ (by rw [List.length_drop];omega),List.getElem_drop]
end Go.Proofs.YtkjecoanlppeaaaGreatDoor



namespace Go.Proofs.YtkjecoanlppeaaaGreatDoor
open Go.RowKit

theorem len_34 {l : List Int} {n : Nat} (h : IsDg l n) : l.length ≤ 34 ↔ n < B34:=⟨fun hl=>h.lt_of_len hl,fun hn=>h.len_le hn⟩
theorem B34_small {n : Nat} (h : n < B34) : Tiny n:=lt_128_tiny (Nat.lt_trans h B34_lt)
set_option maxHeartbeats 1000000 in
theorem one_any (k : Nat) (hk : k ≤ 998) (w : World) : Calls Tryz.prog 134 #[.int .i64 k] w (RetDg (10 ^ k) w):=by
 have HS:=Lib.hid (fun W v hv=>shift_any 1 k (by omega) v W hv small_one)
 rw [Nat.one_mul] at HS
 go_enter Tryz.func134,Tryz.ntmps134
 go_wp2_with fail
 refine (HS.out _ _ (dg_one (Bk.new_ rfl))).mono ?_
 rintro _ w1 ⟨v1,rfl,d1,hb1⟩;have hb1s:=hb1.size;(try simp only [wsA,wsS,wsD,wsN] at hb1s);obtain ⟨hb1c,hb1f⟩:=bcell hb1;(try have : w.heap.size < w1.heap.size:=by omega);(try have : w.heap.size + 1 < w1.heap.size:=by omega);(try have : w.heap.size + 1 + 1 < w1.heap.size:=by omega);(try have : w.heap.size + 1 + 1 + 1 < w1.heap.size:=by omega);have Hd1:=Lib.hid d1;clear d1
 go_wp2_with fail
 go_ret
 exact ⟨v1,rfl,Hd1.out,by (repeat' first|(with_reducible first|exact blR _ _|assumption|refine blD ?_|refine blN ?_ _)|((with_reducible first|refine blA ?_ ?_ _|refine blS ?_ ?_ _|refine blT (by assumption) ?_ ?_);focus (go_size;done)))⟩
set_option maxHeartbeats 4000000 in
theorem make1_any (neg : Bool) (n s : Nat) (v : Value) (w : World) (hv : Dg w v n) (hn : n < B34) (hs : s ≤ 1000) : Calls Tryz.prog 95 #[.bool neg,v,.int .i64 s] w fun e w'=>e = .returned (.agg #[.bool (sg neg (stripC n s)),.int .u64 (wd ((stripC n s)) 1),.int .u64 (wd ((stripC n s)) 0),.int .i64 (stripS n s)]) ∧ Below w.heap.size w w':=by
 have HB:=B34_small hn
 by_cases h0 : n = 0
 ·have e1 : stripC n s = 0:=stripC_zero.2 h0
  have e2 : stripS n s = 0:=by rw [h0];exact (strip_nil s).2
  rw [e1,e2,wd_zero,wd_zero,sg_zero]
  obtain ⟨A,k,c,rfl,hk,hkc⟩:=dg_len hv
  obtain rfl : k = 0:=hk.2 h0
  clear hk hv h0 hn HB e1 e2
  go_enter Tryz.func95,Tryz.ntmps95
  go_wp2_with fail
  refine bodyPost_ret (by simp [results,Tryz.results95,go_sem, *];try rfl) rfl ?_
  exact ⟨rfl,by (repeat' first|(with_reducible first|exact blR _ _|assumption|refine blD ?_|refine blN ?_ _)|((with_reducible first|refine blA ?_ ?_ _|refine blS ?_ ?_ _|refine blT (by assumption) ?_ ?_);focus (go_size;done)))⟩
 ·have hne : sg neg (stripC n s) = neg:=sg_pos (fun e=>h0 (stripC_zero.1 e))
  rw [hne]
  obtain ⟨C,hC⟩ : ∃ C,C = stripC n s:=⟨_,rfl⟩
  obtain ⟨S,hS⟩ : ∃ S,S = stripS n s:=⟨_,rfl⟩
  rw [← hC,← hS]
  have EC:=Far.mk hC
  have ES:=Far.mk hS
  obtain ⟨A,k,c,rfl,hk,hkc⟩:=dg_len hv
  have hk0 : ((k : Int) == 0) = false:=by simp;omega
  have hkp : (0 : Int) < (k : Int):=by omega
  have HV:=Lib.hid hv
  have HH0:=Lib.hid h0
  have HN:=Far.mk hn
  clear hC hS hv hn hne h0 hk
  go_enter Tryz.func95,Tryz.ntmps95
  go_wp2_with fail
  clear hkp hk0
  go_loopg [1,2] s (fun kk v sv wr=>∃ m : Nat,sv = .int .i64 (kk : Int) ∧ kk ≤ 1000 ∧ Hid (m ≠ 0) ∧ Far (m < B34) ∧ Far (C = stripC m kk ∧ S = stripS m kk) ∧ Dg wr v m ∧ Bk wr w.heap.size 32 [.bool false,.int .u64 0,.int .u64 0,.int .i64 0] ∧ Below w.heap.size w wr)
  case atStart=>exact ⟨n,rfl,hs,HH0,HN,Far.mk ⟨EC.out,ES.out⟩,HV.out.below (by (repeat' first|(with_reducible first|exact blR _ _|assumption|refine blD ?_|refine blN ?_ _)|((with_reducible first|refine blA ?_ ?_ _|refine blS ?_ ?_ _|refine blT (by assumption) ?_ ?_);focus (go_size;done)))),by (repeat (first|(with_reducible assumption)|((with_reducible refine bkW ?_);(first|rfl|(simp only [wsA,wsS,wsD,wsN];done)))|(with_reducible first|refine bkA ?_ _|refine bkD ?_|refine bkN ?_ _)|((with_reducible refine bkF ?_ ?_ _);focus (simp only [];omega))|((with_reducible refine bkB (by assumption) ?_ ?_);focus (go_size;done)))),by (repeat' first|(with_reducible first|exact blR _ _|assumption|refine blD ?_|refine blN ?_ _)|((with_reducible first|refine blA ?_ ?_ _|refine blS ?_ ?_ _|refine blT (by assumption) ?_ ?_);focus (go_size;done)))⟩
  case round =>
   obtain ⟨m,rfl,hk1,hm0,hmb,hcs,hdg,b0,hbel⟩:=hrel
   have HB0:=Lib.hid b0
   have l0:=b0.lt
   obtain ⟨xs,⟨A,c,rfl,hc,hs⟩,hd⟩:=hdg
   have hlen : xs.length ≤ 34:=(len_34 hd).2 hmb.out
   have hpos : 0 < xs.length:=Nat.pos_of_ne_zero (fun e=>hm0.out (hd.zero_iff.1 e))
   obtain ⟨g,o,rfl,hg,hcell⟩:=hs.at_ (k:=0) hpos
   have hdig:=dval_digit hd.1 0 hpos
   rw [hd.2.2,Int.pow_zero,Int.ediv_one] at hdig
   have hdig2 : xs.getD 0 0 = ((m % 10 : Nat) : Int):=by rw [hdig];rfl
   rw [hdig2,Nat.add_zero] at hcell
   have hl0 : (0 : Int) < (xs.length : Int):=by omega
   have HS:=Lib.hid hs
   have HD:=Lib.hid hd
   have HC:=Lib.hid hc
   clear hs hd hdig hdig2 b0 hc
   by_cases hz : gk = 0
   ·subst hz
    have hm10 : Far (C = m ∧ S = 0):=hcs
    have ht:=hm10.out
    have HT:=Lib.hid (fun W h=>to_any m (.slice (some ⟨g,o,none⟩) xs.length c) W h (B34_small hmb.out).small)
    unfold RetWide at HT
    rw [Nat.mod_eq_of_lt (Nat.lt_trans (Nat.lt_trans hmb.out B34_lt) (by decide))] at HT
    generalize decide (m < 2 ^ 128) = fr at *
    have HDG : Hid (Dg wr (.slice (some ⟨g,o,none⟩) xs.length c) m):=Lib.hid ⟨xs,⟨_,c,rfl,HC.out,HS.out⟩,HD.out⟩
    have hng : ¬ (0 : Int) < ((0 : Nat) : Int):=by omega
    clear ht
    go_wp2_with fail
    refine (HT.out _ HDG.out).mono ?_
    rintro _ w2 ⟨rfl,hb2⟩;have hb2s:=hb2.size;(try simp only [wsA,wsS,wsD,wsN] at hb2s);obtain ⟨hb2c,hb2f⟩:=bcell hb2;(try have : w.heap.size < w2.heap.size:=by omega);(try have : w.heap.size + 1 < w2.heap.size:=by omega);(try have : w.heap.size + 1 + 1 < w2.heap.size:=by omega);(try have : w.heap.size + 1 + 1 + 1 < w2.heap.size:=by omega)
    have b0:=HB0.out
    have k0 : Bk w2 w.heap.size 32 [.bool false,.int .u64 0,.int .u64 0,.int .i64 0]:=by (repeat (first|(with_reducible assumption)|((with_reducible refine bkW ?_);(first|rfl|(simp only [wsA,wsS,wsD,wsN];done)))|(with_reducible first|refine bkA ?_ _|refine bkD ?_|refine bkN ?_ _)|((with_reducible refine bkF ?_ ?_ _);focus (simp only [];omega))|((with_reducible refine bkB (by assumption) ?_ ?_);focus (go_size;done))))
    have k_0:=k0.cell 0 rfl
    have k_1:=k0.cell 1 rfl
    have k_2:=k0.cell 2 rfl
    have k_3:=k0.cell 3 rfl
    have k_4:=k0.frozen 0
    have k_5:=k0.frozen 1
    have k_6:=k0.frozen 2
    have k_7:=k0.frozen 3
    have k0l:=k0.lt
    clear b0 k0 hb2c hb2f
    go_wp2_with fail
    refine bodyPost_ret (by simp [results,Tryz.results95,go_sem, *];try rfl) rfl ?_
    obtain ⟨e1,e2⟩:=hm10.out
    exact ⟨by rw [e1,e2];rfl,by (repeat' first|(with_reducible first|exact blR _ _|assumption|refine blD ?_|refine blN ?_ _)|((with_reducible first|refine blA ?_ ?_ _|refine blS ?_ ?_ _|refine blT (by assumption) ?_ ?_);focus (go_size;done)))⟩
   ·obtain ⟨j,rfl⟩ : ∃ j,gk = j + 1:=⟨gk - 1,by omega⟩
    have hj : (0 : Int) < ((j + 1 : Nat) : Int):=by omega
    by_cases hd10 : m % 10 = 0
    ·have hcs' : Far (C = stripC (m / 10) j ∧ S = stripS (m / 10) j):=Far.mk (by
      obtain ⟨e1,e2⟩:=hcs.out
      rw [e1,e2];exact strip_yes hd10 j)
     rw [hd10] at hcell
     obtain ⟨hdd,_⟩:=HD.out.drop_zeros 1 hpos (by
      intro t ht
      obtain rfl : t = 0:=by omega
      have:=dval_digit HD.out.1 0 hpos
      rw [HD.out.2.2,Int.pow_zero,Int.ediv_one] at this
      rw [this];omega)
     have hm1 : m / 10 ≠ 0:=by have:=hm0.out;omega
     have hlen2 : 1 < xs.length:=by
      rcases Nat.lt_or_ge 1 xs.length with h | h
      ·exact h
      ·have:=HD.out.lt_of_len (k:=1) h
       omega
     have hsl : IsSl wr (.slice (some ⟨g,o + 1,none⟩) (xs.length - 1) (c - 1)) (xs.drop 1):=sl_drop HS.out hlen2 HC.out
     have HDG : Hid (Dg wr (.slice (some ⟨g,o + 1,none⟩) (xs.length - 1) (c - 1)) (m / 10)):=Lib.hid ⟨_,hsl,by rw [Nat.pow_one] at hdd;exact hdd⟩
     have hc1 : (1 : Int) ≤ (c : Int):=by have:=HC.out;omega
     have hcne : ¬ c = 1:=by have:=HC.out;omega
     have hl1 : (1 : Int) ≤ (xs.length : Int):=by omega
     have hmb' : Far (m / 10 < B34):=Far.mk (by have:=hmb.out;omega)
     have HM1:=Lib.hid hm1
     clear hdd hsl hm1 hd10 hcs hmb hm0
     go_wp2_with fail
     go_roundg j
     case measure=>omega
     case rel =>
      refine ⟨m / 10, ?_,by omega,HM1,hmb',hcs', ?_,HB0.out,hbel⟩
      ·congr 1
      ·exact HDG.out
    ·have hm10 : Far (C = m ∧ S = j + 1):=Far.mk (by
      obtain ⟨e1,e2⟩:=hcs.out
      rw [e1,e2];exact strip_no hd10 (j + 1))
     have hne : ((((m % 10 : Nat) : Int)) == 0) = false:=by simp;omega
     obtain ⟨d,hdd⟩ : ∃ d : Int,d = ((m % 10 : Nat) : Int):=⟨_,rfl⟩
     rw [← hdd] at hcell hne
     have HT:=Lib.hid (fun W h=>to_any m (.slice (some ⟨g,o,none⟩) xs.length c) W h (B34_small hmb.out).small)
     unfold RetWide at HT
     rw [Nat.mod_eq_of_lt (Nat.lt_trans (Nat.lt_trans hmb.out B34_lt) (by decide))] at HT
     generalize decide (m < 2 ^ 128) = fr at *
     have HDG : Hid (Dg wr (.slice (some ⟨g,o,none⟩) xs.length c) m):=Lib.hid ⟨xs,⟨_,c,rfl,HC.out,HS.out⟩,HD.out⟩
     clear hdd hd10 hcs
     go_wp2_with fail
     refine (HT.out _ HDG.out).mono ?_
     rintro _ w2 ⟨rfl,hb2⟩;have hb2s:=hb2.size;(try simp only [wsA,wsS,wsD,wsN] at hb2s);obtain ⟨hb2c,hb2f⟩:=bcell hb2;(try have : w.heap.size < w2.heap.size:=by omega);(try have : w.heap.size + 1 < w2.heap.size:=by omega);(try have : w.heap.size + 1 + 1 < w2.heap.size:=by omega);(try have : w.heap.size + 1 + 1 + 1 < w2.heap.size:=by omega)
     have b0:=HB0.out
     have k0 : Bk w2 w.heap.size 32 [.bool false,.int .u64 0,.int .u64 0,.int .i64 0]:=by (repeat (first|(with_reducible assumption)|((with_reducible refine bkW ?_);(first|rfl|(simp only [wsA,wsS,wsD,wsN];done)))|(with_reducible first|refine bkA ?_ _|refine bkD ?_|refine bkN ?_ _)|((with_reducible refine bkF ?_ ?_ _);focus (simp only [];omega))|((with_reducible refine bkB (by assumption) ?_ ?_);focus (go_size;done))))
     have k_0:=k0.cell 0 rfl
     have k_1:=k0.cell 1 rfl
     have k_2:=k0.cell 2 rfl
     have k_3:=k0.cell 3 rfl
     have k_4:=k0.frozen 0
     have k_5:=k0.frozen 1
     have k_6:=k0.frozen 2
     have k_7:=k0.frozen 3
     have k0l:=k0.lt
     clear b0 k0 hb2c hb2f
     go_wp2_with fail
     refine bodyPost_ret (by simp [results,Tryz.results95,go_sem, *];try rfl) rfl ?_
     obtain ⟨e1,e2⟩:=hm10.out
     exact ⟨by rw [e1,e2];first | rfl | (congr;omega),by (repeat' first|(with_reducible first|exact blR _ _|assumption|refine blD ?_|refine blN ?_ _)|((with_reducible first|refine blA ?_ ?_ _|refine blS ?_ ?_ _|refine blT (by assumption) ?_ ?_);focus (go_size;done)))⟩
end Go.Proofs.YtkjecoanlppeaaaGreatDoor



namespace Go.Proofs.YtkjecoanlppeaaaGreatDoor
open Go.RowKit

set_option maxHeartbeats 4000000 in
theorem rform_any (b : Bool) (c : Nat) (s : Int) (hc : c < 2 ^ 128) (w : World) : Calls Tryz.prog 101 #[.agg #[.bool b,.int .u64 (wd (c) 1),.int .u64 (wd (c) 0),.int .i64 s]] w fun e w'=>e = .returned (.bool (dform b c s)) ∧ Below w.heap.size w w':=by
 have HO:=Lib.hid (fun W=>of_any c hc W)
 obtain ⟨x0,hx0⟩ : ∃ x,x = wd c 0:=⟨_,rfl⟩
 obtain ⟨x1,hx1⟩ : ∃ x,x = wd c 1:=⟨_,rfl⟩
 rw [← hx0,← hx1] at HO
 rw [← hx0,← hx1]
 obtain ⟨f,hf⟩ : ∃ f,f = dform b c s:=⟨_,rfl⟩
 rw [← hf]
 have HF:=Far.mk hf
 clear hx0 hx1 hc hf
 go_enter Tryz.func101,Tryz.ntmps101
 go_wp2_with fail
 refine (HO.out _).mono ?_
 rintro _ w1 ⟨v1,rfl,d1,hb1⟩;have hb1s:=hb1.size;(try simp only [wsA,wsS,wsD,wsN] at hb1s);obtain ⟨hb1c,hb1f⟩:=bcell hb1;(try have : w.heap.size < w1.heap.size:=by omega);(try have : w.heap.size + 1 < w1.heap.size:=by omega);(try have : w.heap.size + 1 + 1 < w1.heap.size:=by omega);(try have : w.heap.size + 1 + 1 + 1 < w1.heap.size:=by omega);have Hd1:=Lib.hid d1;clear d1
 have k0 : Bk w1 w.heap.size 32 [.bool b,.int .u64 x1,.int .u64 x0,.int .i64 s]:=by (repeat (first|(with_reducible assumption)|((with_reducible refine bkW ?_);(first|rfl|(simp only [wsA,wsS,wsD,wsN];done)))|(with_reducible first|refine bkA ?_ _|refine bkD ?_|refine bkN ?_ _)|((with_reducible refine bkF ?_ ?_ _);focus (simp only [];omega))|((with_reducible refine bkB (by assumption) ?_ ?_);focus (go_size;done))))
 have k0_0:=k0.cell 0 rfl
 have k0_1:=k0.cell 1 rfl
 have k0_2:=k0.cell 2 rfl
 have k0_3:=k0.cell 3 rfl
 have k0_4:=k0.frozen 0
 have k0_5:=k0.frozen 1
 have k0_6:=k0.frozen 2
 have k0_7:=k0.frozen 3
 have k0l:=k0.lt
 have mb : Below w.heap.size w w1:=by (repeat' first|(with_reducible first|exact blR _ _|assumption|refine blD ?_|refine blN ?_ _)|((with_reducible first|refine blA ?_ ?_ _|refine blS ?_ ?_ _|refine blT (by assumption) ?_ ?_);focus (go_size;done)))
 clear k0 hb1c hb1f hb1 hb1s
 obtain ⟨xs,⟨A,k,rfl,hk,hs⟩,hd⟩:=Hd1.out
 have h34:=len_34 hd
 by_cases hb : c < B34
 ·have hl : (xs.length : Int) ≤ 34:=by have:=h34.2 hb;omega
  have hl' : ¬ (34 : Int) < (xs.length : Int):=by omega
  by_cases h0 : s < 0
  ·have e:=HF.out
   rw [dform_neg h0] at e
   subst e
   clear hb h34 hk hs hd
   go_wp2_with fail
   go_ret
   exact ⟨rfl,by (repeat' first|(with_reducible first|exact blR _ _|assumption|refine blD ?_|refine blN ?_ _)|((with_reducible first|refine blA ?_ ?_ _|refine blS ?_ ?_ _|refine blT (by assumption) ?_ ?_);focus (go_size;done)))⟩
  ·by_cases h1 : 18 < s
   ·have e:=HF.out
    rw [dform_deep h1] at e
    subst e
    clear hb h34 hk hs hd
    go_wp2_with fail
    go_ret
    exact ⟨rfl,by (repeat' first|(with_reducible first|exact blR _ _|assumption|refine blD ?_|refine blN ?_ _)|((with_reducible first|refine blA ?_ ?_ _|refine blS ?_ ?_ _|refine blT (by assumption) ?_ ?_);focus (go_size;done)))⟩
   ·have e:=HF.out
    rw [dform_in hb (by omega) (by omega)] at e
    by_cases hz : c = 0
    ·rw [if_pos hz] at e
     have hl0 : xs.length = 0:=hd.zero_iff.2 hz
     have E:=Lib.hid e
     clear hb h34 hk hs hd hz e HF
     rw [hl0]
     cases b
     ·go_wp2_with fail
      go_ret
      exact ⟨ret_bool (by rw [E.out];simp;first | rfl | omega | (rw [Bool.eq_iff_iff];simp)),by (repeat' first|(with_reducible first|exact blR _ _|assumption|refine blD ?_|refine blN ?_ _)|((with_reducible first|refine blA ?_ ?_ _|refine blS ?_ ?_ _|refine blT (by assumption) ?_ ?_);focus (go_size;done)))⟩
     ·go_wp2_with fail
      go_ret
      exact ⟨ret_bool (by rw [E.out];rfl),by (repeat' first|(with_reducible first|exact blR _ _|assumption|refine blD ?_|refine blN ?_ _)|((with_reducible first|refine blA ?_ ?_ _|refine blS ?_ ?_ _|refine blT (by assumption) ?_ ?_);focus (go_size;done)))⟩
    ·rw [if_neg hz] at e
     have E:=Lib.hid e
     obtain ⟨g,o,k',c',e',hkc,hcell,hg⟩:=dg_first Hd1.out hz
     injection e' with e1 e2 e3
     subst e1
     have hlp : ((xs.length : Int) == 0) = false:=by rw [beq_eq_false_iff_ne];omega
     have hlq : (0 : Int) < (xs.length : Int):=by omega
     obtain ⟨d,hdd⟩ : ∃ d : Int,d = ((c % 10 : Nat) : Int):=⟨_,rfl⟩
     rw [← hdd] at hcell
     have HDD:=Lib.hid hdd
     clear hb h34 hk hs hd hz e HF hdd e2 e3
     by_cases hs0 : s = 0
     ·have g2 : (s == 0) = true:=by simpa using hs0
      have HS:=Lib.hid hs0
      clear hs0
      go_wp2_with fail
      go_ret
      exact ⟨ret_bool (by rw [E.out,HS.out];rfl),by (repeat' first|(with_reducible first|exact blR _ _|assumption|refine blD ?_|refine blN ?_ _)|((with_reducible first|refine blA ?_ ?_ _|refine blS ?_ ?_ _|refine blT (by assumption) ?_ ?_);focus (go_size;done)))⟩
     ·have g2 : (s == 0) = false:=by simpa using hs0
      have HS:=Lib.hid hs0
      clear hs0
      go_wp2_with fail
      go_ret
      exact ⟨ret_bool (by rw [E.out,decide_eq_false HS.out,Bool.false_or,Bool.eq_iff_iff];have:=HDD.out;simp;omega),by (repeat' first|(with_reducible first|exact blR _ _|assumption|refine blD ?_|refine blN ?_ _)|((with_reducible first|refine blA ?_ ?_ _|refine blS ?_ ?_ _|refine blT (by assumption) ?_ ?_);focus (go_size;done)))⟩
 ·have e:=HF.out
  rw [dform_hi hb] at e
  subst e
  have hl : (34 : Int) < (xs.length : Int):=by have:=mt h34.1 hb;omega
  clear hb h34 hk hs hd
  go_wp2_with fail
  go_ret
  exact ⟨rfl,by (repeat' first|(with_reducible first|exact blR _ _|assumption|refine blD ?_|refine blN ?_ _)|((with_reducible first|refine blA ?_ ?_ _|refine blS ?_ ?_ _|refine blT (by assumption) ?_ ?_);focus (go_size;done)))⟩
def RetUnits (b : Bool) (n : Nat) (w : World) (e : Ending) (w' : World) : Prop:=∃ v,e = .returned (.tuple #[.bool b,v]) ∧ Dg w' v n ∧ Below w.heap.size w w'
set_option maxHeartbeats 4000000 in
theorem units_any (b : Bool) (c s : Nat) (hc : c < 2 ^ 128) (hs : s ≤ 18) (w : World) : Calls Tryz.prog 130 #[.agg #[.bool b,.int .u64 (wd (c) 1),.int .u64 (wd (c) 0),.int .i64 s]] w (RetUnits b (unit c s) w):=by
 have HO:=Lib.hid (fun W=>of_any c hc W)
 have HSM:=Lib.hid (lt_128_tiny hc).small
 generalize wd c 0 = x0 at *
 generalize wd c 1 = x1 at *
 have gw : IntKind.i64.wrap (18 - (s : Int)) = 18 - (s : Int):=IntWalk.i64_in _ (by omega)
 have HX : Hid (∀ W v,Dg W v c → Calls Tryz.prog 150 #[v,.int .i64 (18 - (s : Int))] W (RetDg (unit c s) W)):=Lib.hid (fun W v hv=>by
  rw [show (18 : Int) - (s : Int) = ((18 - s : Nat) : Int) by omega]
  exact shift_any c (18 - s) (by omega) v W hv HSM.out)
 generalize unit c s = U at *
 clear hc
 go_enter Tryz.func130,Tryz.ntmps130
 go_wp2_with fail
 go_region_held3 (fun w'=>(w'.cell? ⟨w.heap.size,0,none⟩ = some (.bool b) ∧ w'.cell? ⟨w.heap.size,1,none⟩ = some (.int .u64 x1) ∧ w'.cell? ⟨w.heap.size,2,none⟩ = some (.int .u64 x0) ∧ w'.cell? ⟨w.heap.size,3,none⟩ = some (.int .i64 ((s : Int))))) (first | (first | (go_keep;done) | (simp [go_sem];done) | ((try dsimp only);(repeat' apply And.intro) <;> (first | (with_reducible assumption) | ((rw [World.cell?_alloc_lt _ _ _ (by show _ < _;omega)]);go_split_ands;(first | with_reducible assumption | (refine (World.cell?_alloc_lt _ _ _ (by show _ < _;omega)).symm.trans ?_;with_reducible assumption))) | ((rw [World.cell?_setCell_other _ _ _ _ (by intro e;injection e;omega)]);with_reducible assumption) | (go_keep;done) | (simp [go_sem];done) | (simp (disch:=go_size) [*,World.cell?_alloc_some,World.cell?_setCell_far];done)))) | ((refine ⟨Bk.cell (t:=32) (cs:=[.bool b,.int .u64 x1,.int .u64 x0,.int .i64 ((s : Int))]) ?_ 0 rfl,Bk.cell (t:=32) (cs:=[.bool b,.int .u64 x1,.int .u64 x0,.int .i64 ((s : Int))]) ?_ 1 rfl,Bk.cell (t:=32) (cs:=[.bool b,.int .u64 x1,.int .u64 x0,.int .i64 ((s : Int))]) ?_ 2 rfl,Bk.cell (t:=32) (cs:=[.bool b,.int .u64 x1,.int .u64 x0,.int .i64 ((s : Int))]) ?_ 3 rfl⟩) <;> ((repeat (first|(with_reducible assumption)|((with_reducible refine bkW ?_);(first|rfl|(simp only [wsA,wsS,wsD,wsN];done)))|(with_reducible first|refine bkA ?_ _|refine bkD ?_|refine bkN ?_ _)|((with_reducible refine bkF ?_ ?_ _);focus (simp only [];omega))|((with_reducible refine bkB (by assumption) ?_ ?_);focus (go_size;done))));done))) (first | (go_at_call 96;(with_reducible refine (HO.out _).mono ?_);rintro _ w1 ⟨v1,rfl,d1,hb1⟩;have hb1s:=hb1.size;(try simp only [wsA,wsS,wsD,wsN] at hb1s);obtain ⟨hb1c,hb1f⟩:=bcell hb1;(try have : w.heap.size < w1.heap.size:=by omega);(try have : w.heap.size + 1 < w1.heap.size:=by omega);(try have : w.heap.size + 1 + 1 < w1.heap.size:=by omega);(try have : w.heap.size + 1 + 1 + 1 < w1.heap.size:=by omega);have Hd1:=Lib.hid d1;clear d1) | (go_at_call 150;(with_reducible refine (HX.out _ _ ?hx).mono ?_);(case hx=>((first | exact Hid.out (by assumption) | exact Dg.below (Hid.out (by assumption)) (by (repeat' first|(with_reducible first|exact blR _ _|assumption|refine blD ?_|refine blN ?_ _)|((with_reducible first|refine blA ?_ ?_ _|refine blS ?_ ?_ _|refine blT (by assumption) ?_ ?_);focus (go_size;done)))))));rintro _ w2 ⟨v2,rfl,d2,hb2⟩;have hb2s:=hb2.size;(try simp only [wsA,wsS,wsD,wsN] at hb2s);obtain ⟨hb2c,hb2f⟩:=bcell hb2;(try have : w.heap.size < w2.heap.size:=by omega);(try have : w.heap.size + 1 < w2.heap.size:=by omega);(try have : w.heap.size + 1 + 1 < w2.heap.size:=by omega);(try have : w.heap.size + 1 + 1 + 1 < w2.heap.size:=by omega);have Hd2:=Lib.hid d2;clear d2;(try have : w1.heap.size < w2.heap.size:=by omega);(try have : w1.heap.size + 1 < w2.heap.size:=by omega);(try have : w1.heap.size + 1 + 1 < w2.heap.size:=by omega);(try have : w1.heap.size + 1 + 1 + 1 < w2.heap.size:=by omega)))
 all_goals
  go_wp2_with fail
  go_ret2
  exact ⟨_,rfl,by (first | exact Hid.out (by assumption) | exact Dg.below (Hid.out (by assumption)) (by (repeat' first|(with_reducible first|exact blR _ _|assumption|refine blD ?_|refine blN ?_ _)|((with_reducible first|refine blA ?_ ?_ _|refine blS ?_ ?_ _|refine blT (by assumption) ?_ ?_);focus (go_size;done))))),by (repeat' first|(with_reducible first|exact blR _ _|assumption|refine blD ?_|refine blN ?_ _)|((with_reducible first|refine blA ?_ ?_ _|refine blS ?_ ?_ _|refine blT (by assumption) ?_ ?_);focus (go_size;done)))⟩
def RetSum (an : Bool) (x : Nat) (bn : Bool) (y : Nat) (w : World) (e : Ending) (w' : World) : Prop:=∃ v,e = .returned (.tuple #[.bool (sgn an x bn y),v]) ∧ Dg w' v (sab an x bn y) ∧ Below w.heap.size w w'
set_option maxHeartbeats 4000000 in
theorem rsum_any (an : Bool) (x : Nat) (bn : Bool) (y : Nat) (u v : Value) (w : World) (hu : Dg w u x) (hv : Dg w v y) (hx : Tiny x) (hy : Tiny y) :
  Calls Tryz.prog 131 #[.bool an,u,.bool bn,v] w (RetSum an x bn y w):=by
 have HU:=Lib.hid hu
 have HV:=Lib.hid hv
 have HX:=Lib.hid hx.small
 have HY:=Lib.hid hy.small
 obtain ⟨N,hN⟩ : ∃ N,N = sgn an x bn y:=⟨_,rfl⟩
 obtain ⟨U,hU⟩ : ∃ U,U = sab an x bn y:=⟨_,rfl⟩
 unfold RetSum
 rw [← hN,← hU]
 clear hu hv hx hy
 by_cases hb : an = bn
 ·have hbe : (an == bn) = true:=by simpa using hb
  have e1 : N = an:=by rw [hN];unfold sgn;rw [if_pos hb]
  have e2 : U = x + y:=by rw [hU];unfold sab;rw [if_pos hb]
  subst e1
  have E2:=Lib.hid e2
  clear hb hN hU e2
  go_enter Tryz.func131,Tryz.ntmps131
  go_wp2_with fail
  refine (plus_any x y _ _ _ HU.out HV.out HX.out HY.out).mono ?_
  rintro _ w1 ⟨v1,rfl,d1,hb1⟩;have hb1s:=hb1.size;(try simp only [wsA,wsS,wsD,wsN] at hb1s);obtain ⟨hb1c,hb1f⟩:=bcell hb1;(try have : w.heap.size < w1.heap.size:=by omega);(try have : w.heap.size + 1 < w1.heap.size:=by omega);(try have : w.heap.size + 1 + 1 < w1.heap.size:=by omega);(try have : w.heap.size + 1 + 1 + 1 < w1.heap.size:=by omega);have Hd1:=Lib.hid d1;clear d1
  go_wp2_with fail
  go_ret2
  exact ⟨_,rfl,by rw [E2.out];exact Hd1.out,by (repeat' first|(with_reducible first|exact blR _ _|assumption|refine blD ?_|refine blN ?_ _)|((with_reducible first|refine blA ?_ ?_ _|refine blS ?_ ?_ _|refine blT (by assumption) ?_ ?_);focus (go_size;done)))⟩
 ·have hbe : (an == bn) = false:=by simpa using hb
  by_cases hl : y ≤ x
  ·have hc : 0 ≤ cmpN x y:=by unfold cmpN;split <;> (try split) <;> omega
   have e1 : N = an:=by rw [hN];unfold sgn;rw [if_neg hb,if_pos hl]
   have e2 : U = x - y:=by rw [hU];unfold sab;rw [if_neg hb,if_pos hl]
   subst e1
   have E2:=Lib.hid e2
   have HL:=Lib.hid hl
   have HC:=Lib.hid (fun W hu hv=>rcmp_bel x y u v W hu hv HX.out HY.out)
   generalize cmpN x y = cc at *
   clear hb hN hU e2 hl
   go_enter Tryz.func131,Tryz.ntmps131
   go_wp2_with fail
   refine (HC.out _ HU.out HV.out).mono ?_
   rintro _ w1 ⟨rfl,hb1⟩;have hb1s:=hb1.size;(try simp only [wsA,wsS,wsD,wsN] at hb1s);obtain ⟨hb1c,hb1f⟩:=bcell hb1;(try have : w.heap.size < w1.heap.size:=by omega);(try have : w.heap.size + 1 < w1.heap.size:=by omega);(try have : w.heap.size + 1 + 1 < w1.heap.size:=by omega);(try have : w.heap.size + 1 + 1 + 1 < w1.heap.size:=by omega)
   go_wp2_with fail
   refine (rless_any x y HL.out _ _ _ (HU.out.below hb1) (HV.out.below hb1) HX.out HY.out).mono ?_
   rintro _ w2 ⟨v2,rfl,d2,hb2⟩;have hb2s:=hb2.size;(try simp only [wsA,wsS,wsD,wsN] at hb2s);obtain ⟨hb2c,hb2f⟩:=bcell hb2;(try have : w.heap.size < w2.heap.size:=by omega);(try have : w.heap.size + 1 < w2.heap.size:=by omega);(try have : w.heap.size + 1 + 1 < w2.heap.size:=by omega);(try have : w.heap.size + 1 + 1 + 1 < w2.heap.size:=by omega);have Hd2:=Lib.hid d2;clear d2
   go_wp2_with fail
   go_ret2
   exact ⟨_,rfl,by rw [E2.out];exact Hd2.out,by (repeat' first|(with_reducible first|exact blR _ _|assumption|refine blD ?_|refine blN ?_ _)|((with_reducible first|refine blA ?_ ?_ _|refine blS ?_ ?_ _|refine blT (by assumption) ?_ ?_);focus (go_size;done)))⟩
  ·have hc : ¬ 0 ≤ cmpN x y:=by unfold cmpN;rw [if_neg (by omega),if_pos (by omega)];decide
   have e1 : N = bn:=by rw [hN];unfold sgn;rw [if_neg hb,if_neg hl]
   have e2 : U = y - x:=by rw [hU];unfold sab;rw [if_neg hb,if_neg hl]
   subst e1
   have E2:=Lib.hid e2
   have HL : Hid (x ≤ y):=Lib.hid (by omega)
   have HC:=Lib.hid (fun W hu hv=>rcmp_bel x y u v W hu hv HX.out HY.out)
   generalize cmpN x y = cc at *
   clear hb hN hU e2 hl
   go_enter Tryz.func131,Tryz.ntmps131
   go_wp2_with fail
   refine (HC.out _ HU.out HV.out).mono ?_
   rintro _ w1 ⟨rfl,hb1⟩;have hb1s:=hb1.size;(try simp only [wsA,wsS,wsD,wsN] at hb1s);obtain ⟨hb1c,hb1f⟩:=bcell hb1;(try have : w.heap.size < w1.heap.size:=by omega);(try have : w.heap.size + 1 < w1.heap.size:=by omega);(try have : w.heap.size + 1 + 1 < w1.heap.size:=by omega);(try have : w.heap.size + 1 + 1 + 1 < w1.heap.size:=by omega)
   go_wp2_with fail
   refine (rless_any y x HL.out _ _ _ (HV.out.below hb1) (HU.out.below hb1) HY.out HX.out).mono ?_
   rintro _ w2 ⟨v2,rfl,d2,hb2⟩;have hb2s:=hb2.size;(try simp only [wsA,wsS,wsD,wsN] at hb2s);obtain ⟨hb2c,hb2f⟩:=bcell hb2;(try have : w.heap.size < w2.heap.size:=by omega);(try have : w.heap.size + 1 < w2.heap.size:=by omega);(try have : w.heap.size + 1 + 1 < w2.heap.size:=by omega);(try have : w.heap.size + 1 + 1 + 1 < w2.heap.size:=by omega);have Hd2:=Lib.hid d2;clear d2
   go_wp2_with fail
   go_ret2
   exact ⟨_,rfl,by rw [E2.out];exact Hd2.out,by (repeat' first|(with_reducible first|exact blR _ _|assumption|refine blD ?_|refine blN ?_ _)|((with_reducible first|refine blA ?_ ?_ _|refine blS ?_ ?_ _|refine blT (by assumption) ?_ ?_);focus (go_size;done)))⟩
end Go.Proofs.YtkjecoanlppeaaaGreatDoor



namespace Go.Proofs.YtkjecoanlppeaaaGreatDoor
open Go.RowKit

def inB (s : VS) (ll nl : Nat) : Bool:=decide (0 ≤ s.kind) && decide (s.kind ≤ 6) && bareQ s ll nl (5 ≤ s.kind)
def kind3 (s : VS) : Bool:=if s.kind = 2 then dform s.neg s.coef s.sc else if s.kind = 3 then ztxt s.text && decide (s.text.length ≤ 1000) else if s.kind = 4 then dayB s.day else true
def lens (s : VS) (ll nl : Nat) : Bool:=decide (s.kind = 6 → nl = ll)
theorem namesB_nil : namesB [] = true:=by unfold namesB;rw [decide_eq_true_eq];intro i hi;simp at hi
theorem own_form (s : VS) (ll : Nat) (nm : List (List UInt8)) : ownB s ll nm = (inB s ll nm.length && kind3 s && lens s ll nm.length && namesB nm):=by
 unfold ownB inB kindB kind3 lens
 by_cases hk : 0 ≤ s.kind ∧ s.kind ≤ 6
 ·obtain ⟨k0,k6⟩:=hk
  have e : bareQ s ll nm.length (5 ≤ s.kind) = bareQ s ll nm.length (s.kind = 5 ∨ s.kind = 6):=by
   rw [Bool.eq_iff_iff,bareQ_iff,bareQ_iff]
   have : 5 ≤ s.kind ↔ (s.kind = 5 ∨ s.kind = 6):=by omega
   rw [this]
  rw [e,decide_eq_true k0,decide_eq_true k6]
  cases hb : bareQ s ll nm.length (s.kind = 5 ∨ s.kind = 6) with
  | false=>simp
  | true =>
   have h6:=(bareQ_iff.1 hb).2.2.2.2.2
   have hc : s.kind = 0 ∨ s.kind = 1 ∨ s.kind = 2 ∨ s.kind = 3 ∨ s.kind = 4 ∨ s.kind = 5 ∨ s.kind = 6:=by omega
   have hn : s.kind ≠ 6 → namesB nm = true:=fun h=>by
    have : nm = []:=List.length_eq_zero_iff.1 (h6.resolve_left h)
    rw [this];exact namesB_nil
   rcases hc with h | h | h | h | h | h | h
   all_goals simp only [h]
   all_goals first | (rw [hn (by omega)];simp;done) | (rw [hn (by omega)];simp [Bool.and_comm];done) | simp
 ·have : ¬ (s.kind = 0 ∨ s.kind = 1 ∨ s.kind = 5):=by omega
  rw [if_neg this,if_neg (by omega),if_neg (by omega),if_neg (by omega),if_neg (by omega),Bool.and_false]
  have : (decide (0 ≤ s.kind) && decide (s.kind ≤ 6)) = false:=by
   rw [Bool.and_eq_false_iff,decide_eq_false_iff_not,decide_eq_false_iff_not];omega
  rw [this];simp
def FormOf (R : World → Value → Value → VD → Prop) : Prop:=∀ (x : VD) (L N : Value) (w : World),x.size ≤ 1000000 → R w L N x →
 Calls Tryz.prog 78 #[vagg x.s L N] w fun e w'=>e = .returned (.bool (okV x)) ∧ Below w.heap.size w w'
set_option maxRecDepth 100000 in
set_option maxHeartbeats 4000000 in
theorem form_step (R : World → Value → Value → VD → Prop) (hR : ∀ w w' L N x,R w L N x → Below w.heap.size w w' → R w' L N x) (H : FormOf R)
  (s : VS) (l : List VD) (nm : List (List UInt8)) (A : Option Addr) (C : Nat) (A2 : Option Addr) (C2 : Nat) (w : World) (hok : s.ok) (hsz : sizes l ≤ 999999) (hv : Vls (R w) w (.slice A l.length C) l) (hn : Nms w (.slice A2 nm.length C2) nm) :
  Calls Tryz.prog 78 #[vagg s (.slice A l.length C) (.slice A2 nm.length C2)] w fun e w'=>e = .returned (.bool (ownB s l.length nm && oks l)) ∧ Below w.heap.size w w':=by
 obtain ⟨_,_,_,hll⟩:=hv.is
 obtain ⟨_,_,_,hnl⟩:=hn.is
 have HV:=Lib.hid hv
 have HN:=Lib.hid hn
 have HH:=Lib.hid H
 have HR:=Lib.hid hR
 have HB:=Lib.hid (fun W=>rbare_any s l nm A C A2 C2 hll hnl W)
 have hown:=own_form s l.length nm
 obtain ⟨b0,hb0⟩ : ∃ b0,b0 = bareQ s l.length nm.length (5 ≤ s.kind):=⟨_,rfl⟩
 obtain ⟨a1,ha1⟩ : ∃ a1,a1 = inB s l.length nm.length:=⟨_,rfl⟩
 obtain ⟨a3,ha3⟩ : ∃ a3,a3 = kind3 s:=⟨_,rfl⟩
 obtain ⟨a5,ha5⟩ : ∃ a5,a5 = lens s l.length nm.length:=⟨_,rfl⟩
 obtain ⟨z,hz⟩ : ∃ z,z = (ownB s l.length nm && oks l):=⟨_,rfl⟩
 rw [← ha1,← ha3,← ha5] at hown
 rw [hown] at hz
 rw [hown,← hz]
 rw [← hb0] at HB
 unfold inB at ha1
 rw [← hb0] at ha1
 obtain ⟨kind,yes,neg,coef,sc,text,day⟩:=s
 obtain ⟨hc,ht⟩:=hok
 unfold kind3 at ha3
 unfold lens at ha5
 unfold vagg at HB ⊢
 dsimp only at hc ht ha1 ha3 ha5 HB ⊢
 have HC:=Lib.hid hc
 have HTX:=Lib.hid ht
 have HA1:=Lib.hid ha1
 have HA3:=Lib.hid ha3
 have HA5:=Lib.hid ha5
 have HZ:=Lib.hid hz
 have HSZ:=Lib.hid hsz
 have hll2 : (l.length : Int) ≤ 1048576:=by omega
 have hnl2 : (nm.length : Int) ≤ 1048576:=by omega
 clear hown hb0 hz hc ht hv hn H hR hsz ha1 ha3 ha5 hll hnl
 obtain ⟨x1,hx1⟩ : ∃ x1,x1 = wd coef 1:=⟨_,rfl⟩
 obtain ⟨x0,hx0⟩ : ∃ x0,x0 = wd coef 0:=⟨_,rfl⟩
 rw [← hx1,← hx0] at HB
 rw [← hx1,← hx0]
 have HX1:=Lib.hid hx1
 have HX0:=Lib.hid hx0
 clear hx1 hx0
 go_enter Tryz.func78,Tryz.ntmps78
 go_upto_region 1 with fail
 go_cut [18] (fun s18 wx=>s18 = .bool (!a1) ∧ Hid (Mem2 w wx A l.length C A2 nm.length C2) ∧ wx.cell? ⟨w.heap.size,0,none⟩ = some (.int .i64 kind) ∧ wx.cell? ⟨w.heap.size,2,none⟩ = some (.bool neg) ∧ wx.cell? ⟨w.heap.size,3,none⟩ = some (.int .u64 x1) ∧ wx.cell? ⟨w.heap.size,4,none⟩ = some (.int .u64 x0) ∧ wx.cell? ⟨w.heap.size,5,none⟩ = some (.int .i64 sc) ∧ wx.cell? ⟨w.heap.size,6,none⟩ = some (.string ⟨text.toArray⟩) ∧ wx.cell? ⟨w.heap.size,7,none⟩ = some (.int .i64 day))
 case first =>
  by_cases k0 : kind < 0
  ·obtain rfl : a1 = false:=by rw [HA1.out,decide_eq_false (by omega)];rfl
   go_wp2_with fail
   go_meet
   case rel=>exact ⟨rfl,Lib.hid ⟨by go_simp,by go_simp,by go_size,by (repeat' first|(with_reducible first|exact blR _ _|assumption|refine blD ?_|refine blN ?_ _)|((with_reducible first|refine blA ?_ ?_ _|refine blS ?_ ?_ _|refine blT (by assumption) ?_ ?_);focus (go_size;done)))⟩,by go_simp,by go_simp,by go_simp,by go_simp,by go_simp,by go_simp,by go_simp⟩
  ·by_cases k6 : 6 < kind
   ·obtain rfl : a1 = false:=by rw [HA1.out,decide_eq_false (show ¬ kind ≤ 6 by omega)];simp
    go_wp2_with fail
    go_meet
    case rel=>exact ⟨rfl,Lib.hid ⟨by go_simp,by go_simp,by go_size,by (repeat' first|(with_reducible first|exact blR _ _|assumption|refine blD ?_|refine blN ?_ _)|((with_reducible first|refine blA ?_ ?_ _|refine blS ?_ ?_ _|refine blT (by assumption) ?_ ?_);focus (go_size;done)))⟩,by go_simp,by go_simp,by go_simp,by go_simp,by go_simp,by go_simp,by go_simp⟩
   ·obtain rfl : a1 = b0:=by rw [HA1.out,decide_eq_true (by omega),decide_eq_true (by omega)];simp
    go_wp2_with ((go_at_call 100;with_reducible refine (HB.out _).mono ?_);rintro _ w1 ⟨rfl,hb1⟩;have hb1s:=hb1.size;(try simp only [wsA,wsS,wsD,wsN] at hb1s);obtain ⟨hb1c,hb1f⟩:=bcell hb1;(try have : w.heap.size < w1.heap.size:=by omega);(try have : w.heap.size + 1 < w1.heap.size:=by omega);(try have : w.heap.size + 1 + 1 < w1.heap.size:=by omega);(try have : w.heap.size + 1 + 1 + 1 < w1.heap.size:=by omega))
    go_meet
    case rel=>exact ⟨rfl,Lib.hid ⟨by go_simp,by go_simp,by omega,by (repeat' first|(with_reducible first|exact blR _ _|assumption|refine blD ?_|refine blN ?_ _)|((with_reducible first|refine blA ?_ ?_ _|refine blS ?_ ?_ _|refine blT (by assumption) ?_ ?_);focus (go_size;done)))⟩,by go_simp,by go_simp,by go_simp,by go_simp,by go_simp,by go_simp,by go_simp⟩
 case rest =>
  obtain ⟨rfl,HM,c0,c2,c3,c4,c5,c6,c7⟩:=hcut
  obtain ⟨w1,rfl⟩ : ∃ w1 : World,w1 = wc:=⟨_,rfl⟩
  clear HB HA1
  have hm3:=HM.out.2.2.1
  have hm4:=HM.out.2.2.2
  cases a1 with
  | false =>
   obtain rfl : z = false:=by rw [HZ.out];simp
   clear HZ HA3 HA5
   go_wp2_with fail
   go_ret
   exact ⟨rfl,by (repeat' first|(with_reducible first|exact blR _ _|assumption|refine blD ?_|refine blN ?_ _)|((with_reducible first|refine blA ?_ ?_ _|refine blS ?_ ?_ _|refine blT (by assumption) ?_ ?_);focus (go_size;done)))⟩
  | true =>
   go_upto_region 3 with fail
   go_cut [55] (fun s55 wx=>s55 = .bool (!a3) ∧ Hid (Mem2 w wx A l.length C A2 nm.length C2) ∧ wx.cell? ⟨w.heap.size,0,none⟩ = some (.int .i64 kind))
   case first =>
    have hk : kind = 2 ∨ kind = 3 ∨ kind = 4 ∨ (kind ≠ 2 ∧ kind ≠ 3 ∧ kind ≠ 4):=by omega
    rcases hk with rfl | rfl | rfl | ⟨k2,k3,k4⟩
    ·obtain rfl : a3 = dform neg coef sc:=by rw [HA3.out];simp
     have HF:=Lib.hid (fun W=>rform_any neg coef sc HC.out W)
     rw [← HX1.out,← HX0.out] at HF
     clear HA3
     generalize dform neg coef sc = q at *
     cases q with
     | false =>
      go_wp2_with ((go_at_call 101;with_reducible refine (HF.out _).mono ?_);rintro _ w2 ⟨rfl,hb2⟩;have hb2s:=hb2.size;(try simp only [wsA,wsS,wsD,wsN] at hb2s);obtain ⟨hb2c,hb2f⟩:=bcell hb2;(try have : w.heap.size < w2.heap.size:=by omega);(try have : w.heap.size + 1 < w2.heap.size:=by omega);(try have : w.heap.size + 1 + 1 < w2.heap.size:=by omega);(try have : w.heap.size + 1 + 1 + 1 < w2.heap.size:=by omega))
      go_meet
      case rel=>exact ⟨rfl,Lib.hid (HM.out.below hb2),by go_simp⟩
     | true =>
      go_wp2_with ((go_at_call 101;with_reducible refine (HF.out _).mono ?_);rintro _ w2 ⟨rfl,hb2⟩;have hb2s:=hb2.size;(try simp only [wsA,wsS,wsD,wsN] at hb2s);obtain ⟨hb2c,hb2f⟩:=bcell hb2;(try have : w.heap.size < w2.heap.size:=by omega);(try have : w.heap.size + 1 < w2.heap.size:=by omega);(try have : w.heap.size + 1 + 1 < w2.heap.size:=by omega);(try have : w.heap.size + 1 + 1 + 1 < w2.heap.size:=by omega))
      go_meet
      case rel=>exact ⟨rfl,Lib.hid (HM.out.below hb2),by go_simp⟩
    ·have hz3 : a3 = (ztxt text && decide (text.length ≤ 1000)):=by rw [HA3.out];simp
     have HF:=Lib.hid (fun W=>rvalid_any text HTX.out W)
     generalize ztxt text = q at HF hz3
     cases q with
     | false =>
      obtain rfl : a3 = false:=hz3
      go_wp2_with ((go_at_call 102;with_reducible refine (HF.out _).mono ?_);rintro _ w2 ⟨rfl,hb2⟩;have hb2s:=hb2.size;(try simp only [wsA,wsS,wsD,wsN] at hb2s);obtain ⟨hb2c,hb2f⟩:=bcell hb2;(try have : w.heap.size < w2.heap.size:=by omega);(try have : w.heap.size + 1 < w2.heap.size:=by omega);(try have : w.heap.size + 1 + 1 < w2.heap.size:=by omega);(try have : w.heap.size + 1 + 1 + 1 < w2.heap.size:=by omega))
      go_meet
      case rel=>exact ⟨rfl,Lib.hid (HM.out.below hb2),by go_simp⟩
     | true =>
      by_cases h1 : text.length ≤ 1000
      ·obtain rfl : a3 = true:=by rw [hz3,decide_eq_true h1];rfl
       have h1' : ¬ 1000 < (text.length : Int):=by omega
       clear hz3 h1
       go_wp2_with ((go_at_call 102;with_reducible refine (HF.out _).mono ?_);rintro _ w2 ⟨rfl,hb2⟩;have hb2s:=hb2.size;(try simp only [wsA,wsS,wsD,wsN] at hb2s);obtain ⟨hb2c,hb2f⟩:=bcell hb2;(try have : w.heap.size < w2.heap.size:=by omega);(try have : w.heap.size + 1 < w2.heap.size:=by omega);(try have : w.heap.size + 1 + 1 < w2.heap.size:=by omega);(try have : w.heap.size + 1 + 1 + 1 < w2.heap.size:=by omega))
       go_meet
       case rel=>exact ⟨by first | rfl | (simp;omega),Lib.hid (HM.out.below hb2),by go_simp⟩
      ·obtain rfl : a3 = false:=by rw [hz3,decide_eq_false h1];rfl
       have h1' : 1000 < (text.length : Int):=by omega
       clear hz3 h1
       go_wp2_with ((go_at_call 102;with_reducible refine (HF.out _).mono ?_);rintro _ w2 ⟨rfl,hb2⟩;have hb2s:=hb2.size;(try simp only [wsA,wsS,wsD,wsN] at hb2s);obtain ⟨hb2c,hb2f⟩:=bcell hb2;(try have : w.heap.size < w2.heap.size:=by omega);(try have : w.heap.size + 1 < w2.heap.size:=by omega);(try have : w.heap.size + 1 + 1 < w2.heap.size:=by omega);(try have : w.heap.size + 1 + 1 + 1 < w2.heap.size:=by omega))
       go_meet
       case rel=>exact ⟨by first | rfl | (simp;omega),Lib.hid (HM.out.below hb2),by go_simp⟩
    ·obtain rfl : a3 = dayB day:=by rw [HA3.out];simp
     have HF:=Lib.hid (fun W=>ris_any day W)
     clear HA3
     generalize dayB day = q at *
     cases q with
     | false =>
      go_wp2_with (go_at_call 103;(with_reducible refine (HF.out _).mono ?_);rintro _ w2 ⟨rfl,rfl⟩)
      go_meet
      case rel=>exact ⟨rfl,HM,by go_simp⟩
     | true =>
      go_wp2_with (go_at_call 103;(with_reducible refine (HF.out _).mono ?_);rintro _ w2 ⟨rfl,rfl⟩)
      go_meet
      case rel=>exact ⟨rfl,HM,by go_simp⟩
    ·obtain rfl : a3 = true:=by rw [HA3.out,if_neg k2,if_neg k3,if_neg k4]
     have e2 : (kind == 2) = false:=by rw [beq_eq_false_iff_ne];exact k2
     have e3 : (kind == 3) = false:=by rw [beq_eq_false_iff_ne];exact k3
     have e4 : (kind == 4) = false:=by rw [beq_eq_false_iff_ne];exact k4
     clear HA3 k2 k3 k4
     go_wp2_with fail
     go_meet
     case rel=>exact ⟨rfl,HM,by go_simp⟩
   case rest =>
    obtain ⟨rfl,HM,c0⟩:=hcut
    obtain ⟨w2,rfl⟩ : ∃ w2 : World,w2 = wc:=⟨_,rfl⟩
    clear HA3 c2 c3 c4 c5 c6 c7 HX1 HX0 HC HTX hm3 hm4
    obtain ⟨c8,c9,hm3,hm4⟩:=id HM.out
    cases a3 with
    | false =>
     obtain rfl : z = false:=by rw [HZ.out];simp
     clear HZ HA5
     go_wp2_with fail
     go_ret
     exact ⟨rfl,by (repeat' first|(with_reducible first|exact blR _ _|assumption|refine blD ?_|refine blN ?_ _)|((with_reducible first|refine blA ?_ ?_ _|refine blS ?_ ?_ _|refine blT (by assumption) ?_ ?_);focus (go_size;done)))⟩
    | true =>
     go_upto_region 5 with fail
     go_cut [67] (fun s67 wx=>s67 = .bool (!a5) ∧ wx = w2)
     case first =>
      by_cases k6 : kind = 6
      ·subst k6
       by_cases hle : nm.length = l.length
       ·obtain rfl : a5 = true:=by rw [HA5.out,decide_eq_true (fun _=>hle)]
        have e1 : ((nm.length : Int) != (l.length : Int)) = false:=by rw [bne_eq_false_iff_eq];omega
        clear HA5 hle
        go_wp2_with fail
        go_meet
        case rel=>exact ⟨rfl,rfl⟩
       ·obtain rfl : a5 = false:=by rw [HA5.out,decide_eq_false (fun h=>hle (h rfl))]
        have e1 : ((nm.length : Int) != (l.length : Int)) = true:=by rw [bne_iff_ne];omega
        clear HA5 hle
        go_wp2_with fail
        go_meet
        case rel=>exact ⟨rfl,rfl⟩
      ·obtain rfl : a5 = true:=by rw [HA5.out,decide_eq_true (fun h=>absurd h k6)]
       have e6 : (kind == 6) = false:=by rw [beq_eq_false_iff_ne];exact k6
       clear HA5 k6
       go_wp2_with fail
       go_meet
       case rel=>exact ⟨rfl,rfl⟩
     case rest =>
      obtain ⟨rfl,rfl⟩:=hcut
      obtain ⟨w2,rfl⟩ : ∃ w2 : World,w2 = wc:=⟨_,rfl⟩
      clear HA5 c0
      cases a5 with
      | false =>
       obtain rfl : z = false:=by rw [HZ.out];simp
       clear HZ
       go_wp2_with fail
       go_ret
       exact ⟨rfl,by (repeat' first|(with_reducible first|exact blR _ _|assumption|refine blD ?_|refine blN ?_ _)|((with_reducible first|refine blA ?_ ?_ _|refine blS ?_ ?_ _|refine blT (by assumption) ?_ ?_);focus (go_size;done)))⟩
      | true =>
       obtain ⟨y,hy⟩ : ∃ y,y = namesB nm:=⟨_,rfl⟩
       obtain ⟨v,hv⟩ : ∃ v,v = oks l:=⟨_,rfl⟩
       have HZ2 : Hid (z = (y && v)):=Lib.hid (by rw [HZ.out,hy,hv];simp)
       have HY : Hid (y = true ↔ ∀ i,i < nm.length → nam (ng nm i) = true ∧ ∀ k,k < i → ng nm k ≠ ng nm i):=Lib.hid (by rw [hy,namesB,decide_eq_true_eq])
       have HVV:=Lib.hid hv
       clear HZ hy hv c8 c9
       go_wp2_with fail
       go_loopg [3] nm.length (fun k s3 wr=>∃ t : Nat,k + t = nm.length ∧ s3 = .int .i64 t ∧ Hid (∀ i,i < t → nam (ng nm i) = true ∧ ∀ k,k < i → ng nm k ≠ ng nm i) ∧ Hid (Mem2 w wr A l.length C A2 nm.length C2))
       case atStart=>exact ⟨0,by omega,rfl,Lib.hid (fun i hi=>absurd hi (Nat.not_lt_zero _)),HM⟩
       case round =>
        obtain ⟨t,hk,rfl,HA,HMW⟩:=hrel
        have HK:=Lib.hid hk
        have htn : t ≤ nm.length:=by omega
        clear hk HM hm3 hm4
        obtain ⟨c8,c9,hm3,hm4⟩:=id HMW.out
        by_cases hlt : t < nm.length
        ·obtain ⟨b,o,rfl,ct,hlen⟩:=(HN.out.below hm4).at hlt
         have lb:=vcell_lt ct
         have HNM:=Lib.hid (fun W=>rname4_any (ng nm t) (by omega) W)
         obtain ⟨q,hq⟩ : ∃ q,q = nam (ng nm t):=⟨_,rfl⟩
         rw [← hq] at HNM
         have HQ:=Lib.hid hq
         obtain ⟨x,hx⟩ : ∃ x,x = ng nm t:=⟨_,rfl⟩
         rw [← hx] at HNM ct
         have HX:=Lib.hid hx
         clear hq hx hlen
         cases q with
         | false =>
          have hz : z = false:=by
           rw [HZ2.out]
           cases y with
           | false=>rfl
           | true =>
            have:=(HY.out.1 rfl t hlt).1
            rw [← HQ.out] at this;exact Bool.noConfusion this
          subst hz
          go_wp2_with (go_at_call 42;(with_reducible refine (HNM.out _).mono ?_);rintro _ w3 ⟨rfl,rfl⟩)
          go_ret
          exact ⟨rfl,by (repeat' first|(with_reducible first|exact blR _ _|assumption|refine blD ?_|refine blN ?_ _)|((with_reducible first|refine blA ?_ ?_ _|refine blS ?_ ?_ _|refine blT (by assumption) ?_ ?_);focus (go_size;done)))⟩
         | true =>
          go_wp2_with (go_at_call 42;(with_reducible refine (HNM.out _).mono ?_);rintro _ w3 ⟨rfl,rfl⟩)
          obtain ⟨wo,hwo⟩ : ∃ wo : World,wo = wr:=⟨_,rfl⟩
          obtain ⟨go,hgo⟩ : ∃ go : Nat,go = gk:=⟨_,rfl⟩
          rw [← hgo] at HK
          have HGO:=Lib.hid hgo
          clear hwo hgo
          go_loopg [4] t (fun k s4 wr=>∃ u : Nat,k + u = t ∧ s4 = .int .i64 u ∧ Hid (∀ k,k < u → ng nm k ≠ ng nm t) ∧ Hid (Mem2 w wr A l.length C (some ⟨b,o,none⟩) nm.length C2))
          case atStart=>exact ⟨0,by omega,rfl,Lib.hid (fun k hk=>absurd hk (Nat.not_lt_zero _)),HMW⟩
          case round =>
           obtain ⟨u,hk2,rfl,HB2,HMI⟩:=hrel
           have HK2:=Lib.hid hk2
           have hut : u ≤ t:=by omega
           clear hk2 HMW c8 c9 hm3 hm4 ct lb
           obtain ⟨c8,c9,hm3,hm4⟩:=id HMI.out
           by_cases hlu : u < t
           ·obtain ⟨b1,o1,e1,ct,hlen⟩:=(HN.out.below hm4).at hlt
            obtain ⟨b2,o2,e2,cu,hlen2⟩:=(HN.out.below hm4).at (show u < nm.length by omega)
            injection e1 with e1
            injection e1 with e1 e1'
            injection e2 with e2
            injection e2 with e2 e2'
            subst e1 e1' e2 e2'
            have lb:=vcell_lt ct
            obtain ⟨p,hp⟩ : ∃ p,p = ng nm u:=⟨_,rfl⟩
            rw [← hp] at cu
            rw [← HX.out] at ct
            have HP:=Lib.hid hp
            have huc : (u : Int) < (nm.length : Int):=by omega
            have htc : (t : Int) < (nm.length : Int):=by omega
            clear hlen hlen2 hp
            by_cases hpx : p = x
            ·have hz : z = false:=by
              rw [HZ2.out]
              cases y with
              | false=>rfl
              | true =>
               exact absurd (by rw [← HP.out,← HX.out];exact hpx) ((HY.out.1 rfl t hlt).2 u hlu)
             subst hz
             have HPX:=Lib.hid hpx
             subst hpx
             go_wp2_with fail
             go_quiet (fail)
             go_wp2_with fail
             go_ret
             exact ⟨rfl,by (repeat' first|(with_reducible first|exact blR _ _|assumption|refine blD ?_|refine blN ?_ _)|((with_reducible first|refine blA ?_ ?_ _|refine blS ?_ ?_ _|refine blT (by assumption) ?_ ?_);focus (go_size;done)))⟩
            ·have g1 : (p == x) = false:=by simpa using hpx
             have HPX:=Lib.hid hpx
             go_wp2_with fail
             go_quiet (fail)
             go_wp2_with fail
             go_roundg (gk - 1)
             case measure=>have:=HK2.out;omega
             case rel=>exact ⟨u + 1,by have:=HK2.out;omega,by go_num,Lib.hid (fun i hi e=>by
              by_cases e2 : i = u
              ·subst e2;exact HPX.out (by rw [HP.out,HX.out];exact e)
              ·exact HB2.out i (by omega) e),Lib.hid (HMI.out.drewN _)⟩
           ·obtain rfl : u = t:=by omega
            go_wp2_with fail
            go_roundg (go - 1)
            case measure=>have:=HK.out;have:=HGO.out;omega
            case rel=>exact ⟨u + 1,by have:=HK.out;omega,by go_num,Lib.hid (fun i hi=>by
             by_cases e : i = u
             ·subst e;exact ⟨HQ.out.symm,HB2.out⟩
             ·exact HA.out i (by omega)),HMI⟩
        ·obtain rfl : t = nm.length:=by omega
         have hy : y = true:=HY.out.2 HA.out
         have hzv : z = v:=by rw [HZ2.out,hy];rfl
         subst hzv
         clear HA HZ2 HY hy hlt
         have HL9:=Lib.hid (fun (W : World) (h : Below w.heap.size w W)=>HV.out.below h (fun _ _ _ q=>HR.out _ _ _ _ _ q h))
         go_wp2_with fail
         obtain ⟨wo,hwo⟩ : ∃ wo : World,wo = wr:=⟨_,rfl⟩
         clear hwo
         go_loopg [5] l.length (fun k s5 wr=>∃ t : Nat,k + t = l.length ∧ s5 = .int .i64 t ∧ Hid (oks (l.take t) = true) ∧ Hid (Mem2 w wr A l.length C A2 nm.length C2))
         case atStart=>exact ⟨0,by omega,rfl,Lib.hid (by rw [List.take_zero];rfl),HMW⟩
         case round =>
          obtain ⟨t,hk,rfl,HOK,HMI⟩:=hrel
          have HK2:=Lib.hid hk
          have htn2 : t ≤ l.length:=by omega
          clear hk HMW c8 c9 hm3 hm4
          obtain ⟨c8,c9,hm3,hm4⟩:=id HMI.out
          by_cases hlt : t < l.length
          ·obtain ⟨b,o,B1,D1,B2,D2,rfl,hat,hx⟩:=(HL9.out _ hm4).at hlt
           obtain ⟨a0,a1,a2,a3,a4,a5,a6,a7,a8,a9⟩:=hat.val
           have lb:=vcell_lt a0
           have hso:=oks_take hlt
           rw [HOK.out,Bool.true_and] at hso
           have hs2:=vg_size hlt
           have hsz9:=HSZ.out
           have hall : okV (vg l t) = false → z = false:=fun e=>by
            have h2:=oks_append (l.take (t + 1)) (l.drop (t + 1))
            rw [List.take_append_drop,hso,e,← HVV.out] at h2
            rw [h2];rfl
           obtain ⟨x,hxx⟩ : ∃ x,x = vg l t:=⟨_,rfl⟩
           rw [← hxx] at hx a0 a1 a2 a3 a4 a5 a6 a7 a8 a9 hs2 hso hall
           obtain ⟨n1',hn1⟩ : ∃ n1',n1' = x.list.length:=⟨_,rfl⟩
           obtain ⟨n2',hn2⟩ : ∃ n2',n2' = x.names.length:=⟨_,rfl⟩
           rw [← hn1] at a8 hx
           rw [← hn2] at a9 hx
           have HC:=Lib.hid (HH.out x (.slice B1 n1' D1) (.slice B2 n2' D2) wr (by omega) hx)
           obtain ⟨q,hq⟩ : ∃ q,q = okV x:=⟨_,rfl⟩
           rw [← hq] at HC hso hall
           have HSO:=Lib.hid hso
           have HAL:=Lib.hid hall
           clear hat hx hxx hn1 hn2 hs2 hsz9 hso hall hq
           cases q with
           | false =>
            obtain rfl : z = false:=HAL.out rfl
            go_wp2_with ((go_at_call 78;with_reducible refine (HC.out).mono ?_);rintro _ w3 ⟨rfl,hb3⟩;have hb3s:=hb3.size;(try simp only [wsA,wsS,wsD,wsN] at hb3s);obtain ⟨hb3c,hb3f⟩:=bcell hb3;(try have : w.heap.size < w3.heap.size:=by omega);(try have : w.heap.size + 1 < w3.heap.size:=by omega);(try have : w.heap.size + 1 + 1 < w3.heap.size:=by omega);(try have : w.heap.size + 1 + 1 + 1 < w3.heap.size:=by omega))
            go_ret
            exact ⟨rfl,by (repeat' first|(with_reducible first|exact blR _ _|assumption|refine blD ?_|refine blN ?_ _)|((with_reducible first|refine blA ?_ ?_ _|refine blS ?_ ?_ _|refine blT (by assumption) ?_ ?_);focus (go_size;done)))⟩
           | true =>
            go_wp2_with ((go_at_call 78;with_reducible refine (HC.out).mono ?_);rintro _ w3 ⟨rfl,hb3⟩;have hb3s:=hb3.size;(try simp only [wsA,wsS,wsD,wsN] at hb3s);obtain ⟨hb3c,hb3f⟩:=bcell hb3;(try have : w.heap.size < w3.heap.size:=by omega);(try have : w.heap.size + 1 < w3.heap.size:=by omega);(try have : w.heap.size + 1 + 1 < w3.heap.size:=by omega);(try have : w.heap.size + 1 + 1 + 1 < w3.heap.size:=by omega))
            go_roundg (gk - 1)
            case measure=>have:=HK2.out;omega
            case rel=>exact ⟨t + 1,by have:=HK2.out;omega,by go_num,Lib.hid HSO.out,Lib.hid (HMI.out.below hb3)⟩
          ·obtain rfl : t = l.length:=by omega
           have hv : z = true:=by have:=HOK.out;rw [List.take_length] at this;rw [HVV.out,this]
           subst hv
           go_wp2_with fail
           go_ret
           exact ⟨rfl,by (repeat' first|(with_reducible first|exact blR _ _|assumption|refine blD ?_|refine blN ?_ _)|((with_reducible first|refine blA ?_ ?_ _|refine blS ?_ ?_ _|refine blT (by assumption) ?_ ?_);focus (go_size;done)))⟩
theorem rform7_any : ∀ n,FormOf (VR n)
 | 0,_,_,_,_,_,h=>h.elim
 | n + 1,x,L,N,w,h1,h=>by
  obtain ⟨A,C,rfl,_⟩:=h.2.1.is
  obtain ⟨A2,C2,rfl,_⟩:=h.2.2.is
  rw [okV_eq]
  exact form_step (VR n) (fun _ _ _ _ _ h hb=>h.below hb) (rform7_any n) x.s x.list x.names A C A2 C2 w h.1 (by rw [VD.size_eq] at h1;omega) h.2.1 h.2.2
end Go.Proofs.YtkjecoanlppeaaaGreatDoor



namespace Go.Proofs.YtkjecoanlppeaaaGreatDoor
open Go.RowKit

set_option maxRecDepth 100000 in
set_option maxHeartbeats 1000000 in
theorem rcheck_any (d : VD) (A : Option Addr) (C : Nat) (A2 : Option Addr) (C2 : Nat) (w : World) (h : VA w d A C A2 C2) (hsz : d.size ≤ 1048576) :
  Calls Tryz.prog 47 #[vargs d A C A2 C2] w fun e w'=>e = .returned (.int .i64 (chkV d)) ∧ Below w.heap.size w w':=by
 have hc1:=fun (W : World) (hW : Below w.heap.size w W)=>rcount_any d A C A2 C2 1000 W (by omega) (by omega) (RV.below h hW) hsz
 obtain ⟨n,hn⟩:=h
 have hc2:=fun (W : World) (hW : Below w.heap.size w W) (hz : d.size ≤ 1000000)=>depth_any n d (.slice A d.list.length C) (.slice A2 d.names.length C2) W hz (hn.below hW)
 have hc3:=fun (W : World) (hW : Below w.heap.size w W) (hz : d.size ≤ 1000000)=>rform7_any n d (.slice A d.list.length C) (.slice A2 d.names.length C2) W hz (hn.below hW)
 obtain ⟨z,hz⟩ : ∃ z,z = chkV d:=⟨_,rfl⟩
 rw [← hz]
 unfold chkV at hz
 obtain ⟨S,hS⟩ : ∃ S,S = d.size:=⟨_,rfl⟩
 obtain ⟨D,hD⟩ : ∃ D,D = d.deep:=⟨_,rfl⟩
 obtain ⟨K,hK⟩ : ∃ K,K = okV d:=⟨_,rfl⟩
 rw [← hS,← hD,← hK] at hz
 rw [← hS] at hc1
 rw [← hS,← hD] at hc2
 rw [← hS,← hK] at hc3
 have hcb:=cnt_le (s:=S) (m:=1000) (by omega) (by rw [hS];exact size_pos d)
 have hgt:=cnt_gt (s:=S) (m:=1000)
 obtain ⟨c,hc⟩ : ∃ c,c = cnt S 1000:=⟨_,rfl⟩
 rw [← hc] at hc1 hcb hgt
 obtain ⟨s,l,nm⟩:=d
 obtain ⟨kind,yes,neg,coef,sc,text,day⟩:=s
 unfold vargs vagg
 unfold vagg at hc1 hc2 hc3
 dsimp only [VD.s,VD.list,VD.names] at hc1 hc2 hc3 ⊢
 have H1:=Lib.hid hc1
 have H2:=Lib.hid hc2
 have H3:=Lib.hid hc3
 clear hc1 hc2 hc3 hn hS hD hK hc hsz
 by_cases hb : (1000 : Int) < c
 ·obtain rfl : z = 6:=by rw [hz,if_pos (by have:=hgt.1 hb;omega)]
  clear hz hgt H2 H3
  go_enter Tryz.func47,Tryz.ntmps47
  go_wp2_with ((go_at_call 25;with_reducible refine (H1.out _ (by (repeat' first|(with_reducible first|exact blR _ _|assumption|refine blD ?_|refine blN ?_ _)|((with_reducible first|refine blA ?_ ?_ _|refine blS ?_ ?_ _|refine blT (by assumption) ?_ ?_);focus (go_size;done))))).mono ?_);rintro _ w1 ⟨rfl,hb1⟩;have hb1s:=hb1.size;(try simp only [wsA,wsS,wsD,wsN] at hb1s);obtain ⟨hb1c,hb1f⟩:=bcell hb1;(try have : w.heap.size < w1.heap.size:=by omega);(try have : w.heap.size + 1 < w1.heap.size:=by omega);(try have : w.heap.size + 1 + 1 < w1.heap.size:=by omega);(try have : w.heap.size + 1 + 1 + 1 < w1.heap.size:=by omega))
  go_ret
  exact ⟨rfl,by (repeat' first|(with_reducible first|exact blR _ _|assumption|refine blD ?_|refine blN ?_ _)|((with_reducible first|refine blA ?_ ?_ _|refine blS ?_ ?_ _|refine blT (by assumption) ?_ ?_);focus (go_size;done)))⟩
 ·have hs : ¬ 1000 < S:=fun h=>hb (hgt.2 (by omega))
  rw [if_neg hs] at hz
  have H4:=Lib.hid (fun W hW=>H2.out W hW (by omega))
  have H5:=Lib.hid (fun W hW=>H3.out W hW (by omega))
  clear H2 H3 hgt hs
  by_cases hd : 16 < D
  ·obtain rfl : z = 7:=by rw [hz,if_pos hd]
   have hd' : (16 : Int) < (D : Int):=by omega
   clear hz
   go_enter Tryz.func47,Tryz.ntmps47
   go_wp2_with (first | ((go_at_call 25;with_reducible refine (H1.out _ (by (repeat' first|(with_reducible first|exact blR _ _|assumption|refine blD ?_|refine blN ?_ _)|((with_reducible first|refine blA ?_ ?_ _|refine blS ?_ ?_ _|refine blT (by assumption) ?_ ?_);focus (go_size;done))))).mono ?_);rintro _ w1 ⟨rfl,hb1⟩;have hb1s:=hb1.size;(try simp only [wsA,wsS,wsD,wsN] at hb1s);obtain ⟨hb1c,hb1f⟩:=bcell hb1;(try have : w.heap.size < w1.heap.size:=by omega);(try have : w.heap.size + 1 < w1.heap.size:=by omega);(try have : w.heap.size + 1 + 1 < w1.heap.size:=by omega);(try have : w.heap.size + 1 + 1 + 1 < w1.heap.size:=by omega)) | ((go_at_call 77;with_reducible refine (H4.out _ (by (repeat' first|(with_reducible first|exact blR _ _|assumption|refine blD ?_|refine blN ?_ _)|((with_reducible first|refine blA ?_ ?_ _|refine blS ?_ ?_ _|refine blT (by assumption) ?_ ?_);focus (go_size;done))))).mono ?_);rintro _ w2 ⟨rfl,hb2⟩;have hb2s:=hb2.size;(try simp only [wsA,wsS,wsD,wsN] at hb2s);obtain ⟨hb2c,hb2f⟩:=bcell hb2;(try have : w.heap.size < w2.heap.size:=by omega);(try have : w.heap.size + 1 < w2.heap.size:=by omega);(try have : w.heap.size + 1 + 1 < w2.heap.size:=by omega);(try have : w.heap.size + 1 + 1 + 1 < w2.heap.size:=by omega);(try have : w1.heap.size < w2.heap.size:=by omega);(try have : w1.heap.size + 1 < w2.heap.size:=by omega);(try have : w1.heap.size + 1 + 1 < w2.heap.size:=by omega);(try have : w1.heap.size + 1 + 1 + 1 < w2.heap.size:=by omega)))
   go_ret
   exact ⟨rfl,by (repeat' first|(with_reducible first|exact blR _ _|assumption|refine blD ?_|refine blN ?_ _)|((with_reducible first|refine blA ?_ ?_ _|refine blS ?_ ?_ _|refine blT (by assumption) ?_ ?_);focus (go_size;done)))⟩
  ·rw [if_neg hd] at hz
   have hd' : ¬ (16 : Int) < (D : Int):=by omega
   cases K with
   | true =>
    obtain rfl : z = 0:=hz
    go_enter Tryz.func47,Tryz.ntmps47
    go_wp2_with (first | ((go_at_call 25;with_reducible refine (H1.out _ (by (repeat' first|(with_reducible first|exact blR _ _|assumption|refine blD ?_|refine blN ?_ _)|((with_reducible first|refine blA ?_ ?_ _|refine blS ?_ ?_ _|refine blT (by assumption) ?_ ?_);focus (go_size;done))))).mono ?_);rintro _ w1 ⟨rfl,hb1⟩;have hb1s:=hb1.size;(try simp only [wsA,wsS,wsD,wsN] at hb1s);obtain ⟨hb1c,hb1f⟩:=bcell hb1;(try have : w.heap.size < w1.heap.size:=by omega);(try have : w.heap.size + 1 < w1.heap.size:=by omega);(try have : w.heap.size + 1 + 1 < w1.heap.size:=by omega);(try have : w.heap.size + 1 + 1 + 1 < w1.heap.size:=by omega)) | ((go_at_call 77;with_reducible refine (H4.out _ (by (repeat' first|(with_reducible first|exact blR _ _|assumption|refine blD ?_|refine blN ?_ _)|((with_reducible first|refine blA ?_ ?_ _|refine blS ?_ ?_ _|refine blT (by assumption) ?_ ?_);focus (go_size;done))))).mono ?_);rintro _ w2 ⟨rfl,hb2⟩;have hb2s:=hb2.size;(try simp only [wsA,wsS,wsD,wsN] at hb2s);obtain ⟨hb2c,hb2f⟩:=bcell hb2;(try have : w.heap.size < w2.heap.size:=by omega);(try have : w.heap.size + 1 < w2.heap.size:=by omega);(try have : w.heap.size + 1 + 1 < w2.heap.size:=by omega);(try have : w.heap.size + 1 + 1 + 1 < w2.heap.size:=by omega);(try have : w1.heap.size < w2.heap.size:=by omega);(try have : w1.heap.size + 1 < w2.heap.size:=by omega);(try have : w1.heap.size + 1 + 1 < w2.heap.size:=by omega);(try have : w1.heap.size + 1 + 1 + 1 < w2.heap.size:=by omega)) | ((go_at_call 78;with_reducible refine (H5.out _ (by (repeat' first|(with_reducible first|exact blR _ _|assumption|refine blD ?_|refine blN ?_ _)|((with_reducible first|refine blA ?_ ?_ _|refine blS ?_ ?_ _|refine blT (by assumption) ?_ ?_);focus (go_size;done))))).mono ?_);rintro _ w3 ⟨rfl,hb3⟩;have hb3s:=hb3.size;(try simp only [wsA,wsS,wsD,wsN] at hb3s);obtain ⟨hb3c,hb3f⟩:=bcell hb3;(try have : w.heap.size < w3.heap.size:=by omega);(try have : w.heap.size + 1 < w3.heap.size:=by omega);(try have : w.heap.size + 1 + 1 < w3.heap.size:=by omega);(try have : w.heap.size + 1 + 1 + 1 < w3.heap.size:=by omega);(try have : w1.heap.size < w3.heap.size:=by omega);(try have : w1.heap.size + 1 < w3.heap.size:=by omega);(try have : w1.heap.size + 1 + 1 < w3.heap.size:=by omega);(try have : w1.heap.size + 1 + 1 + 1 < w3.heap.size:=by omega);(try have : w2.heap.size < w3.heap.size:=by omega);(try have : w2.heap.size + 1 < w3.heap.size:=by omega);(try have : w2.heap.size + 1 + 1 < w3.heap.size:=by omega);(try have : w2.heap.size + 1 + 1 + 1 < w3.heap.size:=by omega)))
    go_ret
    exact ⟨rfl,by (repeat' first|(with_reducible first|exact blR _ _|assumption|refine blD ?_|refine blN ?_ _)|((with_reducible first|refine blA ?_ ?_ _|refine blS ?_ ?_ _|refine blT (by assumption) ?_ ?_);focus (go_size;done)))⟩
   | false =>
    obtain rfl : z = 2:=hz
    go_enter Tryz.func47,Tryz.ntmps47
    go_wp2_with (first | ((go_at_call 25;with_reducible refine (H1.out _ (by (repeat' first|(with_reducible first|exact blR _ _|assumption|refine blD ?_|refine blN ?_ _)|((with_reducible first|refine blA ?_ ?_ _|refine blS ?_ ?_ _|refine blT (by assumption) ?_ ?_);focus (go_size;done))))).mono ?_);rintro _ w1 ⟨rfl,hb1⟩;have hb1s:=hb1.size;(try simp only [wsA,wsS,wsD,wsN] at hb1s);obtain ⟨hb1c,hb1f⟩:=bcell hb1;(try have : w.heap.size < w1.heap.size:=by omega);(try have : w.heap.size + 1 < w1.heap.size:=by omega);(try have : w.heap.size + 1 + 1 < w1.heap.size:=by omega);(try have : w.heap.size + 1 + 1 + 1 < w1.heap.size:=by omega)) | ((go_at_call 77;with_reducible refine (H4.out _ (by (repeat' first|(with_reducible first|exact blR _ _|assumption|refine blD ?_|refine blN ?_ _)|((with_reducible first|refine blA ?_ ?_ _|refine blS ?_ ?_ _|refine blT (by assumption) ?_ ?_);focus (go_size;done))))).mono ?_);rintro _ w2 ⟨rfl,hb2⟩;have hb2s:=hb2.size;(try simp only [wsA,wsS,wsD,wsN] at hb2s);obtain ⟨hb2c,hb2f⟩:=bcell hb2;(try have : w.heap.size < w2.heap.size:=by omega);(try have : w.heap.size + 1 < w2.heap.size:=by omega);(try have : w.heap.size + 1 + 1 < w2.heap.size:=by omega);(try have : w.heap.size + 1 + 1 + 1 < w2.heap.size:=by omega);(try have : w1.heap.size < w2.heap.size:=by omega);(try have : w1.heap.size + 1 < w2.heap.size:=by omega);(try have : w1.heap.size + 1 + 1 < w2.heap.size:=by omega);(try have : w1.heap.size + 1 + 1 + 1 < w2.heap.size:=by omega)) | ((go_at_call 78;with_reducible refine (H5.out _ (by (repeat' first|(with_reducible first|exact blR _ _|assumption|refine blD ?_|refine blN ?_ _)|((with_reducible first|refine blA ?_ ?_ _|refine blS ?_ ?_ _|refine blT (by assumption) ?_ ?_);focus (go_size;done))))).mono ?_);rintro _ w3 ⟨rfl,hb3⟩;have hb3s:=hb3.size;(try simp only [wsA,wsS,wsD,wsN] at hb3s);obtain ⟨hb3c,hb3f⟩:=bcell hb3;(try have : w.heap.size < w3.heap.size:=by omega);(try have : w.heap.size + 1 < w3.heap.size:=by omega);(try have : w.heap.size + 1 + 1 < w3.heap.size:=by omega);(try have : w.heap.size + 1 + 1 + 1 < w3.heap.size:=by omega);(try have : w1.heap.size < w3.heap.size:=by omega);(try have : w1.heap.size + 1 < w3.heap.size:=by omega);(try have : w1.heap.size + 1 + 1 < w3.heap.size:=by omega);(try have : w1.heap.size + 1 + 1 + 1 < w3.heap.size:=by omega);(try have : w2.heap.size < w3.heap.size:=by omega);(try have : w2.heap.size + 1 < w3.heap.size:=by omega);(try have : w2.heap.size + 1 + 1 < w3.heap.size:=by omega);(try have : w2.heap.size + 1 + 1 + 1 < w3.heap.size:=by omega)))
    go_ret
    exact ⟨rfl,by (repeat' first|(with_reducible first|exact blR _ _|assumption|refine blD ?_|refine blN ?_ _)|((with_reducible first|refine blA ?_ ?_ _|refine blS ?_ ?_ _|refine blT (by assumption) ?_ ?_);focus (go_size;done)))⟩
end Go.Proofs.YtkjecoanlppeaaaGreatDoor



namespace Go.Proofs.YtkjecoanlppeaaaGreatDoor
open Go.RowKit

def SmallL (l : List VD) : Prop:=∀ t,t < l.length → (vg l t).size ≤ 1048576
theorem smallL_of {l : List VD} (h : sizes l ≤ 1048576) : SmallL l:=fun t ht=>Nat.le_trans (vg_size ht) h
set_option maxRecDepth 100000 in
set_option maxHeartbeats 1000000 in
theorem rvalues_any (l : List VD) (v : Value) (w : World) (h : Vls (RV w) w v l) (hs : SmallL l) :
  Calls Tryz.prog 43 #[v] w fun e w'=>e = .returned (.bool (allC l)) ∧ Below w.heap.size w w':=by
 obtain ⟨A,C,rfl,hll⟩:=h.is
 have HV:=Lib.hid h
 have HS:=Lib.hid hs
 obtain ⟨z,hz⟩ : ∃ z,z = allC l:=⟨_,rfl⟩
 rw [← hz]
 have HZ : Hid (z = true ↔ ∀ t,t < l.length → chkV (vg l t) = 0):=Lib.hid (by rw [hz];exact allC_iff)
 clear h hs hz
 go_enter Tryz.func43,Tryz.ntmps43
 go_wp2_with fail
 go_loopg [3] l.length (fun k s3 wr=>∃ t : Nat,k + t = l.length ∧ s3 = .int .i64 t ∧ Hid (∀ i,i < t → chkV (vg l i) = 0) ∧ w.heap.size ≤ wr.heap.size ∧ Below w.heap.size w wr)
 case atStart=>exact ⟨0,by omega,rfl,Lib.hid (fun i hi=>absurd hi (Nat.not_lt_zero _)),by omega,by (repeat' first|(with_reducible first|exact blR _ _|assumption|refine blD ?_|refine blN ?_ _)|((with_reducible first|refine blA ?_ ?_ _|refine blS ?_ ?_ _|refine blT (by assumption) ?_ ?_);focus (go_size;done)))⟩
 case round =>
  obtain ⟨t,hk,rfl,HA,hsz,hbel⟩:=hrel
  have HK:=Lib.hid hk
  have htl : t ≤ l.length:=by omega
  clear hk
  by_cases hlt : t < l.length
  ·obtain ⟨b,o,B1,D1,B2,D2,rfl,hat,hx⟩:=(HV.out.kept hbel).at hlt
   obtain ⟨a0,a1,a2,a3,a4,a5,a6,a7,a8,a9⟩:=hat.val
   have lb:=vcell_lt a0
   have HXS:=Lib.hid (HS.out t hlt)
   obtain ⟨x,hxx⟩ : ∃ x,x = vg l t:=⟨_,rfl⟩
   rw [← hxx] at hx a0 a1 a2 a3 a4 a5 a6 a7 a8 a9 HXS
   have HXX:=Lib.hid hxx
   have HC:=Lib.hid (rcheck_any x B1 D1 B2 D2 wr hx HXS.out)
   obtain ⟨e,he⟩ : ∃ e,e = chkV x:=⟨_,rfl⟩
   rw [← he] at HC
   have HE:=Lib.hid he
   unfold vargs at HC
   obtain ⟨n1',hn1⟩ : ∃ n1',n1' = x.list.length:=⟨_,rfl⟩
   obtain ⟨n2',hn2⟩ : ∃ n2',n2' = x.names.length:=⟨_,rfl⟩
   rw [← hn1] at a8 HC
   rw [← hn2] at a9 HC
   clear hat hx hxx he hn1 hn2
   by_cases e0 : e = 0
   ·subst e0
    go_wp2_with ((go_at_call 47;with_reducible refine (HC.out).mono ?_);rintro _ w2 ⟨rfl,hb2⟩;have hb2s:=hb2.size;(try simp only [wsA,wsS,wsD,wsN] at hb2s);obtain ⟨hb2c,hb2f⟩:=bcell hb2;(try have : w.heap.size < w2.heap.size:=by omega);(try have : w.heap.size + 1 < w2.heap.size:=by omega);(try have : w.heap.size + 1 + 1 < w2.heap.size:=by omega);(try have : w.heap.size + 1 + 1 + 1 < w2.heap.size:=by omega))
    go_roundg (gk - 1)
    case measure=>have:=HK.out;omega
    case rel=>exact ⟨t + 1,by have:=HK.out;omega,by go_num,Lib.hid (fun i hi=>by
     by_cases q : i = t
     ·subst q;rw [← HXX.out,← HE.out]
     ·exact HA.out i (by omega)),by omega,by (repeat' first|(with_reducible first|exact blR _ _|assumption|refine blD ?_|refine blN ?_ _)|((with_reducible first|refine blA ?_ ?_ _|refine blS ?_ ?_ _|refine blT (by assumption) ?_ ?_);focus (go_size;done)))⟩
   ·have f0 : (e != 0) = true:=by rw [bne_iff_ne];exact e0
    have hz : z = false:=by
     cases z with
     | false=>rfl
     | true =>
      have:=HZ.out.1 rfl t hlt
      rw [← HXX.out,← HE.out] at this
      exact absurd this e0
    subst hz
    clear e0
    go_wp2_with ((go_at_call 47;with_reducible refine (HC.out).mono ?_);rintro _ w2 ⟨rfl,hb2⟩;have hb2s:=hb2.size;(try simp only [wsA,wsS,wsD,wsN] at hb2s);obtain ⟨hb2c,hb2f⟩:=bcell hb2;(try have : w.heap.size < w2.heap.size:=by omega);(try have : w.heap.size + 1 < w2.heap.size:=by omega);(try have : w.heap.size + 1 + 1 < w2.heap.size:=by omega);(try have : w.heap.size + 1 + 1 + 1 < w2.heap.size:=by omega))
    go_ret
    exact ⟨rfl,by (repeat' first|(with_reducible first|exact blR _ _|assumption|refine blD ?_|refine blN ?_ _)|((with_reducible first|refine blA ?_ ?_ _|refine blS ?_ ?_ _|refine blT (by assumption) ?_ ?_);focus (go_size;done)))⟩
  ·obtain rfl : t = l.length:=by omega
   have hz : z = true:=HZ.out.2 HA.out
   subst hz
   clear hlt
   go_wp2_with fail
   go_ret
   exact ⟨rfl,by (repeat' first|(with_reducible first|exact blR _ _|assumption|refine blD ?_|refine blN ?_ _)|((with_reducible first|refine blA ?_ ?_ _|refine blS ?_ ?_ _|refine blT (by assumption) ?_ ?_);focus (go_size;done)))⟩
end Go.Proofs.YtkjecoanlppeaaaGreatDoor



namespace Go.Proofs.YtkjecoanlppeaaaGreatDoor
open Go.RowKit

set_option maxRecDepth 100000 in
set_option maxHeartbeats 4000000 in
theorem rrank_any (order : List (List VD)) (row : List VD) (O R : Value) (w : World) (ho : Lls w O order) (hr : Vls (RV w) w R row) (hle : order.length ≤ row.length) (hmax : order.length ≤ 1000000) :
  Calls Tryz.prog 50 #[O,R] w fun e w'=>∃ v,e = .returned v ∧ Own w' w.heap.size v (rankF order row) ∧ Below w.heap.size w w':=by
 obtain ⟨A,C,rfl,q1,_,_⟩:=ho.is
 obtain ⟨RA,RC,rfl,q2⟩:=hr.is
 have HO:=Lib.hid ho
 have HR:=Lib.hid hr
 have hol : (order.length : Int) ≤ 1000000:=by omega
 have hrl : (row.length : Int) ≤ 1048576:=by omega
 have HLE:=Lib.hid hle
 clear ho hr q1 q2 hle
 go_enter Tryz.func50,Tryz.ntmps50
 go_wp2_with fail
 go_loopg [5,6] order.length (fun k s5 s6 wr=>∃ t : Nat,k + t = order.length ∧ s6 = .int .i64 t ∧ Hid (Own wr w.heap.size s5 (rankT order row t)) ∧ w.heap.size ≤ wr.heap.size ∧ Below w.heap.size w wr)
 case atStart=>exact ⟨0,by omega,rfl,Lib.hid (Own.nil _ _),by omega,by (repeat' first|(with_reducible first|exact blR _ _|assumption|refine blD ?_|refine blN ?_ _)|((with_reducible first|refine blA ?_ ?_ _|refine blS ?_ ?_ _|refine blT (by assumption) ?_ ?_);focus (go_size;done)))⟩
 case round =>
  obtain ⟨t,hk,rfl,HW,hsz,hbel⟩:=hrel
  have HK:=Lib.hid hk
  have htl : t ≤ order.length:=by omega
  clear hk
  by_cases hlt : t < order.length
  ·obtain ⟨b,o,B1,D1,rfl,hcell,hv⟩:=(HO.out.below hbel).at hlt
   have lb:=vcell_lt hcell
   have htc : (t : Int) < (order.length : Int):=by omega
   obtain ⟨x,hxx⟩ : ∃ x,x = lg order t:=⟨_,rfl⟩
   have hi : t < row.length:=by have:=HLE.out;omega
   have hic : (t : Int) < (row.length : Int):=by omega
   have hrt : rankT order row (t + 1) = rankT order row t ++ (if lg order t = [] then [] else [posF (vg row t) (lg order t)]):=rfl
   rw [← hxx] at hv hcell hrt
   obtain ⟨n1,hn1⟩ : ∃ n1,n1 = x.length:=⟨_,rfl⟩
   have hxl : x.length ≤ 1048576:=by
    obtain ⟨_,_,_,h⟩:=hv.is
    exact h
   rw [← hn1] at hv hcell hxl
   have HRT:=Lib.hid hrt
   have HN1:=Lib.hid hn1
   have HV:=Lib.hid hv
   have HRL : Hid ((rankT order row t).length ≤ 1000000):=Lib.hid (by have:=rankT_le order row t;omega)
   clear hrt hv hxx hn1
   by_cases hn0 : n1 = 0
   ·subst hn0
    have hx0 : x = []:=List.eq_nil_of_length_eq_zero HN1.out.symm
    go_wp2_with fail
    go_roundg (gk - 1)
    case measure=>have:=HK.out;omega
    case rel=>exact ⟨t + 1,by have:=HK.out;omega,by go_num,Lib.hid (by rw [HRT.out,if_pos hx0,List.append_nil];exact HW.out.below (by (repeat' first|(with_reducible first|exact blR _ _|assumption|refine blD ?_|refine blN ?_ _)|((with_reducible first|refine blA ?_ ?_ _|refine blS ?_ ?_ _|refine blT (by assumption) ?_ ?_);focus (go_size;done))))),by go_size,by (repeat' first|(with_reducible first|exact blR _ _|assumption|refine blD ?_|refine blN ?_ _)|((with_reducible first|refine blA ?_ ?_ _|refine blS ?_ ?_ _|refine blT (by assumption) ?_ ?_);focus (go_size;done)))⟩
   ·have hx0 : Hid (x ≠ []):=Lib.hid (fun e=>hn0 (by rw [HN1.out,e];rfl))
    have f0 : ((n1 : Int) == 0) = false:=by rw [beq_eq_false_iff_ne];omega
    obtain ⟨b2,o2,E1,F1,E2,F2,rfl,hat2,hy⟩:=(HR.out.kept hbel).at hi
    obtain ⟨y,hyy⟩ : ∃ y,y = vg row t:=⟨_,rfl⟩
    rw [← hyy] at hat2 hy HRT
    have l2:=vcell_lt hat2.val.1
    have HAT2:=Lib.hid hat2
    have HY:=Lib.hid hy
    clear hat2 hy hyy
    obtain ⟨wa,hwa⟩ : ∃ wa : World,wa = wr:=⟨_,rfl⟩
    subst hwa
    obtain ⟨ga,hga⟩ : ∃ ga : Nat,ga = gk:=⟨_,rfl⟩
    subst hga
    go_wp2_with fail
    go_loopg [7] n1 (fun k s7 wr=>∃ s : Nat,k + s = n1 ∧ s7 = .int .i64 s ∧ Hid (∀ j,j < s → sameB (vg x j) y = false) ∧ wa.heap.size ≤ wr.heap.size ∧ Below wa.heap.size wa wr)
    case atStart=>exact ⟨0,by omega,rfl,Lib.hid (fun i hi=>absurd hi (Nat.not_lt_zero _)),by omega,by (repeat' first|(with_reducible first|exact blR _ _|assumption|refine blD ?_|refine blN ?_ _)|((with_reducible first|refine blA ?_ ?_ _|refine blS ?_ ?_ _|refine blT (by assumption) ?_ ?_);focus (go_size;done)))⟩
    case round =>
     obtain ⟨s,hk,rfl,HA,hsz2,hbel2⟩:=hrel
     have HK2:=Lib.hid hk
     have hsl : s ≤ n1:=by omega
     clear hk
     have hcell2 : wr.cell? ⟨b,o + t,none⟩ = some (.slice B1 n1 D1):=(hbel2.cell (p:=⟨b,o + t,none⟩) lb).trans hcell
     obtain ⟨u0,u1,u2,u3,u4,u5',u6,u7,u8,u9⟩:=(HAT2.out.below hbel2).val
     obtain ⟨m3,hm3⟩ : ∃ m3,m3 = y.list.length:=⟨_,rfl⟩
     obtain ⟨m4,hm4⟩ : ∃ m4,m4 = y.names.length:=⟨_,rfl⟩
     have hyw:=HY.out.below hbel2
     rw [← hm3] at u8 hyw
     rw [← hm4] at u9 hyw
     clear hm3 hm4
     by_cases hlt2 : s < n1
     ·obtain ⟨b1,o1,A3,C3,A4,C4,rfl,hat1,hx⟩:=(HV.out.kept hbel2).at (show s < x.length by have:=HN1.out;omega)
      obtain ⟨a0,a1,a2,a3,a4,a5,a6,a7,a8,a9⟩:=hat1.val
      have l1:=vcell_lt a0
      have ht2 : (s : Int) < (n1 : Int):=by omega
      obtain ⟨z,hzz⟩ : ∃ z,z = vg x s:=⟨_,rfl⟩
      rw [← hzz] at hx a0 a1 a2 a3 a4 a5 a6 a7 a8 a9
      have HZ:=Lib.hid hzz
      obtain ⟨m1,hm1⟩ : ∃ m1,m1 = z.list.length:=⟨_,rfl⟩
      obtain ⟨m2,hm2⟩ : ∃ m2,m2 = z.names.length:=⟨_,rfl⟩
      rw [← hm1] at a8 hx
      rw [← hm2] at a9 hx
      have hc:=fun (W : World) (hW : Below wr.heap.size wr W)=>rsame_rv z y (.slice A3 m1 C3) (.slice A4 m2 C4) (.slice E1 m3 F1) (.slice E2 m4 F2) W (RV.below hx hW) (RV.below hyw hW)
      obtain ⟨q,hq⟩ : ∃ q,q = sameB z y:=⟨_,rfl⟩
      rw [← hq] at hc
      have HC:=Lib.hid hc
      have HQ:=Lib.hid hq
      clear hat1 hx hyw hzz hm1 hm2 hq hc
      go_wp2_with fail
      go_region_held3 (fun w'=>w'.cell? ⟨b,o + t,none⟩ = some (.slice (some ⟨b1,o1,none⟩) n1 D1) ∧
       w'.cell? ⟨b1,o1 + s * 10,none⟩ = some (.int .i64 z.s.kind) ∧ w'.cell? ⟨b1,o1 + s * 10 + 1,none⟩ = some (.bool z.s.yes) ∧ w'.cell? ⟨b1,o1 + s * 10 + 2,none⟩ = some (.bool z.s.neg) ∧ w'.cell? ⟨b1,o1 + s * 10 + 3,none⟩ = some (.int .u64 (wd z.s.coef 1)) ∧ w'.cell? ⟨b1,o1 + s * 10 + 4,none⟩ = some (.int .u64 (wd z.s.coef 0)) ∧ w'.cell? ⟨b1,o1 + s * 10 + 5,none⟩ = some (.int .i64 z.s.sc) ∧ w'.cell? ⟨b1,o1 + s * 10 + 6,none⟩ = some (.string ⟨z.s.text.toArray⟩) ∧ w'.cell? ⟨b1,o1 + s * 10 + 7,none⟩ = some (.int .i64 z.s.day) ∧ w'.cell? ⟨b1,o1 + s * 10 + 8,none⟩ = some (.slice A3 m1 C3) ∧ w'.cell? ⟨b1,o1 + s * 10 + 9,none⟩ = some (.slice A4 m2 C4) ∧
       w'.cell? ⟨b2,o2 + t * 10,none⟩ = some (.int .i64 y.s.kind) ∧ w'.cell? ⟨b2,o2 + t * 10 + 1,none⟩ = some (.bool y.s.yes) ∧ w'.cell? ⟨b2,o2 + t * 10 + 2,none⟩ = some (.bool y.s.neg) ∧ w'.cell? ⟨b2,o2 + t * 10 + 3,none⟩ = some (.int .u64 (wd y.s.coef 1)) ∧ w'.cell? ⟨b2,o2 + t * 10 + 4,none⟩ = some (.int .u64 (wd y.s.coef 0)) ∧ w'.cell? ⟨b2,o2 + t * 10 + 5,none⟩ = some (.int .i64 y.s.sc) ∧ w'.cell? ⟨b2,o2 + t * 10 + 6,none⟩ = some (.string ⟨y.s.text.toArray⟩) ∧ w'.cell? ⟨b2,o2 + t * 10 + 7,none⟩ = some (.int .i64 y.s.day) ∧ w'.cell? ⟨b2,o2 + t * 10 + 8,none⟩ = some (.slice E1 m3 F1) ∧ w'.cell? ⟨b2,o2 + t * 10 + 9,none⟩ = some (.slice E2 m4 F2)) (first | (first | (go_keep;done) | (simp [go_sem];done) | ((try dsimp only);(repeat' apply And.intro) <;> (first | (with_reducible assumption) | ((rw [World.cell?_alloc_lt _ _ _ (by show _ < _;omega)]);go_split_ands;(first | with_reducible assumption | (refine (World.cell?_alloc_lt _ _ _ (by show _ < _;omega)).symm.trans ?_;with_reducible assumption))) | ((rw [World.cell?_setCell_other _ _ _ _ (by intro e;injection e;omega)]);with_reducible assumption) | (go_keep;done) | (simp [go_sem];done) | (simp (disch:=go_size) [*,World.cell?_alloc_some,World.cell?_setCell_far];done))))) (first | ((go_at_call 26;with_reducible refine (HC.out _ (by (repeat' first|(with_reducible first|exact blR _ _|assumption|refine blD ?_|refine blN ?_ _)|((with_reducible first|refine blA ?_ ?_ _|refine blS ?_ ?_ _|refine blT (by assumption) ?_ ?_);focus (go_size;done))))).mono ?_);rintro _ w2 ⟨rfl,hb2⟩;have hb2s:=hb2.size;(try simp only [wsA,wsS,wsD,wsN] at hb2s);obtain ⟨hb2c,hb2f⟩:=bcell hb2;(try have : w.heap.size < w2.heap.size:=by omega);(try have : w.heap.size + 1 < w2.heap.size:=by omega);(try have : w.heap.size + 1 + 1 < w2.heap.size:=by omega);(try have : w.heap.size + 1 + 1 + 1 < w2.heap.size:=by omega)))
      cases q with
      | false =>
       go_wp2_with fail
       go_roundg (gk - 1)
       case measure=>have:=HK2.out;omega
       case rel=>exact ⟨s + 1,by have:=HK2.out;omega,by go_num,Lib.hid (fun i hi=>by
        by_cases e : i = s
        ·subst e;rw [← HZ.out,← HQ.out]
        ·exact HA.out i (by omega)),by omega,by (repeat' first|(with_reducible first|exact blR _ _|assumption|refine blD ?_|refine blN ?_ _)|((with_reducible first|refine blA ?_ ?_ _|refine blS ?_ ?_ _|refine blT (by assumption) ?_ ?_);focus (go_size;done)))⟩
      | true =>
       have HP : Hid (s = posF y x):=Lib.hid (posF_hit (show s < x.length by have:=HN1.out;omega) (by rw [← HZ.out,← HQ.out]) HA.out).symm
       go_wp2_with (at_builtin;refine wpList_pushO rfl _ _ 43 rfl Tryz.underlying43 w.heap.size (by go_size) u5 _ rfl (HW.out.below (by (repeat' first|(with_reducible first|exact blR _ _|assumption|refine blD ?_|refine blN ?_ _)|((with_reducible first|refine blA ?_ ?_ _|refine blS ?_ ?_ _|refine blT (by assumption) ?_ ?_);focus (go_size;done))))) _ s rfl (by first | (simp;done) | exact (World.cell?_alloc_at _ _ _ _ rfl).trans rfl) HRL.out ?_;intro g cap w3 ho3 hb3 hlt3;have hs3:=hb3.size;(simp only [World.size_alloc,World.heap_drewN,World.size_drew] at hs3);have hbw3 : Below w.heap.size w w3:=Below.trans (by (repeat' first|(with_reducible first|exact blR _ _|assumption|refine blD ?_|refine blN ?_ _)|((with_reducible first|refine blA ?_ ?_ _|refine blS ?_ ?_ _|refine blT (by assumption) ?_ ?_);focus (go_size;done)))) hb3;have HO3:=Lib.hid ho3;clear ho3 hb3)
       go_roundg (ga - 1)
       case measure=>have:=HK.out;omega
       case rel=>exact ⟨t + 1,by have:=HK.out;omega,by go_num,Lib.hid (by rw [HRT.out,if_neg hx0.out,← HP.out];exact HO3.out),by omega,hbw3⟩
     ·obtain rfl : s = n1:=by omega
      have HP : Hid (s = posF y x):=Lib.hid (by rw [posF_none (fun j hj=>HA.out j (by have:=HN1.out;omega))];exact HN1.out)
      clear hlt2 hyw
      go_wp2_with fail
      go_quiet (fail)
      go_wp2_with (at_builtin;refine wpList_pushO rfl _ _ 43 rfl Tryz.underlying43 w.heap.size (by go_size) u5 _ rfl (HW.out.below (by (repeat' first|(with_reducible first|exact blR _ _|assumption|refine blD ?_|refine blN ?_ _)|((with_reducible first|refine blA ?_ ?_ _|refine blS ?_ ?_ _|refine blT (by assumption) ?_ ?_);focus (go_size;done))))) _ s rfl (by first | (simp;done) | exact (World.cell?_alloc_at _ _ _ _ rfl).trans rfl) HRL.out ?_;intro g cap w3 ho3 hb3 hlt3;have hs3:=hb3.size;(simp only [World.size_alloc,World.heap_drewN,World.size_drew] at hs3);have hbw3 : Below w.heap.size w w3:=Below.trans (by (repeat' first|(with_reducible first|exact blR _ _|assumption|refine blD ?_|refine blN ?_ _)|((with_reducible first|refine blA ?_ ?_ _|refine blS ?_ ?_ _|refine blT (by assumption) ?_ ?_);focus (go_size;done)))) hb3;have HO3:=Lib.hid ho3;clear ho3 hb3)
      go_roundg (ga - 1)
      case measure=>have:=HK.out;omega
      case rel=>exact ⟨t + 1,by have:=HK.out;omega,by go_num,Lib.hid (by rw [HRT.out,if_neg hx0.out,← HP.out];exact HO3.out),by omega,hbw3⟩
  ·obtain rfl : t = order.length:=by omega
   clear hlt
   go_wp2_with fail
   go_ret
   exact ⟨_,rfl,HW.out,by (repeat' first|(with_reducible first|exact blR _ _|assumption|refine blD ?_|refine blN ?_ _)|((with_reducible first|refine blA ?_ ?_ _|refine blS ?_ ?_ _|refine blT (by assumption) ?_ ?_);focus (go_size;done)))⟩
end Go.Proofs.YtkjecoanlppeaaaGreatDoor



namespace Go.Proofs.YtkjecoanlppeaaaGreatDoor
open Go.RowKit

set_option maxRecDepth 100000 in
set_option maxHeartbeats 1000000 in
theorem ahead_any (a b : List Nat) (v1 v2 : Value) (w : World) (hl : a.length = b.length) (h1 : Ilst w v1 a) (h2 : Ilst w v2 b) :
  Calls Tryz.prog 51 #[v1,v2] w fun e w'=>e = .returned (.int .i64 (cmpL a b)) ∧ ∃ nn,w' = w.drewN nn:=by
 obtain ⟨A,C,rfl,q1,_,_⟩:=h1.is
 obtain ⟨A2,C2,rfl,q2,_,_⟩:=h2.is
 obtain ⟨z,hz⟩ : ∃ z,z = cmpL a b:=⟨_,rfl⟩
 rw [← hz]
 have HZ:=Lib.hid hz
 have H1:=Lib.hid h1
 have H2:=Lib.hid h2
 have HL:=Lib.hid hl
 have hal : (a.length : Int) ≤ 1048576:=by omega
 have hbl : (b.length : Int) ≤ 1048576:=by omega
 clear hz h1 h2 hl q1 q2
 go_enter Tryz.func51,Tryz.ntmps51
 go_wp2_with fail
 go_loopg [5] a.length (fun k s5 wr=>∃ t : Nat,k + t = a.length ∧ s5 = .int .i64 t ∧ Hid (∀ i,i < t → ag a i = ag b i) ∧ Hid (∃ nn,wr = w.drewN nn) ∧ w.heap.size ≤ wr.heap.size ∧ Below w.heap.size w wr)
 case atStart=>exact ⟨0,by omega,rfl,Lib.hid (fun i hi=>absurd hi (Nat.not_lt_zero _)),Lib.hid ⟨0,rfl⟩,by omega,by (repeat' first|(with_reducible first|exact blR _ _|assumption|refine blD ?_|refine blN ?_ _)|((with_reducible first|refine blA ?_ ?_ _|refine blS ?_ ?_ _|refine blT (by assumption) ?_ ?_);focus (go_size;done)))⟩
 case round =>
  obtain ⟨t,hk,rfl,HA,HQ,hsz,hbel⟩:=hrel
  have HK:=Lib.hid hk
  have htl : t ≤ a.length:=by omega
  clear hk
  by_cases hlt : t < a.length
  ·have hlt2 : t < b.length:=by have:=HL.out;omega
   obtain ⟨b1,o1,rfl,g1⟩:=(H1.out.below hbel).at hlt
   obtain ⟨b2,o2,rfl,g2⟩:=(H2.out.below hbel).at hlt2
   have l1:=vcell_lt g1
   have l2:=vcell_lt g2
   have ht1 : (t : Int) < (a.length : Int):=by omega
   have ht2 : (t : Int) < (b.length : Int):=by omega
   obtain ⟨x,hx⟩ : ∃ x,x = ag a t:=⟨_,rfl⟩
   obtain ⟨y,hy⟩ : ∃ y,y = ag b t:=⟨_,rfl⟩
   rw [← hx] at g1
   rw [← hy] at g2
   have HX:=Lib.hid hx
   have HY:=Lib.hid hy
   clear hx hy
   by_cases c1 : x < y
   ·have hz : z = -1:=by rw [HZ.out,cmpL_at hlt hlt2 HA.out (by rw [← HX.out,← HY.out];omega),← HX.out,← HY.out,if_pos c1]
    subst hz
    have d1 : (x : Int) < (y : Int):=by omega
    go_wp2_with fail
    go_quiet (fail)
    go_wp2_with fail
    go_ret
    (obtain ⟨n0,h0⟩:=HQ.out;exact ⟨rfl,_,by (rw [h0]) <;> (first | rfl | exact World.drewN_drewN _ _ _ | (rw [World.drewN_drewN];exact World.drewN_drewN _ _ _))⟩)
   ·have d1 : ¬ (x : Int) < (y : Int):=by omega
    by_cases c2 : y < x
    ·have hz : z = 1:=by rw [HZ.out,cmpL_at hlt hlt2 HA.out (by rw [← HX.out,← HY.out];omega),← HX.out,← HY.out,if_neg c1]
     subst hz
     have d2 : (y : Int) < (x : Int):=by omega
     go_wp2_with fail
     go_quiet (fail)
     go_wp2_with fail
     go_quiet (fail)
     go_wp2_with fail
     go_ret
     (obtain ⟨n0,h0⟩:=HQ.out;exact ⟨rfl,_,by (rw [h0]) <;> (first | rfl | exact World.drewN_drewN _ _ _ | (rw [World.drewN_drewN];exact World.drewN_drewN _ _ _))⟩)
    ·have d2 : ¬ (y : Int) < (x : Int):=by omega
     have HE : Hid (x = y):=Lib.hid (by omega)
     go_wp2_with fail
     go_quiet (fail)
     go_wp2_with fail
     go_quiet (fail)
     go_wp2_with fail
     go_roundg (gk - 1)
     case measure=>have:=HK.out;omega
     case rel=>exact ⟨t + 1,by have:=HK.out;omega,by go_num,Lib.hid (fun i hi=>by
      by_cases e : i = t
      ·subst e;rw [← HX.out,← HY.out];exact HE.out
      ·exact HA.out i (by omega)),Lib.hid (by obtain ⟨n0,h0⟩:=HQ.out;exact ⟨_,by (rw [h0]) <;> (first | rfl | exact World.drewN_drewN _ _ _ | (rw [World.drewN_drewN];exact World.drewN_drewN _ _ _))⟩),by go_size,by (repeat' first|(with_reducible first|exact blR _ _|assumption|refine blD ?_|refine blN ?_ _)|((with_reducible first|refine blA ?_ ?_ _|refine blS ?_ ?_ _|refine blT (by assumption) ?_ ?_);focus (go_size;done)))⟩
  ·obtain rfl : t = a.length:=by omega
   have hz : z = 0:=by rw [HZ.out];exact cmpL_same HL.out HA.out
   subst hz
   clear hlt
   go_wp2_with fail
   go_ret
   (obtain ⟨n0,h0⟩:=HQ.out;exact ⟨rfl,_,by (rw [h0]) <;> (first | rfl | exact World.drewN_drewN _ _ _ | (rw [World.drewN_drewN];exact World.drewN_drewN _ _ _))⟩)
end Go.Proofs.YtkjecoanlppeaaaGreatDoor



namespace Go.Proofs.YtkjecoanlppeaaaGreatDoor
open Go.RowKit

def Slim (n : Nat) : Prop:=True → n < 10 ^ 900
theorem Slim.of_lt {n k : Nat} (h : n < 10 ^ k) (hk : k ≤ 900) : Slim n:=fun _=>Nat.lt_of_lt_of_le h (ten_le k 900 hk)
theorem Slim.tiny {n : Nat} (h : Slim n) : Tiny n:=fun t=>Nat.lt_of_lt_of_le (h t) (ten_le 900 999 (by decide))
theorem slim_key {n s : Nat} (a : Nat) (h : n < 10 ^ a) : n * 10 ^ s < 10 ^ (a + s):=by
 have h1:=Nat.mul_lt_mul_of_pos_right h (show 0 < 10 ^ s from Nat.pow_pos (by decide))
 rwa [← Nat.pow_add] at h1
theorem Slim.shift {n s : Nat} (h : Slim n) (hs : s ≤ 18) : Tiny (n * 10 ^ s):=fun t =>
 Nat.lt_of_lt_of_le (slim_key 900 (h t)) (ten_le (900 + s) 999 (by omega))
theorem fitd_yes {n d j : Nat} (h : near (n * 10 ^ j) d < B34) (e : fin (fitK n d (K19 n)) = fin (fitK n d (j + 1))) :
  FitC n d = stripC (near (n * 10 ^ j) d) j ∧ FitS n d = stripS (near (n * 10 ^ j) d) j ∧ FitE n d = 0:=by
 unfold FitC FitS FitE
 rw [e,fitK_yes h]
 exact ⟨rfl,rfl,rfl⟩
theorem fitd_no {n d j : Nat} (h : ¬ near (n * 10 ^ j) d < B34) (e : fin (fitK n d (K19 n)) = fin (fitK n d (j + 1))) : fin (fitK n d (K19 n)) = fin (fitK n d j):=by
 rw [e,fitK_no h]
theorem fitd_end {n d : Nat} (e : fin (fitK n d (K19 n)) = fin (fitK n d 0)) : FitC n d = 0 ∧ FitS n d = 0 ∧ FitE n d = 3:=by
 unfold FitC FitS FitE
 rw [e]
 exact ⟨rfl,rfl,rfl⟩
set_option maxHeartbeats 4000000 in
theorem rfit_any (neg : Bool) (n d : Nat) (u v : Value) (w : World) (hu : Dg w u n) (hv : Dg w v d) (hn : Slim n) (hd : Slim d) (h0 : 0 < d) : Calls Tryz.prog 133 #[.bool neg,u,v] w fun e w'=>e = .returned (.tuple #[.agg #[.bool (sg neg (FitC (n) (d))),.int .u64 (wd (FitC (n) (d)) 1),.int .u64 (wd (FitC (n) (d)) 0),.int .i64 (FitS (n) (d))],.int .i64 (FitE n d)]) ∧ Below w.heap.size w w':=by
 have HU:=Lib.hid hu
 have HV:=Lib.hid hv
 have HN:=Lib.hid hn
 have HD:=Lib.hid hd
 have HP:=Lib.hid h0
 obtain ⟨C,hC⟩ : ∃ C,C = FitC n d:=⟨_,rfl⟩
 obtain ⟨S,hS⟩ : ∃ S,S = FitS n d:=⟨_,rfl⟩
 obtain ⟨E,hE⟩ : ∃ E,E = FitE n d:=⟨_,rfl⟩
 rw [← hC,← hS,← hE]
 have EC:=Far.mk hC
 have ES:=Far.mk hS
 have EE:=Far.mk hE
 have H19:=Far.mk (K19_eq n)
 clear hC hS hE hu hv hn hd h0
 go_enter Tryz.func133,Tryz.ntmps133
 go_wp2_with fail
 go_loopg [8] 19 (fun kk sv wr=>kk ≤ 19 ∧ sv = .int .i64 ((kk : Int) - 1) ∧ Far (fin (fitK n d (K19 n)) = fin (fitK n d kk)) ∧ Bk wr w.heap.size 32 [.bool false,.int .u64 0,.int .u64 0,.int .i64 0] ∧ Below w.heap.size w wr)
 case atStart=>exact ⟨Nat.le_refl _,rfl,Far.mk (by rw [H19.out]),by (repeat (first|(with_reducible assumption)|((with_reducible refine bkW ?_);(first|rfl|(simp only [wsA,wsS,wsD,wsN];done)))|(with_reducible first|refine bkA ?_ _|refine bkD ?_|refine bkN ?_ _)|((with_reducible refine bkF ?_ ?_ _);focus (simp only [];omega))|((with_reducible refine bkB (by assumption) ?_ ?_);focus (go_size;done)))),by (repeat' first|(with_reducible first|exact blR _ _|assumption|refine blD ?_|refine blN ?_ _)|((with_reducible first|refine blA ?_ ?_ _|refine blS ?_ ?_ _|refine blT (by assumption) ?_ ?_);focus (go_size;done)))⟩
 case round =>
  obtain ⟨hk19,rfl,he,b0,hbel⟩:=hrel
  have HB0:=Lib.hid b0
  have l0:=b0.lt
  by_cases hz : gk = 0
  ·subst hz
   have hm : ¬ (0 : Int) ≤ ((0 : Nat) : Int) - 1:=by omega
   have b0_0:=b0.cell 0 rfl
   have b0_1:=b0.cell 1 rfl
   have b0_2:=b0.cell 2 rfl
   have b0_3:=b0.cell 3 rfl
   have b0_4:=b0.frozen 0
   have b0_5:=b0.frozen 1
   have b0_6:=b0.frozen 2
   have b0_7:=b0.frozen 3
   clear b0
   go_wp2_with fail
   refine bodyPost_ret (by simp [results,Tryz.results133,go_sem, *];try rfl) rfl ?_
   obtain ⟨e1,e2,e3⟩:=fitd_end he.out
   exact ⟨by rw [EC.out,ES.out,EE.out,e1,e2,e3,wd_zero,wd_zero,sg_zero];rfl,by (repeat' first|(with_reducible first|exact blR _ _|assumption|refine blD ?_|refine blN ?_ _)|((with_reducible first|refine blA ?_ ?_ _|refine blS ?_ ?_ _|refine blT (by assumption) ?_ ?_);focus (go_size;done)))⟩
  ·obtain ⟨j,rfl⟩ : ∃ j,gk = j + 1:=⟨gk - 1,by omega⟩
   have hx : ((j + 1 : Nat) : Int) - 1 = (j : Int):=by omega
   rw [hx]
   have j0 : (0 : Int) ≤ (j : Int):=by omega
   have hnear:=near_small (HN.out.shift (s:=j) (by omega)) d
   have HNS:=Lib.hid hnear
   clear hx b0 hnear
   go_wp2_with fail
   refine (shift_any n j (by omega) _ _ (HU.out.below hbel) HN.out.tiny.small).mono ?_
   rintro _ w1 ⟨v1,rfl,d1,hb1⟩;have hb1s:=hb1.size;(try simp only [wsA,wsS,wsD,wsN] at hb1s);obtain ⟨hb1c,hb1f⟩:=bcell hb1;(try have : w.heap.size < w1.heap.size:=by omega);(try have : w.heap.size + 1 < w1.heap.size:=by omega);(try have : w.heap.size + 1 + 1 < w1.heap.size:=by omega);(try have : w.heap.size + 1 + 1 + 1 < w1.heap.size:=by omega);have Hd1:=Lib.hid d1;clear d1
   go_wp2_with fail
   refine (near_any (n * 10 ^ j) d HP.out _ _ _ Hd1.out ((HV.out.below hbel).below hb1) (HN.out.shift (by omega)) HD.out.tiny).mono ?_
   rintro _ w2 ⟨v2,rfl,d2,hb2⟩;have hb2s:=hb2.size;(try simp only [wsA,wsS,wsD,wsN] at hb2s);obtain ⟨hb2c,hb2f⟩:=bcell hb2;(try have : w.heap.size < w2.heap.size:=by omega);(try have : w.heap.size + 1 < w2.heap.size:=by omega);(try have : w.heap.size + 1 + 1 < w2.heap.size:=by omega);(try have : w.heap.size + 1 + 1 + 1 < w2.heap.size:=by omega);have Hd2:=Lib.hid d2;clear d2
   have hyes:=fitd_yes (n:=n) (d:=d) (j:=j)
   have hno:=fitd_no (n:=n) (d:=d) (j:=j)
   have HYES:=Far.mk hyes
   have HNO:=Far.mk hno
   generalize near (n * 10 ^ j) d = q at *
   have r0 : Bk w2 w.heap.size 32 [.bool false,.int .u64 0,.int .u64 0,.int .i64 0]:=by
    have b0:=HB0.out
    (repeat (first|(with_reducible assumption)|((with_reducible refine bkW ?_);(first|rfl|(simp only [wsA,wsS,wsD,wsN];done)))|(with_reducible first|refine bkA ?_ _|refine bkD ?_|refine bkN ?_ _)|((with_reducible refine bkF ?_ ?_ _);focus (simp only [];omega))|((with_reducible refine bkB (by assumption) ?_ ?_);focus (go_size;done))))
   have HR0:=Lib.hid r0
   have mb : Below w.heap.size w w2:=by (repeat' first|(with_reducible first|exact blR _ _|assumption|refine blD ?_|refine blN ?_ _)|((with_reducible first|refine blA ?_ ?_ _|refine blS ?_ ?_ _|refine blT (by assumption) ?_ ?_);focus (go_size;done)))
   clear hyes hno hb1c hb1f hb2c hb2f r0
   obtain ⟨xs,⟨A,c,rfl,hc,hs⟩,hd⟩:=Hd2.out
   have h34:=len_34 hd
   by_cases hq : q < B34
   ·obtain ⟨e1,e2,e3⟩:=HYES.out hq he.out
    have HM:=Lib.hid (fun W hv=>make1_any neg q j (.slice A xs.length c) W hv hq (by omega))
    rw [← e1,← e2,← EC.out,← ES.out] at HM
    have E3:=Far.mk e3
    have hl : (xs.length : Int) ≤ 34:=by have:=h34.2 hq;omega
    clear hq e1 e2 e3 HYES HNO he h34 hc hs hd
    go_wp2_with fail
    refine (HM.out _ Hd2.out).mono ?_
    rintro _ w3 ⟨rfl,hb3⟩;have hb3s:=hb3.size;(try simp only [wsA,wsS,wsD,wsN] at hb3s);obtain ⟨hb3c,hb3f⟩:=bcell hb3;(try have : w.heap.size < w3.heap.size:=by omega);(try have : w.heap.size + 1 < w3.heap.size:=by omega);(try have : w.heap.size + 1 + 1 < w3.heap.size:=by omega);(try have : w.heap.size + 1 + 1 + 1 < w3.heap.size:=by omega)
    have k0 : Bk w3 w.heap.size 32 [.bool false,.int .u64 0,.int .u64 0,.int .i64 0]:=by
     have r0:=HR0.out
     (repeat (first|(with_reducible assumption)|((with_reducible refine bkW ?_);(first|rfl|(simp only [wsA,wsS,wsD,wsN];done)))|(with_reducible first|refine bkA ?_ _|refine bkD ?_|refine bkN ?_ _)|((with_reducible refine bkF ?_ ?_ _);focus (simp only [];omega))|((with_reducible refine bkB (by assumption) ?_ ?_);focus (go_size;done))))
    have k0_0:=k0.cell 0 rfl
    have k0_1:=k0.cell 1 rfl
    have k0_2:=k0.cell 2 rfl
    have k0_3:=k0.cell 3 rfl
    have k0_4:=k0.frozen 0
    have k0_5:=k0.frozen 1
    have k0_6:=k0.frozen 2
    have k0_7:=k0.frozen 3
    have k0l:=k0.lt
    clear k0 hb3c hb3f
    go_wp2_with fail
    refine bodyPost_ret (by simp [results,Tryz.results133,go_sem, *];try rfl) rfl ?_
    exact ⟨by rw [EE.out,E3.out],by (repeat' first|(with_reducible first|exact blR _ _|assumption|refine blD ?_|refine blN ?_ _)|((with_reducible first|refine blA ?_ ?_ _|refine blS ?_ ?_ _|refine blT (by assumption) ?_ ?_);focus (go_size;done)))⟩
   ·have HNX:=Far.mk (HNO.out hq he.out)
    have hl : ¬ (xs.length : Int) ≤ 34:=by
     have:=mt h34.1 hq
     omega
    clear hq HYES HNO he h34 hc hs hd
    go_wp2_with fail
    go_roundg j
    case measure=>omega
    case rel=>exact ⟨by omega,rfl,HNX,HR0.out,mb⟩
end Go.Proofs.YtkjecoanlppeaaaGreatDoor



namespace Go.Proofs.YtkjecoanlppeaaaGreatDoor
open Go.RowKit

set_option maxHeartbeats 2000000 in
theorem forms_any (b : Bool) (c : Nat) (s : Int) (b' : Bool) (c' : Nat) (s' : Int) (hc : c < 2 ^ 128) (hc' : c' < 2 ^ 128) (w : World) :
  Calls Tryz.prog 132 #[.agg #[.bool b,.int .u64 (wd (c) 1),.int .u64 (wd (c) 0),.int .i64 s],.agg #[.bool b',.int .u64 (wd (c') 1),.int .u64 (wd (c') 0),.int .i64 s']] w fun e w'=>e = .returned (.bool (dform b c s && dform b' c' s')) ∧ Below w.heap.size w w':=by
 have HF:=Lib.hid (fun W=>rform_any b c s hc W)
 have HG:=Lib.hid (fun W=>rform_any b' c' s' hc' W)
 generalize dform b c s = f at *
 generalize dform b' c' s' = f' at *
 generalize wd c 0 = x0 at *
 generalize wd c 1 = x1 at *
 generalize wd c' 0 = y0 at *
 generalize wd c' 1 = y1 at *
 clear hc hc'
 cases f
 ·go_enter Tryz.func132,Tryz.ntmps132
  go_wp2_with fail
  refine (HF.out _).mono ?_
  rintro _ w1 ⟨rfl,hb1⟩;have hb1s:=hb1.size;(try simp only [wsA,wsS,wsD,wsN] at hb1s);obtain ⟨hb1c,hb1f⟩:=bcell hb1;(try have : w.heap.size < w1.heap.size:=by omega);(try have : w.heap.size + 1 < w1.heap.size:=by omega);(try have : w.heap.size + 1 + 1 < w1.heap.size:=by omega);(try have : w.heap.size + 1 + 1 + 1 < w1.heap.size:=by omega)
  go_wp2_with fail
  go_ret
  exact ⟨rfl,by (repeat' first|(with_reducible first|exact blR _ _|assumption|refine blD ?_|refine blN ?_ _)|((with_reducible first|refine blA ?_ ?_ _|refine blS ?_ ?_ _|refine blT (by assumption) ?_ ?_);focus (go_size;done)))⟩
 ·go_enter Tryz.func132,Tryz.ntmps132
  go_wp2_with fail
  refine (HF.out _).mono ?_
  rintro _ w1 ⟨rfl,hb1⟩;have hb1s:=hb1.size;(try simp only [wsA,wsS,wsD,wsN] at hb1s);obtain ⟨hb1c,hb1f⟩:=bcell hb1;(try have : w.heap.size < w1.heap.size:=by omega);(try have : w.heap.size + 1 < w1.heap.size:=by omega);(try have : w.heap.size + 1 + 1 < w1.heap.size:=by omega);(try have : w.heap.size + 1 + 1 + 1 < w1.heap.size:=by omega)
  have kb : Bk w1 (w.heap.size + 1) 32 [.bool b',.int .u64 y1,.int .u64 y0,.int .i64 s']:=by (repeat (first|(with_reducible assumption)|((with_reducible refine bkW ?_);(first|rfl|(simp only [wsA,wsS,wsD,wsN];done)))|(with_reducible first|refine bkA ?_ _|refine bkD ?_|refine bkN ?_ _)|((with_reducible refine bkF ?_ ?_ _);focus (simp only [];omega))|((with_reducible refine bkB (by assumption) ?_ ?_);focus (go_size;done))))
  have kb_0:=kb.cell 0 rfl
  have kb_1:=kb.cell 1 rfl
  have kb_2:=kb.cell 2 rfl
  have kb_3:=kb.cell 3 rfl
  have kb_4:=kb.frozen 0
  have kb_5:=kb.frozen 1
  have kb_6:=kb.frozen 2
  have kb_7:=kb.frozen 3
  have kbl:=kb.lt
  clear hb1c hb1f kb
  go_wp2_with fail
  refine (HG.out _).mono ?_
  rintro _ w2 ⟨rfl,hb2⟩;have hb2s:=hb2.size;(try simp only [wsA,wsS,wsD,wsN] at hb2s);obtain ⟨hb2c,hb2f⟩:=bcell hb2;(try have : w.heap.size < w2.heap.size:=by omega);(try have : w.heap.size + 1 < w2.heap.size:=by omega);(try have : w.heap.size + 1 + 1 < w2.heap.size:=by omega);(try have : w.heap.size + 1 + 1 + 1 < w2.heap.size:=by omega)
  go_wp2_with fail
  go_ret
  exact ⟨rfl,by (repeat' first|(with_reducible first|exact blR _ _|assumption|refine blD ?_|refine blN ?_ _)|((with_reducible first|refine blA ?_ ?_ _|refine blS ?_ ?_ _|refine blT (by assumption) ?_ ?_);focus (go_size;done)))⟩
theorem unit_tiny {c s : Nat} (h : c < B34) : Tiny (unit c s):=(Slim.of_lt (unit_lt h) (by decide)).tiny
theorem sab_slim {b b' : Bool} {x y : Nat} (hx : x < 10 ^ 52) (hy : y < 10 ^ 52) : Slim (sab b x b' y) :=
 Slim.of_lt (k:=53) (Nat.lt_of_le_of_lt (sab_le b b' x y) (Nat.lt_of_lt_of_le (Nat.add_lt_add hx hy) (by decide))) (by decide)
theorem ten_slim {k : Nat} (h : k < 900) : Slim (10 ^ k):=fun _=>ten_lt k 900 h
set_option maxHeartbeats 2000000 in
theorem order2_any (b : Bool) (c s : Nat) (b' : Bool) (c' s' : Nat) (hc : c < B34) (hc' : c' < B34) (hs : s ≤ 18) (hs' : s' ≤ 18) (h1 : c = 0 → b = false) (h2 : c' = 0 → b' = false) (w : World) :
  Calls Tryz.prog 98 #[.agg #[.bool b,.int .u64 (wd (c) 1),.int .u64 (wd (c) 0),.int .i64 s],.agg #[.bool b',.int .u64 (wd (c') 1),.int .u64 (wd (c') 0),.int .i64 s']] w fun e w'=>e = .returned (.int .i64 (ordD b (unit c s) b' (unit c' s'))) ∧ Below w.heap.size w w':=by
 have hz1 : unit c s = 0 → b = false:=fun h=>h1 (by
  rcases Nat.mul_eq_zero.1 h with h | h
  ·exact h
  ·exact absurd h (Nat.ne_of_gt (Nat.pow_pos (by decide))))
 have hz2 : unit c' s' = 0 → b' = false:=fun h=>h2 (by
  rcases Nat.mul_eq_zero.1 h with h | h
  ·exact h
  ·exact absurd h (Nat.ne_of_gt (Nat.pow_pos (by decide))))
 rw [ord_sum b b' _ _ hz1 hz2]
 have HU:=Lib.hid (fun W=>units_any b c s (Nat.lt_trans hc B34_lt) hs W)
 have HV:=Lib.hid (fun W=>units_any b' c' s' (Nat.lt_trans hc' B34_lt) hs' W)
 have HS:=Lib.hid (fun W u v hu hv=>rsum_any b (unit c s) (!b') (unit c' s') u v W hu hv (unit_tiny hc) (unit_tiny hc'))
 unfold RetSum at HS
 unfold RetUnits at HU HV
 generalize sab b (unit c s) (!b') (unit c' s') = U at *
 generalize sgn b (unit c s) (!b') (unit c' s') = N at *
 generalize unit c s = X at *
 generalize unit c' s' = Y at *
 generalize wd c 0 = x0 at *
 generalize wd c 1 = x1 at *
 generalize wd c' 0 = y0 at *
 generalize wd c' 1 = y1 at *
 obtain ⟨r,hr⟩ : ∃ r : Int,r = if U = 0 then 0 else if N = true then -1 else 1:=⟨_,rfl⟩
 rw [← hr]
 have HR:=Lib.hid hr
 clear hc hc' h1 h2 hz1 hz2 hs hs' hr
 go_enter Tryz.func98,Tryz.ntmps98
 go_wp2_with fail
 refine (HU.out _).mono ?_
 rintro _ w1 ⟨v1,rfl,d1,hb1⟩
 have hb1s:=hb1.size
 have Hd1:=Lib.hid d1
 have kb : Bk w1 (w.heap.size + 1) 32 [.bool b',.int .u64 y1,.int .u64 y0,.int .i64 (s' : Int)]:=by (repeat (first|(with_reducible assumption)|((with_reducible refine bkW ?_);(first|rfl|(simp only [wsA,wsS,wsD,wsN];done)))|(with_reducible first|refine bkA ?_ _|refine bkD ?_|refine bkN ?_ _)|((with_reducible refine bkF ?_ ?_ _);focus (simp only [];omega))|((with_reducible refine bkB (by assumption) ?_ ?_);focus (go_size;done))))
 have kb_0:=kb.cell 0 rfl
 have kb_1:=kb.cell 1 rfl
 have kb_2:=kb.cell 2 rfl
 have kb_3:=kb.cell 3 rfl
 have kb_4:=kb.frozen 0
 have kb_5:=kb.frozen 1
 have kb_6:=kb.frozen 2
 have kb_7:=kb.frozen 3
 have kbl:=kb.lt
 clear d1 kb
 go_wp2_with fail
 refine (HV.out _).mono ?_
 rintro _ w2 ⟨v2,rfl,d2,hb2⟩
 have hb2s:=hb2.size
 have Hd2:=Lib.hid d2
 clear d2
 go_wp2_with fail
 refine (HS.out _ _ _ (Hd1.out.below hb2) Hd2.out).mono ?_
 rintro _ w3 ⟨v3,rfl,d3,hb3⟩
 have hb3s:=hb3.size
 obtain ⟨A,k,c,rfl,hk,hkc⟩:=dg_len d3
 clear d3
 by_cases h0 : U = 0
 ·have e:=HR.out
  rw [if_pos h0] at e
  obtain rfl : k = 0:=hk.2 h0
  have E:=Lib.hid e
  clear h0 hk e
  go_wp2_with fail
  go_ret
  exact ⟨ret_int E.out.symm,by (repeat' first|(with_reducible first|exact blR _ _|assumption|refine blD ?_|refine blN ?_ _)|((with_reducible first|refine blA ?_ ?_ _|refine blS ?_ ?_ _|refine blT (by assumption) ?_ ?_);focus (go_size;done)))⟩
 ·have e:=HR.out
  rw [if_neg h0] at e
  have hk1 : ((k : Int) == 0) = false:=by rw [beq_eq_false_iff_ne];have:=mt hk.1 h0;omega
  have E:=Lib.hid e
  clear h0 hk e HR
  cases N
  ·go_wp2_with fail
   go_ret
   exact ⟨ret_int E.out.symm,by (repeat' first|(with_reducible first|exact blR _ _|assumption|refine blD ?_|refine blN ?_ _)|((with_reducible first|refine blA ?_ ?_ _|refine blS ?_ ?_ _|refine blT (by assumption) ?_ ?_);focus (go_size;done)))⟩
  ·go_wp2_with fail
   go_ret
   exact ⟨ret_int E.out.symm,by (repeat' first|(with_reducible first|exact blR _ _|assumption|refine blD ?_|refine blN ?_ _)|((with_reducible first|refine blA ?_ ?_ _|refine blS ?_ ?_ _|refine blT (by assumption) ?_ ?_);focus (go_size;done)))⟩
end Go.Proofs.YtkjecoanlppeaaaGreatDoor



namespace Go.Proofs.YtkjecoanlppeaaaGreatDoor
open Go.RowKit
open Go.ChangeShapes Go.WideShapes Go.ChangeAt
open Go.ChangeMaps (open_string shut_string)

theorem bulk_pos {H : Type} (d : DataW H) : 1 ≤ Rows.uptoBulk d:=by
 cases d with
 | lit l=>cases l <;> simp [Rows.uptoBulk]
 | _=>simp [Rows.uptoBulk]
theorem bulk_map {H : Type} (D : Nat → DataW H) : ∀ (n : Nat) (L : List Nat),L.length = n → Rows.uptoBulkAll (L.map D) = (L.map fun i=>Rows.uptoBulk (D i)).sum
 | 0,[],_=>rfl
 | n + 1,x :: r,h=>by
  rw [List.map_cons,List.map_cons,Rows.uptoBulkAll,List.sum_cons,bulk_map D n r (by simpa using h)]
theorem bulk_range {H : Type} (D : Nat → DataW H) (n : Nat) : Rows.uptoBulkAll ((List.range n).map D) = ((List.range n).map fun i=>Rows.uptoBulk (D i)).sum:=bulk_map D n _ (by simp)
theorem sum_range_succ (f : Nat → Nat) (n : Nat) : ((List.range (n + 1)).map f).sum = ((List.range n).map f).sum + f n:=by
 rw [List.range_succ,List.map_append,List.sum_append];simp
theorem sum_mem (f : Nat → Nat) : ∀ (n i : Nat),i < n → f i ≤ ((List.range n).map f).sum
 | 0,i,h=>absurd h (Nat.not_lt_zero _)
 | n + 1,i,h=>by
  rw [sum_range_succ]
  rcases Nat.lt_or_ge i n with h' | h'
  ·have:=sum_mem f n i h';omega
  ·obtain rfl : i = n:=by omega
   omega
theorem sum_pos (f : Nat → Nat) (hf : ∀ i,1 ≤ f i) : ∀ n,n ≤ ((List.range n).map f).sum
 | 0=>Nat.zero_le _
 | n + 1=>by
  rw [sum_range_succ]
  have:=sum_pos f hf n
  have:=hf n
  omega
theorem vds_of {P : Nat → VD → Prop} {f : Nat → Nat} : ∀ n,(∀ i,i < n → ∃ d,P i d ∧ d.size ≤ f i) → ∃ l : List VD,l.length = n ∧ (∀ i,i < n → P i (vg l i)) ∧ sizes l ≤ ((List.range n).map f).sum
 | 0,_=>⟨[],rfl,fun i hi=>absurd hi (Nat.not_lt_zero _),by simp [sizes]⟩
 | n + 1,h=>by
  obtain ⟨l,h1,h2,h3⟩:=vds_of (P:=P) (f:=f) n (fun i hi=>h i (by omega))
  obtain ⟨d,h4,h5⟩:=h n (by omega)
  refine ⟨l ++ [d],by rw [List.length_append,h1];rfl,fun i hi=>?_, ?_⟩
  ·unfold vg
   rcases Nat.lt_or_ge i n with h' | h'
   ·rw [List.getD_eq_getElem?_getD,List.getElem?_append_left (by omega)]
    have:=h2 i h'
    unfold vg at this
    rwa [List.getD_eq_getElem?_getD] at this
   ·obtain rfl : i = n:=by omega
    rw [List.getD_eq_getElem?_getD,List.getElem?_append_right (by omega),h1,Nat.sub_self]
    exact h4
  ·rw [sizes_append,sum_range_succ]
   simp only [sizes]
   omega
theorem nms_of {P : Nat → List UInt8 → Prop} : ∀ n,(∀ i,i < n → ∃ d,P i d) → ∃ l : List (List UInt8),l.length = n ∧ ∀ i,i < n → P i (ng l i)
 | 0,_=>⟨[],rfl,fun i hi=>absurd hi (Nat.not_lt_zero _)⟩
 | n + 1,h=>by
  obtain ⟨l,h1,h2⟩:=nms_of (P:=P) n (fun i hi=>h i (by omega))
  obtain ⟨d,h4⟩:=h n (by omega)
  refine ⟨l ++ [d],by rw [List.length_append,h1];rfl,fun i hi=>?_⟩
  unfold ng
  rcases Nat.lt_or_ge i n with h' | h'
  ·rw [List.getD_eq_getElem?_getD,List.getElem?_append_left (by omega)]
   have:=h2 i h'
   unfold ng at this
   rwa [List.getD_eq_getElem?_getD] at this
  ·obtain rfl : i = n:=by omega
   rw [List.getD_eq_getElem?_getD,List.getElem?_append_right (by omega),h1,Nat.sub_self]
   exact h4
section
variable {H : Type} {enc : TypeId × Value → H} {W : World} {b0 : Nat} {sp : Nat → Bool} {held : Bool}
theorem open_names {fuel : Nat} {c : Value} {x : DataW H × List MemPlace} (h : DataW.trod enc Tryz.prog W b0 sp held fuel 22 [c] = some x) (hb : Rows.uptoBulk x.1 ≤ 1048576) :
  ∃ A C l,c = .slice A l.length C ∧ Nms W c l:=by
 rcases Deep.open_slice1 Tryz.underlying22 (by kernel_rfl) h with ⟨hc,rfl⟩ | ⟨a,len,cap,m,n,V,D,Pl,hc,_,hl,hm,hmm,rfl,hx⟩
 ·injection hc with hc
  subst hc
  exact ⟨none,0,[],rfl,none,0,rfl,⟨by simp,by simp,by unfold maxLen;omega⟩,fun r hr=>absurd hr (by simp)⟩
 ·injection hc with hc
  subst hc
  have hle : len ≤ m:=by rw [hmm];split <;> omega
  simp only [Rows.uptoBulk] at hb
  rw [bulk_range] at hb
  have hlen : len ≤ 1048576:=by
   have:=sum_pos (fun i=>Rows.uptoBulk (D i)) (fun i=>bulk_pos _) len
   omega
  obtain ⟨b,o,spot⟩:=a
  obtain ⟨l,h1,h2⟩:=nms_of (P:=fun i s=>spot = none ∧ W.cell? ⟨b,o + i,none⟩ = some (.string ⟨s.toArray⟩) ∧ s.length ≤ 1048576) len (fun i hi=>by
   obtain ⟨h3,h4⟩:=hx i (by omega)
   obtain ⟨s,e1,e2,_⟩:=DataW.trod_string Tryz.underlying9 h4
   have hspot : spot = none:=by simpa [Addr.add] using World.cell?_spot (hx 0 (by omega)).1
   subst hspot
   injection e1 with e1
   refine ⟨s.data.toList,rfl, ?_, ?_⟩
   ·rw [← add_plain,h3,e1]
   ·have:=sum_mem (fun i=>Rows.uptoBulk (D i)) len i hi
    injection e2 with e2 _
    rw [e2] at this
    simp only [Rows.uptoBulk] at this
    omega)
  refine ⟨some ⟨b,o,spot⟩,cap,l,by rw [h1],some ⟨b,o,spot⟩,cap,by rw [h1],⟨by omega,by omega,by unfold maxLen at hm ⊢;omega⟩,fun r hr=>?_⟩
  obtain ⟨h3,h4,h5⟩:=h2 r (by omega)
  subst h3
  exact ⟨b,o,rfl,h4,h5⟩
theorem wd_split2 {x y : Int} (hx : (Lit.int .u64 x).wf = true) (hy : (Lit.int .u64 y).wf = true) : ∃ n,n < 2 ^ 128 ∧ x = wd n 1 ∧ y = wd n 0:=by
 have wf : ∀ z : Int,(Lit.int .u64 z).wf = true → 0 ≤ z ∧ z < 18446744073709551616:=fun z hz=>by
  have e1 : IntKind.u64.min = 0:=rfl
  have e2 : IntKind.u64.max = 18446744073709551615:=rfl
  simp [Lit.wf,e1,e2] at hz
  omega
 obtain ⟨x0,x1⟩:=wf x hx
 obtain ⟨y0,y1⟩:=wf y hy
 obtain ⟨n,hn,_,e1,e2⟩:=wd_make x y x0 x1 y0 y1
 exact ⟨n,hn,e1,e2⟩
set_option maxRecDepth 100000 in
theorem open_dec4 {fuel : Nat} {c0 c1 c2 c3 : Value} {x : DataW H × List MemPlace} (h : DataW.trod enc Tryz.prog W b0 sp held fuel 32 [c0,c1,c2,c3] = some x) :
  ∃ (b : Bool) (c : Nat) (s : Int),c < 2 ^ 128 ∧ c0 = .bool b ∧ c1 = .int .u64 (wd c 1) ∧ c2 = .int .u64 (wd c 0) ∧ c3 = .int .i64 s:=by
 obtain ⟨xs,n,_,hx,_,hlen,hg⟩:=DataW.trod_struct Tryz.underlying32 h
 have n0 : Tryz.prog.cellsOf 4 = 1:=by kernel_rfl
 have n1 : Tryz.prog.cellsOf 30 = 2:=by kernel_rfl
 have n2 : Tryz.prog.cellsOf 3 = 1:=by kernel_rfl
 have n3 : Tryz.prog.cellsOf 28 = 1:=by kernel_rfl
 have g0:=hg 0 _ rfl
 have g1:=hg 1 _ rfl
 have g2:=hg 2 _ rfl
 clear hg hx
 match xs,hlen with
 | [y0,y1,y2],_ =>
  simp only [List.getElem_toArray,List.getElem_cons_zero,List.getElem_cons_succ,n0,n1,n2] at g0 g1 g2
  simp at g0 g1 g2
  obtain ⟨b,e0,_⟩:=DataW.trod_bool Tryz.underlying4 g0
  obtain ⟨z2,e2,_,w2⟩:=DataW.trod_int Tryz.underlying3 g2
  obtain ⟨ys,n',_,_,_,hlen2,hg2⟩:=DataW.trod_struct Tryz.underlying30 g1
  have k0:=hg2 0 _ rfl
  have k1:=hg2 1 _ rfl
  match ys,hlen2 with
  | [q0,q1],_ =>
   simp only [List.getElem_toArray,List.getElem_cons_zero,List.getElem_cons_succ,n3] at k0 k1
   simp at k0 k1
   obtain ⟨z0,f0,_,v0⟩:=DataW.trod_int Tryz.underlying28 k0
   obtain ⟨z1,f1,_,v1⟩:=DataW.trod_int Tryz.underlying28 k1
   obtain ⟨c,hc,rfl,rfl⟩:=wd_split2 v0 v1
   simp at e0 e2 f0 f1
   exact ⟨b,c,z2,hc,e0,f0,f1,e2⟩
set_option maxRecDepth 100000 in
set_option maxHeartbeats 2000000 in
theorem open_cells : ∀ (N : Nat) (fuel : Nat) (cs : List Value) (x : DataW H × List MemPlace),Rows.uptoBulk x.1 ≤ N → N ≤ 1048576 → DataW.trod enc Tryz.prog W b0 sp held fuel 34 cs = some x →
  ∃ vd A C A2 C2,cs = vd.s.cs ++ [.slice A vd.list.length C,.slice A2 vd.names.length C2] ∧ RV W (.slice A vd.list.length C) (.slice A2 vd.names.length C2) vd ∧ vd.size ≤ Rows.uptoBulk x.1
 | 0,_,_,x,h,_,_=>by have:=bulk_pos x.1;omega
 | N + 1,fuel,cs,x,hN,hN2,h=>by
  obtain ⟨xs,n,_,hx,hcl,hlen,hg⟩:=DataW.trod_struct Tryz.underlying34 h
  have n0 : Tryz.prog.cellsOf 3 = 1:=by kernel_rfl
  have n1 : Tryz.prog.cellsOf 4 = 1:=by kernel_rfl
  have n2 : Tryz.prog.cellsOf 32 = 4:=by kernel_rfl
  have n3 : Tryz.prog.cellsOf 9 = 1:=by kernel_rfl
  have n4 : Tryz.prog.cellsOf 24 = 1:=by kernel_rfl
  have n5 : Tryz.prog.cellsOf 22 = 1:=by kernel_rfl
  have n6 : Tryz.prog.cellsOf 34 = 10:=by kernel_rfl
  rw [n6] at hcl
  have g0:=hg 0 _ rfl
  have g1:=hg 1 _ rfl
  have g2:=hg 2 _ rfl
  have g3:=hg 3 _ rfl
  have g4:=hg 4 _ rfl
  have g5:=hg 5 _ rfl
  have g6:=hg 6 _ rfl
  clear hg h
  match cs,hcl with
  | [c0,c1,c2,c3,c4,c5,c6,c7,c8,c9],_ =>
   match xs,hlen with
   | [y0,y1,y2,y3,y4,y5,y6],_ =>
    simp only [List.getElem_toArray,List.getElem_cons_zero,List.getElem_cons_succ,n0,n1,n2,n3,n4,n5] at g0 g1 g2 g3 g4 g5 g6
    simp at g0 g1 g2 g3 g4 g5 g6
    obtain ⟨kind,e0,r0,_⟩:=DataW.trod_int Tryz.underlying3 g0
    obtain ⟨yes,e1,r1⟩:=DataW.trod_bool Tryz.underlying4 g1
    obtain ⟨neg,coef,sc,hcoef,e2,e3,e4,e5⟩:=open_dec4 g2
    obtain ⟨text,e6,r6,_⟩:=DataW.trod_string Tryz.underlying9 g3
    obtain ⟨day,e7,r7,_⟩:=DataW.trod_int Tryz.underlying3 g4
    simp at e0 e1 e6 e7
    subst e0 e1 e2 e3 e4 e5 e6 e7
    subst hx
    simp only [Rows.uptoBulk,List.map_cons,List.map_nil,Rows.uptoBulkAll] at hN ⊢
    have hb3 : text.data.toList.length ≤ 1048576:=by
     have : Rows.uptoBulk y3.1 = text.data.toList.length + 1:=by rw [r6];rfl
     omega
    obtain ⟨A2,C2,nm,rfl,hnm⟩:=open_names g6 (by omega)
    rcases Deep.open_slice Tryz.underlying24 g5 with ⟨hc,rfl⟩ | ⟨a,len,cap,m,n',D,Pl,hc,_,hl,hm,hmm,rfl,hxs⟩
    ·injection hc with hc
     subst hc
     refine ⟨.mk ⟨kind,yes,neg,coef,sc,text.data.toList,day⟩ [] nm,none,0,A2,C2, ?_,RV.mk (d:=.mk ⟨kind,yes,neg,coef,sc,text.data.toList,day⟩ [] nm) ⟨hcoef,hb3⟩ ⟨none,0,rfl,⟨by simp [VD.list],by simp [VD.list],by unfold maxLen;omega⟩,fun r hr=>absurd hr (by simp [VD.list])⟩ hnm, ?_⟩
     ·simp [VS.cs,VD.s,VD.list,VD.names]
     ·simp [VD.size,sizes]
    ·injection hc with hc
     subst hc
     rw [n6] at hxs
     have hle : len ≤ m:=by rw [hmm];split <;> omega
     simp only [Rows.uptoBulk] at hN ⊢
     rw [bulk_range] at hN ⊢
     have hlen2 : len ≤ 1048576:=by
      have:=sum_pos (fun i=>Rows.uptoBulk (D i)) (fun i=>bulk_pos _) len
      omega
     obtain ⟨b,o,spot⟩:=a
     obtain ⟨l,h1,h2,h3⟩:=vds_of (P:=fun i vd=>spot = none ∧ ∃ A1 C1 A2 C2,At W b (o + i * 10) (vd.s.cs ++ [.slice A1 vd.list.length C1,.slice A2 vd.names.length C2]) ∧ RV W (.slice A1 vd.list.length C1) (.slice A2 vd.names.length C2) vd) (f:=fun i=>Rows.uptoBulk (D i)) len (fun i hi=>by
      obtain ⟨cs',q1,q2⟩:=hxs i (by omega)
      have hbi:=sum_mem (fun i=>Rows.uptoBulk (D i)) len i hi
      obtain ⟨vd,A1,C1,A3,C3,e,hrv,hs⟩:=open_cells N n' cs' (D i,Pl i) (by dsimp only;omega) (by omega) q2
      obtain ⟨_,hl10,hat⟩:=World.cells?_some q1
      have hspot : spot = none:=by
       obtain ⟨cs0,p1,_⟩:=hxs 0 (by omega)
       obtain ⟨_,hl0,hat0⟩:=World.cells?_some p1
       have h0:=hat0 0 (by omega)
       rw [List.getElem?_eq_getElem (by omega)] at h0
       simpa [Addr.add] using World.cell?_spot h0
      subst hspot
      refine ⟨vd,⟨rfl,A1,C1,A3,C3,fun j hj=>?_,hrv⟩,hs⟩
      rw [← e] at hj ⊢
      rw [← hat j (by omega)]
      congr 1
      rw [show ((⟨b,o,none⟩ : Addr).add (i * 10)) = ⟨b,o + i * 10,none⟩ from add_plain ..,show ((⟨b,o + i * 10,none⟩ : Addr).add j) = ⟨b,o + i * 10 + j,none⟩ from add_plain ..])
     refine ⟨.mk ⟨kind,yes,neg,coef,sc,text.data.toList,day⟩ l nm,some ⟨b,o,spot⟩,cap,A2,C2, ?_,RV.mk (d:=.mk ⟨kind,yes,neg,coef,sc,text.data.toList,day⟩ l nm) ⟨hcoef,hb3⟩ ⟨some ⟨b,o,spot⟩,cap,rfl,⟨?_, ?_, ?_⟩,fun r hr=>?_⟩ hnm, ?_⟩
     ·simp [VS.cs,VD.s,VD.list,VD.names,h1]
     ·show l.length ≤ _;omega
     ·show l.length ≤ _;omega
     ·unfold maxLen at hm ⊢;omega
     ·have hr' : r < l.length:=hr
      obtain ⟨q0,A1,C1,A3,C3,q1,q2⟩:=h2 r (by omega)
      subst q0
      exact ⟨b,o,A1,C1,A3,C3,rfl,q1,q2⟩
     ·show 1 + sizes l ≤ _
      omega
end
end Go.Proofs.YtkjecoanlppeaaaGreatDoor



namespace Go.Proofs.YtkjecoanlppeaaaGreatDoor
open Go.RowKit

theorem vcs_len (d : VD) (A : Option Addr) (C : Nat) (A2 : Option Addr) (C2 : Nat) : (vcs d A C A2 C2).length = 10:=rfl
end Go.Proofs.YtkjecoanlppeaaaGreatDoor



namespace Go.Proofs.YtkjecoanlppeaaaGreatDoor
open Go.RowKit

set_option maxHeartbeats 4000000 in
theorem docadd_ok (b : Bool) (c s : Nat) (b' : Bool) (c' s' : Nat) (h : dform b c s = true) (h' : dform b' c' s' = true) (hc : c < B34) (hc' : c' < B34) (hs : s ≤ 18) (hs' : s' ≤ 18) (w : World) :
  Calls Tryz.prog 99 #[.agg #[.bool b,.int .u64 (wd (c) 1),.int .u64 (wd (c) 0),.int .i64 s],.agg #[.bool b',.int .u64 (wd (c') 1),.int .u64 (wd (c') 0),.int .i64 s']] w fun e w'=>e = .returned (.tuple #[.agg #[.bool (sg (sgn b (unit c s) b' (unit c' s')) (FitC ((sab b (unit c s) b' (unit c' s'))) (10 ^ 18))),.int .u64 (wd (FitC ((sab b (unit c s) b' (unit c' s'))) (10 ^ 18)) 1),.int .u64 (wd (FitC ((sab b (unit c s) b' (unit c' s'))) (10 ^ 18)) 0),.int .i64 (FitS ((sab b (unit c s) b' (unit c' s'))) (10 ^ 18))],.int .i64 (FitE (sab b (unit c s) b' (unit c' s')) (10 ^ 18))]) ∧ Below w.heap.size w w':=by
 have HF:=Lib.hid (fun W=>forms_any b c s b' c' s' (Nat.lt_trans hc B34_lt) (Nat.lt_trans hc' B34_lt) W)
 rw [h,h',Bool.and_true] at HF
 have HU:=Lib.hid (fun W=>units_any b c s (Nat.lt_trans hc B34_lt) hs W)
 have HV:=Lib.hid (fun W=>units_any b' c' s' (Nat.lt_trans hc' B34_lt) hs' W)
 have HS:=Lib.hid (fun W u v hu hv=>rsum_any b (unit c s) b' (unit c' s') u v W hu hv (unit_tiny hc) (unit_tiny hc'))
 have HT:=Lib.hid (fun W u v hu hv=>rfit_any (sgn b (unit c s) b' (unit c' s')) (sab b (unit c s) b' (unit c' s')) (10 ^ 18) u v W hu hv (sab_slim (unit_lt hc) (unit_lt hc')) (ten_slim (by decide)) (Nat.pow_pos (by decide)))
 have HO:=Lib.hid (fun W=>one_any 18 (by decide) W)
 unfold RetSum at HS
 unfold RetUnits at HU HV
 generalize 10 ^ 18 = D at *
 generalize sab b (unit c s) b' (unit c' s') = U at *
 generalize sgn b (unit c s) b' (unit c' s') = N at *
 generalize unit c s = X at *
 generalize unit c' s' = Y at *
 generalize FitC U D = C at *
 generalize FitS U D = S at *
 generalize FitE U D = E at *
 generalize wd c 0 = x0 at *
 generalize wd c 1 = x1 at *
 generalize wd c' 0 = y0 at *
 generalize wd c' 1 = y1 at *
 clear hc hc' h h' hs hs'
 go_enter Tryz.func99,Tryz.ntmps99
 go_wp2_with fail
 refine (HF.out _).mono ?_
 rintro _ w1 ⟨rfl,hb1⟩;have hb1s:=hb1.size;(try simp only [wsA,wsS,wsD,wsN] at hb1s);obtain ⟨hb1c,hb1f⟩:=bcell hb1;(try have : w.heap.size < w1.heap.size:=by omega);(try have : w.heap.size + 1 < w1.heap.size:=by omega);(try have : w.heap.size + 1 + 1 < w1.heap.size:=by omega);(try have : w.heap.size + 1 + 1 + 1 < w1.heap.size:=by omega)
 have ka : Bk w1 (w.heap.size) 32 [.bool b,.int .u64 x1,.int .u64 x0,.int .i64 (s : Int)]:=by (repeat (first|(with_reducible assumption)|((with_reducible refine bkW ?_);(first|rfl|(simp only [wsA,wsS,wsD,wsN];done)))|(with_reducible first|refine bkA ?_ _|refine bkD ?_|refine bkN ?_ _)|((with_reducible refine bkF ?_ ?_ _);focus (simp only [];omega))|((with_reducible refine bkB (by assumption) ?_ ?_);focus (go_size;done))))
 have ka_0:=ka.cell 0 rfl
 have ka_1:=ka.cell 1 rfl
 have ka_2:=ka.cell 2 rfl
 have ka_3:=ka.cell 3 rfl
 have ka_4:=ka.frozen 0
 have ka_5:=ka.frozen 1
 have ka_6:=ka.frozen 2
 have ka_7:=ka.frozen 3
 have kal:=ka.lt
 have kb : Bk w1 (w.heap.size + 1) 32 [.bool b',.int .u64 y1,.int .u64 y0,.int .i64 (s' : Int)]:=by (repeat (first|(with_reducible assumption)|((with_reducible refine bkW ?_);(first|rfl|(simp only [wsA,wsS,wsD,wsN];done)))|(with_reducible first|refine bkA ?_ _|refine bkD ?_|refine bkN ?_ _)|((with_reducible refine bkF ?_ ?_ _);focus (simp only [];omega))|((with_reducible refine bkB (by assumption) ?_ ?_);focus (go_size;done))))
 have kb_0:=kb.cell 0 rfl
 have kb_1:=kb.cell 1 rfl
 have kb_2:=kb.cell 2 rfl
 have kb_3:=kb.cell 3 rfl
 have kb_4:=kb.frozen 0
 have kb_5:=kb.frozen 1
 have kb_6:=kb.frozen 2
 have kb_7:=kb.frozen 3
 have kbl:=kb.lt
 have HKB:=Lib.hid kb
 have kr : Bk w1 (w.heap.size + 1 + 1) 32 [.bool false,.int .u64 0,.int .u64 0,.int .i64 0]:=by (repeat (first|(with_reducible assumption)|((with_reducible refine bkW ?_);(first|rfl|(simp only [wsA,wsS,wsD,wsN];done)))|(with_reducible first|refine bkA ?_ _|refine bkD ?_|refine bkN ?_ _)|((with_reducible refine bkF ?_ ?_ _);focus (simp only [];omega))|((with_reducible refine bkB (by assumption) ?_ ?_);focus (go_size;done))))
 have kr_0:=kr.cell 0 rfl
 have kr_1:=kr.cell 1 rfl
 have kr_2:=kr.cell 2 rfl
 have kr_3:=kr.cell 3 rfl
 have kr_4:=kr.frozen 0
 have kr_5:=kr.frozen 1
 have kr_6:=kr.frozen 2
 have kr_7:=kr.frozen 3
 have krl:=kr.lt
 have HKR:=Lib.hid kr
 clear hb1c hb1f ka kr kb_0 kb_1 kb_2 kb_3 kb_4 kb_5 kb_6 kb_7 kr_0 kr_1 kr_2 kr_3 kr_4 kr_5 kr_6 kr_7 kb
 go_wp2_with fail
 refine (HU.out _).mono ?_
 rintro _ w2 ⟨v1,rfl,d1,hb2⟩
 have hb2s:=hb2.size
 have Hd1:=Lib.hid d1
 have kb:=HKB.out
 have jb : Bk w2 (w.heap.size + 1) 32 [.bool b',.int .u64 y1,.int .u64 y0,.int .i64 (s' : Int)]:=by (repeat (first|(with_reducible assumption)|((with_reducible refine bkW ?_);(first|rfl|(simp only [wsA,wsS,wsD,wsN];done)))|(with_reducible first|refine bkA ?_ _|refine bkD ?_|refine bkN ?_ _)|((with_reducible refine bkF ?_ ?_ _);focus (simp only [];omega))|((with_reducible refine bkB (by assumption) ?_ ?_);focus (go_size;done))))
 have jb_0:=jb.cell 0 rfl
 have jb_1:=jb.cell 1 rfl
 have jb_2:=jb.cell 2 rfl
 have jb_3:=jb.cell 3 rfl
 have jb_4:=jb.frozen 0
 have jb_5:=jb.frozen 1
 have jb_6:=jb.frozen 2
 have jb_7:=jb.frozen 3
 have jbl:=jb.lt
 clear d1 jb kb ka_0 ka_1 ka_2 ka_3 ka_4 ka_5 ka_6 ka_7
 go_wp2_with fail
 refine (HV.out _).mono ?_
 rintro _ w3 ⟨v2,rfl,d2,hb3⟩
 have hb3s:=hb3.size
 have Hd2:=Lib.hid d2
 clear d2 jb_0 jb_1 jb_2 jb_3 jb_4 jb_5 jb_6 jb_7
 go_wp2_with fail
 refine (HS.out _ _ _ (Hd1.out.below hb3) Hd2.out).mono ?_
 rintro _ w4 ⟨v3,rfl,d3,hb4⟩
 have hb4s:=hb4.size
 have Hd3:=Lib.hid d3
 clear d3
 go_wp2_with fail
 refine (HO.out _).mono ?_
 rintro _ w5 ⟨v4,rfl,d4,hb5⟩
 have hb5s:=hb5.size
 have Hd4:=Lib.hid d4
 clear d4
 go_wp2_with fail
 refine (HT.out _ _ _ (Hd3.out.below hb5) Hd4.out).mono ?_
 rintro _ w6 ⟨rfl,hb6⟩
 have hb6s:=hb6.size
 have mr : Bk w6 (w.heap.size + 1 + 1) 32 [.bool false,.int .u64 0,.int .u64 0,.int .i64 0]:=by
  have kr:=HKR.out
  (repeat (first|(with_reducible assumption)|((with_reducible refine bkW ?_);(first|rfl|(simp only [wsA,wsS,wsD,wsN];done)))|(with_reducible first|refine bkA ?_ _|refine bkD ?_|refine bkN ?_ _)|((with_reducible refine bkF ?_ ?_ _);focus (simp only [];omega))|((with_reducible refine bkB (by assumption) ?_ ?_);focus (go_size;done))))
 have mr_0:=mr.cell 0 rfl
 have mr_1:=mr.cell 1 rfl
 have mr_2:=mr.cell 2 rfl
 have mr_3:=mr.cell 3 rfl
 have mr_4:=mr.frozen 0
 have mr_5:=mr.frozen 1
 have mr_6:=mr.frozen 2
 have mr_7:=mr.frozen 3
 have mrl:=mr.lt
 clear mr
 go_wp2_with fail
 refine bodyPost_ret (by simp [results,Tryz.results99,go_sem, *];try rfl) rfl ?_
 exact ⟨rfl,by (repeat' first|(with_reducible first|exact blR _ _|assumption|refine blD ?_|refine blN ?_ _)|((with_reducible first|refine blA ?_ ?_ _|refine blS ?_ ?_ _|refine blT (by assumption) ?_ ?_);focus (go_size;done)))⟩
end Go.Proofs.YtkjecoanlppeaaaGreatDoor



namespace Go.Proofs.YtkjecoanlppeaaaGreatDoor
open Go.RowKit

theorem OwnVs.rob {B h0 : Nat} {w : World} {v : Value} {l : List VD} (h : OwnVs B h0 w v l) (hl : l.length ≤ 1048576) : RobL h0 B w v l:=by
 have HV:=h.vlsR hl (w':=w) fun _ _=>rfl
 obtain ⟨cs,h1,h2,h3⟩:=h
 rcases h2.2 with ⟨rfl,h0⟩ | ⟨g,cap,cur,rfl,hBg,hg,h5,h6,h7,h8⟩
 ·rw [List.eq_nil_of_length_eq_zero h0]
  exact ⟨none,0,rfl,⟨by simp,by simp,by decide⟩,fun r hr=>absurd hr (Nat.not_lt_zero _)⟩
 ·have hgl : g < w.heap.size:=(Array.getElem?_eq_some_iff.1 hg).1
  refine ⟨some ⟨g,0,none⟩,cap,rfl,⟨hl,h5,h6⟩,fun r hr=>?_⟩
  obtain ⟨A,C,A2,C2,h9,lo,hi,k0,k1,k2,hv⟩:=h3 r hr
  obtain ⟨b',o',A1',C1',A2',C2',e,hat,_⟩:=HV.at hr
  injection e with e
  injection e with e1 e2 _
  subst e1 e2
  refine ⟨g,0,A,C,A2,C2,rfl,.inr ⟨hBg,hgl⟩,fun j hj=>?_,fun w' ha=>hv w' fun b hb=>ha b (by omega)⟩
  have hx : ∀ x ∈ cs,x.length = 10:=fun x hx=>by
   obtain ⟨i,hi,rfl⟩:=List.getElem_of_mem hx
   obtain ⟨A,C,A2,C2,h4,_⟩:=h3 i (by omega)
   rw [List.getElem?_eq_getElem hi] at h4
   injection h4 with h4
   rw [h4];rfl
  have hj10 : j < 10:=hj
  have e:=flat_at cs r j _ hx h9 hj10
  rw [← h8,List.getElem?_take_of_lt (by omega)] at e
  rw [Nat.zero_add,cell_of_row w g _ cur _ (0,0) hg]
  rw [← e];simp
theorem wp_pushY {w : World} {o : Oper} {a : Act} {K : Act → World → Prop} {Q : Exit → Act → World → Prop} (s x : Operand)
  (ho : o.op = .call { callee:=.builtin .append,args:=#[s,x],argTypes:=#[24,24] })
  (B L N h0 : Nat) (h0B : h0 ≤ B) (hNB : N ≤ B) (hB : B ≤ w.heap.size) (v : Value) (l : List VD) (hs : a.eval s = v) (hrow : OwnVX B L N h0 w v l)
  (b : Nat) (d : VD) (A : Option Addr) (C : Nat) (A2 : Option Addr) (C2 : Nat) (hx : a.eval x = .slice (some ⟨b,0,none⟩) 1 1) (hd : At w b 0 (vcs d A C A2 C2)) (hnew : VB h0 L N w d A C A2 C2) (hlen : l.length ≤ 1000000)
  (h : ∀ g cap w',OwnVX B L N h0 w' (.slice (some ⟨g,0,none⟩) (l.length + 1) cap) (l ++ [d]) → Below B w w' → g < w'.heap.size → K (a.put o.dst (.slice (some ⟨g,0,none⟩) (l.length + 1) cap)) w') :
  o.wp Tryz.prog a w K Q:=by
 obtain ⟨i0,hi0,hz0,hz1,hz2⟩:=info_parts info_val10
 obtain ⟨cs,q1,q2,q3⟩:=hrow
 refine wp_append_lies w s x 24 ho B 34 i0 _ 10 120 Tryz.underlying24 hi0 hz0 hz1 hz2 rfl (by decide) v l.length cs.flatten hs q2 ⟨b,0,none⟩ 1 1 (vcs d A C A2 C2) hx rfl ?_ (vcs_one d A C A2 C2) (by decide) (by unfold maxLen;omega) (by omega) hB w.heap.size rfl ?_
 ·intro j u hj
  have hj10 : j < (vcs d A C A2 C2).length:=(List.getElem?_eq_some_iff.1 hj).1
  have e:=hd j hj10
  rw [Nat.zero_add] at e
  have hadd : (⟨b,0,none⟩ : Addr).add j = ⟨b,j,none⟩:=by unfold Addr.add;split <;> simp_all
  rw [hadd,e,hj]
 ·intro g cap w' k1 k2 k3 k4
  have hkeep : Agr h0 L N w w':=fun b hb=>by
   refine k2.block b (by omega) fun e=>?_
   have:=(q2.lt b e.symm).1;omega
  refine h g cap w' ⟨cs ++ [vcs d A C A2 C2],by simp [q1], ?_,fun i hi=>?_⟩ ⟨k2.os,k2.tape,k2.output,k2.size,fun k hk=>k2.block k (Nat.lt_of_lt_of_le hk hB) (fun e=>by have:=(q2.lt k e.symm).1;omega)⟩ k4
  ·rw [List.length_append,List.flatten_append,List.flatten_singleton];exact k1
  ·by_cases e : i = l.length
   ·subst e
    refine ⟨A,C,A2,C2, ?_, ?_⟩
    ·rw [List.getElem?_append_right (by omega),q1,Nat.sub_self]
     unfold vg
     rw [List.getD_eq_getElem?_getD,List.getElem?_append_right (Nat.le_refl _),Nat.sub_self];rfl
    ·have e2 : vg (l ++ [d]) l.length = d:=by
      unfold vg
      rw [List.getD_eq_getElem?_getD,List.getElem?_append_right (Nat.le_refl _),Nat.sub_self];rfl
     rw [e2]
     exact hnew.move hkeep
   ·have hil : i < l.length:=by simp at hi;omega
    obtain ⟨A',C',A2',C2',h3,h4⟩:=q3 i hil
    have e2 : vg (l ++ [d]) i = vg l i:=by
     unfold vg
     rw [List.getD_eq_getElem?_getD,List.getD_eq_getElem?_getD,List.getElem?_append_left hil]
    rw [e2]
    refine ⟨A',C',A2',C2', ?_,h4.move hkeep⟩
    rw [List.getElem?_append_left (by omega)];exact h3
theorem wpList_pushY {w : World} {ops : Array Oper} {rest : List Oper} {o : Oper} {a : Act} {Q : Exit → Act → World → Prop} (hgd : o.guard = none) (s x : Operand)
  (ho : o.op = .call { callee:=.builtin .append,args:=#[s,x],argTypes:=#[24,24] })
  (B L N h0 : Nat) (h0B : h0 ≤ B) (hNB : N ≤ B) (hB : B ≤ w.heap.size) (v : Value) (l : List VD) (hs : a.eval s = v) (hrow : OwnVX B L N h0 w v l)
  (b : Nat) (d : VD) (A : Option Addr) (C : Nat) (A2 : Option Addr) (C2 : Nat) (hx : a.eval x = .slice (some ⟨b,0,none⟩) 1 1) (hd : At w b 0 (vcs d A C A2 C2)) (hnew : VB h0 L N w d A C A2 C2) (hlen : l.length ≤ 1000000)
  (h : ∀ g cap w',OwnVX B L N h0 w' (.slice (some ⟨g,0,none⟩) (l.length + 1) cap) (l ++ [d]) → Below B w w' → g < w'.heap.size → wpList Tryz.prog ops Q rest (a.put o.dst (.slice (some ⟨g,0,none⟩) (l.length + 1) cap)) w') :
  wpList Tryz.prog ops Q (o :: rest) a w :=
 wpList_plain hgd fun _ hK=>wp_pushY s x ho B L N h0 h0B hNB hB v l hs hrow b d A C A2 C2 hx hd hnew hlen fun g cap w' k1 k2 k3=>hK _ _ (h g cap w' k1 k2 k3)
end Go.Proofs.YtkjecoanlppeaaaGreatDoor



namespace Go.Proofs.YtkjecoanlppeaaaGreatDoor
open Go.RowKit

set_option maxRecDepth 100000 in
set_option maxHeartbeats 2000000 in
theorem lists_any (order rows : List (List VD)) (O R : Value) (n : Nat) (w : World) (hso : ∀ t,t < order.length → SmallL (lg order t)) (hsr : ∀ t,t < rows.length → SmallL (lg rows t)) (ho : Lls w O order) (hr : Lls w R rows) (hn : n ≤ 1048576) :
  Calls Tryz.prog 29 #[O,R,.int .i64 n] w fun e w'=>e = .returned (.bool (listsB order rows n)) ∧ Below w.heap.size w w':=by
 obtain ⟨A,C,rfl,q1,_,_⟩:=ho.is
 obtain ⟨A2,C2,rfl,q2,_,_⟩:=hr.is
 have HO:=Lib.hid ho
 have HRW:=Lib.hid hr
 have HSO:=Lib.hid hso
 have HSR:=Lib.hid hsr
 obtain ⟨z,hz⟩ : ∃ z,z = listsB order rows n:=⟨_,rfl⟩
 have hzi:=listsB_iff (order:=order) (rows:=rows) (n:=n)
 rw [← hz] at hzi ⊢
 have HZ : Hid ((¬ (order.length = n ∧ rows.length ≤ 60 ∧ (∀ t,t < order.length → (lg order t).length ≤ 60 ∧ allC (lg order t) = true) ∧ (∀ t,t < rows.length → (lg rows t).length = n ∧ allC (lg rows t) = true)) → z = false) ∧ ((order.length = n ∧ rows.length ≤ 60 ∧ (∀ t,t < order.length → (lg order t).length ≤ 60 ∧ allC (lg order t) = true) ∧ (∀ t,t < rows.length → (lg rows t).length = n ∧ allC (lg rows t) = true)) → z = true)):=Lib.hid ⟨fun h=>by
  cases z with
  | false=>rfl
  | true=>exact absurd (hzi.1 rfl) h,hzi.2⟩
 have hol : (order.length : Int) ≤ 1048576:=by omega
 have hrl : (rows.length : Int) ≤ 1048576:=by omega
 have hnl : (n : Int) ≤ 1048576:=by omega
 clear hzi hz ho hr hso hsr q1 q2 hn
 by_cases h1 : order.length = n
 rotate_left
 ·have f1 : ((order.length : Int) != (n : Int)) = true:=by rw [bne_iff_ne];omega
  have hz : z = false:=HZ.out.1 (fun h=>h1 h.1)
  subst hz
  clear h1 HZ
  go_enter Tryz.func29,Tryz.ntmps29
  go_wp2_with fail
  all_goals (go_ret;exact ⟨rfl,by (repeat' first|(with_reducible first|exact blR _ _|assumption|refine blD ?_|refine blN ?_ _)|((with_reducible first|refine blA ?_ ?_ _|refine blS ?_ ?_ _|refine blT (by assumption) ?_ ?_);focus (go_size;done)))⟩)
 have f1 : ((order.length : Int) != (n : Int)) = false:=by rw [bne_eq_false_iff_eq];omega
 have H1:=Lib.hid h1
 clear h1
 by_cases h2 : rows.length ≤ 60
 rotate_left
 ·have f2 : (60 : Int) < (rows.length : Int):=by omega
  have hz : z = false:=HZ.out.1 (fun h=>h2 h.2.1)
  subst hz
  clear h2 HZ
  go_enter Tryz.func29,Tryz.ntmps29
  go_wp2_with fail
  go_ret
  exact ⟨rfl,by (repeat' first|(with_reducible first|exact blR _ _|assumption|refine blD ?_|refine blN ?_ _)|((with_reducible first|refine blA ?_ ?_ _|refine blS ?_ ?_ _|refine blT (by assumption) ?_ ?_);focus (go_size;done)))⟩
 have f2 : ¬ (60 : Int) < (rows.length : Int):=by omega
 have H2:=Lib.hid h2
 clear h2
 go_enter Tryz.func29,Tryz.ntmps29
 go_wp2_with fail
 go_loopg [7] order.length (fun k s7 wr=>∃ t : Nat,k + t = order.length ∧ s7 = .int .i64 t ∧ Hid (∀ i,i < t → (lg order i).length ≤ 60 ∧ allC (lg order i) = true) ∧ w.heap.size ≤ wr.heap.size ∧ Below w.heap.size w wr)
 case atStart=>exact ⟨0,by omega,rfl,Lib.hid (fun i hi=>absurd hi (Nat.not_lt_zero _)),by omega,by (repeat' first|(with_reducible first|exact blR _ _|assumption|refine blD ?_|refine blN ?_ _)|((with_reducible first|refine blA ?_ ?_ _|refine blS ?_ ?_ _|refine blT (by assumption) ?_ ?_);focus (go_size;done)))⟩
 case round =>
  obtain ⟨t,hk,rfl,HA,hsz,hbel⟩:=hrel
  have HK:=Lib.hid hk
  have htl : t ≤ order.length:=by omega
  clear hk
  by_cases hlt : t < order.length
  ·obtain ⟨b,o,B1,D1,rfl,hcell,hv⟩:=(HO.out.below hbel).at hlt
   have lb:=vcell_lt hcell
   have htc : (t : Int) < (order.length : Int):=by omega
   obtain ⟨_,_,_,hxl⟩:=hv.is
   have hsm:=HSO.out t hlt
   obtain ⟨x,hxx⟩ : ∃ x,x = lg order t:=⟨_,rfl⟩
   rw [← hxx] at hv hcell hxl hsm
   have HX:=Lib.hid hxx
   have HC:=Lib.hid (rvalues_any x _ wr hv hsm)
   obtain ⟨q,hq⟩ : ∃ q,q = allC x:=⟨_,rfl⟩
   rw [← hq] at HC
   have HQ:=Lib.hid hq
   obtain ⟨n1,hn1⟩ : ∃ n1,n1 = x.length:=⟨_,rfl⟩
   rw [← hn1] at hcell HC hxl
   have HN1:=Lib.hid hn1
   clear hxx hv hq hn1 hsm
   by_cases h60 : n1 ≤ 60
   ·have g60 : ¬ (60 : Int) < (n1 : Int):=by omega
    cases q with
    | true =>
     go_wp2_with ((go_at_call 43;with_reducible refine (HC.out).mono ?_);rintro _ w2 ⟨rfl,hb2⟩;have hb2s:=hb2.size;(try simp only [wsA,wsS,wsD,wsN] at hb2s);obtain ⟨hb2c,hb2f⟩:=bcell hb2;(try have : w.heap.size < w2.heap.size:=by omega);(try have : w.heap.size + 1 < w2.heap.size:=by omega);(try have : w.heap.size + 1 + 1 < w2.heap.size:=by omega);(try have : w.heap.size + 1 + 1 + 1 < w2.heap.size:=by omega))
     go_roundg (gk - 1)
     case measure=>have:=HK.out;omega
     case rel=>exact ⟨t + 1,by have:=HK.out;omega,by go_num,Lib.hid (fun i hi=>by
      by_cases e : i = t
      ·subst e;rw [← HX.out,← HN1.out,← HQ.out];exact ⟨h60,rfl⟩
      ·exact HA.out i (by omega)),by omega,by (repeat' first|(with_reducible first|exact blR _ _|assumption|refine blD ?_|refine blN ?_ _)|((with_reducible first|refine blA ?_ ?_ _|refine blS ?_ ?_ _|refine blT (by assumption) ?_ ?_);focus (go_size;done)))⟩
    | false =>
     have hz : z = false:=HZ.out.1 (fun h=>by
      have:=(h.2.2.1 t hlt).2
      rw [← HX.out,← HQ.out] at this;exact Bool.noConfusion this)
     subst hz
     go_wp2_with ((go_at_call 43;with_reducible refine (HC.out).mono ?_);rintro _ w2 ⟨rfl,hb2⟩;have hb2s:=hb2.size;(try simp only [wsA,wsS,wsD,wsN] at hb2s);obtain ⟨hb2c,hb2f⟩:=bcell hb2;(try have : w.heap.size < w2.heap.size:=by omega);(try have : w.heap.size + 1 < w2.heap.size:=by omega);(try have : w.heap.size + 1 + 1 < w2.heap.size:=by omega);(try have : w.heap.size + 1 + 1 + 1 < w2.heap.size:=by omega))
     go_ret
     exact ⟨rfl,by (repeat' first|(with_reducible first|exact blR _ _|assumption|refine blD ?_|refine blN ?_ _)|((with_reducible first|refine blA ?_ ?_ _|refine blS ?_ ?_ _|refine blT (by assumption) ?_ ?_);focus (go_size;done)))⟩
   ·have g60 : (60 : Int) < (n1 : Int):=by omega
    have hz : z = false:=HZ.out.1 (fun h=>by
     have:=(h.2.2.1 t hlt).1
     rw [← HX.out,← HN1.out] at this;exact h60 this)
    subst hz
    clear h60
    go_wp2_with fail
    go_ret
    exact ⟨rfl,by (repeat' first|(with_reducible first|exact blR _ _|assumption|refine blD ?_|refine blN ?_ _)|((with_reducible first|refine blA ?_ ?_ _|refine blS ?_ ?_ _|refine blT (by assumption) ?_ ?_);focus (go_size;done)))⟩
  ·obtain rfl : t = order.length:=by omega
   have HA1:=Lib.hid HA.out
   clear HA hlt
   go_wp2_with fail
   obtain ⟨wo,hwo⟩ : ∃ wo : World,wo = wr:=⟨_,rfl⟩
   clear hwo
   go_loopg [8] rows.length (fun k s8 wr=>∃ t : Nat,k + t = rows.length ∧ s8 = .int .i64 t ∧ Hid (∀ i,i < t → (lg rows i).length = n ∧ allC (lg rows i) = true) ∧ w.heap.size ≤ wr.heap.size ∧ Below w.heap.size w wr)
   case atStart=>exact ⟨0,by omega,rfl,Lib.hid (fun i hi=>absurd hi (Nat.not_lt_zero _)),by omega,by (repeat' first|(with_reducible first|exact blR _ _|assumption|refine blD ?_|refine blN ?_ _)|((with_reducible first|refine blA ?_ ?_ _|refine blS ?_ ?_ _|refine blT (by assumption) ?_ ?_);focus (go_size;done)))⟩
   case round =>
    obtain ⟨t,hk,rfl,HB,hsz2,hbel2⟩:=hrel
    have HK2:=Lib.hid hk
    have htl2 : t ≤ rows.length:=by omega
    clear hk
    by_cases hlt : t < rows.length
    ·obtain ⟨b,o,B1,D1,rfl,hcell,hv⟩:=(HRW.out.below hbel2).at hlt
     have lb:=vcell_lt hcell
     have htc : (t : Int) < (rows.length : Int):=by omega
     obtain ⟨_,_,_,hxl⟩:=hv.is
     have hsm:=HSR.out t hlt
     obtain ⟨x,hxx⟩ : ∃ x,x = lg rows t:=⟨_,rfl⟩
     rw [← hxx] at hv hcell hxl hsm
     have HX:=Lib.hid hxx
     have HC:=Lib.hid (rvalues_any x _ wr hv hsm)
     obtain ⟨q,hq⟩ : ∃ q,q = allC x:=⟨_,rfl⟩
     rw [← hq] at HC
     have HQ:=Lib.hid hq
     obtain ⟨n1,hn1⟩ : ∃ n1,n1 = x.length:=⟨_,rfl⟩
     rw [← hn1] at hcell HC hxl
     have HN1:=Lib.hid hn1
     clear hxx hv hq hn1 hsm
     by_cases hnn : n1 = n
     ·have g0 : ((n1 : Int) != (n : Int)) = false:=by rw [bne_eq_false_iff_eq];omega
      have HNN:=Lib.hid hnn
      clear hnn
      cases q with
      | true =>
       go_wp2_with ((go_at_call 43;with_reducible refine (HC.out).mono ?_);rintro _ w2 ⟨rfl,hb2⟩;have hb2s:=hb2.size;(try simp only [wsA,wsS,wsD,wsN] at hb2s);obtain ⟨hb2c,hb2f⟩:=bcell hb2;(try have : w.heap.size < w2.heap.size:=by omega);(try have : w.heap.size + 1 < w2.heap.size:=by omega);(try have : w.heap.size + 1 + 1 < w2.heap.size:=by omega);(try have : w.heap.size + 1 + 1 + 1 < w2.heap.size:=by omega))
       go_roundg (gk - 1)
       case measure=>have:=HK2.out;omega
       case rel=>exact ⟨t + 1,by have:=HK2.out;omega,by go_num,Lib.hid (fun i hi=>by
        by_cases e : i = t
        ·subst e;rw [← HX.out,← HN1.out,← HQ.out];exact ⟨HNN.out,rfl⟩
        ·exact HB.out i (by omega)),by omega,by (repeat' first|(with_reducible first|exact blR _ _|assumption|refine blD ?_|refine blN ?_ _)|((with_reducible first|refine blA ?_ ?_ _|refine blS ?_ ?_ _|refine blT (by assumption) ?_ ?_);focus (go_size;done)))⟩
      | false =>
       have hz : z = false:=HZ.out.1 (fun h=>by
        have:=(h.2.2.2 t hlt).2
        rw [← HX.out,← HQ.out] at this;exact Bool.noConfusion this)
       subst hz
       go_wp2_with ((go_at_call 43;with_reducible refine (HC.out).mono ?_);rintro _ w2 ⟨rfl,hb2⟩;have hb2s:=hb2.size;(try simp only [wsA,wsS,wsD,wsN] at hb2s);obtain ⟨hb2c,hb2f⟩:=bcell hb2;(try have : w.heap.size < w2.heap.size:=by omega);(try have : w.heap.size + 1 < w2.heap.size:=by omega);(try have : w.heap.size + 1 + 1 < w2.heap.size:=by omega);(try have : w.heap.size + 1 + 1 + 1 < w2.heap.size:=by omega))
       go_ret
       exact ⟨rfl,by (repeat' first|(with_reducible first|exact blR _ _|assumption|refine blD ?_|refine blN ?_ _)|((with_reducible first|refine blA ?_ ?_ _|refine blS ?_ ?_ _|refine blT (by assumption) ?_ ?_);focus (go_size;done)))⟩
     ·have g0 : ((n1 : Int) != (n : Int)) = true:=by rw [bne_iff_ne];omega
      have hz : z = false:=HZ.out.1 (fun h=>by
       have:=(h.2.2.2 t hlt).1
       rw [← HX.out,← HN1.out] at this;exact hnn this)
      subst hz
      clear hnn
      go_wp2_with fail
      go_ret
      exact ⟨rfl,by (repeat' first|(with_reducible first|exact blR _ _|assumption|refine blD ?_|refine blN ?_ _)|((with_reducible first|refine blA ?_ ?_ _|refine blS ?_ ?_ _|refine blT (by assumption) ?_ ?_);focus (go_size;done)))⟩
    ·obtain rfl : t = rows.length:=by omega
     have hz : z = true:=HZ.out.2 ⟨H1.out,H2.out,HA1.out,HB.out⟩
     subst hz
     clear hlt
     go_wp2_with fail
     go_ret
     exact ⟨rfl,by (repeat' first|(with_reducible first|exact blR _ _|assumption|refine blD ?_|refine blN ?_ _)|((with_reducible first|refine blA ?_ ?_ _|refine blS ?_ ?_ _|refine blT (by assumption) ?_ ?_);focus (go_size;done)))⟩
end Go.Proofs.YtkjecoanlppeaaaGreatDoor



namespace Go.Proofs.YtkjecoanlppeaaaGreatDoor
open Go.RowKit

theorem small_step {a m : Nat} {D N : Int} (h : D + 10 ^ a * (m : Int) = N) : D + 10 ^ a * ((m : Int) % 10) + 10 ^ (a + 1) * ((m / 10 : Nat) : Int) = N:=by
 rw [Int.pow_succ,← h]
 have e : (m : Int) = (m : Int) % 10 + 10 * ((m / 10 : Nat) : Int):=by omega
 have e2 : (10 : Int) ^ a * (m : Int) = 10 ^ a * ((m : Int) % 10) + 10 ^ a * 10 * ((m / 10 : Nat) : Int):=by
  rw [Int.mul_assoc,← Int.mul_add];exact congrArg _ e
 omega
theorem small_len {a m N : Nat} {D : Int} (h : D + 10 ^ a * (m : Int) = (N : Int)) (h0 : 0 ≤ D) (hm : 0 < m) : 10 ^ a ≤ N:=by
 have h1 : (10 : Int) ^ a * 1 ≤ 10 ^ a * (m : Int):=Int.mul_le_mul_of_nonneg_left (by omega) (Int.le_of_lt (ten_pos a))
 have h2 : ((10 ^ a : Nat) : Int) ≤ (N : Int):=by rw [Int.natCast_pow];show (10 : Int) ^ a ≤ _;omega
 exact_mod_cast h2
set_option maxHeartbeats 2000000 in
theorem small_any (N : Nat) (hN : N ≤ 9223372036854775807) (w : World) : Calls Tryz.prog 97 #[.int .i64 N] w (RetDg N w):=by
 have H19 : Far (N < 10 ^ 19):=Far.mk (Nat.lt_of_le_of_lt hN (by decide))
 have hN' : (N : Int) ≤ 9223372036854775807:=by omega
 go_enter Tryz.func97,Tryz.ntmps97
 go_wp2_with fail
 go_loopg [0,3] N (fun k nv d wr=>∃ ds : List Int,nv = .int .i64 (k : Int) ∧ k ≤ N ∧ wr.ownsRow w.heap.size 3 1 d ds.length (ds.map (Value.int .i64)) ∧ Hid (Digs ds) ∧ Far (dval ds + 10 ^ ds.length * (k : Int) = (N : Int)) ∧ Far (ds = [] ∨ 10 ^ (ds.length - 1) ≤ N) ∧ Below w.heap.size w wr)
 case atStart=>exact ⟨[],rfl,Nat.le_refl _,World.ownsRow_nil _ _ _ _,Lib.hid Digs.nil,Far.mk (by simp [dval]),Far.mk (.inl rfl),Below.refl _ _⟩
 case round =>
  obtain ⟨ds,rfl,hk,hown,hdd,hval,htop,hbel⟩:=hrel
  have hwr:=hbel.size
  by_cases h0 : gk = 0
  ·subst h0
   have hng : ¬ (0 : Int) < ((0 : Nat) : Int):=by omega
   go_wp2_with fail
   go_ret
   have hv:=hval.out
   rw [Int.natCast_zero,Int.mul_zero,Int.add_zero] at hv
   refine ⟨u3,rfl,⟨ds,IsSl.of_own hown,hdd.out,top_of_val hdd.out ?_,hv⟩,hbel⟩
   rcases htop.out with h | h
   ·exact .inl h
   ·right
    rw [hv]
    have : ((10 ^ (ds.length - 1) : Nat) : Int) ≤ (N : Int):=by exact_mod_cast h
    rwa [Int.natCast_pow] at this
  ·have hp : (0 : Int) < (gk : Int):=by omega
   have hgk : (gk : Int) ≤ 9223372036854775807:=by omega
   have hlen:=small_len hval.out (dval_bd hdd.out).1 (Nat.pos_of_ne_zero h0)
   have hl19 : ds.length < 19:=by
    have h1:=Nat.lt_of_le_of_lt hlen H19.out
    exact (Nat.pow_lt_pow_iff_right (by decide)).1 h1
   have HL:=Far.mk hlen
   clear hlen h0
   go_wp2_with (at_builtin;refine wpList_push rfl (.tmp 8) (.tmp 11) rfl w.heap.size u3 ds rfl (hown.alloc _) wr.heap.size ((gk : Int) % 10) rfl ?hc ?hl ?hb ?_;rotate_left 3;intro v1 w1 hown1 hg1)
   case hc=>simp [go_sem]
   case hl=>omega
   case hb=>go_size
   go_roundg (gk / 10)
   case measure=>omega
   case rel =>
    refine ⟨ds ++ [(gk : Int) % 10],by first | rfl | (congr 1),by omega,hown1,Lib.hid (hdd.out.snoc (by omega) (by omega)),Far.mk ?_,Far.mk (.inr ?_),below_push (hbel.alloc (by go_size) _) (hown.alloc _) hg1 (by go_size)⟩
    ·rw [dval_snoc,List.length_append]
     exact small_step hval.out
    ·rw [List.length_append]
     exact HL.out
theorem ofv_fit (neg : Bool) {m : Nat} (h : m ≤ 9223372036854775808) : m < B34:=Nat.lt_of_le_of_lt h (by unfold B34;decide)
set_option maxHeartbeats 2000000 in
theorem docof_any (n : Int) (h : -9223372036854775808 ≤ n ∧ n ≤ 9223372036854775807) (w : World) : Calls Tryz.prog 75 #[.int .i64 n] w fun e w'=>e = .returned (OfV n) ∧ Below w.heap.size w w':=by
 have ha:=absN_lt h
 obtain ⟨e1,e0⟩:=absN_wd h
 have hb:=ofv_fit true ha
 unfold OfV
 by_cases hn : n < 0
 ·have e : (absN n : Int) = -n:=by unfold absN;omega
  have hne : absN n ≠ 0:=by unfold absN;omega
  have HO : Hid (∀ W,Calls Tryz.prog 96 #[.agg #[.int .u64 0,.int .u64 (-n)]] W (RetDg (absN n) W)):=Lib.hid (fun W=>by
   have:=of_any (absN n) (Nat.lt_trans hb B34_lt) W
   rwa [e1,e0,e] at this)
  have HM : Hid (∀ W v,Dg W v (absN n) → Calls Tryz.prog 95 #[.bool true,v,.int .i64 0] W fun e w'=>e = .returned (.agg #[.bool true,.int .u64 (wd (absN n) 1),.int .u64 (wd (absN n) 0),.int .i64 0]) ∧ Below W.heap.size W w'):=Lib.hid (fun W v hv=>by
   have:=make1_any true (absN n) 0 v W hv hb (by decide)
   rw [show stripC (absN n) 0 = absN n from rfl,show stripS (absN n) 0 = 0 from rfl,sg_pos hne] at this
   exact this)
  rw [decide_eq_true hn]
  generalize wd (absN n) 1 = z1 at *
  generalize wd (absN n) 0 = z0 at *
  generalize absN n = N at *
  have g1 : IntKind.u64.wrap (-(n + 1)) = -(n + 1):=by rw [IntKind.wrap_u64];omega
  have g2 : -(n + 1) + 1 = -n:=by omega
  clear e e1 e0 ha hb hne
  go_enter Tryz.func75,Tryz.ntmps75
  go_wp2_with fail
  refine (HO.out _).mono ?_
  rintro _ w1 ⟨v1,rfl,d1,hb1⟩;have hb1s:=hb1.size;(try simp only [wsA,wsS,wsD,wsN] at hb1s);obtain ⟨hb1c,hb1f⟩:=bcell hb1;(try have : w.heap.size < w1.heap.size:=by omega);(try have : w.heap.size + 1 < w1.heap.size:=by omega);(try have : w.heap.size + 1 + 1 < w1.heap.size:=by omega);(try have : w.heap.size + 1 + 1 + 1 < w1.heap.size:=by omega);have Hd1:=Lib.hid d1;clear d1
  have kr : Bk w1 w.heap.size 32 [.bool false,.int .u64 0,.int .u64 0,.int .i64 0]:=by (repeat (first|(with_reducible assumption)|((with_reducible refine bkW ?_);(first|rfl|(simp only [wsA,wsS,wsD,wsN];done)))|(with_reducible first|refine bkA ?_ _|refine bkD ?_|refine bkN ?_ _)|((with_reducible refine bkF ?_ ?_ _);focus (simp only [];omega))|((with_reducible refine bkB (by assumption) ?_ ?_);focus (go_size;done))))
  have krl:=kr.lt
  clear hb1c hb1f
  go_wp2_with fail
  refine (HM.out _ _ Hd1.out).mono ?_
  rintro _ w2 ⟨rfl,hb2⟩;have hb2s:=hb2.size;(try simp only [wsA,wsS,wsD,wsN] at hb2s);obtain ⟨hb2c,hb2f⟩:=bcell hb2;(try have : w.heap.size < w2.heap.size:=by omega);(try have : w.heap.size + 1 < w2.heap.size:=by omega);(try have : w.heap.size + 1 + 1 < w2.heap.size:=by omega);(try have : w.heap.size + 1 + 1 + 1 < w2.heap.size:=by omega)
  have jr : Bk w2 w.heap.size 32 [.bool false,.int .u64 0,.int .u64 0,.int .i64 0]:=by (repeat (first|(with_reducible assumption)|((with_reducible refine bkW ?_);(first|rfl|(simp only [wsA,wsS,wsD,wsN];done)))|(with_reducible first|refine bkA ?_ _|refine bkD ?_|refine bkN ?_ _)|((with_reducible refine bkF ?_ ?_ _);focus (simp only [];omega))|((with_reducible refine bkB (by assumption) ?_ ?_);focus (go_size;done))))
  have jr_0:=jr.cell 0 rfl
  have jr_1:=jr.cell 1 rfl
  have jr_2:=jr.cell 2 rfl
  have jr_3:=jr.cell 3 rfl
  have jr_4:=jr.frozen 0
  have jr_5:=jr.frozen 1
  have jr_6:=jr.frozen 2
  have jr_7:=jr.frozen 3
  clear hb2c hb2f
  go_wp2_with fail
  refine bodyPost_ret (by simp [results,Tryz.results75,go_sem, *];try rfl) rfl ?_
  exact ⟨rfl,by (repeat' first|(with_reducible first|exact blR _ _|assumption|refine blD ?_|refine blN ?_ _)|((with_reducible first|refine blA ?_ ?_ _|refine blS ?_ ?_ _|refine blT (by assumption) ?_ ?_);focus (go_size;done)))⟩
 ·have hn0 : 0 ≤ n:=by omega
  obtain ⟨N,rfl⟩:=Int.eq_ofNat_of_zero_le hn0
  have e : absN (N : Int) = N:=by unfold absN;omega
  rw [e] at hb e1 e0 ⊢
  have HS:=Lib.hid (fun W=>small_any N (by omega) W)
  have HM : Hid (∀ W v,Dg W v N → Calls Tryz.prog 95 #[.bool false,v,.int .i64 0] W fun e w'=>e = .returned (.agg #[.bool false,.int .u64 (wd N 1),.int .u64 (wd N 0),.int .i64 0]) ∧ Below W.heap.size W w'):=Lib.hid (fun W v hv=>by
   have:=make1_any false N 0 v W hv hb (by decide)
   rw [show stripC N 0 = N from rfl,show stripS N 0 = 0 from rfl,show sg false N = false by unfold sg;simp] at this
   exact this)
  rw [decide_eq_false hn]
  generalize wd N 1 = z1 at *
  generalize wd N 0 = z0 at *
  clear e e1 e0 ha hb
  go_enter Tryz.func75,Tryz.ntmps75
  go_wp2_with fail
  refine (HS.out _).mono ?_
  rintro _ w1 ⟨v1,rfl,d1,hb1⟩;have hb1s:=hb1.size;(try simp only [wsA,wsS,wsD,wsN] at hb1s);obtain ⟨hb1c,hb1f⟩:=bcell hb1;(try have : w.heap.size < w1.heap.size:=by omega);(try have : w.heap.size + 1 < w1.heap.size:=by omega);(try have : w.heap.size + 1 + 1 < w1.heap.size:=by omega);(try have : w.heap.size + 1 + 1 + 1 < w1.heap.size:=by omega);have Hd1:=Lib.hid d1;clear d1
  have kr : Bk w1 w.heap.size 32 [.bool false,.int .u64 0,.int .u64 0,.int .i64 0]:=by (repeat (first|(with_reducible assumption)|((with_reducible refine bkW ?_);(first|rfl|(simp only [wsA,wsS,wsD,wsN];done)))|(with_reducible first|refine bkA ?_ _|refine bkD ?_|refine bkN ?_ _)|((with_reducible refine bkF ?_ ?_ _);focus (simp only [];omega))|((with_reducible refine bkB (by assumption) ?_ ?_);focus (go_size;done))))
  have krl:=kr.lt
  clear hb1c hb1f
  go_wp2_with fail
  refine (HM.out _ _ Hd1.out).mono ?_
  rintro _ w2 ⟨rfl,hb2⟩;have hb2s:=hb2.size;(try simp only [wsA,wsS,wsD,wsN] at hb2s);obtain ⟨hb2c,hb2f⟩:=bcell hb2;(try have : w.heap.size < w2.heap.size:=by omega);(try have : w.heap.size + 1 < w2.heap.size:=by omega);(try have : w.heap.size + 1 + 1 < w2.heap.size:=by omega);(try have : w.heap.size + 1 + 1 + 1 < w2.heap.size:=by omega)
  have jr : Bk w2 w.heap.size 32 [.bool false,.int .u64 0,.int .u64 0,.int .i64 0]:=by (repeat (first|(with_reducible assumption)|((with_reducible refine bkW ?_);(first|rfl|(simp only [wsA,wsS,wsD,wsN];done)))|(with_reducible first|refine bkA ?_ _|refine bkD ?_|refine bkN ?_ _)|((with_reducible refine bkF ?_ ?_ _);focus (simp only [];omega))|((with_reducible refine bkB (by assumption) ?_ ?_);focus (go_size;done))))
  have jr_0:=jr.cell 0 rfl
  have jr_1:=jr.cell 1 rfl
  have jr_2:=jr.cell 2 rfl
  have jr_3:=jr.cell 3 rfl
  have jr_4:=jr.frozen 0
  have jr_5:=jr.frozen 1
  have jr_6:=jr.frozen 2
  have jr_7:=jr.frozen 3
  clear hb2c hb2f
  go_wp2_with fail
  refine bodyPost_ret (by simp [results,Tryz.results75,go_sem, *];try rfl) rfl ?_
  exact ⟨rfl,by (repeat' first|(with_reducible first|exact blR _ _|assumption|refine blD ?_|refine blN ?_ _)|((with_reducible first|refine blA ?_ ?_ _|refine blS ?_ ?_ _|refine blT (by assumption) ?_ ?_);focus (go_size;done)))⟩
end Go.Proofs.YtkjecoanlppeaaaGreatDoor



namespace Go.Proofs.YtkjecoanlppeaaaGreatDoor
open Go.RowKit

theorem Bk.zcs {w : World} {g : Nat} {t : TypeId} (h : Bk w g t zc10) : (w.cell? ⟨g,0,none⟩ = some (.int .i64 0) ∧ w.cell? ⟨g,1,none⟩ = some (.bool false) ∧ w.cell? ⟨g,2,none⟩ = some (.bool false) ∧ w.cell? ⟨g,3,none⟩ = some (.int .u64 0) ∧ w.cell? ⟨g,4,none⟩ = some (.int .u64 0) ∧ w.cell? ⟨g,5,none⟩ = some (.int .i64 0) ∧ w.cell? ⟨g,6,none⟩ = some (.string ⟨#[]⟩) ∧ w.cell? ⟨g,7,none⟩ = some (.int .i64 0) ∧ w.cell? ⟨g,8,none⟩ = some (.slice none 0 0) ∧ w.cell? ⟨g,9,none⟩ = some (.slice none 0 0)) ∧ ∀ i,w.frozen? ⟨g,i,none⟩ = false :=
 ⟨⟨h.cell 0 rfl,h.cell 1 rfl,h.cell 2 rfl,h.cell 3 rfl,h.cell 4 rfl,h.cell 5 rfl,h.cell 6 rfl,h.cell 7 rfl,h.cell 8 rfl,h.cell 9 rfl⟩,h.frozen⟩
theorem Bk.decs {w : World} {g : Nat} {t : TypeId} {c0 c1 c2 c3 u0 u1 u2 u3 : Value} (h : Bk w g t [c0,c1,c2,c3]) : Bk ((((w.setCell ⟨g,0,none⟩ u0).setCell ⟨g,1,none⟩ u1).setCell ⟨g,2,none⟩ u2).setCell ⟨g,3,none⟩ u3) g t [u0,u1,u2,u3]:=(((h.set_ 0 u0).set_ 1 u1).set_ 2 u2).set_ 3 u3
set_option maxRecDepth 100000 in
set_option maxHeartbeats 8000000 in
theorem rnumbers18_any (p : Int) (l : List VD) (v : Value) (w : World) (hp : p = 8 ∨ p = 9 ∨ p = 10) (h : Vls (RV w) w v l) (hpos : 0 < l.length) (hl : l.length ≤ 1000000) (hc : ∀ t,t < l.length → chkV (vg l t) = 0) :
  Calls Tryz.prog 76 #[.int .i64 p,v] w (RetP (numD p l) w):=by
 obtain ⟨A,C,rfl,q1⟩:=h.is
 have HV:=Lib.hid h
 have HC:=Lib.hid hc
 have hlc : (l.length : Int) ≤ 1000000:=by omega
 have hl0 : (0 : Int) < (l.length : Int):=by omega
 obtain ⟨R,hR⟩ : ∃ R,R = numD p l:=⟨_,rfl⟩
 rw [← hR]
 have HR:=Lib.hid hR
 obtain ⟨b,o,A1,C1,A2,C2,rfl,_⟩:=h.at hpos
 clear h hc hR q1
 go_enter Tryz.func76,Tryz.ntmps76
 go_wp2_with fail
 have k4 : Bk (w.alloc (.cells #[.int .i64 0,.bool false,.bool false,.int .u64 0,.int .u64 0,.int .i64 0,.string ⟨#[]⟩,.int .i64 0,.slice none 0 0,.slice none 0 0] 34)) w.heap.size 34 zc10:=by
  unfold zc10
  exact Bk.new_ rfl
 have hb0 : Below w.heap.size w (w.alloc (.cells #[.int .i64 0,.bool false,.bool false,.int .u64 0,.int .u64 0,.int .i64 0,.string ⟨#[]⟩,.int .i64 0,.slice none 0 0,.slice none 0 0] 34)):=by (repeat' first|(with_reducible first|exact blR _ _|assumption|refine blD ?_|refine blN ?_ _)|((with_reducible first|refine blA ?_ ?_ _|refine blS ?_ ?_ _|refine blT (by assumption) ?_ ?_);focus (go_size;done)))
 have hl4:=k4.lt
 generalize w.alloc (.cells #[.int .i64 0,.bool false,.bool false,.int .u64 0,.int .u64 0,.int .i64 0,.string ⟨#[]⟩,.int .i64 0,.slice none 0 0,.slice none 0 0] 34) = wx at *
 have hcells : ∀ (W : World),Below w.heap.size w W → ∀ t,t < l.length → ∃ x1 y1 x2 y2,At W b (o + t * 10) ((vg l t).s.cs ++ [.slice x1 (vg l t).list.length y1,.slice x2 (vg l t).names.length y2]):=fun W hW t ht=>by
  obtain ⟨b',o',x1,y1,x2,y2,hA,hat,_⟩:=(HV.out.kept hW).at ht
  injection hA with hA
  injection hA with e1 e2 _
  subst e1 e2
  exact ⟨_,_,_,_,hat⟩
 have HAT:=Lib.hid hcells
 clear hcells
 go_loopg [6] l.length (fun k s6 wr=>∃ t : Nat,k + t = l.length ∧ s6 = .int .i64 t ∧ Hid (∀ j,j < t → (vg l j).s.kind = 2) ∧ wr = wx)
 case atStart=>exact ⟨0,by omega,rfl,Lib.hid (fun j hj=>absurd hj (Nat.not_lt_zero _)),rfl⟩
 case round =>
  obtain ⟨t,hk,rfl,HA,hwr⟩:=hrel
  subst hwr
  have HK:=Lib.hid hk
  have htl : t ≤ l.length:=by omega
  clear hk
  by_cases hlt : t < l.length
  ·obtain ⟨x1,y1,x2,y2,hat⟩:=HAT.out _ hb0 t hlt
   obtain ⟨a0,_⟩:=hat.val
   have htc : (t : Int) < (l.length : Int):=by omega
   obtain ⟨kd,hkd⟩ : ∃ k,k = (vg l t).s.kind:=⟨_,rfl⟩
   rw [← hkd] at a0
   have HKD:=Lib.hid hkd
   clear hat hkd
   by_cases hk2 : kd = 2
   ·subst hk2
    go_wp2_with fail
    go_roundg (gk - 1)
    case measure=>have:=HK.out;omega
    case rel=>exact ⟨t + 1,by have:=HK.out;omega,by go_num,Lib.hid (fun j hj=>by
     by_cases e : j = t
     ·subst e;exact HKD.out.symm
     ·exact HA.out j (by omega)),rfl⟩
   ·have hz : R = (VD.zero,0):=by
     rw [HR.out]
     refine numD_odd ?_
     cases ha : allNum l with
     | false=>rfl
     | true=>exact absurd (allNum_iff.1 ha t hlt) (by rw [← HKD.out];exact hk2)
    have f0 : (kd != 2) = true:=by rw [bne_iff_ne];exact hk2
    obtain ⟨⟨z0,z1,z2,z3,z4,z5,z6,z7,z8,z9⟩,zf⟩:=k4.zcs
    subst hz
    clear hk2
    go_wp2_with fail
    refine bodyPost_ret (by simp [results,Tryz.results76,go_sem, *];try rfl) rfl ?_
    exact ⟨none,0,none,0,by rw [zero_vargs],va_flat VS.zero_ok,by (repeat' first|(with_reducible first|exact blR _ _|assumption|refine blD ?_|refine blN ?_ _)|((with_reducible first|refine blA ?_ ?_ _|refine blS ?_ ?_ _|refine blT (by assumption) ?_ ?_);focus (go_size;done)))⟩
  ·obtain rfl : t = l.length:=by omega
   clear hlt
   have ha : allNum l = true:=allNum_iff.2 HA.out
   have hR:=HR.out
   rw [numD_all ha] at hR
   have HR2:=Lib.hid hR
   obtain ⟨x1,y1,x2,y2,hat⟩:=HAT.out _ hb0 0 hpos
   rw [Nat.zero_mul,Nat.add_zero] at hat
   obtain ⟨a0,a1,a2,a3,a4,a5,_⟩:=hat.val
   have lb:=vcell_lt a0
   obtain ⟨c,s,e1,e2,hc34,hs18,hdf⟩:=step_ok (l:=l) (chk_num (HC.out 0 hpos) (HA.out 0 hpos))
   have HD0 : Hid (decN (vg l 0).s = ((vg l 0).s.neg,c,s)):=Lib.hid (by unfold decN;rw [e1,e2,Int.toNat_natCast])
   rw [e1] at a3 a4
   rw [e2] at a5
   obtain ⟨n0,hn0⟩ : ∃ n,n = (vg l 0).s.neg:=⟨_,rfl⟩
   rw [← hn0] at a2 HD0 hdf
   have HDF:=Lib.hid hdf
   have K4:=Lib.hid k4
   clear hat hR ha e1 e2 hn0 a0 a1 hc34 hs18 hdf k4 HR
   go_wp2_with fail
   obtain ⟨g7,hg7⟩ : ∃ g,g = wr.heap.size:=⟨_,rfl⟩
   have k4 : Bk (wr.alloc (.cells #[.bool n0,.int .u64 (wd c 1),.int .u64 (wd c 0),.int .i64 s] 32)) w.heap.size 34 zc10:=K4.out.alloc _
   have k7 : Bk (wr.alloc (.cells #[.bool n0,.int .u64 (wd c 1),.int .u64 (wd c 0),.int .i64 s] 32)) g7 32 [.bool n0,.int .u64 (wd c 1),.int .u64 (wd c 0),.int .i64 s]:=Bk.new_ hg7
   have hb1 : Below w.heap.size w (wr.alloc (.cells #[.bool n0,.int .u64 (wd c 1),.int .u64 (wd c 0),.int .i64 s] 32)):=by (repeat' first|(with_reducible first|exact blR _ _|assumption|refine blD ?_|refine blN ?_ _)|((with_reducible first|refine blA ?_ ?_ _|refine blS ?_ ?_ _|refine blT (by assumption) ?_ ?_);focus (go_size;done)))
   have hl7:=k7.lt
   have hw7 : w.heap.size < g7:=by omega
   rw [← hg7]
   generalize wr.alloc (.cells #[.bool n0,.int .u64 (wd c 1),.int .u64 (wd c 0),.int .i64 s] 32) = wy at *
   clear a2 a3 a4 a5 hb0 hg7
   obtain ⟨nl,hnl⟩ : ∃ n,n = l.length:=⟨_,rfl⟩
   go_loopg [8] (l.length - 1) (fun k s8 wr=>∃ (t : Nat) (db : Bool) (dc ds : Nat),k + t = l.length ∧ s8 = .int .i64 t ∧ Hid (numGo p (db,dc,ds) (l.drop t) = R) ∧ Hid (DForm db dc ds) ∧ Hid (Bk wr w.heap.size 34 zc10) ∧ Hid (Bk wr g7 32 [.bool db,.int .u64 (wd dc 1),.int .u64 (wd dc 0),.int .i64 ds]) ∧ g7 < wr.heap.size ∧ Below w.heap.size w wr)
   case atStart=>exact ⟨1,n0,c,s,by omega,rfl,Lib.hid (by rw [← HD0.out];exact HR2.out.symm),HDF,Lib.hid k4,Lib.hid k7,hl7,hb1⟩
   case round =>
    obtain ⟨t,db,dc,ds,hk,rfl,HGO,HDF2,K4,K7,hsz,hbel⟩:=hrel
    have HK:=Lib.hid hk
    have htl : t ≤ l.length:=by omega
    clear hk
    by_cases hlt : t < l.length
    ·obtain ⟨x1,y1,x2,y2,hat⟩:=HAT.out _ hbel t hlt
     obtain ⟨_,_,a2,a3,a4,a5,_⟩:=hat.val
     have lb:=vcell_lt a2
     have htc : (t : Int) < (l.length : Int):=by omega
     obtain ⟨xc,xs,e1,e2,hxc,hxs,hxf⟩:=step_ok (l:=l) (chk_num (HC.out t hlt) (HA.out t hlt))
     have hnx:=numGo_next (p:=p) (d:=(db,dc,ds)) hlt
     rw [HGO.out] at hnx
     have hno : numO (db,dc,ds) (vg l t).s = ordD (vg l t).s.neg (unit xc xs) db (unit dc ds):=by unfold numO;rw [e1,e2,Int.toNat_natCast]
     have hnu : sumU (db,dc,ds) (vg l t).s = sab db (unit dc ds) (vg l t).s.neg (unit xc xs):=by unfold sumU;rw [e1,e2,Int.toNat_natCast]
     have hnb : sumB (db,dc,ds) (vg l t).s = sgn db (unit dc ds) (vg l t).s.neg (unit xc xs):=by unfold sumB;rw [e1,e2,Int.toNat_natCast]
     have hnn : decN (vg l t).s = ((vg l t).s.neg,xc,xs):=by unfold decN;rw [e1,e2,Int.toNat_natCast]
     unfold decN at hnn
     rw [e1] at a3 a4
     rw [e2] at a5
     obtain ⟨x,hx⟩ : ∃ x,x = (vg l t).s:=⟨_,rfl⟩
     rw [← hx] at a2 hxf hnx hno hnu hnb hnn
     have HCM:=Lib.hid (fun W=>order2_any x.neg xc xs db dc ds hxc HDF2.out.1 hxs HDF2.out.2.1 (fun h=>(hxf.2.2.1 h).1) (fun h=>(HDF2.out.2.2.1 h).1) W)
     have HAD:=Lib.hid (fun W=>docadd_ok db dc ds x.neg xc xs (dform_of HDF2.out) (dform_of hxf) HDF2.out.1 hxc HDF2.out.2.1 hxs W)
     obtain ⟨O,hO⟩ : ∃ O,O = ordD x.neg (unit xc xs) db (unit dc ds):=⟨_,rfl⟩
     rw [← hO] at hno
     simp only [← hO] at HCM
     obtain ⟨U,hU⟩ : ∃ U,U = sab db (unit dc ds) x.neg (unit xc xs):=⟨_,rfl⟩
     rw [← hU] at hnu
     simp only [← hU] at HAD
     obtain ⟨Bs,hBs⟩ : ∃ Bs,Bs = sgn db (unit dc ds) x.neg (unit xc xs):=⟨_,rfl⟩
     rw [← hBs] at hnb
     simp only [← hBs] at HAD
     obtain ⟨fc,hfc⟩ : ∃ y,y = FitC U (10 ^ 18):=⟨_,rfl⟩
     obtain ⟨fs,hfs⟩ : ∃ y,y = FitS U (10 ^ 18):=⟨_,rfl⟩
     obtain ⟨fe,hfe⟩ : ∃ y,y = FitE U (10 ^ 18):=⟨_,rfl⟩
     obtain ⟨fb,hfb⟩ : ∃ y,y = sg Bs fc:=⟨_,rfl⟩
     simp only [← hfc,← hfs,← hfe] at HAD
     simp only [← hfb] at HAD
     have HFE:=Lib.hid (fit_err U (10 ^ 18))
     rw [← hfe] at HFE
     have HFF:=Lib.hid (fit_form Bs U (10 ^ 18))
     rw [← hfc,← hfs,← hfb] at HFF
     have H8 : Hid (p = 8 → numStep p (db,dc,ds) x = ((fb,fc,fs),fe)):=Lib.hid (fun h=>by unfold numStep;rw [if_pos h,hnu,hnb,← hfc,← hfs,← hfe,← hfb])
     have H9 : Hid (p ≠ 8 → numStep p (db,dc,ds) x = if p = 9 ∧ O < 0 ∨ p = 10 ∧ 0 < O then ((x.neg,xc,xs),0) else ((db,dc,ds),0)):=Lib.hid (fun h=>by unfold numStep;rw [if_neg h,hno,hnn])
     have HNX:=Lib.hid hnx
     have d0:=K7.out.cell 0 rfl
     have d1:=K7.out.cell 1 rfl
     have d2:=K7.out.cell 2 rfl
     have d3:=K7.out.cell 3 rfl
     have df0:=K7.out.frozen 0
     have df1:=K7.out.frozen 1
     have df2:=K7.out.frozen 2
     have df3:=K7.out.frozen 3
     have lwr : w.heap.size < wr.heap.size:=by omega
     obtain ⟨xn,hxn⟩ : ∃ y,y = x.neg:=⟨_,rfl⟩
     have HXF:=Lib.hid hxf
     rw [← hxn] at a2 HXF
     simp only [← hxn] at HCM HAD H9
     clear hat hnx hno hnu hnb hnn hx hO hU hBs hfc hfs hfe hfb hxn hxc hxs hxf e1 e2
     go_wp2_with fail
     go_region_held3 (fun w'=>w'.cell? ⟨b,o + t * 10 + 2,none⟩ = some (.bool xn) ∧ w'.cell? ⟨b,o + t * 10 + 3,none⟩ = some (.int .u64 (wd xc 1)) ∧ w'.cell? ⟨b,o + t * 10 + 4,none⟩ = some (.int .u64 (wd xc 0)) ∧ w'.cell? ⟨b,o + t * 10 + 5,none⟩ = some (.int .i64 xs) ∧ w'.cell? ⟨g7,0,none⟩ = some (.bool db) ∧ w'.cell? ⟨g7,1,none⟩ = some (.int .u64 (wd dc 1)) ∧ w'.cell? ⟨g7,2,none⟩ = some (.int .u64 (wd dc 0)) ∧ w'.cell? ⟨g7,3,none⟩ = some (.int .i64 ds)) (first | (first | (go_keep;done) | (simp [go_sem];done) | ((try dsimp only);(repeat' apply And.intro) <;> (first | (with_reducible assumption) | ((rw [World.cell?_alloc_lt _ _ _ (by show _ < _;omega)]);go_split_ands;(first | with_reducible assumption | (refine (World.cell?_alloc_lt _ _ _ (by show _ < _;omega)).symm.trans ?_;with_reducible assumption))) | ((rw [World.cell?_setCell_other _ _ _ _ (by intro e;injection e;omega)]);with_reducible assumption) | (go_keep;done) | (simp [go_sem];done) | (simp (disch:=go_size) [*,World.cell?_alloc_some,World.cell?_setCell_far];done))))) (first | ((go_at_call 98;with_reducible refine (HCM.out _).mono ?_);rintro _ w3 ⟨rfl,hb3⟩;have hb3s:=hb3.size;(try simp only [wsA,wsS,wsD,wsN] at hb3s);obtain ⟨hb3c,hb3f⟩:=bcell hb3;(try have : w.heap.size < w3.heap.size:=by omega);(try have : w.heap.size + 1 < w3.heap.size:=by omega);(try have : w.heap.size + 1 + 1 < w3.heap.size:=by omega);(try have : w.heap.size + 1 + 1 + 1 < w3.heap.size:=by omega);(have : g7 < w3.heap.size:=by omega)))
     have hb3' : Below wr.heap.size wr w3:=⟨hb3.os,hb3.tape,hb3.output,hb3.size,hb3.block⟩
     have k7 : Bk w3 g7 32 [.bool db,.int .u64 (wd dc 1),.int .u64 (wd dc 0),.int .i64 ds]:=K7.out.below hb3' (by show g7 < wr.heap.size;exact hsz)
     have k4 : Bk w3 w.heap.size 34 zc10:=K4.out.below hb3' (by show w.heap.size < wr.heap.size;omega)
     have hbel3 : Below w.heap.size w w3:=hbel.trans (hb3'.mono (by omega))
     have hs3 : wr.heap.size ≤ w3.heap.size:=hb3.size
     have b2:=(hb3'.cell (p:=⟨b,o + t * 10 + 2,none⟩) lb).trans a2
     have b3:=(hb3'.cell (p:=⟨b,o + t * 10 + 3,none⟩) lb).trans a3
     have b4:=(hb3'.cell (p:=⟨b,o + t * 10 + 4,none⟩) lb).trans a4
     have b5:=(hb3'.cell (p:=⟨b,o + t * 10 + 5,none⟩) lb).trans a5
     have lb3:=vcell_lt b2
     have c0:=k7.cell 0 rfl
     have c1:=k7.cell 1 rfl
     have c2:=k7.cell 2 rfl
     have c3:=k7.cell 3 rfl
     have cf0:=k7.frozen 0
     have cf1:=k7.frozen 1
     have cf2:=k7.frozen 2
     have cf3:=k7.frozen 3
     have K73:=Lib.hid k7
     have K43:=Lib.hid k4
     clear k7 k4 hb3 hb3' hb3c hb3f d0 d1 d2 d3 df0 df1 df2 df3 a2 a3 a4 a5
     have hl7c:=K73.out.lt
     rcases hp with h8 | h9 | h10
     ·have HE:=H8.out h8
      have HE2:=Lib.hid HE
      clear HE
      subst h8
      have HADA:=Lib.hid (fun (W : World) (k : Bk W w3.heap.size 32 [.bool false,.int .u64 0,.int .u64 0,.int .i64 0])=>Calls.mono (R':=fun e w'=>(e = .returned (.tuple #[.agg #[.bool fb,.int .u64 (wd fc 1),.int .u64 (wd fc 0),.int .i64 fs],.int .i64 fe]) ∧ Below W.heap.size W w') ∧ Bk w' w3.heap.size 32 [.bool false,.int .u64 0,.int .u64 0,.int .i64 0]) (HAD.out W) fun e w' hq=>⟨hq,k.below hq.2 k.lt⟩)
      have hs33 : g7 ≠ w3.heap.size:=by omega
      rcases HFE.out with f0 | ⟨f0,_,_⟩
      ·subst f0
       have HG2 : Hid (numGo 8 (fb,fc,fs) (l.drop (t + 1)) = R):=Lib.hid (by have e:=HNX.out;rw [HE2.out,if_neg (by simp)] at e;exact e.symm)
       go_wp2_with fail
       go_region_held3 (fun w'=>w'.cell? ⟨b,o + t * 10 + 2,none⟩ = some (.bool xn) ∧ w'.cell? ⟨b,o + t * 10 + 3,none⟩ = some (.int .u64 (wd xc 1)) ∧ w'.cell? ⟨b,o + t * 10 + 4,none⟩ = some (.int .u64 (wd xc 0)) ∧ w'.cell? ⟨b,o + t * 10 + 5,none⟩ = some (.int .i64 xs) ∧ w'.cell? ⟨g7,0,none⟩ = some (.bool db) ∧ w'.cell? ⟨g7,1,none⟩ = some (.int .u64 (wd dc 1)) ∧ w'.cell? ⟨g7,2,none⟩ = some (.int .u64 (wd dc 0)) ∧ w'.cell? ⟨g7,3,none⟩ = some (.int .i64 ds)) (first | (first | (go_keep;done) | (simp [go_sem];done) | ((try dsimp only);(repeat' apply And.intro) <;> (first | (with_reducible assumption) | ((rw [World.cell?_alloc_lt _ _ _ (by show _ < _;omega)]);go_split_ands;(first | with_reducible assumption | (refine (World.cell?_alloc_lt _ _ _ (by show _ < _;omega)).symm.trans ?_;with_reducible assumption))) | ((rw [World.cell?_setCell_other _ _ _ _ (by intro e;injection e;omega)]);with_reducible assumption) | (go_keep;done) | (simp [go_sem];done) | (simp (disch:=go_size) [*,World.cell?_alloc_some,World.cell?_setCell_far];done))))) (first | (go_at_call 99;(with_reducible refine Calls.mono (HADA.out _ ?_) ?_);(focus (((repeat (first|(with_reducible assumption)|((with_reducible refine bkW ?_);(first|rfl|(simp only [wsA,wsS,wsD,wsN];done)))|(with_reducible first|refine bkA ?_ _|refine bkD ?_|refine bkN ?_ _)|((with_reducible refine bkF ?_ ?_ _);focus (simp only [];omega))|((with_reducible refine bkB (by assumption) ?_ ?_);focus (go_size;done)))));done));rintro _ w4 ⟨⟨rfl,hb4⟩,kA⟩;have A0:=kA.cell 0 rfl;have A1:=kA.cell 1 rfl;have A2:=kA.cell 2 rfl;have A3:=kA.cell 3 rfl;have Af0:=kA.frozen 0;have Af1:=kA.frozen 1;have Af2:=kA.frozen 2;have Af3:=kA.frozen 3;have hlA:=kA.lt;have KA:=Lib.hid kA;clear kA;have k7 : Bk w4 g7 32 [.bool db,.int .u64 (wd dc 1),.int .u64 (wd dc 0),.int .i64 ds]:=(by have k:=K73.out;(repeat (first|(with_reducible assumption)|((with_reducible refine bkW ?_);(first|rfl|(simp only [wsA,wsS,wsD,wsN];done)))|(with_reducible first|refine bkA ?_ _|refine bkD ?_|refine bkN ?_ _)|((with_reducible refine bkF ?_ ?_ _);focus (simp only [];omega))|((with_reducible refine bkB (by assumption) ?_ ?_);focus (go_size;done)))));have k4 : Bk w4 w.heap.size 34 zc10:=(by have k:=K43.out;(repeat (first|(with_reducible assumption)|((with_reducible refine bkW ?_);(first|rfl|(simp only [wsA,wsS,wsD,wsN];done)))|(with_reducible first|refine bkA ?_ _|refine bkD ?_|refine bkN ?_ _)|((with_reducible refine bkF ?_ ?_ _);focus (simp only [];omega))|((with_reducible refine bkB (by assumption) ?_ ?_);focus (go_size;done)))));have hbel4 : Below w3.heap.size w3 w4:=(by (repeat' first|(with_reducible first|exact blR _ _|assumption|refine blD ?_|refine blN ?_ _)|((with_reducible first|refine blA ?_ ?_ _|refine blS ?_ ?_ _|refine blT (by assumption) ?_ ?_);focus (go_size;done))));have hs4:=hbel4.size;have v2:=(hbel4.cell (p:=⟨b,o + t * 10 + 2,none⟩) lb3).trans b2;have v3:=(hbel4.cell (p:=⟨b,o + t * 10 + 3,none⟩) lb3).trans b3;have v4:=(hbel4.cell (p:=⟨b,o + t * 10 + 4,none⟩) lb3).trans b4;have v5:=(hbel4.cell (p:=⟨b,o + t * 10 + 5,none⟩) lb3).trans b5;have lb4:=vcell_lt v2;have u0:=k7.cell 0 rfl;have u1:=k7.cell 1 rfl;have u2:=k7.cell 2 rfl;have u3:=k7.cell 3 rfl;have uf0:=k7.frozen 0;have uf1:=k7.frozen 1;have uf2:=k7.frozen 2;have uf3:=k7.frozen 3;have K74:=Lib.hid k7;have K44:=Lib.hid k4;have hl74:=k7.lt;clear k7 k4 hb4) | (go_at_call 99;(with_reducible refine (HAD.out _).mono ?_);rintro _ w4 ⟨rfl,hb4⟩;have k7 : Bk w4 g7 32 [.bool db,.int .u64 (wd dc 1),.int .u64 (wd dc 0),.int .i64 ds]:=(by have k:=K73.out;(repeat (first|(with_reducible assumption)|((with_reducible refine bkW ?_);(first|rfl|(simp only [wsA,wsS,wsD,wsN];done)))|(with_reducible first|refine bkA ?_ _|refine bkD ?_|refine bkN ?_ _)|((with_reducible refine bkF ?_ ?_ _);focus (simp only [];omega))|((with_reducible refine bkB (by assumption) ?_ ?_);focus (go_size;done)))));have k4 : Bk w4 w.heap.size 34 zc10:=(by have k:=K43.out;(repeat (first|(with_reducible assumption)|((with_reducible refine bkW ?_);(first|rfl|(simp only [wsA,wsS,wsD,wsN];done)))|(with_reducible first|refine bkA ?_ _|refine bkD ?_|refine bkN ?_ _)|((with_reducible refine bkF ?_ ?_ _);focus (simp only [];omega))|((with_reducible refine bkB (by assumption) ?_ ?_);focus (go_size;done)))));have hbel4 : Below w3.heap.size w3 w4:=(by (repeat' first|(with_reducible first|exact blR _ _|assumption|refine blD ?_|refine blN ?_ _)|((with_reducible first|refine blA ?_ ?_ _|refine blS ?_ ?_ _|refine blT (by assumption) ?_ ?_);focus (go_size;done))));have hs4:=hbel4.size;have v2:=(hbel4.cell (p:=⟨b,o + t * 10 + 2,none⟩) lb3).trans b2;have v3:=(hbel4.cell (p:=⟨b,o + t * 10 + 3,none⟩) lb3).trans b3;have v4:=(hbel4.cell (p:=⟨b,o + t * 10 + 4,none⟩) lb3).trans b4;have v5:=(hbel4.cell (p:=⟨b,o + t * 10 + 5,none⟩) lb3).trans b5;have lb4:=vcell_lt v2;have u0:=k7.cell 0 rfl;have u1:=k7.cell 1 rfl;have u2:=k7.cell 2 rfl;have u3:=k7.cell 3 rfl;have uf0:=k7.frozen 0;have uf1:=k7.frozen 1;have uf2:=k7.frozen 2;have uf3:=k7.frozen 3;have K74:=Lib.hid k7;have K44:=Lib.hid k4;have hl74:=k7.lt;clear k7 k4 hb4))
       all_goals
        have hw34 : w.heap.size < w4.heap.size:=by omega
        go_wp2_with fail
        go_roundg (gk - 1)
        case measure=>have:=HK.out;omega
        case rel =>
         refine ⟨t + 1,fb,fc,fs,by have:=HK.out;omega,by go_num,HG2,HFF,Lib.hid ?_,Lib.hid ?_,by go_size,by (repeat' first|(with_reducible first|exact blR _ _|assumption|refine blD ?_|refine blN ?_ _)|((with_reducible first|refine blA ?_ ?_ _|refine blS ?_ ?_ _|refine blT (by assumption) ?_ ?_);focus (go_size;done)))⟩
         ·have k4:=K44.out
          (repeat (first|(with_reducible assumption)|((with_reducible refine bkW ?_);(first|rfl|(simp only [wsA,wsS,wsD,wsN];done)))|(with_reducible first|refine bkA ?_ _|refine bkD ?_|refine bkN ?_ _)|((with_reducible refine bkF ?_ ?_ _);focus (simp only [];omega))|((with_reducible refine bkB (by assumption) ?_ ?_);focus (go_size;done))))
         ·first | (with_reducible exact Bk.alloc (Bk.decs K74.out) _) | (with_reducible refine Bk.decs (c0:=.bool db) (c1:=.int .u64 (wd dc 1)) (c2:=.int .u64 (wd dc 0)) (c3:=.int .i64 ds) ?_;have k7:=K74.out;((repeat (first|(with_reducible assumption)|((with_reducible refine bkW ?_);(first|rfl|(simp only [wsA,wsS,wsD,wsN];done)))|(with_reducible first|refine bkA ?_ _|refine bkD ?_|refine bkN ?_ _)|((with_reducible refine bkF ?_ ?_ _);focus (simp only [];omega))|((with_reducible refine bkB (by assumption) ?_ ?_);focus (go_size;done)))));done)
      ·subst f0
       have HG2 : Hid (R = (VD.zero,3)):=Lib.hid (by have e:=HNX.out;rw [HE2.out,if_pos (by simp)] at e;exact e)
       go_wp2_with fail
       go_region_held3 (fun w'=>w'.cell? ⟨b,o + t * 10 + 2,none⟩ = some (.bool xn) ∧ w'.cell? ⟨b,o + t * 10 + 3,none⟩ = some (.int .u64 (wd xc 1)) ∧ w'.cell? ⟨b,o + t * 10 + 4,none⟩ = some (.int .u64 (wd xc 0)) ∧ w'.cell? ⟨b,o + t * 10 + 5,none⟩ = some (.int .i64 xs) ∧ w'.cell? ⟨g7,0,none⟩ = some (.bool db) ∧ w'.cell? ⟨g7,1,none⟩ = some (.int .u64 (wd dc 1)) ∧ w'.cell? ⟨g7,2,none⟩ = some (.int .u64 (wd dc 0)) ∧ w'.cell? ⟨g7,3,none⟩ = some (.int .i64 ds)) (first | (first | (go_keep;done) | (simp [go_sem];done) | ((try dsimp only);(repeat' apply And.intro) <;> (first | (with_reducible assumption) | ((rw [World.cell?_alloc_lt _ _ _ (by show _ < _;omega)]);go_split_ands;(first | with_reducible assumption | (refine (World.cell?_alloc_lt _ _ _ (by show _ < _;omega)).symm.trans ?_;with_reducible assumption))) | ((rw [World.cell?_setCell_other _ _ _ _ (by intro e;injection e;omega)]);with_reducible assumption) | (go_keep;done) | (simp [go_sem];done) | (simp (disch:=go_size) [*,World.cell?_alloc_some,World.cell?_setCell_far];done))))) (first | (go_at_call 99;(with_reducible refine Calls.mono (HADA.out _ ?_) ?_);(focus (((repeat (first|(with_reducible assumption)|((with_reducible refine bkW ?_);(first|rfl|(simp only [wsA,wsS,wsD,wsN];done)))|(with_reducible first|refine bkA ?_ _|refine bkD ?_|refine bkN ?_ _)|((with_reducible refine bkF ?_ ?_ _);focus (simp only [];omega))|((with_reducible refine bkB (by assumption) ?_ ?_);focus (go_size;done)))));done));rintro _ w4 ⟨⟨rfl,hb4⟩,kA⟩;have A0:=kA.cell 0 rfl;have A1:=kA.cell 1 rfl;have A2:=kA.cell 2 rfl;have A3:=kA.cell 3 rfl;have Af0:=kA.frozen 0;have Af1:=kA.frozen 1;have Af2:=kA.frozen 2;have Af3:=kA.frozen 3;have hlA:=kA.lt;have KA:=Lib.hid kA;clear kA;have k7 : Bk w4 g7 32 [.bool db,.int .u64 (wd dc 1),.int .u64 (wd dc 0),.int .i64 ds]:=(by have k:=K73.out;(repeat (first|(with_reducible assumption)|((with_reducible refine bkW ?_);(first|rfl|(simp only [wsA,wsS,wsD,wsN];done)))|(with_reducible first|refine bkA ?_ _|refine bkD ?_|refine bkN ?_ _)|((with_reducible refine bkF ?_ ?_ _);focus (simp only [];omega))|((with_reducible refine bkB (by assumption) ?_ ?_);focus (go_size;done)))));have k4 : Bk w4 w.heap.size 34 zc10:=(by have k:=K43.out;(repeat (first|(with_reducible assumption)|((with_reducible refine bkW ?_);(first|rfl|(simp only [wsA,wsS,wsD,wsN];done)))|(with_reducible first|refine bkA ?_ _|refine bkD ?_|refine bkN ?_ _)|((with_reducible refine bkF ?_ ?_ _);focus (simp only [];omega))|((with_reducible refine bkB (by assumption) ?_ ?_);focus (go_size;done)))));have hbel4 : Below w3.heap.size w3 w4:=(by (repeat' first|(with_reducible first|exact blR _ _|assumption|refine blD ?_|refine blN ?_ _)|((with_reducible first|refine blA ?_ ?_ _|refine blS ?_ ?_ _|refine blT (by assumption) ?_ ?_);focus (go_size;done))));have hs4:=hbel4.size;have v2:=(hbel4.cell (p:=⟨b,o + t * 10 + 2,none⟩) lb3).trans b2;have v3:=(hbel4.cell (p:=⟨b,o + t * 10 + 3,none⟩) lb3).trans b3;have v4:=(hbel4.cell (p:=⟨b,o + t * 10 + 4,none⟩) lb3).trans b4;have v5:=(hbel4.cell (p:=⟨b,o + t * 10 + 5,none⟩) lb3).trans b5;have lb4:=vcell_lt v2;have u0:=k7.cell 0 rfl;have u1:=k7.cell 1 rfl;have u2:=k7.cell 2 rfl;have u3:=k7.cell 3 rfl;have uf0:=k7.frozen 0;have uf1:=k7.frozen 1;have uf2:=k7.frozen 2;have uf3:=k7.frozen 3;have K74:=Lib.hid k7;have K44:=Lib.hid k4;have hl74:=k7.lt;clear k7 k4 hb4) | (go_at_call 99;(with_reducible refine (HAD.out _).mono ?_);rintro _ w4 ⟨rfl,hb4⟩;have k7 : Bk w4 g7 32 [.bool db,.int .u64 (wd dc 1),.int .u64 (wd dc 0),.int .i64 ds]:=(by have k:=K73.out;(repeat (first|(with_reducible assumption)|((with_reducible refine bkW ?_);(first|rfl|(simp only [wsA,wsS,wsD,wsN];done)))|(with_reducible first|refine bkA ?_ _|refine bkD ?_|refine bkN ?_ _)|((with_reducible refine bkF ?_ ?_ _);focus (simp only [];omega))|((with_reducible refine bkB (by assumption) ?_ ?_);focus (go_size;done)))));have k4 : Bk w4 w.heap.size 34 zc10:=(by have k:=K43.out;(repeat (first|(with_reducible assumption)|((with_reducible refine bkW ?_);(first|rfl|(simp only [wsA,wsS,wsD,wsN];done)))|(with_reducible first|refine bkA ?_ _|refine bkD ?_|refine bkN ?_ _)|((with_reducible refine bkF ?_ ?_ _);focus (simp only [];omega))|((with_reducible refine bkB (by assumption) ?_ ?_);focus (go_size;done)))));have hbel4 : Below w3.heap.size w3 w4:=(by (repeat' first|(with_reducible first|exact blR _ _|assumption|refine blD ?_|refine blN ?_ _)|((with_reducible first|refine blA ?_ ?_ _|refine blS ?_ ?_ _|refine blT (by assumption) ?_ ?_);focus (go_size;done))));have hs4:=hbel4.size;have v2:=(hbel4.cell (p:=⟨b,o + t * 10 + 2,none⟩) lb3).trans b2;have v3:=(hbel4.cell (p:=⟨b,o + t * 10 + 3,none⟩) lb3).trans b3;have v4:=(hbel4.cell (p:=⟨b,o + t * 10 + 4,none⟩) lb3).trans b4;have v5:=(hbel4.cell (p:=⟨b,o + t * 10 + 5,none⟩) lb3).trans b5;have lb4:=vcell_lt v2;have u0:=k7.cell 0 rfl;have u1:=k7.cell 1 rfl;have u2:=k7.cell 2 rfl;have u3:=k7.cell 3 rfl;have uf0:=k7.frozen 0;have uf1:=k7.frozen 1;have uf2:=k7.frozen 2;have uf3:=k7.frozen 3;have K74:=Lib.hid k7;have K44:=Lib.hid k4;have hl74:=k7.lt;clear k7 k4 hb4))
       all_goals
        have hw34 : w.heap.size < w4.heap.size:=by omega
        go_upto_if 55 with (fail)
        refine wp_named (fun W=>Bk W w.heap.size 34 zc10 ∧ Below w.heap.size w W) ⟨by (have k4:=K44.out;(repeat (first|(with_reducible assumption)|((with_reducible refine bkW ?_);(first|rfl|(simp only [wsA,wsS,wsD,wsN];done)))|(with_reducible first|refine bkA ?_ _|refine bkD ?_|refine bkN ?_ _)|((with_reducible refine bkF ?_ ?_ _);focus (simp only [];omega))|((with_reducible refine bkB (by assumption) ?_ ?_);focus (go_size;done))))),by (repeat' first|(with_reducible first|exact blR _ _|assumption|refine blD ?_|refine blN ?_ _)|((with_reducible first|refine blA ?_ ?_ _|refine blS ?_ ?_ _|refine blT (by assumption) ?_ ?_);focus (go_size;done)))⟩ ?_
        rintro W ⟨kw,mb⟩
        obtain ⟨⟨z0,z1,z2,z3,z4,z5,z6,z7,z8,z9⟩,zf⟩:=kw.zcs
        clear kw
        go_wp2_with fail
        refine bodyPost_ret (by simp [results,Tryz.results76,go_sem, *];try rfl) rfl ?_
        rw [HG2.out]
        exact ⟨none,0,none,0,by rw [zero_vargs],va_flat VS.zero_ok,by (repeat' first|(with_reducible first|exact blR _ _|assumption|refine blD ?_|refine blN ?_ _)|((with_reducible first|refine blA ?_ ?_ _|refine blS ?_ ?_ _|refine blT (by assumption) ?_ ?_);focus (go_size;done)))⟩
     ·have HE2:=Lib.hid (H9.out (by omega))
      subst h9
      by_cases hO : O < 0
      ·have HG2 : Hid (numGo 9 (xn,xc,xs) (l.drop (t + 1)) = R):=Lib.hid (by have e:=HNX.out;have e2:=HE2.out;rw [if_pos (.inl ⟨rfl,hO⟩)] at e2;rw [e2,if_neg (by simp)] at e;exact e.symm)
       go_wp2_with fail
       go_roundg (gk - 1)
       case measure=>have:=HK.out;omega
       case rel =>
        refine ⟨t + 1,xn,xc,xs,by have:=HK.out;omega,by go_num,HG2,HXF,Lib.hid ?_,Lib.hid ?_,by go_size,by (repeat' first|(with_reducible first|exact blR _ _|assumption|refine blD ?_|refine blN ?_ _)|((with_reducible first|refine blA ?_ ?_ _|refine blS ?_ ?_ _|refine blT (by assumption) ?_ ?_);focus (go_size;done)))⟩
        ·have k4:=K43.out
         (repeat (first|(with_reducible assumption)|((with_reducible refine bkW ?_);(first|rfl|(simp only [wsA,wsS,wsD,wsN];done)))|(with_reducible first|refine bkA ?_ _|refine bkD ?_|refine bkN ?_ _)|((with_reducible refine bkF ?_ ?_ _);focus (simp only [];omega))|((with_reducible refine bkB (by assumption) ?_ ?_);focus (go_size;done))))
        ·refine ((((?_ : Bk w3 g7 32 [.bool db,.int .u64 (wd dc 1),.int .u64 (wd dc 0),.int .i64 ds]).set_ 0 _).set_ 1 _).set_ 2 _).set_ 3 _
         have k7:=K73.out
         (repeat (first|(with_reducible assumption)|((with_reducible refine bkW ?_);(first|rfl|(simp only [wsA,wsS,wsD,wsN];done)))|(with_reducible first|refine bkA ?_ _|refine bkD ?_|refine bkN ?_ _)|((with_reducible refine bkF ?_ ?_ _);focus (simp only [];omega))|((with_reducible refine bkB (by assumption) ?_ ?_);focus (go_size;done))))
      ·have HG2 : Hid (numGo 9 (db,dc,ds) (l.drop (t + 1)) = R):=Lib.hid (by have e:=HNX.out;have e2:=HE2.out;rw [if_neg (by rintro (⟨h1,h2⟩ | ⟨h1,h2⟩) <;> omega)] at e2;rw [e2,if_neg (by simp)] at e;exact e.symm)
       go_wp2_with fail
       go_roundg (gk - 1)
       case measure=>have:=HK.out;omega
       case rel =>
        refine ⟨t + 1,db,dc,ds,by have:=HK.out;omega,by go_num,HG2,HDF2,Lib.hid ?_,Lib.hid ?_,by go_size,by (repeat' first|(with_reducible first|exact blR _ _|assumption|refine blD ?_|refine blN ?_ _)|((with_reducible first|refine blA ?_ ?_ _|refine blS ?_ ?_ _|refine blT (by assumption) ?_ ?_);focus (go_size;done)))⟩
        ·have k4:=K43.out
         (repeat (first|(with_reducible assumption)|((with_reducible refine bkW ?_);(first|rfl|(simp only [wsA,wsS,wsD,wsN];done)))|(with_reducible first|refine bkA ?_ _|refine bkD ?_|refine bkN ?_ _)|((with_reducible refine bkF ?_ ?_ _);focus (simp only [];omega))|((with_reducible refine bkB (by assumption) ?_ ?_);focus (go_size;done))))
        ·have k7:=K73.out
         (repeat (first|(with_reducible assumption)|((with_reducible refine bkW ?_);(first|rfl|(simp only [wsA,wsS,wsD,wsN];done)))|(with_reducible first|refine bkA ?_ _|refine bkD ?_|refine bkN ?_ _)|((with_reducible refine bkF ?_ ?_ _);focus (simp only [];omega))|((with_reducible refine bkB (by assumption) ?_ ?_);focus (go_size;done))))
     ·have HE2:=Lib.hid (H9.out (by omega))
      subst h10
      by_cases hO : 0 < O
      ·have HG2 : Hid (numGo 10 (xn,xc,xs) (l.drop (t + 1)) = R):=Lib.hid (by have e:=HNX.out;have e2:=HE2.out;rw [if_pos (.inr ⟨rfl,hO⟩)] at e2;rw [e2,if_neg (by simp)] at e;exact e.symm)
       go_wp2_with fail
       go_roundg (gk - 1)
       case measure=>have:=HK.out;omega
       case rel =>
        refine ⟨t + 1,xn,xc,xs,by have:=HK.out;omega,by go_num,HG2,HXF,Lib.hid ?_,Lib.hid ?_,by go_size,by (repeat' first|(with_reducible first|exact blR _ _|assumption|refine blD ?_|refine blN ?_ _)|((with_reducible first|refine blA ?_ ?_ _|refine blS ?_ ?_ _|refine blT (by assumption) ?_ ?_);focus (go_size;done)))⟩
        ·have k4:=K43.out
         (repeat (first|(with_reducible assumption)|((with_reducible refine bkW ?_);(first|rfl|(simp only [wsA,wsS,wsD,wsN];done)))|(with_reducible first|refine bkA ?_ _|refine bkD ?_|refine bkN ?_ _)|((with_reducible refine bkF ?_ ?_ _);focus (simp only [];omega))|((with_reducible refine bkB (by assumption) ?_ ?_);focus (go_size;done))))
        ·refine ((((?_ : Bk w3 g7 32 [.bool db,.int .u64 (wd dc 1),.int .u64 (wd dc 0),.int .i64 ds]).set_ 0 _).set_ 1 _).set_ 2 _).set_ 3 _
         have k7:=K73.out
         (repeat (first|(with_reducible assumption)|((with_reducible refine bkW ?_);(first|rfl|(simp only [wsA,wsS,wsD,wsN];done)))|(with_reducible first|refine bkA ?_ _|refine bkD ?_|refine bkN ?_ _)|((with_reducible refine bkF ?_ ?_ _);focus (simp only [];omega))|((with_reducible refine bkB (by assumption) ?_ ?_);focus (go_size;done))))
      ·have HG2 : Hid (numGo 10 (db,dc,ds) (l.drop (t + 1)) = R):=Lib.hid (by have e:=HNX.out;have e2:=HE2.out;rw [if_neg (by rintro (⟨h1,h2⟩ | ⟨h1,h2⟩) <;> omega)] at e2;rw [e2,if_neg (by simp)] at e;exact e.symm)
       go_wp2_with fail
       go_roundg (gk - 1)
       case measure=>have:=HK.out;omega
       case rel =>
        refine ⟨t + 1,db,dc,ds,by have:=HK.out;omega,by go_num,HG2,HDF2,Lib.hid ?_,Lib.hid ?_,by go_size,by (repeat' first|(with_reducible first|exact blR _ _|assumption|refine blD ?_|refine blN ?_ _)|((with_reducible first|refine blA ?_ ?_ _|refine blS ?_ ?_ _|refine blT (by assumption) ?_ ?_);focus (go_size;done)))⟩
        ·have k4:=K43.out
         (repeat (first|(with_reducible assumption)|((with_reducible refine bkW ?_);(first|rfl|(simp only [wsA,wsS,wsD,wsN];done)))|(with_reducible first|refine bkA ?_ _|refine bkD ?_|refine bkN ?_ _)|((with_reducible refine bkF ?_ ?_ _);focus (simp only [];omega))|((with_reducible refine bkB (by assumption) ?_ ?_);focus (go_size;done))))
        ·have k7:=K73.out
         (repeat (first|(with_reducible assumption)|((with_reducible refine bkW ?_);(first|rfl|(simp only [wsA,wsS,wsD,wsN];done)))|(with_reducible first|refine bkA ?_ _|refine bkD ?_|refine bkN ?_ _)|((with_reducible refine bkF ?_ ?_ _);focus (simp only [];omega))|((with_reducible refine bkB (by assumption) ?_ ?_);focus (go_size;done))))
    ·obtain rfl : t = l.length:=by omega
     clear hlt
     have d0:=K7.out.cell 0 rfl
     have d1:=K7.out.cell 1 rfl
     have d2:=K7.out.cell 2 rfl
     have d3:=K7.out.cell 3 rfl
     obtain ⟨⟨z0,z1,z2,z3,z4,z5,z6,z7,z8,z9⟩,zf⟩:=K4.out.zcs
     go_wp2_with fail
     refine bodyPost_ret (by simp [results,Tryz.results76,go_sem, *];try rfl) rfl ?_
     have e:=HGO.out
     rw [numGo_end (Nat.le_refl _)] at e
     rw [← e]
     exact ⟨none,0,none,0,by rw [num_vargs],va_flat (numS_ok (Nat.lt_trans HDF2.out.1 B34_lt)),by (repeat' first|(with_reducible first|exact blR _ _|assumption|refine blD ?_|refine blN ?_ _)|((with_reducible first|refine blA ?_ ?_ _|refine blS ?_ ?_ _|refine blT (by assumption) ?_ ?_);focus (go_size;done)))⟩
end Go.Proofs.YtkjecoanlppeaaaGreatDoor

