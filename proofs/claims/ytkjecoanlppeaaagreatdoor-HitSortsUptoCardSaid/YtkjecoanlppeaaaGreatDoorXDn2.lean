/- What this law reaches beyond the common contracts, part 2. -/
import Derived.IntWalk
import Derived.BigQuiet
import Derived.ProofKit
import Derived.OpenShut
import Derived.ShutString
import Derived.ChangeOld
import Derived.Below
import Derived.Lib.SmallJoins
import Derived.Deep.Matrix
import Derived.ChangeArms
import Derived.Lib.LaidIn
import Derived.Lib.LaidU8T
import Derived.Test.YtkjecoanlppeaaaGreatDoorM4
import Derived.Test.YtkjecoanlppeaaaGreatDoorXDn1
set_option linter.unusedSimpArgs false
set_option linter.unusedVariables false


namespace Go.Proofs.YtkjecoanlppeaaaGreatDoor
open Go.RowKit

set_option maxHeartbeats 1000000 in
theorem rchar_any (r : Nat) (w : World) : Calls Tryz.prog 156 #[.int .i64 r] w fun e w'=>e = .returned (.bool (chr r)) ∧ w = w':=by
 obtain ⟨z,hz⟩ : ∃ z,z = chr r:=⟨_,rfl⟩
 have hc : z = true ↔ chrP r:=by rw [hz];exact decide_eq_true_iff
 rw [← hz]
 have HC:=Far.mk hc
 clear hz hc
 go_enter Tryz.func156,Tryz.ntmps156
 go_wp2
 all_goals go_ret
 all_goals refine ⟨ret_bool ?_,rfl⟩
 all_goals rw [Bool.eq_iff_iff,HC.out]
 all_goals clear HC
 all_goals simp [chrP]
 all_goals (first | done | omega | (simp_all;done) | (simp_all;omega))
set_option maxRecDepth 100000 in
theorem and192 : ∀ X : Fin 256,bits .and .u8 ((X.val : Nat) : Int) 192 = ((X.val / 64 * 64 : Nat) : Int):=by decide
set_option maxRecDepth 100000 in
theorem and63 : ∀ X : Fin 256,bits .and .u8 ((X.val : Nat) : Int) 63 = ((X.val % 64 : Nat) : Int):=by decide
def tailL (l : List UInt8) (p : Nat) : Nat × Bool:=if p < l.length ∧ (l.getD p 0).toNat / 64 = 2 then ((l.getD p 0).toNat % 64,true) else (0,false)
set_option maxHeartbeats 1000000 in
theorem tail_any (l : List UInt8) (hl : l.length ≤ 9223372036854775000) (p : Nat) (hp : p ≤ l.length + 10) (w : World) :
  Calls Tryz.prog 166 #[.string ⟨l.toArray⟩,.int .i64 p] w fun e w'=>e = .returned (.tuple #[.int .i64 (tailL l p).1,.bool (tailL l p).2]) ∧ w = w':=by
 by_cases hlt : p < l.length
 ·have hs : p < (⟨l.toArray⟩ : ByteArray).size:=by show p < l.toArray.size;simpa using hlt
  have hc : (⟨l.toArray⟩ : ByteArray)[p] = l.getD p 0:=by
   rw [List.getD_eq_getElem?_getD,List.getElem?_eq_getElem hlt];rfl
  have hu:=UInt8.toNat_lt (l.getD p 0)
  have hg : l[p] = l.getD p 0:=by rw [List.getD_eq_getElem?_getD,List.getElem?_eq_getElem hlt];rfl
  obtain ⟨c,hcc⟩ : ∃ c,c = (l.getD p 0).toNat:=⟨_,rfl⟩
  have b1:=and192 ⟨c,by omega⟩
  have b2:=and63 ⟨c,by omega⟩
  dsimp only at b1 b2
  by_cases ht : c / 64 = 2
  ·have e : tailL l p = (c % 64,true):=by unfold tailL;rw [← hcc,if_pos ⟨hlt,ht⟩]
   rw [e]
   rw [ht] at b1
   have b1a : bits .and .u8 (l[p].toNat : Int) 192 = 128:=by rw [hg,← hcc];exact b1
   have b1b : bits .and .u8 ((⟨l.toArray⟩ : ByteArray)[p].toNat : Int) 192 = 128:=by rw [hc,← hcc];exact b1
   have b2a : bits .and .u8 (l[p].toNat : Int) 63 = ((c % 64 : Nat) : Int):=by rw [hg,← hcc];exact b2
   have b2b : bits .and .u8 ((⟨l.toArray⟩ : ByteArray)[p].toNat : Int) 63 = ((c % 64 : Nat) : Int):=by rw [hc,← hcc];exact b2
   have hlp : ¬ l.length ≤ p:=by omega
   obtain ⟨d,hd⟩ : ∃ d,d = c % 64:=⟨_,rfl⟩
   rw [← hd] at b2a b2b ⊢
   have hd2 : d ≤ 63:=by omega
   clear b1 b2 hc hg hcc e ht hd hu
   go_enter Tryz.func166,Tryz.ntmps166
   go_wp2_with fail
   go_ret2
   exact ⟨rfl,rfl⟩
  ·have e : tailL l p = (0,false):=by unfold tailL;rw [← hcc,if_neg (fun h=>ht h.2)]
   rw [e]
   obtain ⟨q,hq⟩ : ∃ q : Int,q = ((c / 64 * 64 : Nat) : Int):=⟨_,rfl⟩
   have b1a : bits .and .u8 (l[p].toNat : Int) 192 = q:=by rw [hg,← hcc,hq];exact b1
   have b1b : bits .and .u8 ((⟨l.toArray⟩ : ByteArray)[p].toNat : Int) 192 = q:=by rw [hc,← hcc,hq];exact b1
   have hq2 : (q != 128) = true:=by simp;omega
   have hlp : ¬ l.length ≤ p:=by omega
   clear b1 b2 hc hg hcc e ht hu hq
   go_enter Tryz.func166,Tryz.ntmps166
   go_wp2_with fail
   go_ret2
   exact ⟨rfl,rfl⟩
 ·have e : tailL l p = (0,false):=by unfold tailL;rw [if_neg (fun h=>hlt h.1)]
  rw [e]
  have hge : (l.length : Int) ≤ (p : Int):=by omega
  go_enter Tryz.func166,Tryz.ntmps166
  go_wp2_with fail
  go_ret2
  exact ⟨rfl,rfl⟩
set_option maxRecDepth 100000 in
theorem and31 : ∀ X : Fin 256,bits .and .i64 ((X.val : Nat) : Int) 31 = ((X.val % 32 : Nat) : Int):=by decide
set_option maxRecDepth 100000 in
theorem and15 : ∀ X : Fin 256,bits .and .i64 ((X.val : Nat) : Int) 15 = ((X.val % 16 : Nat) : Int):=by decide
set_option maxRecDepth 100000 in
theorem and7 : ∀ X : Fin 256,bits .and .i64 ((X.val : Nat) : Int) 7 = ((X.val % 8 : Nat) : Int):=by decide
def oneA (l : List UInt8) (i : Nat) : Nat × Nat × Bool:=oneN (l.length - i) (l.getD i 0).toNat (l.getD (i + 1) 0).toNat (l.getD (i + 2) 0).toNat (l.getD (i + 3) 0).toNat
def okT (l : List UInt8) (i j : Nat) : Prop:=i + j < l.length ∧ (l.getD (i + j) 0).toNat / 64 = 2
def accF (c : Nat) (l : List UInt8) (i : Nat) : Nat → Nat
 | 0=>c
 | j + 1=>accF c l i j * 64 + (l.getD (i + (j + 1)) 0).toNat % 64
theorem yes2 {l : List UInt8} {i : Nat} (hb : 192 ≤ (l.getD i 0).toNat ∧ (l.getD i 0).toNat < 224) (h : ∀ j,1 ≤ j → j < 2 → okT l i j) : oneA l i = (accF ((l.getD i 0).toNat % 32) l i (2 - 1),2,decide (128 ≤ accF ((l.getD i 0).toNat % 32) l i (2 - 1))):=by
 have h1:=h 1 (by omega) (by omega)
 unfold okT at h1
 unfold oneA oneN
 rw [if_neg (by omega),if_pos hb,if_pos ⟨by omega,h1.2⟩];rfl
theorem yes3 {l : List UInt8} {i : Nat} (hb : 224 ≤ (l.getD i 0).toNat ∧ (l.getD i 0).toNat < 240) (h : ∀ j,1 ≤ j → j < 3 → okT l i j) : oneA l i = (accF ((l.getD i 0).toNat % 16) l i (3 - 1),3,decide (2048 ≤ accF ((l.getD i 0).toNat % 16) l i (3 - 1))):=by
 have h1:=h 1 (by omega) (by omega)
 have h2:=h 2 (by omega) (by omega)
 unfold okT at h1 h2
 unfold oneA oneN
 rw [if_neg (by omega),if_neg (by omega),if_pos hb,if_pos ⟨by omega,h1.2⟩,if_pos ⟨by omega,h2.2⟩];rfl
theorem yes4 {l : List UInt8} {i : Nat} (hb : 240 ≤ (l.getD i 0).toNat ∧ (l.getD i 0).toNat < 248) (h : ∀ j,1 ≤ j → j < 4 → okT l i j) : oneA l i = (accF ((l.getD i 0).toNat % 8) l i (4 - 1),4,decide (65536 ≤ accF ((l.getD i 0).toNat % 8) l i (4 - 1))):=by
 have h1:=h 1 (by omega) (by omega)
 have h2:=h 2 (by omega) (by omega)
 have h3:=h 3 (by omega) (by omega)
 unfold okT at h1 h2 h3
 unfold oneA oneN
 rw [if_neg (by omega),if_neg (by omega),if_neg (by omega),if_pos hb,if_pos ⟨by omega,h1.2⟩,if_pos ⟨by omega,h2.2⟩,if_pos ⟨by omega,h3.2⟩];rfl
theorem no2 {l : List UInt8} {i j : Nat} (hb : 192 ≤ (l.getD i 0).toNat ∧ (l.getD i 0).toNat < 224) (a : 1 ≤ j) (b : j < 2) (h : ¬ okT l i j) : oneA l i = (0,0,false):=by
 obtain rfl : j = 1:=by omega
 unfold okT at h
 unfold oneA oneN
 rw [if_neg (by omega),if_pos hb,if_neg (fun hh=>h ⟨by omega,hh.2⟩)]
theorem no3 {l : List UInt8} {i j : Nat} (hb : 224 ≤ (l.getD i 0).toNat ∧ (l.getD i 0).toNat < 240) (a : 1 ≤ j) (b : j < 3) (h : ¬ okT l i j) : oneA l i = (0,0,false):=by
 unfold okT at h
 unfold oneA oneN
 rw [if_neg (by omega),if_neg (by omega),if_pos hb]
 have hj : j = 1 ∨ j = 2:=by omega
 rcases hj with rfl | rfl
 ·rw [if_neg (fun hh=>h ⟨by omega,hh.2⟩)]
 ·rw [if_neg (c:=2 < l.length - i ∧ _) (fun hh=>h ⟨by omega,hh.2⟩)]
  split <;> rfl
theorem no4 {l : List UInt8} {i j : Nat} (hb : 240 ≤ (l.getD i 0).toNat ∧ (l.getD i 0).toNat < 248) (a : 1 ≤ j) (b : j < 4) (h : ¬ okT l i j) : oneA l i = (0,0,false):=by
 unfold okT at h
 unfold oneA oneN
 rw [if_neg (by omega),if_neg (by omega),if_neg (by omega),if_pos hb]
 have hj : j = 1 ∨ j = 2 ∨ j = 3:=by omega
 rcases hj with rfl | rfl | rfl
 ·rw [if_neg (fun hh=>h ⟨by omega,hh.2⟩)]
 ·rw [if_neg (c:=2 < l.length - i ∧ _) (fun hh=>h ⟨by omega,hh.2⟩)]
  split <;> rfl
 ·rw [if_neg (c:=3 < l.length - i ∧ _) (fun hh=>h ⟨by omega,hh.2⟩)]
  split
  ·split <;> rfl
  ·rfl
set_option maxRecDepth 100000 in
set_option maxHeartbeats 2000000 in
theorem chone_any (l : List UInt8) (hl : l.length ≤ 9223372036854770000) (i : Nat) (hi : i < l.length) (w : World) :
  Calls Tryz.prog 155 #[.string ⟨l.toArray⟩,.int .i64 i] w fun e w'=>e = .returned (.tuple #[.int .i64 (oneA l i).1,.int .i64 (oneA l i).2.1,.bool (oneA l i).2.2]) ∧ w = w':=by
 have hs : i < (⟨l.toArray⟩ : ByteArray).size:=by show i < l.toArray.size;simpa using hi
 have hc : (⟨l.toArray⟩ : ByteArray)[i] = l.getD i 0:=by
  rw [List.getD_eq_getElem?_getD,List.getElem?_eq_getElem hi];rfl
 have hg : l[i] = l.getD i 0:=by rw [List.getD_eq_getElem?_getD,List.getElem?_eq_getElem hi];rfl
 have hu:=UInt8.toNat_lt (l.getD i 0)
 have hcase : ((l.getD i 0).toNat ≤ 127) ∨ (128 ≤ (l.getD i 0).toNat ∧ (l.getD i 0).toNat ≤ 191) ∨ (192 ≤ (l.getD i 0).toNat ∧ (l.getD i 0).toNat ≤ 223) ∨ (224 ≤ (l.getD i 0).toNat ∧ (l.getD i 0).toNat ≤ 239) ∨ (240 ≤ (l.getD i 0).toNat ∧ (l.getD i 0).toNat ≤ 247) ∨ (248 ≤ (l.getD i 0).toNat):=by omega
 rcases hcase with hcase | hcase | hcase | hcase | hcase | hcase
 ·have e : oneA l i = ((l.getD i 0).toNat,1,true):=by unfold oneA oneN;rw [if_pos (by omega)]
  rw [e]
  have x1 : (0 : Int) ≤ ((⟨l.toArray⟩ : ByteArray)[i].toNat : Int):=by rw [hc];omega
  have x2 : ((⟨l.toArray⟩ : ByteArray)[i].toNat : Int) ≤ (127 : Int):=by rw [hc];omega
  have x3 : (0 : Int) ≤ (l[i].toNat : Int):=by rw [hg];omega
  have x4 : (l[i].toNat : Int) ≤ (127 : Int):=by rw [hg];omega
  have HC:=Lib.hid hc
  clear hc hg hcase e
  go_enter Tryz.func155,Tryz.ntmps155
  go_wp2_with fail
  go_ret3
  exact ⟨by rw [← HC.out];rfl,rfl⟩
 ·have e : oneA l i = (0,0,false):=by unfold oneA oneN;rw [if_neg (by omega),if_neg (by omega),if_neg (by omega),if_neg (by omega)]
  rw [e]
  have x1 : (128 : Int) ≤ ((⟨l.toArray⟩ : ByteArray)[i].toNat : Int):=by rw [hc];omega
  have x2 : ((⟨l.toArray⟩ : ByteArray)[i].toNat : Int) ≤ (191 : Int):=by rw [hc];omega
  have x3 : (128 : Int) ≤ (l[i].toNat : Int):=by rw [hg];omega
  have x4 : (l[i].toNat : Int) ≤ (191 : Int):=by rw [hg];omega
  clear hc hg hcase e
  go_enter Tryz.func155,Tryz.ntmps155
  go_wp2_with fail
  go_ret3
  exact ⟨rfl,rfl⟩
 ·have tk:=trivial
  obtain ⟨c0,hc0⟩ : ∃ c0,c0 = (l.getD i 0).toNat % 32:=⟨_,rfl⟩
  have m1 : bits .and .i64 ((⟨l.toArray⟩ : ByteArray)[i].toNat : Int) 31 = (c0 : Int):=by rw [hc,hc0];exact and31 ⟨(l.getD i 0).toNat,UInt8.toNat_lt _⟩
  have m2 : bits .and .i64 (l[i].toNat : Int) 31 = (c0 : Int):=by rw [hg,hc0];exact and31 ⟨(l.getD i 0).toNat,UInt8.toNat_lt _⟩
  have hcl : c0 < 32:=by omega
  have x1 : (192 : Int) ≤ ((⟨l.toArray⟩ : ByteArray)[i].toNat : Int):=by rw [hc];omega
  have x2 : ((⟨l.toArray⟩ : ByteArray)[i].toNat : Int) ≤ (223 : Int):=by rw [hc];omega
  have x3 : (192 : Int) ≤ (l[i].toNat : Int):=by rw [hg];omega
  have x4 : (l[i].toNat : Int) ≤ (223 : Int):=by rw [hg];omega
  have HYES : Far ((∀ j,1 ≤ j → j < 2 → okT l i j) → oneA l i = (accF c0 l i (2 - 1),2,decide (128 ≤ accF c0 l i (2 - 1)))):=Far.mk (fun h=>by rw [hc0];exact yes2 ⟨by omega,by omega⟩ h)
  have HNO : Far (∀ j,1 ≤ j → j < 2 → ¬ okT l i j → oneA l i = (0,0,false)):=Far.mk (fun j a b h=>no2 ⟨by omega,by omega⟩ a b h)
  have y224a : ((⟨l.toArray⟩ : ByteArray)[i].toNat : Int) < 224 ↔ (223 : Int) < 224:=by rw [hc];omega
  have y224b : (l[i].toNat : Int) < 224 ↔ (223 : Int) < 224:=by rw [hg];omega
  have z224a : decide (((⟨l.toArray⟩ : ByteArray)[i].toNat : Int) < 224) = decide ((223 : Int) < 224):=by rw [decide_eq_decide];exact y224a
  have z224b : decide ((l[i].toNat : Int) < 224) = decide ((223 : Int) < 224):=by rw [decide_eq_decide];exact y224b
  simp at z224a z224b
  clear y224a y224b
  have y240a : ((⟨l.toArray⟩ : ByteArray)[i].toNat : Int) < 240 ↔ (223 : Int) < 240:=by rw [hc];omega
  have y240b : (l[i].toNat : Int) < 240 ↔ (223 : Int) < 240:=by rw [hg];omega
  have z240a : decide (((⟨l.toArray⟩ : ByteArray)[i].toNat : Int) < 240) = decide ((223 : Int) < 240):=by rw [decide_eq_decide];exact y240a
  have z240b : decide ((l[i].toNat : Int) < 240) = decide ((223 : Int) < 240):=by rw [decide_eq_decide];exact y240b
  simp at z240a z240b
  clear y240a y240b
  have y248a : ((⟨l.toArray⟩ : ByteArray)[i].toNat : Int) < 248 ↔ (223 : Int) < 248:=by rw [hc];omega
  have y248b : (l[i].toNat : Int) < 248 ↔ (223 : Int) < 248:=by rw [hg];omega
  have z248a : decide (((⟨l.toArray⟩ : ByteArray)[i].toNat : Int) < 248) = decide ((223 : Int) < 248):=by rw [decide_eq_decide];exact y248a
  have z248b : decide ((l[i].toNat : Int) < 248) = decide ((223 : Int) < 248):=by rw [decide_eq_decide];exact y248b
  simp at z248a z248b
  clear y248a y248b
  clear hc hg hc0 hcase
  go_enter Tryz.func155,Tryz.ntmps155
  go_wp2_with fail
  go_loopg [7,10] (2 - 1) (fun k s7 s10 wr=>∃ t c : Nat,k + t = 2 ∧ 1 ≤ t ∧ s7 = .int .i64 c ∧ s10 = .int .i64 t ∧ Hid (c = accF c0 l i (t - 1)) ∧ Hid (c < 32 * 64 ^ (t - 1)) ∧ Hid (∀ j,1 ≤ j → j < t → okT l i j) ∧ w = wr)
  case atStart=>exact ⟨1,c0,by omega,Nat.le_refl _,rfl,rfl,Lib.hid rfl,Lib.hid hcl,Lib.hid (fun j a b=>by omega),rfl⟩
  case round =>
   obtain ⟨t,c,hk,ht1,rfl,rfl,HCA,HCB,HOK,rfl⟩:=hrel
   have HK:=Lib.hid hk
   have htn : t ≤ 2:=by omega
   have hcb : c < 8388608:=by
    have:=HCB.out
    have h4 : t = 1 ∨ t = 2 ∨ t = 3 ∨ t = 4:=by omega
    rcases h4 with rfl | rfl | rfl | rfl <;> (simp at this;omega)
   clear hk
   by_cases hlt : t < 2
   ·obtain ⟨p,hp⟩ : ∃ p,p = i + t:=⟨_,rfl⟩
    have hpi : (i : Int) + (t : Int) = (p : Int):=by omega
    have HT:=Lib.hid (tail_any l (by omega) p (by omega) w)
    by_cases hok : okT l i t
    ·have et : tailL l p = ((l.getD p 0).toNat % 64,true):=by unfold tailL;rw [if_pos (by rw [hp];exact hok)]
     rw [et] at HT
     obtain ⟨x,hx⟩ : ∃ x,x = (l.getD p 0).toNat % 64:=⟨_,rfl⟩
     rw [← hx] at HT
     have hx2 : x ≤ 63:=by omega
     have hca : Hid (c * 64 + x = accF c0 l i (t + 1 - 1)):=Lib.hid (by
      have e1 : t + 1 - 1 = (t - 1) + 1:=by omega
      rw [e1]
      show c * 64 + x = accF c0 l i (t - 1) * 64 + (l.getD (i + (t - 1 + 1)) 0).toNat % 64
      rw [← HCA.out,hx,hp,show t - 1 + 1 = t by omega])
     have hcb2 : Hid (c * 64 + x < 32 * 64 ^ (t + 1 - 1)):=Lib.hid (by
      have:=HCB.out
      have e1 : t + 1 - 1 = (t - 1) + 1:=by omega
      rw [e1,Nat.pow_succ]
      generalize 64 ^ (t - 1) = q at *
      omega)
     have hok2 : Hid (∀ j,1 ≤ j → j < t + 1 → okT l i j):=Lib.hid (fun j a b=>by
      by_cases e : j = t
      ·subst e;exact hok
      ·exact HOK.out j a (by omega))
     clear hok et hx hp
     go_wp2_with fail
     refine HT.out.mono ?_
     rintro _ _ ⟨rfl,rfl⟩
     go_wp2_with fail
     go_roundg (gk - 1)
     case measure=>have:=HK.out;omega
     case rel=>exact ⟨t + 1,c * 64 + x,by have:=HK.out;omega,by omega,by go_num,by go_num,hca,hcb2,hok2,rfl⟩
    ·have et : tailL l p = (0,false):=by unfold tailL;rw [if_neg (by rw [hp];exact hok)]
     rw [et] at HT
     have HR:=Lib.hid (HNO.out t ht1 hlt hok)
     clear hok et hp
     go_wp2_with fail
     refine HT.out.mono ?_
     rintro _ _ ⟨rfl,rfl⟩
     go_wp2_with fail
     go_ret3
     exact ⟨by rw [HR.out];rfl,rfl⟩
   ·obtain rfl : t = 2:=by omega
    have hr:=HYES.out (fun j a b=>HOK.out j a b)
    have hca:=HCA.out
    rw [← hca] at hr
    have HR:=Lib.hid hr
    clear hr hca
    go_wp2_with fail
    go_ret3
    exact ⟨by rw [HR.out];simp <;> omega,rfl⟩
 ·have tk:=trivial
  obtain ⟨c0,hc0⟩ : ∃ c0,c0 = (l.getD i 0).toNat % 16:=⟨_,rfl⟩
  have m1 : bits .and .i64 ((⟨l.toArray⟩ : ByteArray)[i].toNat : Int) 15 = (c0 : Int):=by rw [hc,hc0];exact and15 ⟨(l.getD i 0).toNat,UInt8.toNat_lt _⟩
  have m2 : bits .and .i64 (l[i].toNat : Int) 15 = (c0 : Int):=by rw [hg,hc0];exact and15 ⟨(l.getD i 0).toNat,UInt8.toNat_lt _⟩
  have hcl : c0 < 32:=by omega
  have x1 : (224 : Int) ≤ ((⟨l.toArray⟩ : ByteArray)[i].toNat : Int):=by rw [hc];omega
  have x2 : ((⟨l.toArray⟩ : ByteArray)[i].toNat : Int) ≤ (239 : Int):=by rw [hc];omega
  have x3 : (224 : Int) ≤ (l[i].toNat : Int):=by rw [hg];omega
  have x4 : (l[i].toNat : Int) ≤ (239 : Int):=by rw [hg];omega
  have HYES : Far ((∀ j,1 ≤ j → j < 3 → okT l i j) → oneA l i = (accF c0 l i (3 - 1),3,decide (2048 ≤ accF c0 l i (3 - 1)))):=Far.mk (fun h=>by rw [hc0];exact yes3 ⟨by omega,by omega⟩ h)
  have HNO : Far (∀ j,1 ≤ j → j < 3 → ¬ okT l i j → oneA l i = (0,0,false)):=Far.mk (fun j a b h=>no3 ⟨by omega,by omega⟩ a b h)
  have y224a : ((⟨l.toArray⟩ : ByteArray)[i].toNat : Int) < 224 ↔ (239 : Int) < 224:=by rw [hc];omega
  have y224b : (l[i].toNat : Int) < 224 ↔ (239 : Int) < 224:=by rw [hg];omega
  have z224a : decide (((⟨l.toArray⟩ : ByteArray)[i].toNat : Int) < 224) = decide ((239 : Int) < 224):=by rw [decide_eq_decide];exact y224a
  have z224b : decide ((l[i].toNat : Int) < 224) = decide ((239 : Int) < 224):=by rw [decide_eq_decide];exact y224b
  simp at z224a z224b
  clear y224a y224b
  have y240a : ((⟨l.toArray⟩ : ByteArray)[i].toNat : Int) < 240 ↔ (239 : Int) < 240:=by rw [hc];omega
  have y240b : (l[i].toNat : Int) < 240 ↔ (239 : Int) < 240:=by rw [hg];omega
  have z240a : decide (((⟨l.toArray⟩ : ByteArray)[i].toNat : Int) < 240) = decide ((239 : Int) < 240):=by rw [decide_eq_decide];exact y240a
  have z240b : decide ((l[i].toNat : Int) < 240) = decide ((239 : Int) < 240):=by rw [decide_eq_decide];exact y240b
  simp at z240a z240b
  clear y240a y240b
  have y248a : ((⟨l.toArray⟩ : ByteArray)[i].toNat : Int) < 248 ↔ (239 : Int) < 248:=by rw [hc];omega
  have y248b : (l[i].toNat : Int) < 248 ↔ (239 : Int) < 248:=by rw [hg];omega
  have z248a : decide (((⟨l.toArray⟩ : ByteArray)[i].toNat : Int) < 248) = decide ((239 : Int) < 248):=by rw [decide_eq_decide];exact y248a
  have z248b : decide ((l[i].toNat : Int) < 248) = decide ((239 : Int) < 248):=by rw [decide_eq_decide];exact y248b
  simp at z248a z248b
  clear y248a y248b
  clear hc hg hc0 hcase
  go_enter Tryz.func155,Tryz.ntmps155
  go_wp2_with fail
  go_loopg [7,10] (3 - 1) (fun k s7 s10 wr=>∃ t c : Nat,k + t = 3 ∧ 1 ≤ t ∧ s7 = .int .i64 c ∧ s10 = .int .i64 t ∧ Hid (c = accF c0 l i (t - 1)) ∧ Hid (c < 32 * 64 ^ (t - 1)) ∧ Hid (∀ j,1 ≤ j → j < t → okT l i j) ∧ w = wr)
  case atStart=>exact ⟨1,c0,by omega,Nat.le_refl _,rfl,rfl,Lib.hid rfl,Lib.hid hcl,Lib.hid (fun j a b=>by omega),rfl⟩
  case round =>
   obtain ⟨t,c,hk,ht1,rfl,rfl,HCA,HCB,HOK,rfl⟩:=hrel
   have HK:=Lib.hid hk
   have htn : t ≤ 3:=by omega
   have hcb : c < 8388608:=by
    have:=HCB.out
    have h4 : t = 1 ∨ t = 2 ∨ t = 3 ∨ t = 4:=by omega
    rcases h4 with rfl | rfl | rfl | rfl <;> (simp at this;omega)
   clear hk
   by_cases hlt : t < 3
   ·obtain ⟨p,hp⟩ : ∃ p,p = i + t:=⟨_,rfl⟩
    have hpi : (i : Int) + (t : Int) = (p : Int):=by omega
    have HT:=Lib.hid (tail_any l (by omega) p (by omega) w)
    by_cases hok : okT l i t
    ·have et : tailL l p = ((l.getD p 0).toNat % 64,true):=by unfold tailL;rw [if_pos (by rw [hp];exact hok)]
     rw [et] at HT
     obtain ⟨x,hx⟩ : ∃ x,x = (l.getD p 0).toNat % 64:=⟨_,rfl⟩
     rw [← hx] at HT
     have hx2 : x ≤ 63:=by omega
     have hca : Hid (c * 64 + x = accF c0 l i (t + 1 - 1)):=Lib.hid (by
      have e1 : t + 1 - 1 = (t - 1) + 1:=by omega
      rw [e1]
      show c * 64 + x = accF c0 l i (t - 1) * 64 + (l.getD (i + (t - 1 + 1)) 0).toNat % 64
      rw [← HCA.out,hx,hp,show t - 1 + 1 = t by omega])
     have hcb2 : Hid (c * 64 + x < 32 * 64 ^ (t + 1 - 1)):=Lib.hid (by
      have:=HCB.out
      have e1 : t + 1 - 1 = (t - 1) + 1:=by omega
      rw [e1,Nat.pow_succ]
      generalize 64 ^ (t - 1) = q at *
      omega)
     have hok2 : Hid (∀ j,1 ≤ j → j < t + 1 → okT l i j):=Lib.hid (fun j a b=>by
      by_cases e : j = t
      ·subst e;exact hok
      ·exact HOK.out j a (by omega))
     clear hok et hx hp
     go_wp2_with fail
     refine HT.out.mono ?_
     rintro _ _ ⟨rfl,rfl⟩
     go_wp2_with fail
     go_roundg (gk - 1)
     case measure=>have:=HK.out;omega
     case rel=>exact ⟨t + 1,c * 64 + x,by have:=HK.out;omega,by omega,by go_num,by go_num,hca,hcb2,hok2,rfl⟩
    ·have et : tailL l p = (0,false):=by unfold tailL;rw [if_neg (by rw [hp];exact hok)]
     rw [et] at HT
     have HR:=Lib.hid (HNO.out t ht1 hlt hok)
     clear hok et hp
     go_wp2_with fail
     refine HT.out.mono ?_
     rintro _ _ ⟨rfl,rfl⟩
     go_wp2_with fail
     go_ret3
     exact ⟨by rw [HR.out];rfl,rfl⟩
   ·obtain rfl : t = 3:=by omega
    have hr:=HYES.out (fun j a b=>HOK.out j a b)
    have hca:=HCA.out
    rw [← hca] at hr
    have HR:=Lib.hid hr
    clear hr hca
    go_wp2_with fail
    go_ret3
    exact ⟨by rw [HR.out];simp <;> omega,rfl⟩
 ·have tk:=trivial
  obtain ⟨c0,hc0⟩ : ∃ c0,c0 = (l.getD i 0).toNat % 8:=⟨_,rfl⟩
  have m1 : bits .and .i64 ((⟨l.toArray⟩ : ByteArray)[i].toNat : Int) 7 = (c0 : Int):=by rw [hc,hc0];exact and7 ⟨(l.getD i 0).toNat,UInt8.toNat_lt _⟩
  have m2 : bits .and .i64 (l[i].toNat : Int) 7 = (c0 : Int):=by rw [hg,hc0];exact and7 ⟨(l.getD i 0).toNat,UInt8.toNat_lt _⟩
  have hcl : c0 < 32:=by omega
  have x1 : (240 : Int) ≤ ((⟨l.toArray⟩ : ByteArray)[i].toNat : Int):=by rw [hc];omega
  have x2 : ((⟨l.toArray⟩ : ByteArray)[i].toNat : Int) ≤ (247 : Int):=by rw [hc];omega
  have x3 : (240 : Int) ≤ (l[i].toNat : Int):=by rw [hg];omega
  have x4 : (l[i].toNat : Int) ≤ (247 : Int):=by rw [hg];omega
  have HYES : Far ((∀ j,1 ≤ j → j < 4 → okT l i j) → oneA l i = (accF c0 l i (4 - 1),4,decide (65536 ≤ accF c0 l i (4 - 1)))):=Far.mk (fun h=>by rw [hc0];exact yes4 ⟨by omega,by omega⟩ h)
  have HNO : Far (∀ j,1 ≤ j → j < 4 → ¬ okT l i j → oneA l i = (0,0,false)):=Far.mk (fun j a b h=>no4 ⟨by omega,by omega⟩ a b h)
  have y224a : ((⟨l.toArray⟩ : ByteArray)[i].toNat : Int) < 224 ↔ (247 : Int) < 224:=by rw [hc];omega
  have y224b : (l[i].toNat : Int) < 224 ↔ (247 : Int) < 224:=by rw [hg];omega
  have z224a : decide (((⟨l.toArray⟩ : ByteArray)[i].toNat : Int) < 224) = decide ((247 : Int) < 224):=by rw [decide_eq_decide];exact y224a
  have z224b : decide ((l[i].toNat : Int) < 224) = decide ((247 : Int) < 224):=by rw [decide_eq_decide];exact y224b
  simp at z224a z224b
  clear y224a y224b
  have y240a : ((⟨l.toArray⟩ : ByteArray)[i].toNat : Int) < 240 ↔ (247 : Int) < 240:=by rw [hc];omega
  have y240b : (l[i].toNat : Int) < 240 ↔ (247 : Int) < 240:=by rw [hg];omega
  have z240a : decide (((⟨l.toArray⟩ : ByteArray)[i].toNat : Int) < 240) = decide ((247 : Int) < 240):=by rw [decide_eq_decide];exact y240a
  have z240b : decide ((l[i].toNat : Int) < 240) = decide ((247 : Int) < 240):=by rw [decide_eq_decide];exact y240b
  simp at z240a z240b
  clear y240a y240b
  have y248a : ((⟨l.toArray⟩ : ByteArray)[i].toNat : Int) < 248 ↔ (247 : Int) < 248:=by rw [hc];omega
  have y248b : (l[i].toNat : Int) < 248 ↔ (247 : Int) < 248:=by rw [hg];omega
  have z248a : decide (((⟨l.toArray⟩ : ByteArray)[i].toNat : Int) < 248) = decide ((247 : Int) < 248):=by rw [decide_eq_decide];exact y248a
  have z248b : decide ((l[i].toNat : Int) < 248) = decide ((247 : Int) < 248):=by rw [decide_eq_decide];exact y248b
  simp at z248a z248b
  clear y248a y248b
  clear hc hg hc0 hcase
  go_enter Tryz.func155,Tryz.ntmps155
  go_wp2_with fail
  go_loopg [7,10] (4 - 1) (fun k s7 s10 wr=>∃ t c : Nat,k + t = 4 ∧ 1 ≤ t ∧ s7 = .int .i64 c ∧ s10 = .int .i64 t ∧ Hid (c = accF c0 l i (t - 1)) ∧ Hid (c < 32 * 64 ^ (t - 1)) ∧ Hid (∀ j,1 ≤ j → j < t → okT l i j) ∧ w = wr)
  case atStart=>exact ⟨1,c0,by omega,Nat.le_refl _,rfl,rfl,Lib.hid rfl,Lib.hid hcl,Lib.hid (fun j a b=>by omega),rfl⟩
  case round =>
   obtain ⟨t,c,hk,ht1,rfl,rfl,HCA,HCB,HOK,rfl⟩:=hrel
   have HK:=Lib.hid hk
   have htn : t ≤ 4:=by omega
   have hcb : c < 8388608:=by
    have:=HCB.out
    have h4 : t = 1 ∨ t = 2 ∨ t = 3 ∨ t = 4:=by omega
    rcases h4 with rfl | rfl | rfl | rfl <;> (simp at this;omega)
   clear hk
   by_cases hlt : t < 4
   ·obtain ⟨p,hp⟩ : ∃ p,p = i + t:=⟨_,rfl⟩
    have hpi : (i : Int) + (t : Int) = (p : Int):=by omega
    have HT:=Lib.hid (tail_any l (by omega) p (by omega) w)
    by_cases hok : okT l i t
    ·have et : tailL l p = ((l.getD p 0).toNat % 64,true):=by unfold tailL;rw [if_pos (by rw [hp];exact hok)]
     rw [et] at HT
     obtain ⟨x,hx⟩ : ∃ x,x = (l.getD p 0).toNat % 64:=⟨_,rfl⟩
     rw [← hx] at HT
     have hx2 : x ≤ 63:=by omega
     have hca : Hid (c * 64 + x = accF c0 l i (t + 1 - 1)):=Lib.hid (by
      have e1 : t + 1 - 1 = (t - 1) + 1:=by omega
      rw [e1]
      show c * 64 + x = accF c0 l i (t - 1) * 64 + (l.getD (i + (t - 1 + 1)) 0).toNat % 64
      rw [← HCA.out,hx,hp,show t - 1 + 1 = t by omega])
     have hcb2 : Hid (c * 64 + x < 32 * 64 ^ (t + 1 - 1)):=Lib.hid (by
      have:=HCB.out
      have e1 : t + 1 - 1 = (t - 1) + 1:=by omega
      rw [e1,Nat.pow_succ]
      generalize 64 ^ (t - 1) = q at *
      omega)
     have hok2 : Hid (∀ j,1 ≤ j → j < t + 1 → okT l i j):=Lib.hid (fun j a b=>by
      by_cases e : j = t
      ·subst e;exact hok
      ·exact HOK.out j a (by omega))
     clear hok et hx hp
     go_wp2_with fail
     refine HT.out.mono ?_
     rintro _ _ ⟨rfl,rfl⟩
     go_wp2_with fail
     go_roundg (gk - 1)
     case measure=>have:=HK.out;omega
     case rel=>exact ⟨t + 1,c * 64 + x,by have:=HK.out;omega,by omega,by go_num,by go_num,hca,hcb2,hok2,rfl⟩
    ·have et : tailL l p = (0,false):=by unfold tailL;rw [if_neg (by rw [hp];exact hok)]
     rw [et] at HT
     have HR:=Lib.hid (HNO.out t ht1 hlt hok)
     clear hok et hp
     go_wp2_with fail
     refine HT.out.mono ?_
     rintro _ _ ⟨rfl,rfl⟩
     go_wp2_with fail
     go_ret3
     exact ⟨by rw [HR.out];rfl,rfl⟩
   ·obtain rfl : t = 4:=by omega
    have hr:=HYES.out (fun j a b=>HOK.out j a b)
    have hca:=HCA.out
    rw [← hca] at hr
    have HR:=Lib.hid hr
    clear hr hca
    go_wp2_with fail
    go_ret3
    exact ⟨by rw [HR.out];simp <;> omega,rfl⟩
 ·have e : oneA l i = (0,0,false):=by unfold oneA oneN;rw [if_neg (by omega),if_neg (by omega),if_neg (by omega),if_neg (by omega)]
  rw [e]
  have x1 : (248 : Int) ≤ ((⟨l.toArray⟩ : ByteArray)[i].toNat : Int):=by rw [hc];omega
  have x2 : ((⟨l.toArray⟩ : ByteArray)[i].toNat : Int) ≤ (255 : Int):=by rw [hc];omega
  have x3 : (248 : Int) ≤ (l[i].toNat : Int):=by rw [hg];omega
  have x4 : (l[i].toNat : Int) ≤ (255 : Int):=by rw [hg];omega
  clear hc hg hcase e
  go_enter Tryz.func155,Tryz.ntmps155
  go_wp2_with fail
  go_ret3
  exact ⟨rfl,rfl⟩
end Go.Proofs.YtkjecoanlppeaaaGreatDoor



namespace Go.Proofs.YtkjecoanlppeaaaGreatDoor
open Go.RowKit

theorem oneA_L (l : List UInt8) (i : Nat) (h : i ≤ l.length) : oneA l i = oneL (l.drop i):=by
 unfold oneA oneL
 have e : ∀ j,(l.drop i).getD j 0 = l.getD (i + j) 0:=fun j=>by
  rw [List.getD_eq_getElem?_getD,List.getD_eq_getElem?_getD,List.getElem?_drop]
 rw [e,e,e,e,List.length_drop];rfl
theorem txt_step {l : List UInt8} {i : Nat} (h : i < l.length) (a : (oneA l i).2.2 = true) (b : chr (oneA l i).1 = true) : ztxt (l.drop i) = ztxt (l.drop (i + (oneA l i).2.1)) ∧ 1 ≤ (oneA l i).2.1:=by
 rw [oneA_L l i (by omega)] at a b ⊢
 have hp : 1 ≤ (oneL (l.drop i)).2.1:=oneN_pos a
 have hl : (l.drop i).length = l.length - i:=List.length_drop
 have hne : ¬ l.drop i = []:=fun e=>by rw [e] at hl;simp at hl;omega
 refine ⟨?_,hp⟩
 obtain ⟨f,hf⟩ : ∃ f,(l.drop i).length = f + 1:=⟨(l.drop i).length - 1,by omega⟩
 have e1 : ztxt (l.drop i) = ztxtF (f + 1) (l.drop i):=by unfold ztxt;rw [hf]
 rw [e1]
 show (if l.drop i = [] then true else if (oneL (l.drop i)).2.2 = true ∧ chrP (oneL (l.drop i)).1 then ztxtF f ((l.drop i).drop (oneL (l.drop i)).2.1) else false) = _
 rw [if_neg hne,if_pos ⟨a,of_decide_eq_true b⟩,List.drop_drop]
 exact txtF_eq f (by rw [List.length_drop];omega)
theorem txt_stop {l : List UInt8} {i : Nat} (h : i < l.length) (a : (oneA l i).2.2 = false ∨ chr (oneA l i).1 = false) : ztxt (l.drop i) = false:=by
 rw [oneA_L l i (by omega)] at a
 have hl : (l.drop i).length = l.length - i:=List.length_drop
 have hne : ¬ l.drop i = []:=fun e=>by rw [e] at hl;simp at hl;omega
 obtain ⟨f,hf⟩ : ∃ f,(l.drop i).length = f + 1:=⟨(l.drop i).length - 1,by omega⟩
 have e1 : ztxt (l.drop i) = ztxtF (f + 1) (l.drop i):=by unfold ztxt;rw [hf]
 rw [e1]
 show (if l.drop i = [] then true else if (oneL (l.drop i)).2.2 = true ∧ chrP (oneL (l.drop i)).1 then ztxtF f ((l.drop i).drop (oneL (l.drop i)).2.1) else false) = _
 rw [if_neg hne,if_neg]
 rintro ⟨p,q⟩
 rcases a with a | a
 ·rw [a] at p;exact Bool.noConfusion p
 ·exact of_decide_eq_false a q
theorem oneN_le (n b0 b1 b2 b3 : Nat) (h : 1 ≤ n) : (oneN n b0 b1 b2 b3).2.1 ≤ n:=by
 unfold oneN
 repeat' split
 all_goals dsimp only
 all_goals omega
theorem oneA_le {l : List UInt8} {i : Nat} (h : i < l.length) : i + (oneA l i).2.1 ≤ l.length:=by
 have:=oneN_le (l.length - i) (l.getD i 0).toNat (l.getD (i + 1) 0).toNat (l.getD (i + 2) 0).toNat (l.getD (i + 3) 0).toNat (by omega)
 unfold oneA
 omega
def CharsPost (l : List UInt8) (w : World) (e : Ending) (w' : World) : Prop:=∃ v,e = .returned (.tuple #[v,.bool (ztxt l)]) ∧ Below w.heap.size w w'
set_option maxHeartbeats 1000000 in
theorem chars_any (l : List UInt8) (hl : l.length ≤ 1048576) (w : World) : Calls Tryz.prog 135 #[.string ⟨l.toArray⟩] w (CharsPost l w):=by
 obtain ⟨z,hz⟩ : ∃ z,z = ztxt l:=⟨_,rfl⟩
 have HZ:=Lib.hid hz
 have HP : Hid (∀ (v : Value) (w' : World),Below w.heap.size w w' → CharsPost l w (.returned (.tuple #[v,.bool z])) w'):=Lib.hid (fun v w' h2=>⟨v,by rw [hz],h2⟩)
 have HLEN:=Lib.hid hl
 clear hz
 go_enter Tryz.func135,Tryz.ntmps135
 go_wp2_with fail
 go_loopg [4,5] l.length (fun k v i wr=>∃ (t : Nat) (ds : List Int),t ≤ l.length ∧ k = l.length - t ∧ i = .int .i64 t ∧ wr.ownsRow w.heap.size 3 1 v ds.length (ds.map (Value.int .i64)) ∧ ds.length ≤ t ∧ Hid (z = ztxt (l.drop t)) ∧ Below w.heap.size w wr)
 case atStart=>clear hl;exact ⟨0,[],by omega,by omega,rfl,World.ownsRow_nil _ _ _ _,by simp,Lib.hid (by rw [List.drop_zero];exact HZ.out),by (repeat' first|(with_reducible first|exact blR _ _|assumption|refine blD ?_|refine blN ?_ _)|((with_reducible first|refine blA ?_ ?_ _|refine blS ?_ ?_ _|refine blT (by assumption) ?_ ?_);focus (go_size;done)))⟩
 case round =>
  obtain ⟨t,ds,htl,hk,rfl,hown,hdl,HT,hbel⟩:=hrel
  have HK:=Lib.hid hk
  have HDL:=Lib.hid hdl
  clear hk hdl hl
  by_cases hlt : t < l.length
  ·have HO:=Lib.hid (chone_any l (by have:=HLEN.out;omega) t hlt wr)
   have HLE:=Lib.hid (oneA_le hlt)
   have HST:=Lib.hid (fun a b=>txt_step (l:=l) (i:=t) hlt a b)
   have HSP:=Lib.hid (fun a=>txt_stop (l:=l) (i:=t) hlt a)
   obtain ⟨c,hc⟩ : ∃ c,c = (oneA l t).1:=⟨_,rfl⟩
   obtain ⟨m,hm⟩ : ∃ m,m = (oneA l t).2.1:=⟨_,rfl⟩
   obtain ⟨ok,hok⟩ : ∃ ok,ok = (oneA l t).2.2:=⟨_,rfl⟩
   rw [← hc,← hm,← hok] at HO
   rw [← hm] at HLE
   rw [← hc,← hm,← hok] at HST
   rw [← hc,← hok] at HSP
   have HC:=Lib.hid (rchar_any c wr)
   clear hc hm hok
   cases ok with
   | false =>
    have hz : z = false:=by rw [HT.out];exact HSP.out (.inl rfl)
    subst hz
    go_wp2_with fail
    refine HO.out.mono ?_
    rintro _ _ ⟨rfl,rfl⟩
    go_wp2_with fail
    go_ret2
    exact HP.out (.slice none 0 0) _ (by (repeat' first|(with_reducible first|exact blR _ _|assumption|refine blD ?_|refine blN ?_ _)|((with_reducible first|refine blA ?_ ?_ _|refine blS ?_ ?_ _|refine blT (by assumption) ?_ ?_);focus (go_size;done))))
   | true =>
    obtain ⟨y,hy⟩ : ∃ y,y = chr c:=⟨_,rfl⟩
    rw [← hy] at HC HST HSP
    clear hy
    cases y with
    | false =>
     have hz : z = false:=by rw [HT.out];exact HSP.out (.inr rfl)
     subst hz
     go_wp2_with fail
     refine HO.out.mono ?_
     rintro _ _ ⟨rfl,rfl⟩
     go_wp2_with fail
     refine HC.out.mono ?_
     rintro _ _ ⟨rfl,rfl⟩
     go_wp2_with fail
     go_ret2
     exact HP.out (.slice none 0 0) _ (by (repeat' first|(with_reducible first|exact blR _ _|assumption|refine blD ?_|refine blN ?_ _)|((with_reducible first|refine blA ?_ ?_ _|refine blS ?_ ?_ _|refine blT (by assumption) ?_ ?_);focus (go_size;done))))
    | true =>
     obtain ⟨h1,h2⟩:=HST.out rfl rfl
     have h3:=HLE.out
     have h4 : (t : Int) + (m : Int) ≤ 1048576:=by have:=HLEN.out;omega
     have H1:=Lib.hid h1
     clear HST HSP h1
     go_wp2_with fail
     refine HO.out.mono ?_
     rintro _ _ ⟨rfl,rfl⟩
     go_wp2_with fail
     refine HC.out.mono ?_
     rintro _ wr ⟨rfl,rfl⟩
     go_wp2_with (at_builtin;refine wpList_push rfl (.tmp 27) (.tmp 29) rfl w.heap.size u4 ds rfl (hown.alloc _) wr.heap.size (t : Int) rfl ?hc ?hl ?hb ?_;rotate_left 3;intro v1 w1 hown1 hg1)
     case hc=>simp [go_sem]
     case hl=>have:=HDL.out;have:=HLEN.out;omega
     case hb=>have:=hbel.size;rw [World.size_alloc];omega
     have hbp:=below_push (hbel.alloc hbel.size _) (hown.alloc _) hg1 (by have:=hbel.size;rw [World.size_alloc];omega)
     go_wp2_with fail
     go_roundg (gk - m)
     case measure=>have:=HK.out;omega
     case rel=>exact ⟨t + m,ds ++ [(t : Int)],h3,by have:=HK.out;omega,by go_num,hown1,by rw [List.length_append,List.length_singleton];have:=HDL.out;omega,Lib.hid (by rw [HT.out,H1.out]),hbp⟩
  ·obtain rfl : t = l.length:=by omega
   have hz : z = true:=by rw [HT.out,List.drop_length];rfl
   subst hz
   clear hlt
   go_wp2_with (at_builtin;refine wpList_push rfl (.tmp 34) (.tmp 36) rfl w.heap.size u4 ds rfl (hown.alloc _) wr.heap.size (l.length : Int) rfl ?hc ?hl ?hb ?_;rotate_left 3;intro v1 w1 hown1 hg1)
   case hc=>simp [go_sem]
   case hl=>have:=HDL.out;have:=HLEN.out;omega
   case hb=>have:=hbel.size;rw [World.size_alloc];omega
   have hbp:=below_push (hbel.alloc hbel.size _) (hown.alloc _) hg1 (by have:=hbel.size;rw [World.size_alloc];omega)
   go_wp2_with fail
   go_ret2
   exact HP.out _ _ hbp
theorem rvalid_any (l : List UInt8) (hl : l.length ≤ 1048576) (w : World) : Calls Tryz.prog 102 #[.string ⟨l.toArray⟩] w fun e w'=>e = .returned (.bool (ztxt l)) ∧ Below w.heap.size w w':=by
 have HC:=Lib.hid (chars_any l hl w)
 obtain ⟨z,hz⟩ : ∃ z,z = ztxt l:=⟨_,rfl⟩
 unfold CharsPost at HC
 rw [← hz] at HC ⊢
 clear hz hl
 go_enter Tryz.func102,Tryz.ntmps102
 go_wp2_with fail
 refine HC.out.mono ?_
 rintro _ w1 ⟨v,rfl,hb⟩
 go_wp2_with fail
 go_ret
 exact ⟨rfl,hb⟩
end Go.Proofs.YtkjecoanlppeaaaGreatDoor



namespace Go.Proofs.YtkjecoanlppeaaaGreatDoor
open Go.RowKit

theorem dg_first {w : World} {v : Value} {n : Nat} (h : Dg w v n) (hn : n ≠ 0) : ∃ g o k c,v = .slice (some ⟨g,o,none⟩) (k + 1) c ∧ k + 1 ≤ c ∧ w.cell? ⟨g,o,none⟩ = some (.int .i64 ((n % 10 : Nat) : Int)) ∧ g < w.heap.size:=by
 obtain ⟨xs,⟨A,c,rfl,hc,hs⟩,hd⟩:=h
 have hz:=hd.zero_iff
 obtain ⟨k,hk⟩ : ∃ k,xs.length = k + 1:=⟨xs.length - 1,by omega⟩
 obtain ⟨g,o,rfl,hg,hcell⟩:=hs.at_ (k:=0) (by omega)
 refine ⟨g,o,k,c,by rw [hk],by omega, ?_,hg⟩
 rw [Nat.add_zero] at hcell
 rw [hcell,dval_digit hd.1 0 (by omega),hd.2.2,Int.pow_zero,Int.ediv_one]
 rfl
def Tiny (n : Nat) : Prop:=True → n < 10 ^ 999
theorem ten_lt (a b : Nat) (h : a < b) : (10 : Nat) ^ a < 10 ^ b:=Nat.pow_lt_pow_right (by decide) h
theorem Tiny.small {n : Nat} (h : Tiny n) : Small n:=fun t=>Nat.lt_trans (h t) (ten_lt 999 1000 (by decide))
end Go.Proofs.YtkjecoanlppeaaaGreatDoor



namespace Go.Proofs.YtkjecoanlppeaaaGreatDoor
open Go.RowKit

theorem len_34 {l : List Int} {n : Nat} (h : IsDg l n) : l.length ≤ 34 ↔ n < B34:=⟨fun hl=>h.lt_of_len hl,fun hn=>h.len_le hn⟩
end Go.Proofs.YtkjecoanlppeaaaGreatDoor



namespace Go.Proofs.YtkjecoanlppeaaaGreatDoor
open Go.RowKit

set_option maxHeartbeats 4000000 in
theorem rform_any (b : Bool) (c : Nat) (s : Int) (hc : c < 2 ^ 128) (w : World) : Calls Tryz.prog 101 #[.agg #[.bool b,.int .u64 (wd (c) 1),.int .u64 (wd (c) 0),.int .i64 s]] w fun e w'=>e = .returned (.bool (dform b c s)) ∧ Below w.heap.size w w':=by
 have HO:=Lib.hid (fun W=>of_any c hc W)
 obtain ⟨x0,hx0⟩ : ∃ x,x = wd c 0:=⟨_,rfl⟩
 obtain ⟨x1,hx1⟩ : ∃ x,x = wd c 1:=⟨_,rfl⟩
 rw [← hx0,← hx1] at HO
 rw [← hx0,← hx1]
 obtain ⟨f,hf⟩ : ∃ f,f = dform b c s:=⟨_,rfl⟩
 rw [← hf]
 have HF:=Far.mk hf
 clear hx0 hx1 hc hf
 go_enter Tryz.func101,Tryz.ntmps101
 go_wp2_with fail
 refine (HO.out _).mono ?_
 rintro _ w1 ⟨v1,rfl,d1,hb1⟩;have hb1s:=hb1.size;(try simp only [wsA,wsS,wsD,wsN] at hb1s);obtain ⟨hb1c,hb1f⟩:=bcell hb1;(try have : w.heap.size < w1.heap.size:=by omega);(try have : w.heap.size + 1 < w1.heap.size:=by omega);(try have : w.heap.size + 1 + 1 < w1.heap.size:=by omega);(try have : w.heap.size + 1 + 1 + 1 < w1.heap.size:=by omega);have Hd1:=Lib.hid d1;clear d1
 have k0 : Bk w1 w.heap.size 32 [.bool b,.int .u64 x1,.int .u64 x0,.int .i64 s]:=by (repeat (first|(with_reducible assumption)|((with_reducible refine bkW ?_);(first|rfl|(simp only [wsA,wsS,wsD,wsN];done)))|(with_reducible first|refine bkA ?_ _|refine bkD ?_|refine bkN ?_ _)|((with_reducible refine bkF ?_ ?_ _);focus (simp only [];omega))|((with_reducible refine bkB (by assumption) ?_ ?_);focus (go_size;done))))
 have k0_0:=k0.cell 0 rfl
 have k0_1:=k0.cell 1 rfl
 have k0_2:=k0.cell 2 rfl
 have k0_3:=k0.cell 3 rfl
 have k0_4:=k0.frozen 0
 have k0_5:=k0.frozen 1
 have k0_6:=k0.frozen 2
 have k0_7:=k0.frozen 3
 have k0l:=k0.lt
 have mb : Below w.heap.size w w1:=by (repeat' first|(with_reducible first|exact blR _ _|assumption|refine blD ?_|refine blN ?_ _)|((with_reducible first|refine blA ?_ ?_ _|refine blS ?_ ?_ _|refine blT (by assumption) ?_ ?_);focus (go_size;done)))
 clear k0 hb1c hb1f hb1 hb1s
 obtain ⟨xs,⟨A,k,rfl,hk,hs⟩,hd⟩:=Hd1.out
 have h34:=len_34 hd
 by_cases hb : c < B34
 ·have hl : (xs.length : Int) ≤ 34:=by have:=h34.2 hb;omega
  have hl' : ¬ (34 : Int) < (xs.length : Int):=by omega
  by_cases h0 : s < 0
  ·have e:=HF.out
   rw [dform_neg h0] at e
   subst e
   clear hb h34 hk hs hd
   go_wp2_with fail
   go_ret
   exact ⟨rfl,by (repeat' first|(with_reducible first|exact blR _ _|assumption|refine blD ?_|refine blN ?_ _)|((with_reducible first|refine blA ?_ ?_ _|refine blS ?_ ?_ _|refine blT (by assumption) ?_ ?_);focus (go_size;done)))⟩
  ·by_cases h1 : 18 < s
   ·have e:=HF.out
    rw [dform_deep h1] at e
    subst e
    clear hb h34 hk hs hd
    go_wp2_with fail
    go_ret
    exact ⟨rfl,by (repeat' first|(with_reducible first|exact blR _ _|assumption|refine blD ?_|refine blN ?_ _)|((with_reducible first|refine blA ?_ ?_ _|refine blS ?_ ?_ _|refine blT (by assumption) ?_ ?_);focus (go_size;done)))⟩
   ·have e:=HF.out
    rw [dform_in hb (by omega) (by omega)] at e
    by_cases hz : c = 0
    ·rw [if_pos hz] at e
     have hl0 : xs.length = 0:=hd.zero_iff.2 hz
     have E:=Lib.hid e
     clear hb h34 hk hs hd hz e HF
     rw [hl0]
     cases b
     ·go_wp2_with fail
      go_ret
      exact ⟨ret_bool (by rw [E.out];simp;first | rfl | omega | (rw [Bool.eq_iff_iff];simp)),by (repeat' first|(with_reducible first|exact blR _ _|assumption|refine blD ?_|refine blN ?_ _)|((with_reducible first|refine blA ?_ ?_ _|refine blS ?_ ?_ _|refine blT (by assumption) ?_ ?_);focus (go_size;done)))⟩
     ·go_wp2_with fail
      go_ret
      exact ⟨ret_bool (by rw [E.out];rfl),by (repeat' first|(with_reducible first|exact blR _ _|assumption|refine blD ?_|refine blN ?_ _)|((with_reducible first|refine blA ?_ ?_ _|refine blS ?_ ?_ _|refine blT (by assumption) ?_ ?_);focus (go_size;done)))⟩
    ·rw [if_neg hz] at e
     have E:=Lib.hid e
     obtain ⟨g,o,k',c',e',hkc,hcell,hg⟩:=dg_first Hd1.out hz
     injection e' with e1 e2 e3
     subst e1
     have hlp : ((xs.length : Int) == 0) = false:=by rw [beq_eq_false_iff_ne];omega
     have hlq : (0 : Int) < (xs.length : Int):=by omega
     obtain ⟨d,hdd⟩ : ∃ d : Int,d = ((c % 10 : Nat) : Int):=⟨_,rfl⟩
     rw [← hdd] at hcell
     have HDD:=Lib.hid hdd
     clear hb h34 hk hs hd hz e HF hdd e2 e3
     by_cases hs0 : s = 0
     ·have g2 : (s == 0) = true:=by simpa using hs0
      have HS:=Lib.hid hs0
      clear hs0
      go_wp2_with fail
      go_ret
      exact ⟨ret_bool (by rw [E.out,HS.out];rfl),by (repeat' first|(with_reducible first|exact blR _ _|assumption|refine blD ?_|refine blN ?_ _)|((with_reducible first|refine blA ?_ ?_ _|refine blS ?_ ?_ _|refine blT (by assumption) ?_ ?_);focus (go_size;done)))⟩
     ·have g2 : (s == 0) = false:=by simpa using hs0
      have HS:=Lib.hid hs0
      clear hs0
      go_wp2_with fail
      go_ret
      exact ⟨ret_bool (by rw [E.out,decide_eq_false HS.out,Bool.false_or,Bool.eq_iff_iff];have:=HDD.out;simp;omega),by (repeat' first|(with_reducible first|exact blR _ _|assumption|refine blD ?_|refine blN ?_ _)|((with_reducible first|refine blA ?_ ?_ _|refine blS ?_ ?_ _|refine blT (by assumption) ?_ ?_);focus (go_size;done)))⟩
 ·have e:=HF.out
  rw [dform_hi hb] at e
  subst e
  have hl : (34 : Int) < (xs.length : Int):=by have:=mt h34.1 hb;omega
  clear hb h34 hk hs hd
  go_wp2_with fail
  go_ret
  exact ⟨rfl,by (repeat' first|(with_reducible first|exact blR _ _|assumption|refine blD ?_|refine blN ?_ _)|((with_reducible first|refine blA ?_ ?_ _|refine blS ?_ ?_ _|refine blT (by assumption) ?_ ?_);focus (go_size;done)))⟩
end Go.Proofs.YtkjecoanlppeaaaGreatDoor



namespace Go.Proofs.YtkjecoanlppeaaaGreatDoor
open Go.RowKit

def inB (s : VS) (ll nl : Nat) : Bool:=decide (0 ≤ s.kind) && decide (s.kind ≤ 6) && bareQ s ll nl (5 ≤ s.kind)
def kind3 (s : VS) : Bool:=if s.kind = 2 then dform s.neg s.coef s.sc else if s.kind = 3 then ztxt s.text && decide (s.text.length ≤ 1000) else if s.kind = 4 then dayB s.day else true
def lens (s : VS) (ll nl : Nat) : Bool:=decide (s.kind = 6 → nl = ll)
theorem namesB_nil : namesB [] = true:=by unfold namesB;rw [decide_eq_true_eq];intro i hi;simp at hi
theorem own_form (s : VS) (ll : Nat) (nm : List (List UInt8)) : ownB s ll nm = (inB s ll nm.length && kind3 s && lens s ll nm.length && namesB nm):=by
 unfold ownB inB kindB kind3 lens
 by_cases hk : 0 ≤ s.kind ∧ s.kind ≤ 6
 ·obtain ⟨k0,k6⟩:=hk
  have e : bareQ s ll nm.length (5 ≤ s.kind) = bareQ s ll nm.length (s.kind = 5 ∨ s.kind = 6):=by
   rw [Bool.eq_iff_iff,bareQ_iff,bareQ_iff]
   have : 5 ≤ s.kind ↔ (s.kind = 5 ∨ s.kind = 6):=by omega
   rw [this]
  rw [e,decide_eq_true k0,decide_eq_true k6]
  cases hb : bareQ s ll nm.length (s.kind = 5 ∨ s.kind = 6) with
  | false=>simp
  | true =>
   have h6:=(bareQ_iff.1 hb).2.2.2.2.2
   have hc : s.kind = 0 ∨ s.kind = 1 ∨ s.kind = 2 ∨ s.kind = 3 ∨ s.kind = 4 ∨ s.kind = 5 ∨ s.kind = 6:=by omega
   have hn : s.kind ≠ 6 → namesB nm = true:=fun h=>by
    have : nm = []:=List.length_eq_zero_iff.1 (h6.resolve_left h)
    rw [this];exact namesB_nil
   rcases hc with h | h | h | h | h | h | h
   all_goals simp only [h]
   all_goals first | (rw [hn (by omega)];simp;done) | (rw [hn (by omega)];simp [Bool.and_comm];done) | simp
 ·have : ¬ (s.kind = 0 ∨ s.kind = 1 ∨ s.kind = 5):=by omega
  rw [if_neg this,if_neg (by omega),if_neg (by omega),if_neg (by omega),if_neg (by omega),Bool.and_false]
  have : (decide (0 ≤ s.kind) && decide (s.kind ≤ 6)) = false:=by
   rw [Bool.and_eq_false_iff,decide_eq_false_iff_not,decide_eq_false_iff_not];omega
  rw [this];simp
def FormOf (R : World → Value → Value → VD → Prop) : Prop:=∀ (x : VD) (L N : Value) (w : World),x.size ≤ 1000000 → R w L N x →
 Calls Tryz.prog 78 #[vagg x.s L N] w fun e w'=>e = .returned (.bool (okV x)) ∧ Below w.heap.size w w'
set_option maxRecDepth 100000 in
set_option maxHeartbeats 4000000 in
theorem form_step (R : World → Value → Value → VD → Prop) (hR : ∀ w w' L N x,R w L N x → Below w.heap.size w w' → R w' L N x) (H : FormOf R)
  (s : VS) (l : List VD) (nm : List (List UInt8)) (A : Option Addr) (C : Nat) (A2 : Option Addr) (C2 : Nat) (w : World) (hok : s.ok) (hsz : sizes l ≤ 999999) (hv : Vls (R w) w (.slice A l.length C) l) (hn : Nms w (.slice A2 nm.length C2) nm) :
  Calls Tryz.prog 78 #[vagg s (.slice A l.length C) (.slice A2 nm.length C2)] w fun e w'=>e = .returned (.bool (ownB s l.length nm && oks l)) ∧ Below w.heap.size w w':=by
 obtain ⟨_,_,_,hll⟩:=hv.is
 obtain ⟨_,_,_,hnl⟩:=hn.is
 have HV:=Lib.hid hv
 have HN:=Lib.hid hn
 have HH:=Lib.hid H
 have HR:=Lib.hid hR
 have HB:=Lib.hid (fun W=>rbare_any s l nm A C A2 C2 hll hnl W)
 have hown:=own_form s l.length nm
 obtain ⟨b0,hb0⟩ : ∃ b0,b0 = bareQ s l.length nm.length (5 ≤ s.kind):=⟨_,rfl⟩
 obtain ⟨a1,ha1⟩ : ∃ a1,a1 = inB s l.length nm.length:=⟨_,rfl⟩
 obtain ⟨a3,ha3⟩ : ∃ a3,a3 = kind3 s:=⟨_,rfl⟩
 obtain ⟨a5,ha5⟩ : ∃ a5,a5 = lens s l.length nm.length:=⟨_,rfl⟩
 obtain ⟨z,hz⟩ : ∃ z,z = (ownB s l.length nm && oks l):=⟨_,rfl⟩
 rw [← ha1,← ha3,← ha5] at hown
 rw [hown] at hz
 rw [hown,← hz]
 rw [← hb0] at HB
 unfold inB at ha1
 rw [← hb0] at ha1
 obtain ⟨kind,yes,neg,coef,sc,text,day⟩:=s
 obtain ⟨hc,ht⟩:=hok
 unfold kind3 at ha3
 unfold lens at ha5
 unfold vagg at HB ⊢
 dsimp only at hc ht ha1 ha3 ha5 HB ⊢
 have HC:=Lib.hid hc
 have HTX:=Lib.hid ht
 have HA1:=Lib.hid ha1
 have HA3:=Lib.hid ha3
 have HA5:=Lib.hid ha5
 have HZ:=Lib.hid hz
 have HSZ:=Lib.hid hsz
 have hll2 : (l.length : Int) ≤ 1048576:=by omega
 have hnl2 : (nm.length : Int) ≤ 1048576:=by omega
 clear hown hb0 hz hc ht hv hn H hR hsz ha1 ha3 ha5 hll hnl
 obtain ⟨x1,hx1⟩ : ∃ x1,x1 = wd coef 1:=⟨_,rfl⟩
 obtain ⟨x0,hx0⟩ : ∃ x0,x0 = wd coef 0:=⟨_,rfl⟩
 rw [← hx1,← hx0] at HB
 rw [← hx1,← hx0]
 have HX1:=Lib.hid hx1
 have HX0:=Lib.hid hx0
 clear hx1 hx0
 go_enter Tryz.func78,Tryz.ntmps78
 go_upto_region 1 with fail
 go_cut [18] (fun s18 wx=>s18 = .bool (!a1) ∧ Hid (Mem2 w wx A l.length C A2 nm.length C2) ∧ wx.cell? ⟨w.heap.size,0,none⟩ = some (.int .i64 kind) ∧ wx.cell? ⟨w.heap.size,2,none⟩ = some (.bool neg) ∧ wx.cell? ⟨w.heap.size,3,none⟩ = some (.int .u64 x1) ∧ wx.cell? ⟨w.heap.size,4,none⟩ = some (.int .u64 x0) ∧ wx.cell? ⟨w.heap.size,5,none⟩ = some (.int .i64 sc) ∧ wx.cell? ⟨w.heap.size,6,none⟩ = some (.string ⟨text.toArray⟩) ∧ wx.cell? ⟨w.heap.size,7,none⟩ = some (.int .i64 day))
 case first =>
  by_cases k0 : kind < 0
  ·obtain rfl : a1 = false:=by rw [HA1.out,decide_eq_false (by omega)];rfl
   go_wp2_with fail
   go_meet
   case rel=>exact ⟨rfl,Lib.hid ⟨by go_simp,by go_simp,by go_size,by (repeat' first|(with_reducible first|exact blR _ _|assumption|refine blD ?_|refine blN ?_ _)|((with_reducible first|refine blA ?_ ?_ _|refine blS ?_ ?_ _|refine blT (by assumption) ?_ ?_);focus (go_size;done)))⟩,by go_simp,by go_simp,by go_simp,by go_simp,by go_simp,by go_simp,by go_simp⟩
  ·by_cases k6 : 6 < kind
   ·obtain rfl : a1 = false:=by rw [HA1.out,decide_eq_false (show ¬ kind ≤ 6 by omega)];simp
    go_wp2_with fail
    go_meet
    case rel=>exact ⟨rfl,Lib.hid ⟨by go_simp,by go_simp,by go_size,by (repeat' first|(with_reducible first|exact blR _ _|assumption|refine blD ?_|refine blN ?_ _)|((with_reducible first|refine blA ?_ ?_ _|refine blS ?_ ?_ _|refine blT (by assumption) ?_ ?_);focus (go_size;done)))⟩,by go_simp,by go_simp,by go_simp,by go_simp,by go_simp,by go_simp,by go_simp⟩
   ·obtain rfl : a1 = b0:=by rw [HA1.out,decide_eq_true (by omega),decide_eq_true (by omega)];simp
    go_wp2_with ((go_at_call 100;with_reducible refine (HB.out _).mono ?_);rintro _ w1 ⟨rfl,hb1⟩;have hb1s:=hb1.size;(try simp only [wsA,wsS,wsD,wsN] at hb1s);obtain ⟨hb1c,hb1f⟩:=bcell hb1;(try have : w.heap.size < w1.heap.size:=by omega);(try have : w.heap.size + 1 < w1.heap.size:=by omega);(try have : w.heap.size + 1 + 1 < w1.heap.size:=by omega);(try have : w.heap.size + 1 + 1 + 1 < w1.heap.size:=by omega))
    go_meet
    case rel=>exact ⟨rfl,Lib.hid ⟨by go_simp,by go_simp,by omega,by (repeat' first|(with_reducible first|exact blR _ _|assumption|refine blD ?_|refine blN ?_ _)|((with_reducible first|refine blA ?_ ?_ _|refine blS ?_ ?_ _|refine blT (by assumption) ?_ ?_);focus (go_size;done)))⟩,by go_simp,by go_simp,by go_simp,by go_simp,by go_simp,by go_simp,by go_simp⟩
 case rest =>
  obtain ⟨rfl,HM,c0,c2,c3,c4,c5,c6,c7⟩:=hcut
  obtain ⟨w1,rfl⟩ : ∃ w1 : World,w1 = wc:=⟨_,rfl⟩
  clear HB HA1
  have hm3:=HM.out.2.2.1
  have hm4:=HM.out.2.2.2
  cases a1 with
  | false =>
   obtain rfl : z = false:=by rw [HZ.out];simp
   clear HZ HA3 HA5
   go_wp2_with fail
   go_ret
   exact ⟨rfl,by (repeat' first|(with_reducible first|exact blR _ _|assumption|refine blD ?_|refine blN ?_ _)|((with_reducible first|refine blA ?_ ?_ _|refine blS ?_ ?_ _|refine blT (by assumption) ?_ ?_);focus (go_size;done)))⟩
  | true =>
   go_upto_region 3 with fail
   go_cut [55] (fun s55 wx=>s55 = .bool (!a3) ∧ Hid (Mem2 w wx A l.length C A2 nm.length C2) ∧ wx.cell? ⟨w.heap.size,0,none⟩ = some (.int .i64 kind))
   case first =>
    have hk : kind = 2 ∨ kind = 3 ∨ kind = 4 ∨ (kind ≠ 2 ∧ kind ≠ 3 ∧ kind ≠ 4):=by omega
    rcases hk with rfl | rfl | rfl | ⟨k2,k3,k4⟩
    ·obtain rfl : a3 = dform neg coef sc:=by rw [HA3.out];simp
     have HF:=Lib.hid (fun W=>rform_any neg coef sc HC.out W)
     rw [← HX1.out,← HX0.out] at HF
     clear HA3
     generalize dform neg coef sc = q at *
     cases q with
     | false =>
      go_wp2_with ((go_at_call 101;with_reducible refine (HF.out _).mono ?_);rintro _ w2 ⟨rfl,hb2⟩;have hb2s:=hb2.size;(try simp only [wsA,wsS,wsD,wsN] at hb2s);obtain ⟨hb2c,hb2f⟩:=bcell hb2;(try have : w.heap.size < w2.heap.size:=by omega);(try have : w.heap.size + 1 < w2.heap.size:=by omega);(try have : w.heap.size + 1 + 1 < w2.heap.size:=by omega);(try have : w.heap.size + 1 + 1 + 1 < w2.heap.size:=by omega))
      go_meet
      case rel=>exact ⟨rfl,Lib.hid (HM.out.below hb2),by go_simp⟩
     | true =>
      go_wp2_with ((go_at_call 101;with_reducible refine (HF.out _).mono ?_);rintro _ w2 ⟨rfl,hb2⟩;have hb2s:=hb2.size;(try simp only [wsA,wsS,wsD,wsN] at hb2s);obtain ⟨hb2c,hb2f⟩:=bcell hb2;(try have : w.heap.size < w2.heap.size:=by omega);(try have : w.heap.size + 1 < w2.heap.size:=by omega);(try have : w.heap.size + 1 + 1 < w2.heap.size:=by omega);(try have : w.heap.size + 1 + 1 + 1 < w2.heap.size:=by omega))
      go_meet
      case rel=>exact ⟨rfl,Lib.hid (HM.out.below hb2),by go_simp⟩
    ·have hz3 : a3 = (ztxt text && decide (text.length ≤ 1000)):=by rw [HA3.out];simp
     have HF:=Lib.hid (fun W=>rvalid_any text HTX.out W)
     generalize ztxt text = q at HF hz3
     cases q with
     | false =>
      obtain rfl : a3 = false:=hz3
      go_wp2_with ((go_at_call 102;with_reducible refine (HF.out _).mono ?_);rintro _ w2 ⟨rfl,hb2⟩;have hb2s:=hb2.size;(try simp only [wsA,wsS,wsD,wsN] at hb2s);obtain ⟨hb2c,hb2f⟩:=bcell hb2;(try have : w.heap.size < w2.heap.size:=by omega);(try have : w.heap.size + 1 < w2.heap.size:=by omega);(try have : w.heap.size + 1 + 1 < w2.heap.size:=by omega);(try have : w.heap.size + 1 + 1 + 1 < w2.heap.size:=by omega))
      go_meet
      case rel=>exact ⟨rfl,Lib.hid (HM.out.below hb2),by go_simp⟩
     | true =>
      by_cases h1 : text.length ≤ 1000
      ·obtain rfl : a3 = true:=by rw [hz3,decide_eq_true h1];rfl
       have h1' : ¬ 1000 < (text.length : Int):=by omega
       clear hz3 h1
       go_wp2_with ((go_at_call 102;with_reducible refine (HF.out _).mono ?_);rintro _ w2 ⟨rfl,hb2⟩;have hb2s:=hb2.size;(try simp only [wsA,wsS,wsD,wsN] at hb2s);obtain ⟨hb2c,hb2f⟩:=bcell hb2;(try have : w.heap.size < w2.heap.size:=by omega);(try have : w.heap.size + 1 < w2.heap.size:=by omega);(try have : w.heap.size + 1 + 1 < w2.heap.size:=by omega);(try have : w.heap.size + 1 + 1 + 1 < w2.heap.size:=by omega))
       go_meet
       case rel=>exact ⟨by first | rfl | (simp;omega),Lib.hid (HM.out.below hb2),by go_simp⟩
      ·obtain rfl : a3 = false:=by rw [hz3,decide_eq_false h1];rfl
       have h1' : 1000 < (text.length : Int):=by omega
       clear hz3 h1
       go_wp2_with ((go_at_call 102;with_reducible refine (HF.out _).mono ?_);rintro _ w2 ⟨rfl,hb2⟩;have hb2s:=hb2.size;(try simp only [wsA,wsS,wsD,wsN] at hb2s);obtain ⟨hb2c,hb2f⟩:=bcell hb2;(try have : w.heap.size < w2.heap.size:=by omega);(try have : w.heap.size + 1 < w2.heap.size:=by omega);(try have : w.heap.size + 1 + 1 < w2.heap.size:=by omega);(try have : w.heap.size + 1 + 1 + 1 < w2.heap.size:=by omega))
       go_meet
       case rel=>exact ⟨by first | rfl | (simp;omega),Lib.hid (HM.out.below hb2),by go_simp⟩
    ·obtain rfl : a3 = dayB day:=by rw [HA3.out];simp
     have HF:=Lib.hid (fun W=>ris_any day W)
     clear HA3
     generalize dayB day = q at *
     cases q with
     | false =>
      go_wp2_with (go_at_call 103;(with_reducible refine (HF.out _).mono ?_);rintro _ w2 ⟨rfl,rfl⟩)
      go_meet
      case rel=>exact ⟨rfl,HM,by go_simp⟩
     | true =>
      go_wp2_with (go_at_call 103;(with_reducible refine (HF.out _).mono ?_);rintro _ w2 ⟨rfl,rfl⟩)
      go_meet
      case rel=>exact ⟨rfl,HM,by go_simp⟩
    ·obtain rfl : a3 = true:=by rw [HA3.out,if_neg k2,if_neg k3,if_neg k4]
     have e2 : (kind == 2) = false:=by rw [beq_eq_false_iff_ne];exact k2
     have e3 : (kind == 3) = false:=by rw [beq_eq_false_iff_ne];exact k3
     have e4 : (kind == 4) = false:=by rw [beq_eq_false_iff_ne];exact k4
     clear HA3 k2 k3 k4
     go_wp2_with fail
     go_meet
     case rel=>exact ⟨rfl,HM,by go_simp⟩
   case rest =>
    obtain ⟨rfl,HM,c0⟩:=hcut
    obtain ⟨w2,rfl⟩ : ∃ w2 : World,w2 = wc:=⟨_,rfl⟩
    clear HA3 c2 c3 c4 c5 c6 c7 HX1 HX0 HC HTX hm3 hm4
    obtain ⟨c8,c9,hm3,hm4⟩:=id HM.out
    cases a3 with
    | false =>
     obtain rfl : z = false:=by rw [HZ.out];simp
     clear HZ HA5
     go_wp2_with fail
     go_ret
     exact ⟨rfl,by (repeat' first|(with_reducible first|exact blR _ _|assumption|refine blD ?_|refine blN ?_ _)|((with_reducible first|refine blA ?_ ?_ _|refine blS ?_ ?_ _|refine blT (by assumption) ?_ ?_);focus (go_size;done)))⟩
    | true =>
     go_upto_region 5 with fail
     go_cut [67] (fun s67 wx=>s67 = .bool (!a5) ∧ wx = w2)
     case first =>
      by_cases k6 : kind = 6
      ·subst k6
       by_cases hle : nm.length = l.length
       ·obtain rfl : a5 = true:=by rw [HA5.out,decide_eq_true (fun _=>hle)]
        have e1 : ((nm.length : Int) != (l.length : Int)) = false:=by rw [bne_eq_false_iff_eq];omega
        clear HA5 hle
        go_wp2_with fail
        go_meet
        case rel=>exact ⟨rfl,rfl⟩
       ·obtain rfl : a5 = false:=by rw [HA5.out,decide_eq_false (fun h=>hle (h rfl))]
        have e1 : ((nm.length : Int) != (l.length : Int)) = true:=by rw [bne_iff_ne];omega
        clear HA5 hle
        go_wp2_with fail
        go_meet
        case rel=>exact ⟨rfl,rfl⟩
      ·obtain rfl : a5 = true:=by rw [HA5.out,decide_eq_true (fun h=>absurd h k6)]
       have e6 : (kind == 6) = false:=by rw [beq_eq_false_iff_ne];exact k6
       clear HA5 k6
       go_wp2_with fail
       go_meet
       case rel=>exact ⟨rfl,rfl⟩
     case rest =>
      obtain ⟨rfl,rfl⟩:=hcut
      obtain ⟨w2,rfl⟩ : ∃ w2 : World,w2 = wc:=⟨_,rfl⟩
      clear HA5 c0
      cases a5 with
      | false =>
       obtain rfl : z = false:=by rw [HZ.out];simp
       clear HZ
       go_wp2_with fail
       go_ret
       exact ⟨rfl,by (repeat' first|(with_reducible first|exact blR _ _|assumption|refine blD ?_|refine blN ?_ _)|((with_reducible first|refine blA ?_ ?_ _|refine blS ?_ ?_ _|refine blT (by assumption) ?_ ?_);focus (go_size;done)))⟩
      | true =>
       obtain ⟨y,hy⟩ : ∃ y,y = namesB nm:=⟨_,rfl⟩
       obtain ⟨v,hv⟩ : ∃ v,v = oks l:=⟨_,rfl⟩
       have HZ2 : Hid (z = (y && v)):=Lib.hid (by rw [HZ.out,hy,hv];simp)
       have HY : Hid (y = true ↔ ∀ i,i < nm.length → nam (ng nm i) = true ∧ ∀ k,k < i → ng nm k ≠ ng nm i):=Lib.hid (by rw [hy,namesB,decide_eq_true_eq])
       have HVV:=Lib.hid hv
       clear HZ hy hv c8 c9
       go_wp2_with fail
       go_loopg [3] nm.length (fun k s3 wr=>∃ t : Nat,k + t = nm.length ∧ s3 = .int .i64 t ∧ Hid (∀ i,i < t → nam (ng nm i) = true ∧ ∀ k,k < i → ng nm k ≠ ng nm i) ∧ Hid (Mem2 w wr A l.length C A2 nm.length C2))
       case atStart=>exact ⟨0,by omega,rfl,Lib.hid (fun i hi=>absurd hi (Nat.not_lt_zero _)),HM⟩
       case round =>
        obtain ⟨t,hk,rfl,HA,HMW⟩:=hrel
        have HK:=Lib.hid hk
        have htn : t ≤ nm.length:=by omega
        clear hk HM hm3 hm4
        obtain ⟨c8,c9,hm3,hm4⟩:=id HMW.out
        by_cases hlt : t < nm.length
        ·obtain ⟨b,o,rfl,ct,hlen⟩:=(HN.out.below hm4).at hlt
         have lb:=vcell_lt ct
         have HNM:=Lib.hid (fun W=>rname4_any (ng nm t) (by omega) W)
         obtain ⟨q,hq⟩ : ∃ q,q = nam (ng nm t):=⟨_,rfl⟩
         rw [← hq] at HNM
         have HQ:=Lib.hid hq
         obtain ⟨x,hx⟩ : ∃ x,x = ng nm t:=⟨_,rfl⟩
         rw [← hx] at HNM ct
         have HX:=Lib.hid hx
         clear hq hx hlen
         cases q with
         | false =>
          have hz : z = false:=by
           rw [HZ2.out]
           cases y with
           | false=>rfl
           | true =>
            have:=(HY.out.1 rfl t hlt).1
            rw [← HQ.out] at this;exact Bool.noConfusion this
          subst hz
          go_wp2_with (go_at_call 42;(with_reducible refine (HNM.out _).mono ?_);rintro _ w3 ⟨rfl,rfl⟩)
          go_ret
          exact ⟨rfl,by (repeat' first|(with_reducible first|exact blR _ _|assumption|refine blD ?_|refine blN ?_ _)|((with_reducible first|refine blA ?_ ?_ _|refine blS ?_ ?_ _|refine blT (by assumption) ?_ ?_);focus (go_size;done)))⟩
         | true =>
          go_wp2_with (go_at_call 42;(with_reducible refine (HNM.out _).mono ?_);rintro _ w3 ⟨rfl,rfl⟩)
          obtain ⟨wo,hwo⟩ : ∃ wo : World,wo = wr:=⟨_,rfl⟩
          obtain ⟨go,hgo⟩ : ∃ go : Nat,go = gk:=⟨_,rfl⟩
          rw [← hgo] at HK
          have HGO:=Lib.hid hgo
          clear hwo hgo
          go_loopg [4] t (fun k s4 wr=>∃ u : Nat,k + u = t ∧ s4 = .int .i64 u ∧ Hid (∀ k,k < u → ng nm k ≠ ng nm t) ∧ Hid (Mem2 w wr A l.length C (some ⟨b,o,none⟩) nm.length C2))
          case atStart=>exact ⟨0,by omega,rfl,Lib.hid (fun k hk=>absurd hk (Nat.not_lt_zero _)),HMW⟩
          case round =>
           obtain ⟨u,hk2,rfl,HB2,HMI⟩:=hrel
           have HK2:=Lib.hid hk2
           have hut : u ≤ t:=by omega
           clear hk2 HMW c8 c9 hm3 hm4 ct lb
           obtain ⟨c8,c9,hm3,hm4⟩:=id HMI.out
           by_cases hlu : u < t
           ·obtain ⟨b1,o1,e1,ct,hlen⟩:=(HN.out.below hm4).at hlt
            obtain ⟨b2,o2,e2,cu,hlen2⟩:=(HN.out.below hm4).at (show u < nm.length by omega)
            injection e1 with e1
            injection e1 with e1 e1'
            injection e2 with e2
            injection e2 with e2 e2'
            subst e1 e1' e2 e2'
            have lb:=vcell_lt ct
            obtain ⟨p,hp⟩ : ∃ p,p = ng nm u:=⟨_,rfl⟩
            rw [← hp] at cu
            rw [← HX.out] at ct
            have HP:=Lib.hid hp
            have huc : (u : Int) < (nm.length : Int):=by omega
            have htc : (t : Int) < (nm.length : Int):=by omega
            clear hlen hlen2 hp
            by_cases hpx : p = x
            ·have hz : z = false:=by
              rw [HZ2.out]
              cases y with
              | false=>rfl
              | true =>
               exact absurd (by rw [← HP.out,← HX.out];exact hpx) ((HY.out.1 rfl t hlt).2 u hlu)
             subst hz
             have HPX:=Lib.hid hpx
             subst hpx
             go_wp2_with fail
             go_quiet (fail)
             go_wp2_with fail
             go_ret
             exact ⟨rfl,by (repeat' first|(with_reducible first|exact blR _ _|assumption|refine blD ?_|refine blN ?_ _)|((with_reducible first|refine blA ?_ ?_ _|refine blS ?_ ?_ _|refine blT (by assumption) ?_ ?_);focus (go_size;done)))⟩
            ·have g1 : (p == x) = false:=by simpa using hpx
             have HPX:=Lib.hid hpx
             go_wp2_with fail
             go_quiet (fail)
             go_wp2_with fail
             go_roundg (gk - 1)
             case measure=>have:=HK2.out;omega
             case rel=>exact ⟨u + 1,by have:=HK2.out;omega,by go_num,Lib.hid (fun i hi e=>by
              by_cases e2 : i = u
              ·subst e2;exact HPX.out (by rw [HP.out,HX.out];exact e)
              ·exact HB2.out i (by omega) e),Lib.hid (HMI.out.drewN _)⟩
           ·obtain rfl : u = t:=by omega
            go_wp2_with fail
            go_roundg (go - 1)
            case measure=>have:=HK.out;have:=HGO.out;omega
            case rel=>exact ⟨u + 1,by have:=HK.out;omega,by go_num,Lib.hid (fun i hi=>by
             by_cases e : i = u
             ·subst e;exact ⟨HQ.out.symm,HB2.out⟩
             ·exact HA.out i (by omega)),HMI⟩
        ·obtain rfl : t = nm.length:=by omega
         have hy : y = true:=HY.out.2 HA.out
         have hzv : z = v:=by rw [HZ2.out,hy];rfl
         subst hzv
         clear HA HZ2 HY hy hlt
         have HL9:=Lib.hid (fun (W : World) (h : Below w.heap.size w W)=>HV.out.below h (fun _ _ _ q=>HR.out _ _ _ _ _ q h))
         go_wp2_with fail
         obtain ⟨wo,hwo⟩ : ∃ wo : World,wo = wr:=⟨_,rfl⟩
         clear hwo
         go_loopg [5] l.length (fun k s5 wr=>∃ t : Nat,k + t = l.length ∧ s5 = .int .i64 t ∧ Hid (oks (l.take t) = true) ∧ Hid (Mem2 w wr A l.length C A2 nm.length C2))
         case atStart=>exact ⟨0,by omega,rfl,Lib.hid (by rw [List.take_zero];rfl),HMW⟩
         case round =>
          obtain ⟨t,hk,rfl,HOK,HMI⟩:=hrel
          have HK2:=Lib.hid hk
          have htn2 : t ≤ l.length:=by omega
          clear hk HMW c8 c9 hm3 hm4
          obtain ⟨c8,c9,hm3,hm4⟩:=id HMI.out
          by_cases hlt : t < l.length
          ·obtain ⟨b,o,B1,D1,B2,D2,rfl,hat,hx⟩:=(HL9.out _ hm4).at hlt
           obtain ⟨a0,a1,a2,a3,a4,a5,a6,a7,a8,a9⟩:=hat.val
           have lb:=vcell_lt a0
           have hso:=oks_take hlt
           rw [HOK.out,Bool.true_and] at hso
           have hs2:=vg_size hlt
           have hsz9:=HSZ.out
           have hall : okV (vg l t) = false → z = false:=fun e=>by
            have h2:=oks_append (l.take (t + 1)) (l.drop (t + 1))
            rw [List.take_append_drop,hso,e,← HVV.out] at h2
            rw [h2];rfl
           obtain ⟨x,hxx⟩ : ∃ x,x = vg l t:=⟨_,rfl⟩
           rw [← hxx] at hx a0 a1 a2 a3 a4 a5 a6 a7 a8 a9 hs2 hso hall
           obtain ⟨n1',hn1⟩ : ∃ n1',n1' = x.list.length:=⟨_,rfl⟩
           obtain ⟨n2',hn2⟩ : ∃ n2',n2' = x.names.length:=⟨_,rfl⟩
           rw [← hn1] at a8 hx
           rw [← hn2] at a9 hx
           have HC:=Lib.hid (HH.out x (.slice B1 n1' D1) (.slice B2 n2' D2) wr (by omega) hx)
           obtain ⟨q,hq⟩ : ∃ q,q = okV x:=⟨_,rfl⟩
           rw [← hq] at HC hso hall
           have HSO:=Lib.hid hso
           have HAL:=Lib.hid hall
           clear hat hx hxx hn1 hn2 hs2 hsz9 hso hall hq
           cases q with
           | false =>
            obtain rfl : z = false:=HAL.out rfl
            go_wp2_with ((go_at_call 78;with_reducible refine (HC.out).mono ?_);rintro _ w3 ⟨rfl,hb3⟩;have hb3s:=hb3.size;(try simp only [wsA,wsS,wsD,wsN] at hb3s);obtain ⟨hb3c,hb3f⟩:=bcell hb3;(try have : w.heap.size < w3.heap.size:=by omega);(try have : w.heap.size + 1 < w3.heap.size:=by omega);(try have : w.heap.size + 1 + 1 < w3.heap.size:=by omega);(try have : w.heap.size + 1 + 1 + 1 < w3.heap.size:=by omega))
            go_ret
            exact ⟨rfl,by (repeat' first|(with_reducible first|exact blR _ _|assumption|refine blD ?_|refine blN ?_ _)|((with_reducible first|refine blA ?_ ?_ _|refine blS ?_ ?_ _|refine blT (by assumption) ?_ ?_);focus (go_size;done)))⟩
           | true =>
            go_wp2_with ((go_at_call 78;with_reducible refine (HC.out).mono ?_);rintro _ w3 ⟨rfl,hb3⟩;have hb3s:=hb3.size;(try simp only [wsA,wsS,wsD,wsN] at hb3s);obtain ⟨hb3c,hb3f⟩:=bcell hb3;(try have : w.heap.size < w3.heap.size:=by omega);(try have : w.heap.size + 1 < w3.heap.size:=by omega);(try have : w.heap.size + 1 + 1 < w3.heap.size:=by omega);(try have : w.heap.size + 1 + 1 + 1 < w3.heap.size:=by omega))
            go_roundg (gk - 1)
            case measure=>have:=HK2.out;omega
            case rel=>exact ⟨t + 1,by have:=HK2.out;omega,by go_num,Lib.hid HSO.out,Lib.hid (HMI.out.below hb3)⟩
          ·obtain rfl : t = l.length:=by omega
           have hv : z = true:=by have:=HOK.out;rw [List.take_length] at this;rw [HVV.out,this]
           subst hv
           go_wp2_with fail
           go_ret
           exact ⟨rfl,by (repeat' first|(with_reducible first|exact blR _ _|assumption|refine blD ?_|refine blN ?_ _)|((with_reducible first|refine blA ?_ ?_ _|refine blS ?_ ?_ _|refine blT (by assumption) ?_ ?_);focus (go_size;done)))⟩
theorem rform7_any : ∀ n,FormOf (VR n)
 | 0,_,_,_,_,_,h=>h.elim
 | n + 1,x,L,N,w,h1,h=>by
  obtain ⟨A,C,rfl,_⟩:=h.2.1.is
  obtain ⟨A2,C2,rfl,_⟩:=h.2.2.is
  rw [okV_eq]
  exact form_step (VR n) (fun _ _ _ _ _ h hb=>h.below hb) (rform7_any n) x.s x.list x.names A C A2 C2 w h.1 (by rw [VD.size_eq] at h1;omega) h.2.1 h.2.2
end Go.Proofs.YtkjecoanlppeaaaGreatDoor



namespace Go.Proofs.YtkjecoanlppeaaaGreatDoor
open Go.RowKit

set_option maxRecDepth 100000 in
set_option maxHeartbeats 1000000 in
theorem rcheck_any (d : VD) (A : Option Addr) (C : Nat) (A2 : Option Addr) (C2 : Nat) (w : World) (h : VA w d A C A2 C2) (hsz : d.size ≤ 1048576) :
  Calls Tryz.prog 47 #[vargs d A C A2 C2] w fun e w'=>e = .returned (.int .i64 (chkV d)) ∧ Below w.heap.size w w':=by
 have hc1:=fun (W : World) (hW : Below w.heap.size w W)=>rcount_any d A C A2 C2 1000 W (by omega) (by omega) (RV.below h hW) hsz
 obtain ⟨n,hn⟩:=h
 have hc2:=fun (W : World) (hW : Below w.heap.size w W) (hz : d.size ≤ 1000000)=>depth_any n d (.slice A d.list.length C) (.slice A2 d.names.length C2) W hz (hn.below hW)
 have hc3:=fun (W : World) (hW : Below w.heap.size w W) (hz : d.size ≤ 1000000)=>rform7_any n d (.slice A d.list.length C) (.slice A2 d.names.length C2) W hz (hn.below hW)
 obtain ⟨z,hz⟩ : ∃ z,z = chkV d:=⟨_,rfl⟩
 rw [← hz]
 unfold chkV at hz
 obtain ⟨S,hS⟩ : ∃ S,S = d.size:=⟨_,rfl⟩
 obtain ⟨D,hD⟩ : ∃ D,D = d.deep:=⟨_,rfl⟩
 obtain ⟨K,hK⟩ : ∃ K,K = okV d:=⟨_,rfl⟩
 rw [← hS,← hD,← hK] at hz
 rw [← hS] at hc1
 rw [← hS,← hD] at hc2
 rw [← hS,← hK] at hc3
 have hcb:=cnt_le (s:=S) (m:=1000) (by omega) (by rw [hS];exact size_pos d)
 have hgt:=cnt_gt (s:=S) (m:=1000)
 obtain ⟨c,hc⟩ : ∃ c,c = cnt S 1000:=⟨_,rfl⟩
 rw [← hc] at hc1 hcb hgt
 obtain ⟨s,l,nm⟩:=d
 obtain ⟨kind,yes,neg,coef,sc,text,day⟩:=s
 unfold vargs vagg
 unfold vagg at hc1 hc2 hc3
 dsimp only [VD.s,VD.list,VD.names] at hc1 hc2 hc3 ⊢
 have H1:=Lib.hid hc1
 have H2:=Lib.hid hc2
 have H3:=Lib.hid hc3
 clear hc1 hc2 hc3 hn hS hD hK hc hsz
 by_cases hb : (1000 : Int) < c
 ·obtain rfl : z = 6:=by rw [hz,if_pos (by have:=hgt.1 hb;omega)]
  clear hz hgt H2 H3
  go_enter Tryz.func47,Tryz.ntmps47
  go_wp2_with ((go_at_call 25;with_reducible refine (H1.out _ (by (repeat' first|(with_reducible first|exact blR _ _|assumption|refine blD ?_|refine blN ?_ _)|((with_reducible first|refine blA ?_ ?_ _|refine blS ?_ ?_ _|refine blT (by assumption) ?_ ?_);focus (go_size;done))))).mono ?_);rintro _ w1 ⟨rfl,hb1⟩;have hb1s:=hb1.size;(try simp only [wsA,wsS,wsD,wsN] at hb1s);obtain ⟨hb1c,hb1f⟩:=bcell hb1;(try have : w.heap.size < w1.heap.size:=by omega);(try have : w.heap.size + 1 < w1.heap.size:=by omega);(try have : w.heap.size + 1 + 1 < w1.heap.size:=by omega);(try have : w.heap.size + 1 + 1 + 1 < w1.heap.size:=by omega))
  go_ret
  exact ⟨rfl,by (repeat' first|(with_reducible first|exact blR _ _|assumption|refine blD ?_|refine blN ?_ _)|((with_reducible first|refine blA ?_ ?_ _|refine blS ?_ ?_ _|refine blT (by assumption) ?_ ?_);focus (go_size;done)))⟩
 ·have hs : ¬ 1000 < S:=fun h=>hb (hgt.2 (by omega))
  rw [if_neg hs] at hz
  have H4:=Lib.hid (fun W hW=>H2.out W hW (by omega))
  have H5:=Lib.hid (fun W hW=>H3.out W hW (by omega))
  clear H2 H3 hgt hs
  by_cases hd : 16 < D
  ·obtain rfl : z = 7:=by rw [hz,if_pos hd]
   have hd' : (16 : Int) < (D : Int):=by omega
   clear hz
   go_enter Tryz.func47,Tryz.ntmps47
   go_wp2_with (first | ((go_at_call 25;with_reducible refine (H1.out _ (by (repeat' first|(with_reducible first|exact blR _ _|assumption|refine blD ?_|refine blN ?_ _)|((with_reducible first|refine blA ?_ ?_ _|refine blS ?_ ?_ _|refine blT (by assumption) ?_ ?_);focus (go_size;done))))).mono ?_);rintro _ w1 ⟨rfl,hb1⟩;have hb1s:=hb1.size;(try simp only [wsA,wsS,wsD,wsN] at hb1s);obtain ⟨hb1c,hb1f⟩:=bcell hb1;(try have : w.heap.size < w1.heap.size:=by omega);(try have : w.heap.size + 1 < w1.heap.size:=by omega);(try have : w.heap.size + 1 + 1 < w1.heap.size:=by omega);(try have : w.heap.size + 1 + 1 + 1 < w1.heap.size:=by omega)) | ((go_at_call 77;with_reducible refine (H4.out _ (by (repeat' first|(with_reducible first|exact blR _ _|assumption|refine blD ?_|refine blN ?_ _)|((with_reducible first|refine blA ?_ ?_ _|refine blS ?_ ?_ _|refine blT (by assumption) ?_ ?_);focus (go_size;done))))).mono ?_);rintro _ w2 ⟨rfl,hb2⟩;have hb2s:=hb2.size;(try simp only [wsA,wsS,wsD,wsN] at hb2s);obtain ⟨hb2c,hb2f⟩:=bcell hb2;(try have : w.heap.size < w2.heap.size:=by omega);(try have : w.heap.size + 1 < w2.heap.size:=by omega);(try have : w.heap.size + 1 + 1 < w2.heap.size:=by omega);(try have : w.heap.size + 1 + 1 + 1 < w2.heap.size:=by omega);(try have : w1.heap.size < w2.heap.size:=by omega);(try have : w1.heap.size + 1 < w2.heap.size:=by omega);(try have : w1.heap.size + 1 + 1 < w2.heap.size:=by omega);(try have : w1.heap.size + 1 + 1 + 1 < w2.heap.size:=by omega)))
   go_ret
   exact ⟨rfl,by (repeat' first|(with_reducible first|exact blR _ _|assumption|refine blD ?_|refine blN ?_ _)|((with_reducible first|refine blA ?_ ?_ _|refine blS ?_ ?_ _|refine blT (by assumption) ?_ ?_);focus (go_size;done)))⟩
  ·rw [if_neg hd] at hz
   have hd' : ¬ (16 : Int) < (D : Int):=by omega
   cases K with
   | true =>
    obtain rfl : z = 0:=hz
    go_enter Tryz.func47,Tryz.ntmps47
    go_wp2_with (first | ((go_at_call 25;with_reducible refine (H1.out _ (by (repeat' first|(with_reducible first|exact blR _ _|assumption|refine blD ?_|refine blN ?_ _)|((with_reducible first|refine blA ?_ ?_ _|refine blS ?_ ?_ _|refine blT (by assumption) ?_ ?_);focus (go_size;done))))).mono ?_);rintro _ w1 ⟨rfl,hb1⟩;have hb1s:=hb1.size;(try simp only [wsA,wsS,wsD,wsN] at hb1s);obtain ⟨hb1c,hb1f⟩:=bcell hb1;(try have : w.heap.size < w1.heap.size:=by omega);(try have : w.heap.size + 1 < w1.heap.size:=by omega);(try have : w.heap.size + 1 + 1 < w1.heap.size:=by omega);(try have : w.heap.size + 1 + 1 + 1 < w1.heap.size:=by omega)) | ((go_at_call 77;with_reducible refine (H4.out _ (by (repeat' first|(with_reducible first|exact blR _ _|assumption|refine blD ?_|refine blN ?_ _)|((with_reducible first|refine blA ?_ ?_ _|refine blS ?_ ?_ _|refine blT (by assumption) ?_ ?_);focus (go_size;done))))).mono ?_);rintro _ w2 ⟨rfl,hb2⟩;have hb2s:=hb2.size;(try simp only [wsA,wsS,wsD,wsN] at hb2s);obtain ⟨hb2c,hb2f⟩:=bcell hb2;(try have : w.heap.size < w2.heap.size:=by omega);(try have : w.heap.size + 1 < w2.heap.size:=by omega);(try have : w.heap.size + 1 + 1 < w2.heap.size:=by omega);(try have : w.heap.size + 1 + 1 + 1 < w2.heap.size:=by omega);(try have : w1.heap.size < w2.heap.size:=by omega);(try have : w1.heap.size + 1 < w2.heap.size:=by omega);(try have : w1.heap.size + 1 + 1 < w2.heap.size:=by omega);(try have : w1.heap.size + 1 + 1 + 1 < w2.heap.size:=by omega)) | ((go_at_call 78;with_reducible refine (H5.out _ (by (repeat' first|(with_reducible first|exact blR _ _|assumption|refine blD ?_|refine blN ?_ _)|((with_reducible first|refine blA ?_ ?_ _|refine blS ?_ ?_ _|refine blT (by assumption) ?_ ?_);focus (go_size;done))))).mono ?_);rintro _ w3 ⟨rfl,hb3⟩;have hb3s:=hb3.size;(try simp only [wsA,wsS,wsD,wsN] at hb3s);obtain ⟨hb3c,hb3f⟩:=bcell hb3;(try have : w.heap.size < w3.heap.size:=by omega);(try have : w.heap.size + 1 < w3.heap.size:=by omega);(try have : w.heap.size + 1 + 1 < w3.heap.size:=by omega);(try have : w.heap.size + 1 + 1 + 1 < w3.heap.size:=by omega);(try have : w1.heap.size < w3.heap.size:=by omega);(try have : w1.heap.size + 1 < w3.heap.size:=by omega);(try have : w1.heap.size + 1 + 1 < w3.heap.size:=by omega);(try have : w1.heap.size + 1 + 1 + 1 < w3.heap.size:=by omega);(try have : w2.heap.size < w3.heap.size:=by omega);(try have : w2.heap.size + 1 < w3.heap.size:=by omega);(try have : w2.heap.size + 1 + 1 < w3.heap.size:=by omega);(try have : w2.heap.size + 1 + 1 + 1 < w3.heap.size:=by omega)))
    go_ret
    exact ⟨rfl,by (repeat' first|(with_reducible first|exact blR _ _|assumption|refine blD ?_|refine blN ?_ _)|((with_reducible first|refine blA ?_ ?_ _|refine blS ?_ ?_ _|refine blT (by assumption) ?_ ?_);focus (go_size;done)))⟩
   | false =>
    obtain rfl : z = 2:=hz
    go_enter Tryz.func47,Tryz.ntmps47
    go_wp2_with (first | ((go_at_call 25;with_reducible refine (H1.out _ (by (repeat' first|(with_reducible first|exact blR _ _|assumption|refine blD ?_|refine blN ?_ _)|((with_reducible first|refine blA ?_ ?_ _|refine blS ?_ ?_ _|refine blT (by assumption) ?_ ?_);focus (go_size;done))))).mono ?_);rintro _ w1 ⟨rfl,hb1⟩;have hb1s:=hb1.size;(try simp only [wsA,wsS,wsD,wsN] at hb1s);obtain ⟨hb1c,hb1f⟩:=bcell hb1;(try have : w.heap.size < w1.heap.size:=by omega);(try have : w.heap.size + 1 < w1.heap.size:=by omega);(try have : w.heap.size + 1 + 1 < w1.heap.size:=by omega);(try have : w.heap.size + 1 + 1 + 1 < w1.heap.size:=by omega)) | ((go_at_call 77;with_reducible refine (H4.out _ (by (repeat' first|(with_reducible first|exact blR _ _|assumption|refine blD ?_|refine blN ?_ _)|((with_reducible first|refine blA ?_ ?_ _|refine blS ?_ ?_ _|refine blT (by assumption) ?_ ?_);focus (go_size;done))))).mono ?_);rintro _ w2 ⟨rfl,hb2⟩;have hb2s:=hb2.size;(try simp only [wsA,wsS,wsD,wsN] at hb2s);obtain ⟨hb2c,hb2f⟩:=bcell hb2;(try have : w.heap.size < w2.heap.size:=by omega);(try have : w.heap.size + 1 < w2.heap.size:=by omega);(try have : w.heap.size + 1 + 1 < w2.heap.size:=by omega);(try have : w.heap.size + 1 + 1 + 1 < w2.heap.size:=by omega);(try have : w1.heap.size < w2.heap.size:=by omega);(try have : w1.heap.size + 1 < w2.heap.size:=by omega);(try have : w1.heap.size + 1 + 1 < w2.heap.size:=by omega);(try have : w1.heap.size + 1 + 1 + 1 < w2.heap.size:=by omega)) | ((go_at_call 78;with_reducible refine (H5.out _ (by (repeat' first|(with_reducible first|exact blR _ _|assumption|refine blD ?_|refine blN ?_ _)|((with_reducible first|refine blA ?_ ?_ _|refine blS ?_ ?_ _|refine blT (by assumption) ?_ ?_);focus (go_size;done))))).mono ?_);rintro _ w3 ⟨rfl,hb3⟩;have hb3s:=hb3.size;(try simp only [wsA,wsS,wsD,wsN] at hb3s);obtain ⟨hb3c,hb3f⟩:=bcell hb3;(try have : w.heap.size < w3.heap.size:=by omega);(try have : w.heap.size + 1 < w3.heap.size:=by omega);(try have : w.heap.size + 1 + 1 < w3.heap.size:=by omega);(try have : w.heap.size + 1 + 1 + 1 < w3.heap.size:=by omega);(try have : w1.heap.size < w3.heap.size:=by omega);(try have : w1.heap.size + 1 < w3.heap.size:=by omega);(try have : w1.heap.size + 1 + 1 < w3.heap.size:=by omega);(try have : w1.heap.size + 1 + 1 + 1 < w3.heap.size:=by omega);(try have : w2.heap.size < w3.heap.size:=by omega);(try have : w2.heap.size + 1 < w3.heap.size:=by omega);(try have : w2.heap.size + 1 + 1 < w3.heap.size:=by omega);(try have : w2.heap.size + 1 + 1 + 1 < w3.heap.size:=by omega)))
    go_ret
    exact ⟨rfl,by (repeat' first|(with_reducible first|exact blR _ _|assumption|refine blD ?_|refine blN ?_ _)|((with_reducible first|refine blA ?_ ?_ _|refine blS ?_ ?_ _|refine blT (by assumption) ?_ ?_);focus (go_size;done)))⟩
end Go.Proofs.YtkjecoanlppeaaaGreatDoor



namespace Go.Proofs.YtkjecoanlppeaaaGreatDoor
open Go.RowKit

def SmallL (l : List VD) : Prop:=∀ t,t < l.length → (vg l t).size ≤ 1048576
theorem smallL_of {l : List VD} (h : sizes l ≤ 1048576) : SmallL l:=fun t ht=>Nat.le_trans (vg_size ht) h
set_option maxRecDepth 100000 in
set_option maxHeartbeats 1000000 in
theorem rvalues_any (l : List VD) (v : Value) (w : World) (h : Vls (RV w) w v l) (hs : SmallL l) :
  Calls Tryz.prog 43 #[v] w fun e w'=>e = .returned (.bool (allC l)) ∧ Below w.heap.size w w':=by
 obtain ⟨A,C,rfl,hll⟩:=h.is
 have HV:=Lib.hid h
 have HS:=Lib.hid hs
 obtain ⟨z,hz⟩ : ∃ z,z = allC l:=⟨_,rfl⟩
 rw [← hz]
 have HZ : Hid (z = true ↔ ∀ t,t < l.length → chkV (vg l t) = 0):=Lib.hid (by rw [hz];exact allC_iff)
 clear h hs hz
 go_enter Tryz.func43,Tryz.ntmps43
 go_wp2_with fail
 go_loopg [3] l.length (fun k s3 wr=>∃ t : Nat,k + t = l.length ∧ s3 = .int .i64 t ∧ Hid (∀ i,i < t → chkV (vg l i) = 0) ∧ w.heap.size ≤ wr.heap.size ∧ Below w.heap.size w wr)
 case atStart=>exact ⟨0,by omega,rfl,Lib.hid (fun i hi=>absurd hi (Nat.not_lt_zero _)),by omega,by (repeat' first|(with_reducible first|exact blR _ _|assumption|refine blD ?_|refine blN ?_ _)|((with_reducible first|refine blA ?_ ?_ _|refine blS ?_ ?_ _|refine blT (by assumption) ?_ ?_);focus (go_size;done)))⟩
 case round =>
  obtain ⟨t,hk,rfl,HA,hsz,hbel⟩:=hrel
  have HK:=Lib.hid hk
  have htl : t ≤ l.length:=by omega
  clear hk
  by_cases hlt : t < l.length
  ·obtain ⟨b,o,B1,D1,B2,D2,rfl,hat,hx⟩:=(HV.out.kept hbel).at hlt
   obtain ⟨a0,a1,a2,a3,a4,a5,a6,a7,a8,a9⟩:=hat.val
   have lb:=vcell_lt a0
   have HXS:=Lib.hid (HS.out t hlt)
   obtain ⟨x,hxx⟩ : ∃ x,x = vg l t:=⟨_,rfl⟩
   rw [← hxx] at hx a0 a1 a2 a3 a4 a5 a6 a7 a8 a9 HXS
   have HXX:=Lib.hid hxx
   have HC:=Lib.hid (rcheck_any x B1 D1 B2 D2 wr hx HXS.out)
   obtain ⟨e,he⟩ : ∃ e,e = chkV x:=⟨_,rfl⟩
   rw [← he] at HC
   have HE:=Lib.hid he
   unfold vargs at HC
   obtain ⟨n1',hn1⟩ : ∃ n1',n1' = x.list.length:=⟨_,rfl⟩
   obtain ⟨n2',hn2⟩ : ∃ n2',n2' = x.names.length:=⟨_,rfl⟩
   rw [← hn1] at a8 HC
   rw [← hn2] at a9 HC
   clear hat hx hxx he hn1 hn2
   by_cases e0 : e = 0
   ·subst e0
    go_wp2_with ((go_at_call 47;with_reducible refine (HC.out).mono ?_);rintro _ w2 ⟨rfl,hb2⟩;have hb2s:=hb2.size;(try simp only [wsA,wsS,wsD,wsN] at hb2s);obtain ⟨hb2c,hb2f⟩:=bcell hb2;(try have : w.heap.size < w2.heap.size:=by omega);(try have : w.heap.size + 1 < w2.heap.size:=by omega);(try have : w.heap.size + 1 + 1 < w2.heap.size:=by omega);(try have : w.heap.size + 1 + 1 + 1 < w2.heap.size:=by omega))
    go_roundg (gk - 1)
    case measure=>have:=HK.out;omega
    case rel=>exact ⟨t + 1,by have:=HK.out;omega,by go_num,Lib.hid (fun i hi=>by
     by_cases q : i = t
     ·subst q;rw [← HXX.out,← HE.out]
     ·exact HA.out i (by omega)),by omega,by (repeat' first|(with_reducible first|exact blR _ _|assumption|refine blD ?_|refine blN ?_ _)|((with_reducible first|refine blA ?_ ?_ _|refine blS ?_ ?_ _|refine blT (by assumption) ?_ ?_);focus (go_size;done)))⟩
   ·have f0 : (e != 0) = true:=by rw [bne_iff_ne];exact e0
    have hz : z = false:=by
     cases z with
     | false=>rfl
     | true =>
      have:=HZ.out.1 rfl t hlt
      rw [← HXX.out,← HE.out] at this
      exact absurd this e0
    subst hz
    clear e0
    go_wp2_with ((go_at_call 47;with_reducible refine (HC.out).mono ?_);rintro _ w2 ⟨rfl,hb2⟩;have hb2s:=hb2.size;(try simp only [wsA,wsS,wsD,wsN] at hb2s);obtain ⟨hb2c,hb2f⟩:=bcell hb2;(try have : w.heap.size < w2.heap.size:=by omega);(try have : w.heap.size + 1 < w2.heap.size:=by omega);(try have : w.heap.size + 1 + 1 < w2.heap.size:=by omega);(try have : w.heap.size + 1 + 1 + 1 < w2.heap.size:=by omega))
    go_ret
    exact ⟨rfl,by (repeat' first|(with_reducible first|exact blR _ _|assumption|refine blD ?_|refine blN ?_ _)|((with_reducible first|refine blA ?_ ?_ _|refine blS ?_ ?_ _|refine blT (by assumption) ?_ ?_);focus (go_size;done)))⟩
  ·obtain rfl : t = l.length:=by omega
   have hz : z = true:=HZ.out.2 HA.out
   subst hz
   clear hlt
   go_wp2_with fail
   go_ret
   exact ⟨rfl,by (repeat' first|(with_reducible first|exact blR _ _|assumption|refine blD ?_|refine blN ?_ _)|((with_reducible first|refine blA ?_ ?_ _|refine blS ?_ ?_ _|refine blT (by assumption) ?_ ?_);focus (go_size;done)))⟩
end Go.Proofs.YtkjecoanlppeaaaGreatDoor



namespace Go.Proofs.YtkjecoanlppeaaaGreatDoor
open Go.RowKit

set_option maxRecDepth 100000 in
set_option maxHeartbeats 4000000 in
theorem rrank_any (order : List (List VD)) (row : List VD) (O R : Value) (w : World) (ho : Lls w O order) (hr : Vls (RV w) w R row) (hle : order.length ≤ row.length) (hmax : order.length ≤ 1000000) :
  Calls Tryz.prog 50 #[O,R] w fun e w'=>∃ v,e = .returned v ∧ Own w' w.heap.size v (rankF order row) ∧ Below w.heap.size w w':=by
 obtain ⟨A,C,rfl,q1,_,_⟩:=ho.is
 obtain ⟨RA,RC,rfl,q2⟩:=hr.is
 have HO:=Lib.hid ho
 have HR:=Lib.hid hr
 have hol : (order.length : Int) ≤ 1000000:=by omega
 have hrl : (row.length : Int) ≤ 1048576:=by omega
 have HLE:=Lib.hid hle
 clear ho hr q1 q2 hle
 go_enter Tryz.func50,Tryz.ntmps50
 go_wp2_with fail
 go_loopg [5,6] order.length (fun k s5 s6 wr=>∃ t : Nat,k + t = order.length ∧ s6 = .int .i64 t ∧ Hid (Own wr w.heap.size s5 (rankT order row t)) ∧ w.heap.size ≤ wr.heap.size ∧ Below w.heap.size w wr)
 case atStart=>exact ⟨0,by omega,rfl,Lib.hid (Own.nil _ _),by omega,by (repeat' first|(with_reducible first|exact blR _ _|assumption|refine blD ?_|refine blN ?_ _)|((with_reducible first|refine blA ?_ ?_ _|refine blS ?_ ?_ _|refine blT (by assumption) ?_ ?_);focus (go_size;done)))⟩
 case round =>
  obtain ⟨t,hk,rfl,HW,hsz,hbel⟩:=hrel
  have HK:=Lib.hid hk
  have htl : t ≤ order.length:=by omega
  clear hk
  by_cases hlt : t < order.length
  ·obtain ⟨b,o,B1,D1,rfl,hcell,hv⟩:=(HO.out.below hbel).at hlt
   have lb:=vcell_lt hcell
   have htc : (t : Int) < (order.length : Int):=by omega
   obtain ⟨x,hxx⟩ : ∃ x,x = lg order t:=⟨_,rfl⟩
   have hi : t < row.length:=by have:=HLE.out;omega
   have hic : (t : Int) < (row.length : Int):=by omega
   have hrt : rankT order row (t + 1) = rankT order row t ++ (if lg order t = [] then [] else [posF (vg row t) (lg order t)]):=rfl
   rw [← hxx] at hv hcell hrt
   obtain ⟨n1,hn1⟩ : ∃ n1,n1 = x.length:=⟨_,rfl⟩
   have hxl : x.length ≤ 1048576:=by
    obtain ⟨_,_,_,h⟩:=hv.is
    exact h
   rw [← hn1] at hv hcell hxl
   have HRT:=Lib.hid hrt
   have HN1:=Lib.hid hn1
   have HV:=Lib.hid hv
   have HRL : Hid ((rankT order row t).length ≤ 1000000):=Lib.hid (by have:=rankT_le order row t;omega)
   clear hrt hv hxx hn1
   by_cases hn0 : n1 = 0
   ·subst hn0
    have hx0 : x = []:=List.eq_nil_of_length_eq_zero HN1.out.symm
    go_wp2_with fail
    go_roundg (gk - 1)
    case measure=>have:=HK.out;omega
    case rel=>exact ⟨t + 1,by have:=HK.out;omega,by go_num,Lib.hid (by rw [HRT.out,if_pos hx0,List.append_nil];exact HW.out.below (by (repeat' first|(with_reducible first|exact blR _ _|assumption|refine blD ?_|refine blN ?_ _)|((with_reducible first|refine blA ?_ ?_ _|refine blS ?_ ?_ _|refine blT (by assumption) ?_ ?_);focus (go_size;done))))),by go_size,by (repeat' first|(with_reducible first|exact blR _ _|assumption|refine blD ?_|refine blN ?_ _)|((with_reducible first|refine blA ?_ ?_ _|refine blS ?_ ?_ _|refine blT (by assumption) ?_ ?_);focus (go_size;done)))⟩
   ·have hx0 : Hid (x ≠ []):=Lib.hid (fun e=>hn0 (by rw [HN1.out,e];rfl))
    have f0 : ((n1 : Int) == 0) = false:=by rw [beq_eq_false_iff_ne];omega
    obtain ⟨b2,o2,E1,F1,E2,F2,rfl,hat2,hy⟩:=(HR.out.kept hbel).at hi
    obtain ⟨y,hyy⟩ : ∃ y,y = vg row t:=⟨_,rfl⟩
    rw [← hyy] at hat2 hy HRT
    have l2:=vcell_lt hat2.val.1
    have HAT2:=Lib.hid hat2
    have HY:=Lib.hid hy
    clear hat2 hy hyy
    obtain ⟨wa,hwa⟩ : ∃ wa : World,wa = wr:=⟨_,rfl⟩
    subst hwa
    obtain ⟨ga,hga⟩ : ∃ ga : Nat,ga = gk:=⟨_,rfl⟩
    subst hga
    go_wp2_with fail
    go_loopg [7] n1 (fun k s7 wr=>∃ s : Nat,k + s = n1 ∧ s7 = .int .i64 s ∧ Hid (∀ j,j < s → sameB (vg x j) y = false) ∧ wa.heap.size ≤ wr.heap.size ∧ Below wa.heap.size wa wr)
    case atStart=>exact ⟨0,by omega,rfl,Lib.hid (fun i hi=>absurd hi (Nat.not_lt_zero _)),by omega,by (repeat' first|(with_reducible first|exact blR _ _|assumption|refine blD ?_|refine blN ?_ _)|((with_reducible first|refine blA ?_ ?_ _|refine blS ?_ ?_ _|refine blT (by assumption) ?_ ?_);focus (go_size;done)))⟩
    case round =>
     obtain ⟨s,hk,rfl,HA,hsz2,hbel2⟩:=hrel
     have HK2:=Lib.hid hk
     have hsl : s ≤ n1:=by omega
     clear hk
     have hcell2 : wr.cell? ⟨b,o + t,none⟩ = some (.slice B1 n1 D1):=(hbel2.cell (p:=⟨b,o + t,none⟩) lb).trans hcell
     obtain ⟨u0,u1,u2,u3,u4,u5',u6,u7,u8,u9⟩:=(HAT2.out.below hbel2).val
     obtain ⟨m3,hm3⟩ : ∃ m3,m3 = y.list.length:=⟨_,rfl⟩
     obtain ⟨m4,hm4⟩ : ∃ m4,m4 = y.names.length:=⟨_,rfl⟩
     have hyw:=HY.out.below hbel2
     rw [← hm3] at u8 hyw
     rw [← hm4] at u9 hyw
     clear hm3 hm4
     by_cases hlt2 : s < n1
     ·obtain ⟨b1,o1,A3,C3,A4,C4,rfl,hat1,hx⟩:=(HV.out.kept hbel2).at (show s < x.length by have:=HN1.out;omega)
      obtain ⟨a0,a1,a2,a3,a4,a5,a6,a7,a8,a9⟩:=hat1.val
      have l1:=vcell_lt a0
      have ht2 : (s : Int) < (n1 : Int):=by omega
      obtain ⟨z,hzz⟩ : ∃ z,z = vg x s:=⟨_,rfl⟩
      rw [← hzz] at hx a0 a1 a2 a3 a4 a5 a6 a7 a8 a9
      have HZ:=Lib.hid hzz
      obtain ⟨m1,hm1⟩ : ∃ m1,m1 = z.list.length:=⟨_,rfl⟩
      obtain ⟨m2,hm2⟩ : ∃ m2,m2 = z.names.length:=⟨_,rfl⟩
      rw [← hm1] at a8 hx
      rw [← hm2] at a9 hx
      have hc:=fun (W : World) (hW : Below wr.heap.size wr W)=>rsame_rv z y (.slice A3 m1 C3) (.slice A4 m2 C4) (.slice E1 m3 F1) (.slice E2 m4 F2) W (RV.below hx hW) (RV.below hyw hW)
      obtain ⟨q,hq⟩ : ∃ q,q = sameB z y:=⟨_,rfl⟩
      rw [← hq] at hc
      have HC:=Lib.hid hc
      have HQ:=Lib.hid hq
      clear hat1 hx hyw hzz hm1 hm2 hq hc
      go_wp2_with fail
      go_region_held3 (fun w'=>w'.cell? ⟨b,o + t,none⟩ = some (.slice (some ⟨b1,o1,none⟩) n1 D1) ∧
       w'.cell? ⟨b1,o1 + s * 10,none⟩ = some (.int .i64 z.s.kind) ∧ w'.cell? ⟨b1,o1 + s * 10 + 1,none⟩ = some (.bool z.s.yes) ∧ w'.cell? ⟨b1,o1 + s * 10 + 2,none⟩ = some (.bool z.s.neg) ∧ w'.cell? ⟨b1,o1 + s * 10 + 3,none⟩ = some (.int .u64 (wd z.s.coef 1)) ∧ w'.cell? ⟨b1,o1 + s * 10 + 4,none⟩ = some (.int .u64 (wd z.s.coef 0)) ∧ w'.cell? ⟨b1,o1 + s * 10 + 5,none⟩ = some (.int .i64 z.s.sc) ∧ w'.cell? ⟨b1,o1 + s * 10 + 6,none⟩ = some (.string ⟨z.s.text.toArray⟩) ∧ w'.cell? ⟨b1,o1 + s * 10 + 7,none⟩ = some (.int .i64 z.s.day) ∧ w'.cell? ⟨b1,o1 + s * 10 + 8,none⟩ = some (.slice A3 m1 C3) ∧ w'.cell? ⟨b1,o1 + s * 10 + 9,none⟩ = some (.slice A4 m2 C4) ∧
       w'.cell? ⟨b2,o2 + t * 10,none⟩ = some (.int .i64 y.s.kind) ∧ w'.cell? ⟨b2,o2 + t * 10 + 1,none⟩ = some (.bool y.s.yes) ∧ w'.cell? ⟨b2,o2 + t * 10 + 2,none⟩ = some (.bool y.s.neg) ∧ w'.cell? ⟨b2,o2 + t * 10 + 3,none⟩ = some (.int .u64 (wd y.s.coef 1)) ∧ w'.cell? ⟨b2,o2 + t * 10 + 4,none⟩ = some (.int .u64 (wd y.s.coef 0)) ∧ w'.cell? ⟨b2,o2 + t * 10 + 5,none⟩ = some (.int .i64 y.s.sc) ∧ w'.cell? ⟨b2,o2 + t * 10 + 6,none⟩ = some (.string ⟨y.s.text.toArray⟩) ∧ w'.cell? ⟨b2,o2 + t * 10 + 7,none⟩ = some (.int .i64 y.s.day) ∧ w'.cell? ⟨b2,o2 + t * 10 + 8,none⟩ = some (.slice E1 m3 F1) ∧ w'.cell? ⟨b2,o2 + t * 10 + 9,none⟩ = some (.slice E2 m4 F2)) (first | (first | (go_keep;done) | (simp [go_sem];done) | ((try dsimp only);(repeat' apply And.intro) <;> (first | (with_reducible assumption) | ((rw [World.cell?_alloc_lt _ _ _ (by show _ < _;omega)]);go_split_ands;(first | with_reducible assumption | (refine (World.cell?_alloc_lt _ _ _ (by show _ < _;omega)).symm.trans ?_;with_reducible assumption))) | ((rw [World.cell?_setCell_other _ _ _ _ (by intro e;injection e;omega)]);with_reducible assumption) | (go_keep;done) | (simp [go_sem];done) | (simp (disch:=go_size) [*,World.cell?_alloc_some,World.cell?_setCell_far];done))))) (first | ((go_at_call 26;with_reducible refine (HC.out _ (by (repeat' first|(with_reducible first|exact blR _ _|assumption|refine blD ?_|refine blN ?_ _)|((with_reducible first|refine blA ?_ ?_ _|refine blS ?_ ?_ _|refine blT (by assumption) ?_ ?_);focus (go_size;done))))).mono ?_);rintro _ w2 ⟨rfl,hb2⟩;have hb2s:=hb2.size;(try simp only [wsA,wsS,wsD,wsN] at hb2s);obtain ⟨hb2c,hb2f⟩:=bcell hb2;(try have : w.heap.size < w2.heap.size:=by omega);(try have : w.heap.size + 1 < w2.heap.size:=by omega);(try have : w.heap.size + 1 + 1 < w2.heap.size:=by omega);(try have : w.heap.size + 1 + 1 + 1 < w2.heap.size:=by omega)))
      cases q with
      | false =>
       go_wp2_with fail
       go_roundg (gk - 1)
       case measure=>have:=HK2.out;omega
       case rel=>exact ⟨s + 1,by have:=HK2.out;omega,by go_num,Lib.hid (fun i hi=>by
        by_cases e : i = s
        ·subst e;rw [← HZ.out,← HQ.out]
        ·exact HA.out i (by omega)),by omega,by (repeat' first|(with_reducible first|exact blR _ _|assumption|refine blD ?_|refine blN ?_ _)|((with_reducible first|refine blA ?_ ?_ _|refine blS ?_ ?_ _|refine blT (by assumption) ?_ ?_);focus (go_size;done)))⟩
      | true =>
       have HP : Hid (s = posF y x):=Lib.hid (posF_hit (show s < x.length by have:=HN1.out;omega) (by rw [← HZ.out,← HQ.out]) HA.out).symm
       go_wp2_with (at_builtin;refine wpList_pushO rfl _ _ 43 rfl Tryz.underlying43 w.heap.size (by go_size) u5 _ rfl (HW.out.below (by (repeat' first|(with_reducible first|exact blR _ _|assumption|refine blD ?_|refine blN ?_ _)|((with_reducible first|refine blA ?_ ?_ _|refine blS ?_ ?_ _|refine blT (by assumption) ?_ ?_);focus (go_size;done))))) _ s rfl (by first | (simp;done) | exact (World.cell?_alloc_at _ _ _ _ rfl).trans rfl) HRL.out ?_;intro g cap w3 ho3 hb3 hlt3;have hs3:=hb3.size;(simp only [World.size_alloc,World.heap_drewN,World.size_drew] at hs3);have hbw3 : Below w.heap.size w w3:=Below.trans (by (repeat' first|(with_reducible first|exact blR _ _|assumption|refine blD ?_|refine blN ?_ _)|((with_reducible first|refine blA ?_ ?_ _|refine blS ?_ ?_ _|refine blT (by assumption) ?_ ?_);focus (go_size;done)))) hb3;have HO3:=Lib.hid ho3;clear ho3 hb3)
       go_roundg (ga - 1)
       case measure=>have:=HK.out;omega
       case rel=>exact ⟨t + 1,by have:=HK.out;omega,by go_num,Lib.hid (by rw [HRT.out,if_neg hx0.out,← HP.out];exact HO3.out),by omega,hbw3⟩
     ·obtain rfl : s = n1:=by omega
      have HP : Hid (s = posF y x):=Lib.hid (by rw [posF_none (fun j hj=>HA.out j (by have:=HN1.out;omega))];exact HN1.out)
      clear hlt2 hyw
      go_wp2_with fail
      go_quiet (fail)
      go_wp2_with (at_builtin;refine wpList_pushO rfl _ _ 43 rfl Tryz.underlying43 w.heap.size (by go_size) u5 _ rfl (HW.out.below (by (repeat' first|(with_reducible first|exact blR _ _|assumption|refine blD ?_|refine blN ?_ _)|((with_reducible first|refine blA ?_ ?_ _|refine blS ?_ ?_ _|refine blT (by assumption) ?_ ?_);focus (go_size;done))))) _ s rfl (by first | (simp;done) | exact (World.cell?_alloc_at _ _ _ _ rfl).trans rfl) HRL.out ?_;intro g cap w3 ho3 hb3 hlt3;have hs3:=hb3.size;(simp only [World.size_alloc,World.heap_drewN,World.size_drew] at hs3);have hbw3 : Below w.heap.size w w3:=Below.trans (by (repeat' first|(with_reducible first|exact blR _ _|assumption|refine blD ?_|refine blN ?_ _)|((with_reducible first|refine blA ?_ ?_ _|refine blS ?_ ?_ _|refine blT (by assumption) ?_ ?_);focus (go_size;done)))) hb3;have HO3:=Lib.hid ho3;clear ho3 hb3)
      go_roundg (ga - 1)
      case measure=>have:=HK.out;omega
      case rel=>exact ⟨t + 1,by have:=HK.out;omega,by go_num,Lib.hid (by rw [HRT.out,if_neg hx0.out,← HP.out];exact HO3.out),by omega,hbw3⟩
  ·obtain rfl : t = order.length:=by omega
   clear hlt
   go_wp2_with fail
   go_ret
   exact ⟨_,rfl,HW.out,by (repeat' first|(with_reducible first|exact blR _ _|assumption|refine blD ?_|refine blN ?_ _)|((with_reducible first|refine blA ?_ ?_ _|refine blS ?_ ?_ _|refine blT (by assumption) ?_ ?_);focus (go_size;done)))⟩
end Go.Proofs.YtkjecoanlppeaaaGreatDoor



namespace Go.Proofs.YtkjecoanlppeaaaGreatDoor
open Go.RowKit

set_option maxRecDepth 100000 in
set_option maxHeartbeats 1000000 in
theorem ahead_any (a b : List Nat) (v1 v2 : Value) (w : World) (hl : a.length = b.length) (h1 : Ilst w v1 a) (h2 : Ilst w v2 b) :
  Calls Tryz.prog 51 #[v1,v2] w fun e w'=>e = .returned (.int .i64 (cmpL a b)) ∧ ∃ nn,w' = w.drewN nn:=by
 obtain ⟨A,C,rfl,q1,_,_⟩:=h1.is
 obtain ⟨A2,C2,rfl,q2,_,_⟩:=h2.is
 obtain ⟨z,hz⟩ : ∃ z,z = cmpL a b:=⟨_,rfl⟩
 rw [← hz]
 have HZ:=Lib.hid hz
 have H1:=Lib.hid h1
 have H2:=Lib.hid h2
 have HL:=Lib.hid hl
 have hal : (a.length : Int) ≤ 1048576:=by omega
 have hbl : (b.length : Int) ≤ 1048576:=by omega
 clear hz h1 h2 hl q1 q2
 go_enter Tryz.func51,Tryz.ntmps51
 go_wp2_with fail
 go_loopg [5] a.length (fun k s5 wr=>∃ t : Nat,k + t = a.length ∧ s5 = .int .i64 t ∧ Hid (∀ i,i < t → ag a i = ag b i) ∧ Hid (∃ nn,wr = w.drewN nn) ∧ w.heap.size ≤ wr.heap.size ∧ Below w.heap.size w wr)
 case atStart=>exact ⟨0,by omega,rfl,Lib.hid (fun i hi=>absurd hi (Nat.not_lt_zero _)),Lib.hid ⟨0,rfl⟩,by omega,by (repeat' first|(with_reducible first|exact blR _ _|assumption|refine blD ?_|refine blN ?_ _)|((with_reducible first|refine blA ?_ ?_ _|refine blS ?_ ?_ _|refine blT (by assumption) ?_ ?_);focus (go_size;done)))⟩
 case round =>
  obtain ⟨t,hk,rfl,HA,HQ,hsz,hbel⟩:=hrel
  have HK:=Lib.hid hk
  have htl : t ≤ a.length:=by omega
  clear hk
  by_cases hlt : t < a.length
  ·have hlt2 : t < b.length:=by have:=HL.out;omega
   obtain ⟨b1,o1,rfl,g1⟩:=(H1.out.below hbel).at hlt
   obtain ⟨b2,o2,rfl,g2⟩:=(H2.out.below hbel).at hlt2
   have l1:=vcell_lt g1
   have l2:=vcell_lt g2
   have ht1 : (t : Int) < (a.length : Int):=by omega
   have ht2 : (t : Int) < (b.length : Int):=by omega
   obtain ⟨x,hx⟩ : ∃ x,x = ag a t:=⟨_,rfl⟩
   obtain ⟨y,hy⟩ : ∃ y,y = ag b t:=⟨_,rfl⟩
   rw [← hx] at g1
   rw [← hy] at g2
   have HX:=Lib.hid hx
   have HY:=Lib.hid hy
   clear hx hy
   by_cases c1 : x < y
   ·have hz : z = -1:=by rw [HZ.out,cmpL_at hlt hlt2 HA.out (by rw [← HX.out,← HY.out];omega),← HX.out,← HY.out,if_pos c1]
    subst hz
    have d1 : (x : Int) < (y : Int):=by omega
    go_wp2_with fail
    go_quiet (fail)
    go_wp2_with fail
    go_ret
    (obtain ⟨n0,h0⟩:=HQ.out;exact ⟨rfl,_,by (rw [h0]) <;> (first | rfl | exact World.drewN_drewN _ _ _ | (rw [World.drewN_drewN];exact World.drewN_drewN _ _ _))⟩)
   ·have d1 : ¬ (x : Int) < (y : Int):=by omega
    by_cases c2 : y < x
    ·have hz : z = 1:=by rw [HZ.out,cmpL_at hlt hlt2 HA.out (by rw [← HX.out,← HY.out];omega),← HX.out,← HY.out,if_neg c1]
     subst hz
     have d2 : (y : Int) < (x : Int):=by omega
     go_wp2_with fail
     go_quiet (fail)
     go_wp2_with fail
     go_quiet (fail)
     go_wp2_with fail
     go_ret
     (obtain ⟨n0,h0⟩:=HQ.out;exact ⟨rfl,_,by (rw [h0]) <;> (first | rfl | exact World.drewN_drewN _ _ _ | (rw [World.drewN_drewN];exact World.drewN_drewN _ _ _))⟩)
    ·have d2 : ¬ (y : Int) < (x : Int):=by omega
     have HE : Hid (x = y):=Lib.hid (by omega)
     go_wp2_with fail
     go_quiet (fail)
     go_wp2_with fail
     go_quiet (fail)
     go_wp2_with fail
     go_roundg (gk - 1)
     case measure=>have:=HK.out;omega
     case rel=>exact ⟨t + 1,by have:=HK.out;omega,by go_num,Lib.hid (fun i hi=>by
      by_cases e : i = t
      ·subst e;rw [← HX.out,← HY.out];exact HE.out
      ·exact HA.out i (by omega)),Lib.hid (by obtain ⟨n0,h0⟩:=HQ.out;exact ⟨_,by (rw [h0]) <;> (first | rfl | exact World.drewN_drewN _ _ _ | (rw [World.drewN_drewN];exact World.drewN_drewN _ _ _))⟩),by go_size,by (repeat' first|(with_reducible first|exact blR _ _|assumption|refine blD ?_|refine blN ?_ _)|((with_reducible first|refine blA ?_ ?_ _|refine blS ?_ ?_ _|refine blT (by assumption) ?_ ?_);focus (go_size;done)))⟩
  ·obtain rfl : t = a.length:=by omega
   have hz : z = 0:=by rw [HZ.out];exact cmpL_same HL.out HA.out
   subst hz
   clear hlt
   go_wp2_with fail
   go_ret
   (obtain ⟨n0,h0⟩:=HQ.out;exact ⟨rfl,_,by (rw [h0]) <;> (first | rfl | exact World.drewN_drewN _ _ _ | (rw [World.drewN_drewN];exact World.drewN_drewN _ _ _))⟩)
end Go.Proofs.YtkjecoanlppeaaaGreatDoor



namespace Go.Proofs.YtkjecoanlppeaaaGreatDoor
open Go.RowKit
open Go.ChangeShapes Go.WideShapes Go.ChangeAt
open Go.ChangeMaps (open_string shut_string)

theorem bulk_pos {H : Type} (d : DataW H) : 1 ≤ Rows.uptoBulk d:=by
 cases d with
 | lit l=>cases l <;> simp [Rows.uptoBulk]
 | _=>simp [Rows.uptoBulk]
theorem bulk_map {H : Type} (D : Nat → DataW H) : ∀ (n : Nat) (L : List Nat),L.length = n → Rows.uptoBulkAll (L.map D) = (L.map fun i=>Rows.uptoBulk (D i)).sum
 | 0,[],_=>rfl
 | n + 1,x :: r,h=>by
  rw [List.map_cons,List.map_cons,Rows.uptoBulkAll,List.sum_cons,bulk_map D n r (by simpa using h)]
theorem bulk_range {H : Type} (D : Nat → DataW H) (n : Nat) : Rows.uptoBulkAll ((List.range n).map D) = ((List.range n).map fun i=>Rows.uptoBulk (D i)).sum:=bulk_map D n _ (by simp)
theorem sum_range_succ (f : Nat → Nat) (n : Nat) : ((List.range (n + 1)).map f).sum = ((List.range n).map f).sum + f n:=by
 rw [List.range_succ,List.map_append,List.sum_append];simp
theorem sum_mem (f : Nat → Nat) : ∀ (n i : Nat),i < n → f i ≤ ((List.range n).map f).sum
 | 0,i,h=>absurd h (Nat.not_lt_zero _)
 | n + 1,i,h=>by
  rw [sum_range_succ]
  rcases Nat.lt_or_ge i n with h' | h'
  ·have:=sum_mem f n i h';omega
  ·obtain rfl : i = n:=by omega
   omega
theorem sum_pos (f : Nat → Nat) (hf : ∀ i,1 ≤ f i) : ∀ n,n ≤ ((List.range n).map f).sum
 | 0=>Nat.zero_le _
 | n + 1=>by
  rw [sum_range_succ]
  have:=sum_pos f hf n
  have:=hf n
  omega
theorem vds_of {P : Nat → VD → Prop} {f : Nat → Nat} : ∀ n,(∀ i,i < n → ∃ d,P i d ∧ d.size ≤ f i) → ∃ l : List VD,l.length = n ∧ (∀ i,i < n → P i (vg l i)) ∧ sizes l ≤ ((List.range n).map f).sum
 | 0,_=>⟨[],rfl,fun i hi=>absurd hi (Nat.not_lt_zero _),by simp [sizes]⟩
 | n + 1,h=>by
  obtain ⟨l,h1,h2,h3⟩:=vds_of (P:=P) (f:=f) n (fun i hi=>h i (by omega))
  obtain ⟨d,h4,h5⟩:=h n (by omega)
  refine ⟨l ++ [d],by rw [List.length_append,h1];rfl,fun i hi=>?_, ?_⟩
  ·unfold vg
   rcases Nat.lt_or_ge i n with h' | h'
   ·rw [List.getD_eq_getElem?_getD,List.getElem?_append_left (by omega)]
    have:=h2 i h'
    unfold vg at this
    rwa [List.getD_eq_getElem?_getD] at this
   ·obtain rfl : i = n:=by omega
    rw [List.getD_eq_getElem?_getD,List.getElem?_append_right (by omega),h1,Nat.sub_self]
    exact h4
  ·rw [sizes_append,sum_range_succ]
   simp only [sizes]
   omega
theorem nms_of {P : Nat → List UInt8 → Prop} : ∀ n,(∀ i,i < n → ∃ d,P i d) → ∃ l : List (List UInt8),l.length = n ∧ ∀ i,i < n → P i (ng l i)
 | 0,_=>⟨[],rfl,fun i hi=>absurd hi (Nat.not_lt_zero _)⟩
 | n + 1,h=>by
  obtain ⟨l,h1,h2⟩:=nms_of (P:=P) n (fun i hi=>h i (by omega))
  obtain ⟨d,h4⟩:=h n (by omega)
  refine ⟨l ++ [d],by rw [List.length_append,h1];rfl,fun i hi=>?_⟩
  unfold ng
  rcases Nat.lt_or_ge i n with h' | h'
  ·rw [List.getD_eq_getElem?_getD,List.getElem?_append_left (by omega)]
   have:=h2 i h'
   unfold ng at this
   rwa [List.getD_eq_getElem?_getD] at this
  ·obtain rfl : i = n:=by omega
   rw [List.getD_eq_getElem?_getD,List.getElem?_append_right (by omega),h1,Nat.sub_self]
   exact h4
section
variable {H : Type} {enc : TypeId × Value → H} {W : World} {b0 : Nat} {sp : Nat → Bool} {held : Bool}
theorem open_names {fuel : Nat} {c : Value} {x : DataW H × List MemPlace} (h : DataW.trod enc Tryz.prog W b0 sp held fuel 22 [c] = some x) (hb : Rows.uptoBulk x.1 ≤ 1048576) :
  ∃ A C l,c = .slice A l.length C ∧ Nms W c l:=by
 rcases Deep.open_slice1 Tryz.underlying22 (by kernel_rfl) h with ⟨hc,rfl⟩ | ⟨a,len,cap,m,n,V,D,Pl,hc,_,hl,hm,hmm,rfl,hx⟩
 ·injection hc with hc
  subst hc
  exact ⟨none,0,[],rfl,none,0,rfl,⟨by simp,by simp,by unfold maxLen;omega⟩,fun r hr=>absurd hr (by simp)⟩
 ·injection hc with hc
  subst hc
  have hle : len ≤ m:=by rw [hmm];split <;> omega
  simp only [Rows.uptoBulk] at hb
  rw [bulk_range] at hb
  have hlen : len ≤ 1048576:=by
   have:=sum_pos (fun i=>Rows.uptoBulk (D i)) (fun i=>bulk_pos _) len
   omega
  obtain ⟨b,o,spot⟩:=a
  obtain ⟨l,h1,h2⟩:=nms_of (P:=fun i s=>spot = none ∧ W.cell? ⟨b,o + i,none⟩ = some (.string ⟨s.toArray⟩) ∧ s.length ≤ 1048576) len (fun i hi=>by
   obtain ⟨h3,h4⟩:=hx i (by omega)
   obtain ⟨s,e1,e2,_⟩:=DataW.trod_string Tryz.underlying9 h4
   have hspot : spot = none:=by simpa [Addr.add] using World.cell?_spot (hx 0 (by omega)).1
   subst hspot
   injection e1 with e1
   refine ⟨s.data.toList,rfl, ?_, ?_⟩
   ·rw [← add_plain,h3,e1]
   ·have:=sum_mem (fun i=>Rows.uptoBulk (D i)) len i hi
    injection e2 with e2 _
    rw [e2] at this
    simp only [Rows.uptoBulk] at this
    omega)
  refine ⟨some ⟨b,o,spot⟩,cap,l,by rw [h1],some ⟨b,o,spot⟩,cap,by rw [h1],⟨by omega,by omega,by unfold maxLen at hm ⊢;omega⟩,fun r hr=>?_⟩
  obtain ⟨h3,h4,h5⟩:=h2 r (by omega)
  subst h3
  exact ⟨b,o,rfl,h4,h5⟩
theorem wd_split2 {x y : Int} (hx : (Lit.int .u64 x).wf = true) (hy : (Lit.int .u64 y).wf = true) : ∃ n,n < 2 ^ 128 ∧ x = wd n 1 ∧ y = wd n 0:=by
 have wf : ∀ z : Int,(Lit.int .u64 z).wf = true → 0 ≤ z ∧ z < 18446744073709551616:=fun z hz=>by
  have e1 : IntKind.u64.min = 0:=rfl
  have e2 : IntKind.u64.max = 18446744073709551615:=rfl
  simp [Lit.wf,e1,e2] at hz
  omega
 obtain ⟨x0,x1⟩:=wf x hx
 obtain ⟨y0,y1⟩:=wf y hy
 obtain ⟨n,hn,_,e1,e2⟩:=wd_make x y x0 x1 y0 y1
 exact ⟨n,hn,e1,e2⟩
set_option maxRecDepth 100000 in
theorem open_dec4 {fuel : Nat} {c0 c1 c2 c3 : Value} {x : DataW H × List MemPlace} (h : DataW.trod enc Tryz.prog W b0 sp held fuel 32 [c0,c1,c2,c3] = some x) :
  ∃ (b : Bool) (c : Nat) (s : Int),c < 2 ^ 128 ∧ c0 = .bool b ∧ c1 = .int .u64 (wd c 1) ∧ c2 = .int .u64 (wd c 0) ∧ c3 = .int .i64 s:=by
 obtain ⟨xs,n,_,hx,_,hlen,hg⟩:=DataW.trod_struct Tryz.underlying32 h
 have n0 : Tryz.prog.cellsOf 4 = 1:=by kernel_rfl
 have n1 : Tryz.prog.cellsOf 30 = 2:=by kernel_rfl
 have n2 : Tryz.prog.cellsOf 3 = 1:=by kernel_rfl
 have n3 : Tryz.prog.cellsOf 28 = 1:=by kernel_rfl
 have g0:=hg 0 _ rfl
 have g1:=hg 1 _ rfl
 have g2:=hg 2 _ rfl
 clear hg hx
 match xs,hlen with
 | [y0,y1,y2],_ =>
  simp only [List.getElem_toArray,List.getElem_cons_zero,List.getElem_cons_succ,n0,n1,n2] at g0 g1 g2
  simp at g0 g1 g2
  obtain ⟨b,e0,_⟩:=DataW.trod_bool Tryz.underlying4 g0
  obtain ⟨z2,e2,_,w2⟩:=DataW.trod_int Tryz.underlying3 g2
  obtain ⟨ys,n',_,_,_,hlen2,hg2⟩:=DataW.trod_struct Tryz.underlying30 g1
  have k0:=hg2 0 _ rfl
  have k1:=hg2 1 _ rfl
  match ys,hlen2 with
  | [q0,q1],_ =>
   simp only [List.getElem_toArray,List.getElem_cons_zero,List.getElem_cons_succ,n3] at k0 k1
   simp at k0 k1
   obtain ⟨z0,f0,_,v0⟩:=DataW.trod_int Tryz.underlying28 k0
   obtain ⟨z1,f1,_,v1⟩:=DataW.trod_int Tryz.underlying28 k1
   obtain ⟨c,hc,rfl,rfl⟩:=wd_split2 v0 v1
   simp at e0 e2 f0 f1
   exact ⟨b,c,z2,hc,e0,f0,f1,e2⟩
set_option maxRecDepth 100000 in
set_option maxHeartbeats 2000000 in
theorem open_cells : ∀ (N : Nat) (fuel : Nat) (cs : List Value) (x : DataW H × List MemPlace),Rows.uptoBulk x.1 ≤ N → N ≤ 1048576 → DataW.trod enc Tryz.prog W b0 sp held fuel 34 cs = some x →
  ∃ vd A C A2 C2,cs = vd.s.cs ++ [.slice A vd.list.length C,.slice A2 vd.names.length C2] ∧ RV W (.slice A vd.list.length C) (.slice A2 vd.names.length C2) vd ∧ vd.size ≤ Rows.uptoBulk x.1
 | 0,_,_,x,h,_,_=>by have:=bulk_pos x.1;omega
 | N + 1,fuel,cs,x,hN,hN2,h=>by
  obtain ⟨xs,n,_,hx,hcl,hlen,hg⟩:=DataW.trod_struct Tryz.underlying34 h
  have n0 : Tryz.prog.cellsOf 3 = 1:=by kernel_rfl
  have n1 : Tryz.prog.cellsOf 4 = 1:=by kernel_rfl
  have n2 : Tryz.prog.cellsOf 32 = 4:=by kernel_rfl
  have n3 : Tryz.prog.cellsOf 9 = 1:=by kernel_rfl
  have n4 : Tryz.prog.cellsOf 24 = 1:=by kernel_rfl
  have n5 : Tryz.prog.cellsOf 22 = 1:=by kernel_rfl
  have n6 : Tryz.prog.cellsOf 34 = 10:=by kernel_rfl
  rw [n6] at hcl
  have g0:=hg 0 _ rfl
  have g1:=hg 1 _ rfl
  have g2:=hg 2 _ rfl
  have g3:=hg 3 _ rfl
  have g4:=hg 4 _ rfl
  have g5:=hg 5 _ rfl
  have g6:=hg 6 _ rfl
  clear hg h
  match cs,hcl with
  | [c0,c1,c2,c3,c4,c5,c6,c7,c8,c9],_ =>
   match xs,hlen with
   | [y0,y1,y2,y3,y4,y5,y6],_ =>
    simp only [List.getElem_toArray,List.getElem_cons_zero,List.getElem_cons_succ,n0,n1,n2,n3,n4,n5] at g0 g1 g2 g3 g4 g5 g6
    simp at g0 g1 g2 g3 g4 g5 g6
    obtain ⟨kind,e0,r0,_⟩:=DataW.trod_int Tryz.underlying3 g0
    obtain ⟨yes,e1,r1⟩:=DataW.trod_bool Tryz.underlying4 g1
    obtain ⟨neg,coef,sc,hcoef,e2,e3,e4,e5⟩:=open_dec4 g2
    obtain ⟨text,e6,r6,_⟩:=DataW.trod_string Tryz.underlying9 g3
    obtain ⟨day,e7,r7,_⟩:=DataW.trod_int Tryz.underlying3 g4
    simp at e0 e1 e6 e7
    subst e0 e1 e2 e3 e4 e5 e6 e7
    subst hx
    simp only [Rows.uptoBulk,List.map_cons,List.map_nil,Rows.uptoBulkAll] at hN ⊢
    have hb3 : text.data.toList.length ≤ 1048576:=by
     have : Rows.uptoBulk y3.1 = text.data.toList.length + 1:=by rw [r6];rfl
     omega
    obtain ⟨A2,C2,nm,rfl,hnm⟩:=open_names g6 (by omega)
    rcases Deep.open_slice Tryz.underlying24 g5 with ⟨hc,rfl⟩ | ⟨a,len,cap,m,n',D,Pl,hc,_,hl,hm,hmm,rfl,hxs⟩
    ·injection hc with hc
     subst hc
     refine ⟨.mk ⟨kind,yes,neg,coef,sc,text.data.toList,day⟩ [] nm,none,0,A2,C2, ?_,RV.mk (d:=.mk ⟨kind,yes,neg,coef,sc,text.data.toList,day⟩ [] nm) ⟨hcoef,hb3⟩ ⟨none,0,rfl,⟨by simp [VD.list],by simp [VD.list],by unfold maxLen;omega⟩,fun r hr=>absurd hr (by simp [VD.list])⟩ hnm, ?_⟩
     ·simp [VS.cs,VD.s,VD.list,VD.names]
     ·simp [VD.size,sizes]
    ·injection hc with hc
     subst hc
     rw [n6] at hxs
     have hle : len ≤ m:=by rw [hmm];split <;> omega
     simp only [Rows.uptoBulk] at hN ⊢
     rw [bulk_range] at hN ⊢
     have hlen2 : len ≤ 1048576:=by
      have:=sum_pos (fun i=>Rows.uptoBulk (D i)) (fun i=>bulk_pos _) len
      omega
     obtain ⟨b,o,spot⟩:=a
     obtain ⟨l,h1,h2,h3⟩:=vds_of (P:=fun i vd=>spot = none ∧ ∃ A1 C1 A2 C2,At W b (o + i * 10) (vd.s.cs ++ [.slice A1 vd.list.length C1,.slice A2 vd.names.length C2]) ∧ RV W (.slice A1 vd.list.length C1) (.slice A2 vd.names.length C2) vd) (f:=fun i=>Rows.uptoBulk (D i)) len (fun i hi=>by
      obtain ⟨cs',q1,q2⟩:=hxs i (by omega)
      have hbi:=sum_mem (fun i=>Rows.uptoBulk (D i)) len i hi
      obtain ⟨vd,A1,C1,A3,C3,e,hrv,hs⟩:=open_cells N n' cs' (D i,Pl i) (by dsimp only;omega) (by omega) q2
      obtain ⟨_,hl10,hat⟩:=World.cells?_some q1
      have hspot : spot = none:=by
       obtain ⟨cs0,p1,_⟩:=hxs 0 (by omega)
       obtain ⟨_,hl0,hat0⟩:=World.cells?_some p1
       have h0:=hat0 0 (by omega)
       rw [List.getElem?_eq_getElem (by omega)] at h0
       simpa [Addr.add] using World.cell?_spot h0
      subst hspot
      refine ⟨vd,⟨rfl,A1,C1,A3,C3,fun j hj=>?_,hrv⟩,hs⟩
      rw [← e] at hj ⊢
      rw [← hat j (by omega)]
      congr 1
      rw [show ((⟨b,o,none⟩ : Addr).add (i * 10)) = ⟨b,o + i * 10,none⟩ from add_plain ..,show ((⟨b,o + i * 10,none⟩ : Addr).add j) = ⟨b,o + i * 10 + j,none⟩ from add_plain ..])
     refine ⟨.mk ⟨kind,yes,neg,coef,sc,text.data.toList,day⟩ l nm,some ⟨b,o,spot⟩,cap,A2,C2, ?_,RV.mk (d:=.mk ⟨kind,yes,neg,coef,sc,text.data.toList,day⟩ l nm) ⟨hcoef,hb3⟩ ⟨some ⟨b,o,spot⟩,cap,rfl,⟨?_, ?_, ?_⟩,fun r hr=>?_⟩ hnm, ?_⟩
     ·simp [VS.cs,VD.s,VD.list,VD.names,h1]
     ·show l.length ≤ _;omega
     ·show l.length ≤ _;omega
     ·unfold maxLen at hm ⊢;omega
     ·have hr' : r < l.length:=hr
      obtain ⟨q0,A1,C1,A3,C3,q1,q2⟩:=h2 r (by omega)
      subst q0
      exact ⟨b,o,A1,C1,A3,C3,rfl,q1,q2⟩
     ·show 1 + sizes l ≤ _
      omega
end
end Go.Proofs.YtkjecoanlppeaaaGreatDoor



namespace Go.Proofs.YtkjecoanlppeaaaGreatDoor
open Go.RowKit

set_option maxRecDepth 100000 in
set_option maxHeartbeats 2000000 in
theorem lists_any (order rows : List (List VD)) (O R : Value) (n : Nat) (w : World) (hso : ∀ t,t < order.length → SmallL (lg order t)) (hsr : ∀ t,t < rows.length → SmallL (lg rows t)) (ho : Lls w O order) (hr : Lls w R rows) (hn : n ≤ 1048576) :
  Calls Tryz.prog 29 #[O,R,.int .i64 n] w fun e w'=>e = .returned (.bool (listsB order rows n)) ∧ Below w.heap.size w w':=by
 obtain ⟨A,C,rfl,q1,_,_⟩:=ho.is
 obtain ⟨A2,C2,rfl,q2,_,_⟩:=hr.is
 have HO:=Lib.hid ho
 have HRW:=Lib.hid hr
 have HSO:=Lib.hid hso
 have HSR:=Lib.hid hsr
 obtain ⟨z,hz⟩ : ∃ z,z = listsB order rows n:=⟨_,rfl⟩
 have hzi:=listsB_iff (order:=order) (rows:=rows) (n:=n)
 rw [← hz] at hzi ⊢
 have HZ : Hid ((¬ (order.length = n ∧ rows.length ≤ 60 ∧ (∀ t,t < order.length → (lg order t).length ≤ 60 ∧ allC (lg order t) = true) ∧ (∀ t,t < rows.length → (lg rows t).length = n ∧ allC (lg rows t) = true)) → z = false) ∧ ((order.length = n ∧ rows.length ≤ 60 ∧ (∀ t,t < order.length → (lg order t).length ≤ 60 ∧ allC (lg order t) = true) ∧ (∀ t,t < rows.length → (lg rows t).length = n ∧ allC (lg rows t) = true)) → z = true)):=Lib.hid ⟨fun h=>by
  cases z with
  | false=>rfl
  | true=>exact absurd (hzi.1 rfl) h,hzi.2⟩
 have hol : (order.length : Int) ≤ 1048576:=by omega
 have hrl : (rows.length : Int) ≤ 1048576:=by omega
 have hnl : (n : Int) ≤ 1048576:=by omega
 clear hzi hz ho hr hso hsr q1 q2 hn
 by_cases h1 : order.length = n
 rotate_left
 ·have f1 : ((order.length : Int) != (n : Int)) = true:=by rw [bne_iff_ne];omega
  have hz : z = false:=HZ.out.1 (fun h=>h1 h.1)
  subst hz
  clear h1 HZ
  go_enter Tryz.func29,Tryz.ntmps29
  go_wp2_with fail
  all_goals (go_ret;exact ⟨rfl,by (repeat' first|(with_reducible first|exact blR _ _|assumption|refine blD ?_|refine blN ?_ _)|((with_reducible first|refine blA ?_ ?_ _|refine blS ?_ ?_ _|refine blT (by assumption) ?_ ?_);focus (go_size;done)))⟩)
 have f1 : ((order.length : Int) != (n : Int)) = false:=by rw [bne_eq_false_iff_eq];omega
 have H1:=Lib.hid h1
 clear h1
 by_cases h2 : rows.length ≤ 60
 rotate_left
 ·have f2 : (60 : Int) < (rows.length : Int):=by omega
  have hz : z = false:=HZ.out.1 (fun h=>h2 h.2.1)
  subst hz
  clear h2 HZ
  go_enter Tryz.func29,Tryz.ntmps29
  go_wp2_with fail
  go_ret
  exact ⟨rfl,by (repeat' first|(with_reducible first|exact blR _ _|assumption|refine blD ?_|refine blN ?_ _)|((with_reducible first|refine blA ?_ ?_ _|refine blS ?_ ?_ _|refine blT (by assumption) ?_ ?_);focus (go_size;done)))⟩
 have f2 : ¬ (60 : Int) < (rows.length : Int):=by omega
 have H2:=Lib.hid h2
 clear h2
 go_enter Tryz.func29,Tryz.ntmps29
 go_wp2_with fail
 go_loopg [7] order.length (fun k s7 wr=>∃ t : Nat,k + t = order.length ∧ s7 = .int .i64 t ∧ Hid (∀ i,i < t → (lg order i).length ≤ 60 ∧ allC (lg order i) = true) ∧ w.heap.size ≤ wr.heap.size ∧ Below w.heap.size w wr)
 case atStart=>exact ⟨0,by omega,rfl,Lib.hid (fun i hi=>absurd hi (Nat.not_lt_zero _)),by omega,by (repeat' first|(with_reducible first|exact blR _ _|assumption|refine blD ?_|refine blN ?_ _)|((with_reducible first|refine blA ?_ ?_ _|refine blS ?_ ?_ _|refine blT (by assumption) ?_ ?_);focus (go_size;done)))⟩
 case round =>
  obtain ⟨t,hk,rfl,HA,hsz,hbel⟩:=hrel
  have HK:=Lib.hid hk
  have htl : t ≤ order.length:=by omega
  clear hk
  by_cases hlt : t < order.length
  ·obtain ⟨b,o,B1,D1,rfl,hcell,hv⟩:=(HO.out.below hbel).at hlt
   have lb:=vcell_lt hcell
   have htc : (t : Int) < (order.length : Int):=by omega
   obtain ⟨_,_,_,hxl⟩:=hv.is
   have hsm:=HSO.out t hlt
   obtain ⟨x,hxx⟩ : ∃ x,x = lg order t:=⟨_,rfl⟩
   rw [← hxx] at hv hcell hxl hsm
   have HX:=Lib.hid hxx
   have HC:=Lib.hid (rvalues_any x _ wr hv hsm)
   obtain ⟨q,hq⟩ : ∃ q,q = allC x:=⟨_,rfl⟩
   rw [← hq] at HC
   have HQ:=Lib.hid hq
   obtain ⟨n1,hn1⟩ : ∃ n1,n1 = x.length:=⟨_,rfl⟩
   rw [← hn1] at hcell HC hxl
   have HN1:=Lib.hid hn1
   clear hxx hv hq hn1 hsm
   by_cases h60 : n1 ≤ 60
   ·have g60 : ¬ (60 : Int) < (n1 : Int):=by omega
    cases q with
    | true =>
     go_wp2_with ((go_at_call 43;with_reducible refine (HC.out).mono ?_);rintro _ w2 ⟨rfl,hb2⟩;have hb2s:=hb2.size;(try simp only [wsA,wsS,wsD,wsN] at hb2s);obtain ⟨hb2c,hb2f⟩:=bcell hb2;(try have : w.heap.size < w2.heap.size:=by omega);(try have : w.heap.size + 1 < w2.heap.size:=by omega);(try have : w.heap.size + 1 + 1 < w2.heap.size:=by omega);(try have : w.heap.size + 1 + 1 + 1 < w2.heap.size:=by omega))
     go_roundg (gk - 1)
     case measure=>have:=HK.out;omega
     case rel=>exact ⟨t + 1,by have:=HK.out;omega,by go_num,Lib.hid (fun i hi=>by
      by_cases e : i = t
      ·subst e;rw [← HX.out,← HN1.out,← HQ.out];exact ⟨h60,rfl⟩
      ·exact HA.out i (by omega)),by omega,by (repeat' first|(with_reducible first|exact blR _ _|assumption|refine blD ?_|refine blN ?_ _)|((with_reducible first|refine blA ?_ ?_ _|refine blS ?_ ?_ _|refine blT (by assumption) ?_ ?_);focus (go_size;done)))⟩
    | false =>
     have hz : z = false:=HZ.out.1 (fun h=>by
      have:=(h.2.2.1 t hlt).2
      rw [← HX.out,← HQ.out] at this;exact Bool.noConfusion this)
     subst hz
     go_wp2_with ((go_at_call 43;with_reducible refine (HC.out).mono ?_);rintro _ w2 ⟨rfl,hb2⟩;have hb2s:=hb2.size;(try simp only [wsA,wsS,wsD,wsN] at hb2s);obtain ⟨hb2c,hb2f⟩:=bcell hb2;(try have : w.heap.size < w2.heap.size:=by omega);(try have : w.heap.size + 1 < w2.heap.size:=by omega);(try have : w.heap.size + 1 + 1 < w2.heap.size:=by omega);(try have : w.heap.size + 1 + 1 + 1 < w2.heap.size:=by omega))
     go_ret
     exact ⟨rfl,by (repeat' first|(with_reducible first|exact blR _ _|assumption|refine blD ?_|refine blN ?_ _)|((with_reducible first|refine blA ?_ ?_ _|refine blS ?_ ?_ _|refine blT (by assumption) ?_ ?_);focus (go_size;done)))⟩
   ·have g60 : (60 : Int) < (n1 : Int):=by omega
    have hz : z = false:=HZ.out.1 (fun h=>by
     have:=(h.2.2.1 t hlt).1
     rw [← HX.out,← HN1.out] at this;exact h60 this)
    subst hz
    clear h60
    go_wp2_with fail
    go_ret
    exact ⟨rfl,by (repeat' first|(with_reducible first|exact blR _ _|assumption|refine blD ?_|refine blN ?_ _)|((with_reducible first|refine blA ?_ ?_ _|refine blS ?_ ?_ _|refine blT (by assumption) ?_ ?_);focus (go_size;done)))⟩
  ·obtain rfl : t = order.length:=by omega
   have HA1:=Lib.hid HA.out
   clear HA hlt
   go_wp2_with fail
   obtain ⟨wo,hwo⟩ : ∃ wo : World,wo = wr:=⟨_,rfl⟩
   clear hwo
   go_loopg [8] rows.length (fun k s8 wr=>∃ t : Nat,k + t = rows.length ∧ s8 = .int .i64 t ∧ Hid (∀ i,i < t → (lg rows i).length = n ∧ allC (lg rows i) = true) ∧ w.heap.size ≤ wr.heap.size ∧ Below w.heap.size w wr)
   case atStart=>exact ⟨0,by omega,rfl,Lib.hid (fun i hi=>absurd hi (Nat.not_lt_zero _)),by omega,by (repeat' first|(with_reducible first|exact blR _ _|assumption|refine blD ?_|refine blN ?_ _)|((with_reducible first|refine blA ?_ ?_ _|refine blS ?_ ?_ _|refine blT (by assumption) ?_ ?_);focus (go_size;done)))⟩
   case round =>
    obtain ⟨t,hk,rfl,HB,hsz2,hbel2⟩:=hrel
    have HK2:=Lib.hid hk
    have htl2 : t ≤ rows.length:=by omega
    clear hk
    by_cases hlt : t < rows.length
    ·obtain ⟨b,o,B1,D1,rfl,hcell,hv⟩:=(HRW.out.below hbel2).at hlt
     have lb:=vcell_lt hcell
     have htc : (t : Int) < (rows.length : Int):=by omega
     obtain ⟨_,_,_,hxl⟩:=hv.is
     have hsm:=HSR.out t hlt
     obtain ⟨x,hxx⟩ : ∃ x,x = lg rows t:=⟨_,rfl⟩
     rw [← hxx] at hv hcell hxl hsm
     have HX:=Lib.hid hxx
     have HC:=Lib.hid (rvalues_any x _ wr hv hsm)
     obtain ⟨q,hq⟩ : ∃ q,q = allC x:=⟨_,rfl⟩
     rw [← hq] at HC
     have HQ:=Lib.hid hq
     obtain ⟨n1,hn1⟩ : ∃ n1,n1 = x.length:=⟨_,rfl⟩
     rw [← hn1] at hcell HC hxl
     have HN1:=Lib.hid hn1
     clear hxx hv hq hn1 hsm
     by_cases hnn : n1 = n
     ·have g0 : ((n1 : Int) != (n : Int)) = false:=by rw [bne_eq_false_iff_eq];omega
      have HNN:=Lib.hid hnn
      clear hnn
      cases q with
      | true =>
       go_wp2_with ((go_at_call 43;with_reducible refine (HC.out).mono ?_);rintro _ w2 ⟨rfl,hb2⟩;have hb2s:=hb2.size;(try simp only [wsA,wsS,wsD,wsN] at hb2s);obtain ⟨hb2c,hb2f⟩:=bcell hb2;(try have : w.heap.size < w2.heap.size:=by omega);(try have : w.heap.size + 1 < w2.heap.size:=by omega);(try have : w.heap.size + 1 + 1 < w2.heap.size:=by omega);(try have : w.heap.size + 1 + 1 + 1 < w2.heap.size:=by omega))
       go_roundg (gk - 1)
       case measure=>have:=HK2.out;omega
       case rel=>exact ⟨t + 1,by have:=HK2.out;omega,by go_num,Lib.hid (fun i hi=>by
        by_cases e : i = t
        ·subst e;rw [← HX.out,← HN1.out,← HQ.out];exact ⟨HNN.out,rfl⟩
        ·exact HB.out i (by omega)),by omega,by (repeat' first|(with_reducible first|exact blR _ _|assumption|refine blD ?_|refine blN ?_ _)|((with_reducible first|refine blA ?_ ?_ _|refine blS ?_ ?_ _|refine blT (by assumption) ?_ ?_);focus (go_size;done)))⟩
      | false =>
       have hz : z = false:=HZ.out.1 (fun h=>by
        have:=(h.2.2.2 t hlt).2
        rw [← HX.out,← HQ.out] at this;exact Bool.noConfusion this)
       subst hz
       go_wp2_with ((go_at_call 43;with_reducible refine (HC.out).mono ?_);rintro _ w2 ⟨rfl,hb2⟩;have hb2s:=hb2.size;(try simp only [wsA,wsS,wsD,wsN] at hb2s);obtain ⟨hb2c,hb2f⟩:=bcell hb2;(try have : w.heap.size < w2.heap.size:=by omega);(try have : w.heap.size + 1 < w2.heap.size:=by omega);(try have : w.heap.size + 1 + 1 < w2.heap.size:=by omega);(try have : w.heap.size + 1 + 1 + 1 < w2.heap.size:=by omega))
       go_ret
       exact ⟨rfl,by (repeat' first|(with_reducible first|exact blR _ _|assumption|refine blD ?_|refine blN ?_ _)|((with_reducible first|refine blA ?_ ?_ _|refine blS ?_ ?_ _|refine blT (by assumption) ?_ ?_);focus (go_size;done)))⟩
     ·have g0 : ((n1 : Int) != (n : Int)) = true:=by rw [bne_iff_ne];omega
      have hz : z = false:=HZ.out.1 (fun h=>by
       have:=(h.2.2.2 t hlt).1
       rw [← HX.out,← HN1.out] at this;exact hnn this)
      subst hz
      clear hnn
      go_wp2_with fail
      go_ret
      exact ⟨rfl,by (repeat' first|(with_reducible first|exact blR _ _|assumption|refine blD ?_|refine blN ?_ _)|((with_reducible first|refine blA ?_ ?_ _|refine blS ?_ ?_ _|refine blT (by assumption) ?_ ?_);focus (go_size;done)))⟩
    ·obtain rfl : t = rows.length:=by omega
     have hz : z = true:=HZ.out.2 ⟨H1.out,H2.out,HA1.out,HB.out⟩
     subst hz
     clear hlt
     go_wp2_with fail
     go_ret
     exact ⟨rfl,by (repeat' first|(with_reducible first|exact blR _ _|assumption|refine blD ?_|refine blN ?_ _)|((with_reducible first|refine blA ?_ ?_ _|refine blS ?_ ?_ _|refine blT (by assumption) ?_ ?_);focus (go_size;done)))⟩
end Go.Proofs.YtkjecoanlppeaaaGreatDoor

