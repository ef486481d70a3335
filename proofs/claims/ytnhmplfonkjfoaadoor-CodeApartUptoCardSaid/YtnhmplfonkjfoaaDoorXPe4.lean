/- What this law reaches beyond the common contracts, part 4. -/
import Derived.IntWalk
import Derived.BigRegion
import Derived.Deep.Upon
import Derived.OwnWalk
import Derived.BigQuiet
import Derived.Deep.DeepCutAuto
import Derived.Test.YtnhmplfonkjfoaaDoorM2
import Derived.Test.YtnhmplfonkjfoaaDoorXPe3
set_option linter.unusedSimpArgs false
set_option linter.unusedVariables false


namespace Go.Proofs.YtnhmplfonkjfoaaDoor
open Go.RowKit

set_option maxHeartbeats 1000000 in
theorem rchar_any (r : Nat) (w : World) : Calls Tryd.prog 74 #[.int .i64 r] w fun e w'=>e = .returned (.bool (chr r)) ∧ w = w':=by
 obtain ⟨z,hz⟩ : ∃ z,z = chr r:=⟨_,rfl⟩
 have hc : z = true ↔ chrP r:=by rw [hz];exact decide_eq_true_iff
 rw [← hz]
 have HC:=Far.mk hc
 clear hz hc
 go_enter Tryd.func74,Tryd.ntmps74
 go_wp2
 all_goals go_ret
 all_goals refine ⟨ret_bool ?_,rfl⟩
 all_goals rw [Bool.eq_iff_iff,HC.out]
 all_goals clear HC
 all_goals simp [chrP]
 all_goals (first | done | omega | (simp_all;done) | (simp_all;omega))
set_option maxRecDepth 100000 in
theorem and192 : ∀ X : Fin 256,bits .and .u8 ((X.val : Nat) : Int) 192 = ((X.val / 64 * 64 : Nat) : Int):=by decide
set_option maxRecDepth 100000 in
theorem and63 : ∀ X : Fin 256,bits .and .u8 ((X.val : Nat) : Int) 63 = ((X.val % 64 : Nat) : Int):=by decide
def tailL (l : List UInt8) (p : Nat) : Nat × Bool:=if p < l.length ∧ (l.getD p 0).toNat / 64 = 2 then ((l.getD p 0).toNat % 64,true) else (0,false)
set_option maxHeartbeats 1000000 in
theorem tail_any (l : List UInt8) (hl : l.length ≤ 9223372036854775000) (p : Nat) (hp : p ≤ l.length + 10) (w : World) :
  Calls Tryd.prog 80 #[.string ⟨l.toArray⟩,.int .i64 p] w fun e w'=>e = .returned (.tuple #[.int .i64 (tailL l p).1,.bool (tailL l p).2]) ∧ w = w':=by
 by_cases hlt : p < l.length
 ·have hs : p < (⟨l.toArray⟩ : ByteArray).size:=by show p < l.toArray.size;simpa using hlt
  have hc : (⟨l.toArray⟩ : ByteArray)[p] = l.getD p 0:=by
   rw [List.getD_eq_getElem?_getD,List.getElem?_eq_getElem hlt];rfl
  have hu:=UInt8.toNat_lt (l.getD p 0)
  have hg : l[p] = l.getD p 0:=by rw [List.getD_eq_getElem?_getD,List.getElem?_eq_getElem hlt];rfl
  obtain ⟨c,hcc⟩ : ∃ c,c = (l.getD p 0).toNat:=⟨_,rfl⟩
  have b1:=and192 ⟨c,by omega⟩
  have b2:=and63 ⟨c,by omega⟩
  dsimp only at b1 b2
  by_cases ht : c / 64 = 2
  ·have e : tailL l p = (c % 64,true):=by unfold tailL;rw [← hcc,if_pos ⟨hlt,ht⟩]
   rw [e]
   rw [ht] at b1
   have b1a : bits .and .u8 (l[p].toNat : Int) 192 = 128:=by rw [hg,← hcc];exact b1
   have b1b : bits .and .u8 ((⟨l.toArray⟩ : ByteArray)[p].toNat : Int) 192 = 128:=by rw [hc,← hcc];exact b1
   have b2a : bits .and .u8 (l[p].toNat : Int) 63 = ((c % 64 : Nat) : Int):=by rw [hg,← hcc];exact b2
   have b2b : bits .and .u8 ((⟨l.toArray⟩ : ByteArray)[p].toNat : Int) 63 = ((c % 64 : Nat) : Int):=by rw [hc,← hcc];exact b2
   have hlp : ¬ l.length ≤ p:=by omega
   obtain ⟨d,hd⟩ : ∃ d,d = c % 64:=⟨_,rfl⟩
   rw [← hd] at b2a b2b ⊢
   have hd2 : d ≤ 63:=by omega
   clear b1 b2 hc hg hcc e ht hd hu
   go_enter Tryd.func80,Tryd.ntmps80
   go_wp2_with fail
   go_ret2
   exact ⟨rfl,rfl⟩
  ·have e : tailL l p = (0,false):=by unfold tailL;rw [← hcc,if_neg (fun h=>ht h.2)]
   rw [e]
   obtain ⟨q,hq⟩ : ∃ q : Int,q = ((c / 64 * 64 : Nat) : Int):=⟨_,rfl⟩
   have b1a : bits .and .u8 (l[p].toNat : Int) 192 = q:=by rw [hg,← hcc,hq];exact b1
   have b1b : bits .and .u8 ((⟨l.toArray⟩ : ByteArray)[p].toNat : Int) 192 = q:=by rw [hc,← hcc,hq];exact b1
   have hq2 : (q != 128) = true:=by simp;omega
   have hlp : ¬ l.length ≤ p:=by omega
   clear b1 b2 hc hg hcc e ht hu hq
   go_enter Tryd.func80,Tryd.ntmps80
   go_wp2_with fail
   go_ret2
   exact ⟨rfl,rfl⟩
 ·have e : tailL l p = (0,false):=by unfold tailL;rw [if_neg (fun h=>hlt h.1)]
  rw [e]
  have hge : (l.length : Int) ≤ (p : Int):=by omega
  go_enter Tryd.func80,Tryd.ntmps80
  go_wp2_with fail
  go_ret2
  exact ⟨rfl,rfl⟩
set_option maxRecDepth 100000 in
theorem and31 : ∀ X : Fin 256,bits .and .i64 ((X.val : Nat) : Int) 31 = ((X.val % 32 : Nat) : Int):=by decide
set_option maxRecDepth 100000 in
theorem and15 : ∀ X : Fin 256,bits .and .i64 ((X.val : Nat) : Int) 15 = ((X.val % 16 : Nat) : Int):=by decide
set_option maxRecDepth 100000 in
theorem and7 : ∀ X : Fin 256,bits .and .i64 ((X.val : Nat) : Int) 7 = ((X.val % 8 : Nat) : Int):=by decide
def oneA (l : List UInt8) (i : Nat) : Nat × Nat × Bool:=oneN (l.length - i) (l.getD i 0).toNat (l.getD (i + 1) 0).toNat (l.getD (i + 2) 0).toNat (l.getD (i + 3) 0).toNat
def okT (l : List UInt8) (i j : Nat) : Prop:=i + j < l.length ∧ (l.getD (i + j) 0).toNat / 64 = 2
def accF (c : Nat) (l : List UInt8) (i : Nat) : Nat → Nat
 | 0=>c
 | j + 1=>accF c l i j * 64 + (l.getD (i + (j + 1)) 0).toNat % 64
theorem yes2 {l : List UInt8} {i : Nat} (hb : 192 ≤ (l.getD i 0).toNat ∧ (l.getD i 0).toNat < 224) (h : ∀ j,1 ≤ j → j < 2 → okT l i j) : oneA l i = (accF ((l.getD i 0).toNat % 32) l i (2 - 1),2,decide (128 ≤ accF ((l.getD i 0).toNat % 32) l i (2 - 1))):=by
 have h1:=h 1 (by omega) (by omega)
 unfold okT at h1
 unfold oneA oneN
 rw [if_neg (by omega),if_pos hb,if_pos ⟨by omega,h1.2⟩];rfl
theorem yes3 {l : List UInt8} {i : Nat} (hb : 224 ≤ (l.getD i 0).toNat ∧ (l.getD i 0).toNat < 240) (h : ∀ j,1 ≤ j → j < 3 → okT l i j) : oneA l i = (accF ((l.getD i 0).toNat % 16) l i (3 - 1),3,decide (2048 ≤ accF ((l.getD i 0).toNat % 16) l i (3 - 1))):=by
 have h1:=h 1 (by omega) (by omega)
 have h2:=h 2 (by omega) (by omega)
 unfold okT at h1 h2
 unfold oneA oneN
 rw [if_neg (by omega),if_neg (by omega),if_pos hb,if_pos ⟨by omega,h1.2⟩,if_pos ⟨by omega,h2.2⟩];rfl
theorem yes4 {l : List UInt8} {i : Nat} (hb : 240 ≤ (l.getD i 0).toNat ∧ (l.getD i 0).toNat < 248) (h : ∀ j,1 ≤ j → j < 4 → okT l i j) : oneA l i = (accF ((l.getD i 0).toNat % 8) l i (4 - 1),4,decide (65536 ≤ accF ((l.getD i 0).toNat % 8) l i (4 - 1))):=by
 have h1:=h 1 (by omega) (by omega)
 have h2:=h 2 (by omega) (by omega)
 have h3:=h 3 (by omega) (by omega)
 unfold okT at h1 h2 h3
 unfold oneA oneN
 rw [if_neg (by omega),if_neg (by omega),if_neg (by omega),if_pos hb,if_pos ⟨by omega,h1.2⟩,if_pos ⟨by omega,h2.2⟩,if_pos ⟨by omega,h3.2⟩];rfl
theorem no2 {l : List UInt8} {i j : Nat} (hb : 192 ≤ (l.getD i 0).toNat ∧ (l.getD i 0).toNat < 224) (a : 1 ≤ j) (b : j < 2) (h : ¬ okT l i j) : oneA l i = (0,0,false):=by
 obtain rfl : j = 1:=by omega
 unfold okT at h
 unfold oneA oneN
 rw [if_neg (by omega),if_pos hb,if_neg (fun hh=>h ⟨by omega,hh.2⟩)]
theorem no3 {l : List UInt8} {i j : Nat} (hb : 224 ≤ (l.getD i 0).toNat ∧ (l.getD i 0).toNat < 240) (a : 1 ≤ j) (b : j < 3) (h : ¬ okT l i j) : oneA l i = (0,0,false):=by
 unfold okT at h
 unfold oneA oneN
 rw [if_neg (by omega),if_neg (by omega),if_pos hb]
 have hj : j = 1 ∨ j = 2:=by omega
 rcases hj with rfl | rfl
 ·rw [if_neg (fun hh=>h ⟨by omega,hh.2⟩)]
 ·rw [if_neg (c:=2 < l.length - i ∧ _) (fun hh=>h ⟨by omega,hh.2⟩)]
  split <;> rfl
theorem no4 {l : List UInt8} {i j : Nat} (hb : 240 ≤ (l.getD i 0).toNat ∧ (l.getD i 0).toNat < 248) (a : 1 ≤ j) (b : j < 4) (h : ¬ okT l i j) : oneA l i = (0,0,false):=by
 unfold okT at h
 unfold oneA oneN
 rw [if_neg (by omega),if_neg (by omega),if_neg (by omega),if_pos hb]
 have hj : j = 1 ∨ j = 2 ∨ j = 3:=by omega
 rcases hj with rfl | rfl | rfl
 ·rw [if_neg (fun hh=>h ⟨by omega,hh.2⟩)]
 ·rw [if_neg (c:=2 < l.length - i ∧ _) (fun hh=>h ⟨by omega,hh.2⟩)]
  split <;> rfl
 ·rw [if_neg (c:=3 < l.length - i ∧ _) (fun hh=>h ⟨by omega,hh.2⟩)]
  split
  ·split <;> rfl
  ·rfl
set_option maxRecDepth 100000 in
set_option maxHeartbeats 2000000 in
theorem chone_any (l : List UInt8) (hl : l.length ≤ 9223372036854770000) (i : Nat) (hi : i < l.length) (w : World) :
  Calls Tryd.prog 73 #[.string ⟨l.toArray⟩,.int .i64 i] w fun e w'=>e = .returned (.tuple #[.int .i64 (oneA l i).1,.int .i64 (oneA l i).2.1,.bool (oneA l i).2.2]) ∧ w = w':=by
 have hs : i < (⟨l.toArray⟩ : ByteArray).size:=by show i < l.toArray.size;simpa using hi
 have hc : (⟨l.toArray⟩ : ByteArray)[i] = l.getD i 0:=by
  rw [List.getD_eq_getElem?_getD,List.getElem?_eq_getElem hi];rfl
 have hg : l[i] = l.getD i 0:=by rw [List.getD_eq_getElem?_getD,List.getElem?_eq_getElem hi];rfl
 have hu:=UInt8.toNat_lt (l.getD i 0)
 have hcase : ((l.getD i 0).toNat ≤ 127) ∨ (128 ≤ (l.getD i 0).toNat ∧ (l.getD i 0).toNat ≤ 191) ∨ (192 ≤ (l.getD i 0).toNat ∧ (l.getD i 0).toNat ≤ 223) ∨ (224 ≤ (l.getD i 0).toNat ∧ (l.getD i 0).toNat ≤ 239) ∨ (240 ≤ (l.getD i 0).toNat ∧ (l.getD i 0).toNat ≤ 247) ∨ (248 ≤ (l.getD i 0).toNat):=by omega
 rcases hcase with hcase | hcase | hcase | hcase | hcase | hcase
 ·have e : oneA l i = ((l.getD i 0).toNat,1,true):=by unfold oneA oneN;rw [if_pos (by omega)]
  rw [e]
  have x1 : (0 : Int) ≤ ((⟨l.toArray⟩ : ByteArray)[i].toNat : Int):=by rw [hc];omega
  have x2 : ((⟨l.toArray⟩ : ByteArray)[i].toNat : Int) ≤ (127 : Int):=by rw [hc];omega
  have x3 : (0 : Int) ≤ (l[i].toNat : Int):=by rw [hg];omega
  have x4 : (l[i].toNat : Int) ≤ (127 : Int):=by rw [hg];omega
  have HC:=Lib.hid hc
  clear hc hg hcase e
  go_enter Tryd.func73,Tryd.ntmps73
  go_wp2_with fail
  go_ret3
  exact ⟨by rw [← HC.out];rfl,rfl⟩
 ·have e : oneA l i = (0,0,false):=by unfold oneA oneN;rw [if_neg (by omega),if_neg (by omega),if_neg (by omega),if_neg (by omega)]
  rw [e]
  have x1 : (128 : Int) ≤ ((⟨l.toArray⟩ : ByteArray)[i].toNat : Int):=by rw [hc];omega
  have x2 : ((⟨l.toArray⟩ : ByteArray)[i].toNat : Int) ≤ (191 : Int):=by rw [hc];omega
  have x3 : (128 : Int) ≤ (l[i].toNat : Int):=by rw [hg];omega
  have x4 : (l[i].toNat : Int) ≤ (191 : Int):=by rw [hg];omega
  clear hc hg hcase e
  go_enter Tryd.func73,Tryd.ntmps73
  go_wp2_with fail
  go_ret3
  exact ⟨rfl,rfl⟩
 ·have tk:=trivial
  obtain ⟨c0,hc0⟩ : ∃ c0,c0 = (l.getD i 0).toNat % 32:=⟨_,rfl⟩
  have m1 : bits .and .i64 ((⟨l.toArray⟩ : ByteArray)[i].toNat : Int) 31 = (c0 : Int):=by rw [hc,hc0];exact and31 ⟨(l.getD i 0).toNat,UInt8.toNat_lt _⟩
  have m2 : bits .and .i64 (l[i].toNat : Int) 31 = (c0 : Int):=by rw [hg,hc0];exact and31 ⟨(l.getD i 0).toNat,UInt8.toNat_lt _⟩
  have hcl : c0 < 32:=by omega
  have x1 : (192 : Int) ≤ ((⟨l.toArray⟩ : ByteArray)[i].toNat : Int):=by rw [hc];omega
  have x2 : ((⟨l.toArray⟩ : ByteArray)[i].toNat : Int) ≤ (223 : Int):=by rw [hc];omega
  have x3 : (192 : Int) ≤ (l[i].toNat : Int):=by rw [hg];omega
  have x4 : (l[i].toNat : Int) ≤ (223 : Int):=by rw [hg];omega
  have HYES : Far ((∀ j,1 ≤ j → j < 2 → okT l i j) → oneA l i = (accF c0 l i (2 - 1),2,decide (128 ≤ accF c0 l i (2 - 1)))):=Far.mk (fun h=>by rw [hc0];exact yes2 ⟨by omega,by omega⟩ h)
  have HNO : Far (∀ j,1 ≤ j → j < 2 → ¬ okT l i j → oneA l i = (0,0,false)):=Far.mk (fun j a b h=>no2 ⟨by omega,by omega⟩ a b h)
  have y224a : ((⟨l.toArray⟩ : ByteArray)[i].toNat : Int) < 224 ↔ (223 : Int) < 224:=by rw [hc];omega
  have y224b : (l[i].toNat : Int) < 224 ↔ (223 : Int) < 224:=by rw [hg];omega
  have z224a : decide (((⟨l.toArray⟩ : ByteArray)[i].toNat : Int) < 224) = decide ((223 : Int) < 224):=by rw [decide_eq_decide];exact y224a
  have z224b : decide ((l[i].toNat : Int) < 224) = decide ((223 : Int) < 224):=by rw [decide_eq_decide];exact y224b
  simp at z224a z224b
  clear y224a y224b
  have y240a : ((⟨l.toArray⟩ : ByteArray)[i].toNat : Int) < 240 ↔ (223 : Int) < 240:=by rw [hc];omega
  have y240b : (l[i].toNat : Int) < 240 ↔ (223 : Int) < 240:=by rw [hg];omega
  have z240a : decide (((⟨l.toArray⟩ : ByteArray)[i].toNat : Int) < 240) = decide ((223 : Int) < 240):=by rw [decide_eq_decide];exact y240a
  have z240b : decide ((l[i].toNat : Int) < 240) = decide ((223 : Int) < 240):=by rw [decide_eq_decide];exact y240b
  simp at z240a z240b
  clear y240a y240b
  have y248a : ((⟨l.toArray⟩ : ByteArray)[i].toNat : Int) < 248 ↔ (223 : Int) < 248:=by rw [hc];omega
  have y248b : (l[i].toNat : Int) < 248 ↔ (223 : Int) < 248:=by rw [hg];omega
  have z248a : decide (((⟨l.toArray⟩ : ByteArray)[i].toNat : Int) < 248) = decide ((223 : Int) < 248):=by rw [decide_eq_decide];exact y248a
  have z248b : decide ((l[i].toNat : Int) < 248) = decide ((223 : Int) < 248):=by rw [decide_eq_decide];exact y248b
  simp at z248a z248b
  clear y248a y248b
  clear hc hg hc0 hcase
  go_enter Tryd.func73,Tryd.ntmps73
  go_wp2_with fail
  go_loopg [7,10] (2 - 1) (fun k s7 s10 wr=>∃ t c : Nat,k + t = 2 ∧ 1 ≤ t ∧ s7 = .int .i64 c ∧ s10 = .int .i64 t ∧ Hid (c = accF c0 l i (t - 1)) ∧ Hid (c < 32 * 64 ^ (t - 1)) ∧ Hid (∀ j,1 ≤ j → j < t → okT l i j) ∧ w = wr)
  case atStart=>exact ⟨1,c0,by omega,Nat.le_refl _,rfl,rfl,Lib.hid rfl,Lib.hid hcl,Lib.hid (fun j a b=>by omega),rfl⟩
  case round =>
   obtain ⟨t,c,hk,ht1,rfl,rfl,HCA,HCB,HOK,rfl⟩:=hrel
   have HK:=Lib.hid hk
   have htn : t ≤ 2:=by omega
   have hcb : c < 8388608:=by
    have:=HCB.out
    have h4 : t = 1 ∨ t = 2 ∨ t = 3 ∨ t = 4:=by omega
    rcases h4 with rfl | rfl | rfl | rfl <;> (simp at this;omega)
   clear hk
   by_cases hlt : t < 2
   ·obtain ⟨p,hp⟩ : ∃ p,p = i + t:=⟨_,rfl⟩
    have hpi : (i : Int) + (t : Int) = (p : Int):=by omega
    have HT:=Lib.hid (tail_any l (by omega) p (by omega) w)
    by_cases hok : okT l i t
    ·have et : tailL l p = ((l.getD p 0).toNat % 64,true):=by unfold tailL;rw [if_pos (by rw [hp];exact hok)]
     rw [et] at HT
     obtain ⟨x,hx⟩ : ∃ x,x = (l.getD p 0).toNat % 64:=⟨_,rfl⟩
     rw [← hx] at HT
     have hx2 : x ≤ 63:=by omega
     have hca : Hid (c * 64 + x = accF c0 l i (t + 1 - 1)):=Lib.hid (by
      have e1 : t + 1 - 1 = (t - 1) + 1:=by omega
      rw [e1]
      show c * 64 + x = accF c0 l i (t - 1) * 64 + (l.getD (i + (t - 1 + 1)) 0).toNat % 64
      rw [← HCA.out,hx,hp,show t - 1 + 1 = t by omega])
     have hcb2 : Hid (c * 64 + x < 32 * 64 ^ (t + 1 - 1)):=Lib.hid (by
      have:=HCB.out
      have e1 : t + 1 - 1 = (t - 1) + 1:=by omega
      rw [e1,Nat.pow_succ]
      generalize 64 ^ (t - 1) = q at *
      omega)
     have hok2 : Hid (∀ j,1 ≤ j → j < t + 1 → okT l i j):=Lib.hid (fun j a b=>by
      by_cases e : j = t
      ·subst e;exact hok
      ·exact HOK.out j a (by omega))
     clear hok et hx hp
     go_wp2_with fail
     refine HT.out.mono ?_
     rintro _ _ ⟨rfl,rfl⟩
     go_wp2_with fail
     go_roundg (gk - 1)
     case measure=>have:=HK.out;omega
     case rel=>exact ⟨t + 1,c * 64 + x,by have:=HK.out;omega,by omega,by go_num,by go_num,hca,hcb2,hok2,rfl⟩
    ·have et : tailL l p = (0,false):=by unfold tailL;rw [if_neg (by rw [hp];exact hok)]
     rw [et] at HT
     have HR:=Lib.hid (HNO.out t ht1 hlt hok)
     clear hok et hp
     go_wp2_with fail
     refine HT.out.mono ?_
     rintro _ _ ⟨rfl,rfl⟩
     go_wp2_with fail
     go_ret3
     exact ⟨by rw [HR.out];rfl,rfl⟩
   ·obtain rfl : t = 2:=by omega
    have hr:=HYES.out (fun j a b=>HOK.out j a b)
    have hca:=HCA.out
    rw [← hca] at hr
    have HR:=Lib.hid hr
    clear hr hca
    go_wp2_with fail
    go_ret3
    exact ⟨by rw [HR.out];simp <;> omega,rfl⟩
 ·have tk:=trivial
  obtain ⟨c0,hc0⟩ : ∃ c0,c0 = (l.getD i 0).toNat % 16:=⟨_,rfl⟩
  have m1 : bits .and .i64 ((⟨l.toArray⟩ : ByteArray)[i].toNat : Int) 15 = (c0 : Int):=by rw [hc,hc0];exact and15 ⟨(l.getD i 0).toNat,UInt8.toNat_lt _⟩
  have m2 : bits .and .i64 (l[i].toNat : Int) 15 = (c0 : Int):=by rw [hg,hc0];exact and15 ⟨(l.getD i 0).toNat,UInt8.toNat_lt _⟩
  have hcl : c0 < 32:=by omega
  have x1 : (224 : Int) ≤ ((⟨l.toArray⟩ : ByteArray)[i].toNat : Int):=by rw [hc];omega
  have x2 : ((⟨l.toArray⟩ : ByteArray)[i].toNat : Int) ≤ (239 : Int):=by rw [hc];omega
  have x3 : (224 : Int) ≤ (l[i].toNat : Int):=by rw [hg];omega
  have x4 : (l[i].toNat : Int) ≤ (239 : Int):=by rw [hg];omega
  have HYES : Far ((∀ j,1 ≤ j → j < 3 → okT l i j) → oneA l i = (accF c0 l i (3 - 1),3,decide (2048 ≤ accF c0 l i (3 - 1)))):=Far.mk (fun h=>by rw [hc0];exact yes3 ⟨by omega,by omega⟩ h)
  have HNO : Far (∀ j,1 ≤ j → j < 3 → ¬ okT l i j → oneA l i = (0,0,false)):=Far.mk (fun j a b h=>no3 ⟨by omega,by omega⟩ a b h)
  have y224a : ((⟨l.toArray⟩ : ByteArray)[i].toNat : Int) < 224 ↔ (239 : Int) < 224:=by rw [hc];omega
  have y224b : (l[i].toNat : Int) < 224 ↔ (239 : Int) < 224:=by rw [hg];omega
  have z224a : decide (((⟨l.toArray⟩ : ByteArray)[i].toNat : Int) < 224) = decide ((239 : Int) < 224):=by rw [decide_eq_decide];exact y224a
  have z224b : decide ((l[i].toNat : Int) < 224) = decide ((239 : Int) < 224):=by rw [decide_eq_decide];exact y224b
  simp at z224a z224b
  clear y224a y224b
  have y240a : ((⟨l.toArray⟩ : ByteArray)[i].toNat : Int) < 240 ↔ (239 : Int) < 240:=by rw [hc];omega
  have y240b : (l[i].toNat : Int) < 240 ↔ (239 : Int) < 240:=by rw [hg];omega
  have z240a : decide (((⟨l.toArray⟩ : ByteArray)[i].toNat : Int) < 240) = decide ((239 : Int) < 240):=by rw [decide_eq_decide];exact y240a
  have z240b : decide ((l[i].toNat : Int) < 240) = decide ((239 : Int) < 240):=by rw [decide_eq_decide];exact y240b
  simp at z240a z240b
  clear y240a y240b
  have y248a : ((⟨l.toArray⟩ : ByteArray)[i].toNat : Int) < 248 ↔ (239 : Int) < 248:=by rw [hc];omega
  have y248b : (l[i].toNat : Int) < 248 ↔ (239 : Int) < 248:=by rw [hg];omega
  have z248a : decide (((⟨l.toArray⟩ : ByteArray)[i].toNat : Int) < 248) = decide ((239 : Int) < 248):=by rw [decide_eq_decide];exact y248a
  have z248b : decide ((l[i].toNat : Int) < 248) = decide ((239 : Int) < 248):=by rw [decide_eq_decide];exact y248b
  simp at z248a z248b
  clear y248a y248b
  clear hc hg hc0 hcase
  go_enter Tryd.func73,Tryd.ntmps73
  go_wp2_with fail
  go_loopg [7,10] (3 - 1) (fun k s7 s10 wr=>∃ t c : Nat,k + t = 3 ∧ 1 ≤ t ∧ s7 = .int .i64 c ∧ s10 = .int .i64 t ∧ Hid (c = accF c0 l i (t - 1)) ∧ Hid (c < 32 * 64 ^ (t - 1)) ∧ Hid (∀ j,1 ≤ j → j < t → okT l i j) ∧ w = wr)
  case atStart=>exact ⟨1,c0,by omega,Nat.le_refl _,rfl,rfl,Lib.hid rfl,Lib.hid hcl,Lib.hid (fun j a b=>by omega),rfl⟩
  case round =>
   obtain ⟨t,c,hk,ht1,rfl,rfl,HCA,HCB,HOK,rfl⟩:=hrel
   have HK:=Lib.hid hk
   have htn : t ≤ 3:=by omega
   have hcb : c < 8388608:=by
    have:=HCB.out
    have h4 : t = 1 ∨ t = 2 ∨ t = 3 ∨ t = 4:=by omega
    rcases h4 with rfl | rfl | rfl | rfl <;> (simp at this;omega)
   clear hk
   by_cases hlt : t < 3
   ·obtain ⟨p,hp⟩ : ∃ p,p = i + t:=⟨_,rfl⟩
    have hpi : (i : Int) + (t : Int) = (p : Int):=by omega
    have HT:=Lib.hid (tail_any l (by omega) p (by omega) w)
    by_cases hok : okT l i t
    ·have et : tailL l p = ((l.getD p 0).toNat % 64,true):=by unfold tailL;rw [if_pos (by rw [hp];exact hok)]
     rw [et] at HT
     obtain ⟨x,hx⟩ : ∃ x,x = (l.getD p 0).toNat % 64:=⟨_,rfl⟩
     rw [← hx] at HT
     have hx2 : x ≤ 63:=by omega
     have hca : Hid (c * 64 + x = accF c0 l i (t + 1 - 1)):=Lib.hid (by
      have e1 : t + 1 - 1 = (t - 1) + 1:=by omega
      rw [e1]
      show c * 64 + x = accF c0 l i (t - 1) * 64 + (l.getD (i + (t - 1 + 1)) 0).toNat % 64
      rw [← HCA.out,hx,hp,show t - 1 + 1 = t by omega])
     have hcb2 : Hid (c * 64 + x < 32 * 64 ^ (t + 1 - 1)):=Lib.hid (by
      have:=HCB.out
      have e1 : t + 1 - 1 = (t - 1) + 1:=by omega
      rw [e1,Nat.pow_succ]
      generalize 64 ^ (t - 1) = q at *
      omega)
     have hok2 : Hid (∀ j,1 ≤ j → j < t + 1 → okT l i j):=Lib.hid (fun j a b=>by
      by_cases e : j = t
      ·subst e;exact hok
      ·exact HOK.out j a (by omega))
     clear hok et hx hp
     go_wp2_with fail
     refine HT.out.mono ?_
     rintro _ _ ⟨rfl,rfl⟩
     go_wp2_with fail
     go_roundg (gk - 1)
     case measure=>have:=HK.out;omega
     case rel=>exact ⟨t + 1,c * 64 + x,by have:=HK.out;omega,by omega,by go_num,by go_num,hca,hcb2,hok2,rfl⟩
    ·have et : tailL l p = (0,false):=by unfold tailL;rw [if_neg (by rw [hp];exact hok)]
     rw [et] at HT
     have HR:=Lib.hid (HNO.out t ht1 hlt hok)
     clear hok et hp
     go_wp2_with fail
     refine HT.out.mono ?_
     rintro _ _ ⟨rfl,rfl⟩
     go_wp2_with fail
     go_ret3
     exact ⟨by rw [HR.out];rfl,rfl⟩
   ·obtain rfl : t = 3:=by omega
    have hr:=HYES.out (fun j a b=>HOK.out j a b)
    have hca:=HCA.out
    rw [← hca] at hr
    have HR:=Lib.hid hr
    clear hr hca
    go_wp2_with fail
    go_ret3
    exact ⟨by rw [HR.out];simp <;> omega,rfl⟩
 ·have tk:=trivial
  obtain ⟨c0,hc0⟩ : ∃ c0,c0 = (l.getD i 0).toNat % 8:=⟨_,rfl⟩
  have m1 : bits .and .i64 ((⟨l.toArray⟩ : ByteArray)[i].toNat : Int) 7 = (c0 : Int):=by rw [hc,hc0];exact and7 ⟨(l.getD i 0).toNat,UInt8.toNat_lt _⟩
  have m2 : bits .and .i64 (l[i].toNat : Int) 7 = (c0 : Int):=by rw [hg,hc0];exact and7 ⟨(l.getD i 0).toNat,UInt8.toNat_lt _⟩
  have hcl : c0 < 32:=by omega
  have x1 : (240 : Int) ≤ ((⟨l.toArray⟩ : ByteArray)[i].toNat : Int):=by rw [hc];omega
  have x2 : ((⟨l.toArray⟩ : ByteArray)[i].toNat : Int) ≤ (247 : Int):=by rw [hc];omega
  have x3 : (240 : Int) ≤ (l[i].toNat : Int):=by rw [hg];omega
  have x4 : (l[i].toNat : Int) ≤ (247 : Int):=by rw [hg];omega
  have HYES : Far ((∀ j,1 ≤ j → j < 4 → okT l i j) → oneA l i = (accF c0 l i (4 - 1),4,decide (65536 ≤ accF c0 l i (4 - 1)))):=Far.mk (fun h=>by rw [hc0];exact yes4 ⟨by omega,by omega⟩ h)
  have HNO : Far (∀ j,1 ≤ j → j < 4 → ¬ okT l i j → oneA l i = (0,0,false)):=Far.mk (fun j a b h=>no4 ⟨by omega,by omega⟩ a b h)
  have y224a : ((⟨l.toArray⟩ : ByteArray)[i].toNat : Int) < 224 ↔ (247 : Int) < 224:=by rw [hc];omega
  have y224b : (l[i].toNat : Int) < 224 ↔ (247 : Int) < 224:=by rw [hg];omega
  have z224a : decide (((⟨l.toArray⟩ : ByteArray)[i].toNat : Int) < 224) = decide ((247 : Int) < 224):=by rw [decide_eq_decide];exact y224a
  have z224b : decide ((l[i].toNat : Int) < 224) = decide ((247 : Int) < 224):=by rw [decide_eq_decide];exact y224b
  simp at z224a z224b
  clear y224a y224b
  have y240a : ((⟨l.toArray⟩ : ByteArray)[i].toNat : Int) < 240 ↔ (247 : Int) < 240:=by rw [hc];omega
  have y240b : (l[i].toNat : Int) < 240 ↔ (247 : Int) < 240:=by rw [hg];omega
  have z240a : decide (((⟨l.toArray⟩ : ByteArray)[i].toNat : Int) < 240) = decide ((247 : Int) < 240):=by rw [decide_eq_decide];exact y240a
  have z240b : decide ((l[i].toNat : Int) < 240) = decide ((247 : Int) < 240):=by rw [decide_eq_decide];exact y240b
  simp at z240a z240b
  clear y240a y240b
  have y248a : ((⟨l.toArray⟩ : ByteArray)[i].toNat : Int) < 248 ↔ (247 : Int) < 248:=by rw [hc];omega
  have y248b : (l[i].toNat : Int) < 248 ↔ (247 : Int) < 248:=by rw [hg];omega
  have z248a : decide (((⟨l.toArray⟩ : ByteArray)[i].toNat : Int) < 248) = decide ((247 : Int) < 248):=by rw [decide_eq_decide];exact y248a
  have z248b : decide ((l[i].toNat : Int) < 248) = decide ((247 : Int) < 248):=by rw [decide_eq_decide];exact y248b
  simp at z248a z248b
  clear y248a y248b
  clear hc hg hc0 hcase
  go_enter Tryd.func73,Tryd.ntmps73
  go_wp2_with fail
  go_loopg [7,10] (4 - 1) (fun k s7 s10 wr=>∃ t c : Nat,k + t = 4 ∧ 1 ≤ t ∧ s7 = .int .i64 c ∧ s10 = .int .i64 t ∧ Hid (c = accF c0 l i (t - 1)) ∧ Hid (c < 32 * 64 ^ (t - 1)) ∧ Hid (∀ j,1 ≤ j → j < t → okT l i j) ∧ w = wr)
  case atStart=>exact ⟨1,c0,by omega,Nat.le_refl _,rfl,rfl,Lib.hid rfl,Lib.hid hcl,Lib.hid (fun j a b=>by omega),rfl⟩
  case round =>
   obtain ⟨t,c,hk,ht1,rfl,rfl,HCA,HCB,HOK,rfl⟩:=hrel
   have HK:=Lib.hid hk
   have htn : t ≤ 4:=by omega
   have hcb : c < 8388608:=by
    have:=HCB.out
    have h4 : t = 1 ∨ t = 2 ∨ t = 3 ∨ t = 4:=by omega
    rcases h4 with rfl | rfl | rfl | rfl <;> (simp at this;omega)
   clear hk
   by_cases hlt : t < 4
   ·obtain ⟨p,hp⟩ : ∃ p,p = i + t:=⟨_,rfl⟩
    have hpi : (i : Int) + (t : Int) = (p : Int):=by omega
    have HT:=Lib.hid (tail_any l (by omega) p (by omega) w)
    by_cases hok : okT l i t
    ·have et : tailL l p = ((l.getD p 0).toNat % 64,true):=by unfold tailL;rw [if_pos (by rw [hp];exact hok)]
     rw [et] at HT
     obtain ⟨x,hx⟩ : ∃ x,x = (l.getD p 0).toNat % 64:=⟨_,rfl⟩
     rw [← hx] at HT
     have hx2 : x ≤ 63:=by omega
     have hca : Hid (c * 64 + x = accF c0 l i (t + 1 - 1)):=Lib.hid (by
      have e1 : t + 1 - 1 = (t - 1) + 1:=by omega
      rw [e1]
      show c * 64 + x = accF c0 l i (t - 1) * 64 + (l.getD (i + (t - 1 + 1)) 0).toNat % 64
      rw [← HCA.out,hx,hp,show t - 1 + 1 = t by omega])
     have hcb2 : Hid (c * 64 + x < 32 * 64 ^ (t + 1 - 1)):=Lib.hid (by
      have:=HCB.out
      have e1 : t + 1 - 1 = (t - 1) + 1:=by omega
      rw [e1,Nat.pow_succ]
      generalize 64 ^ (t - 1) = q at *
      omega)
     have hok2 : Hid (∀ j,1 ≤ j → j < t + 1 → okT l i j):=Lib.hid (fun j a b=>by
      by_cases e : j = t
      ·subst e;exact hok
      ·exact HOK.out j a (by omega))
     clear hok et hx hp
     go_wp2_with fail
     refine HT.out.mono ?_
     rintro _ _ ⟨rfl,rfl⟩
     go_wp2_with fail
     go_roundg (gk - 1)
     case measure=>have:=HK.out;omega
     case rel=>exact ⟨t + 1,c * 64 + x,by have:=HK.out;omega,by omega,by go_num,by go_num,hca,hcb2,hok2,rfl⟩
    ·have et : tailL l p = (0,false):=by unfold tailL;rw [if_neg (by rw [hp];exact hok)]
     rw [et] at HT
     have HR:=Lib.hid (HNO.out t ht1 hlt hok)
     clear hok et hp
     go_wp2_with fail
     refine HT.out.mono ?_
     rintro _ _ ⟨rfl,rfl⟩
     go_wp2_with fail
     go_ret3
     exact ⟨by rw [HR.out];rfl,rfl⟩
   ·obtain rfl : t = 4:=by omega
    have hr:=HYES.out (fun j a b=>HOK.out j a b)
    have hca:=HCA.out
    rw [← hca] at hr
    have HR:=Lib.hid hr
    clear hr hca
    go_wp2_with fail
    go_ret3
    exact ⟨by rw [HR.out];simp <;> omega,rfl⟩
 ·have e : oneA l i = (0,0,false):=by unfold oneA oneN;rw [if_neg (by omega),if_neg (by omega),if_neg (by omega),if_neg (by omega)]
  rw [e]
  have x1 : (248 : Int) ≤ ((⟨l.toArray⟩ : ByteArray)[i].toNat : Int):=by rw [hc];omega
  have x2 : ((⟨l.toArray⟩ : ByteArray)[i].toNat : Int) ≤ (255 : Int):=by rw [hc];omega
  have x3 : (248 : Int) ≤ (l[i].toNat : Int):=by rw [hg];omega
  have x4 : (l[i].toNat : Int) ≤ (255 : Int):=by rw [hg];omega
  clear hc hg hcase e
  go_enter Tryd.func73,Tryd.ntmps73
  go_wp2_with fail
  go_ret3
  exact ⟨rfl,rfl⟩
end Go.Proofs.YtnhmplfonkjfoaaDoor



namespace Go.Proofs.YtnhmplfonkjfoaaDoor
open Go.RowKit

theorem dg_first {w : World} {v : Value} {n : Nat} (h : Dg w v n) (hn : n ≠ 0) : ∃ g o k c,v = .slice (some ⟨g,o,none⟩) (k + 1) c ∧ k + 1 ≤ c ∧ w.cell? ⟨g,o,none⟩ = some (.int .i64 ((n % 10 : Nat) : Int)) ∧ g < w.heap.size:=by
 obtain ⟨xs,⟨A,c,rfl,hc,hs⟩,hd⟩:=h
 have hz:=hd.zero_iff
 obtain ⟨k,hk⟩ : ∃ k,xs.length = k + 1:=⟨xs.length - 1,by omega⟩
 obtain ⟨g,o,rfl,hg,hcell⟩:=hs.at_ (k:=0) (by omega)
 refine ⟨g,o,k,c,by rw [hk],by omega, ?_,hg⟩
 rw [Nat.add_zero] at hcell
 rw [hcell,dval_digit hd.1 0 (by omega),hd.2.2,Int.pow_zero,Int.ediv_one]
 rfl
end Go.Proofs.YtnhmplfonkjfoaaDoor



namespace Go.Proofs.YtnhmplfonkjfoaaDoor
open Go.RowKit

theorem len_34 {l : List Int} {n : Nat} (h : IsDg l n) : l.length ≤ 34 ↔ n < B34:=⟨fun hl=>h.lt_of_len hl,fun hn=>h.len_le hn⟩
end Go.Proofs.YtnhmplfonkjfoaaDoor



namespace Go.Proofs.YtnhmplfonkjfoaaDoor
open Go.RowKit

set_option maxHeartbeats 4000000 in
theorem rform_any (b : Bool) (c : Nat) (s : Int) (hc : c < 2 ^ 128) (w : World) : Calls Tryd.prog 48 #[.agg #[.bool b,.int .u64 (wd (c) 1),.int .u64 (wd (c) 0),.int .i64 s]] w fun e w'=>e = .returned (.bool (dform b c s)) ∧ Below w.heap.size w w':=by
 have HO:=Lib.hid (fun W=>of_any c hc W)
 obtain ⟨x0,hx0⟩ : ∃ x,x = wd c 0:=⟨_,rfl⟩
 obtain ⟨x1,hx1⟩ : ∃ x,x = wd c 1:=⟨_,rfl⟩
 rw [← hx0,← hx1] at HO
 rw [← hx0,← hx1]
 obtain ⟨f,hf⟩ : ∃ f,f = dform b c s:=⟨_,rfl⟩
 rw [← hf]
 have HF:=Far.mk hf
 clear hx0 hx1 hc hf
 go_enter Tryd.func48,Tryd.ntmps48
 go_wp2_with fail
 refine (HO.out _).mono ?_
 rintro _ w1 ⟨v1,rfl,d1,hb1⟩;have hb1s:=hb1.size;(try simp only [wsA,wsS,wsD,wsN] at hb1s);obtain ⟨hb1c,hb1f⟩:=bcell hb1;(try have : w.heap.size < w1.heap.size:=by omega);(try have : w.heap.size + 1 < w1.heap.size:=by omega);(try have : w.heap.size + 1 + 1 < w1.heap.size:=by omega);(try have : w.heap.size + 1 + 1 + 1 < w1.heap.size:=by omega);have Hd1:=Lib.hid d1;clear d1
 have k0 : Bk w1 w.heap.size 41 [.bool b,.int .u64 x1,.int .u64 x0,.int .i64 s]:=by (repeat (first|(with_reducible assumption)|((with_reducible refine bkW ?_);(first|rfl|(simp only [wsA,wsS,wsD,wsN];done)))|(with_reducible first|refine bkA ?_ _|refine bkD ?_|refine bkN ?_ _)|((with_reducible refine bkF ?_ ?_ _);focus (simp only [];omega))|((with_reducible refine bkB (by assumption) ?_ ?_);focus (go_size;done))))
 have k0_0:=k0.cell 0 rfl
 have k0_1:=k0.cell 1 rfl
 have k0_2:=k0.cell 2 rfl
 have k0_3:=k0.cell 3 rfl
 have k0_4:=k0.frozen 0
 have k0_5:=k0.frozen 1
 have k0_6:=k0.frozen 2
 have k0_7:=k0.frozen 3
 have k0l:=k0.lt
 have mb : Below w.heap.size w w1:=by (repeat' first|(with_reducible first|exact blR _ _|assumption|refine blD ?_|refine blN ?_ _)|((with_reducible first|refine blA ?_ ?_ _|refine blS ?_ ?_ _|refine blT (by assumption) ?_ ?_);focus (go_size;done)))
 clear k0 hb1c hb1f hb1 hb1s
 obtain ⟨xs,⟨A,k,rfl,hk,hs⟩,hd⟩:=Hd1.out
 have h34:=len_34 hd
 by_cases hb : c < B34
 ·have hl : (xs.length : Int) ≤ 34:=by have:=h34.2 hb;omega
  have hl' : ¬ (34 : Int) < (xs.length : Int):=by omega
  by_cases h0 : s < 0
  ·have e:=HF.out
   rw [dform_neg h0] at e
   subst e
   clear hb h34 hk hs hd
   go_wp2_with fail
   go_ret
   exact ⟨rfl,by (repeat' first|(with_reducible first|exact blR _ _|assumption|refine blD ?_|refine blN ?_ _)|((with_reducible first|refine blA ?_ ?_ _|refine blS ?_ ?_ _|refine blT (by assumption) ?_ ?_);focus (go_size;done)))⟩
  ·by_cases h1 : 18 < s
   ·have e:=HF.out
    rw [dform_deep h1] at e
    subst e
    clear hb h34 hk hs hd
    go_wp2_with fail
    go_ret
    exact ⟨rfl,by (repeat' first|(with_reducible first|exact blR _ _|assumption|refine blD ?_|refine blN ?_ _)|((with_reducible first|refine blA ?_ ?_ _|refine blS ?_ ?_ _|refine blT (by assumption) ?_ ?_);focus (go_size;done)))⟩
   ·have e:=HF.out
    rw [dform_in hb (by omega) (by omega)] at e
    by_cases hz : c = 0
    ·rw [if_pos hz] at e
     have hl0 : xs.length = 0:=hd.zero_iff.2 hz
     have E:=Lib.hid e
     clear hb h34 hk hs hd hz e HF
     rw [hl0]
     cases b
     ·go_wp2_with fail
      go_ret
      exact ⟨ret_bool (by rw [E.out];simp;first | rfl | omega | (rw [Bool.eq_iff_iff];simp)),by (repeat' first|(with_reducible first|exact blR _ _|assumption|refine blD ?_|refine blN ?_ _)|((with_reducible first|refine blA ?_ ?_ _|refine blS ?_ ?_ _|refine blT (by assumption) ?_ ?_);focus (go_size;done)))⟩
     ·go_wp2_with fail
      go_ret
      exact ⟨ret_bool (by rw [E.out];rfl),by (repeat' first|(with_reducible first|exact blR _ _|assumption|refine blD ?_|refine blN ?_ _)|((with_reducible first|refine blA ?_ ?_ _|refine blS ?_ ?_ _|refine blT (by assumption) ?_ ?_);focus (go_size;done)))⟩
    ·rw [if_neg hz] at e
     have E:=Lib.hid e
     obtain ⟨g,o,k',c',e',hkc,hcell,hg⟩:=dg_first Hd1.out hz
     injection e' with e1 e2 e3
     subst e1
     have hlp : ((xs.length : Int) == 0) = false:=by rw [beq_eq_false_iff_ne];omega
     have hlq : (0 : Int) < (xs.length : Int):=by omega
     obtain ⟨d,hdd⟩ : ∃ d : Int,d = ((c % 10 : Nat) : Int):=⟨_,rfl⟩
     rw [← hdd] at hcell
     have HDD:=Lib.hid hdd
     clear hb h34 hk hs hd hz e HF hdd e2 e3
     by_cases hs0 : s = 0
     ·have g2 : (s == 0) = true:=by simpa using hs0
      have HS:=Lib.hid hs0
      clear hs0
      go_wp2_with fail
      go_ret
      exact ⟨ret_bool (by rw [E.out,HS.out];rfl),by (repeat' first|(with_reducible first|exact blR _ _|assumption|refine blD ?_|refine blN ?_ _)|((with_reducible first|refine blA ?_ ?_ _|refine blS ?_ ?_ _|refine blT (by assumption) ?_ ?_);focus (go_size;done)))⟩
     ·have g2 : (s == 0) = false:=by simpa using hs0
      have HS:=Lib.hid hs0
      clear hs0
      go_wp2_with fail
      go_ret
      exact ⟨ret_bool (by rw [E.out,decide_eq_false HS.out,Bool.false_or,Bool.eq_iff_iff];have:=HDD.out;simp;omega),by (repeat' first|(with_reducible first|exact blR _ _|assumption|refine blD ?_|refine blN ?_ _)|((with_reducible first|refine blA ?_ ?_ _|refine blS ?_ ?_ _|refine blT (by assumption) ?_ ?_);focus (go_size;done)))⟩
 ·have e:=HF.out
  rw [dform_hi hb] at e
  subst e
  have hl : (34 : Int) < (xs.length : Int):=by have:=mt h34.1 hb;omega
  clear hb h34 hk hs hd
  go_wp2_with fail
  go_ret
  exact ⟨rfl,by (repeat' first|(with_reducible first|exact blR _ _|assumption|refine blD ?_|refine blN ?_ _)|((with_reducible first|refine blA ?_ ?_ _|refine blS ?_ ?_ _|refine blT (by assumption) ?_ ?_);focus (go_size;done)))⟩
end Go.Proofs.YtnhmplfonkjfoaaDoor



namespace Go.Proofs.YtnhmplfonkjfoaaDoor
open Go.RowKit

theorem oneA_L (l : List UInt8) (i : Nat) (h : i ≤ l.length) : oneA l i = oneL (l.drop i):=by
 unfold oneA oneL
 have e : ∀ j,(l.drop i).getD j 0 = l.getD (i + j) 0:=fun j=>by
  rw [List.getD_eq_getElem?_getD,List.getD_eq_getElem?_getD,List.getElem?_drop]
 rw [e,e,e,e,List.length_drop];rfl
theorem txt_step {l : List UInt8} {i : Nat} (h : i < l.length) (a : (oneA l i).2.2 = true) (b : chr (oneA l i).1 = true) : ztxt (l.drop i) = ztxt (l.drop (i + (oneA l i).2.1)) ∧ 1 ≤ (oneA l i).2.1:=by
 rw [oneA_L l i (by omega)] at a b ⊢
 have hp : 1 ≤ (oneL (l.drop i)).2.1:=oneN_pos a
 have hl : (l.drop i).length = l.length - i:=List.length_drop
 have hne : ¬ l.drop i = []:=fun e=>by rw [e] at hl;simp at hl;omega
 refine ⟨?_,hp⟩
 obtain ⟨f,hf⟩ : ∃ f,(l.drop i).length = f + 1:=⟨(l.drop i).length - 1,by omega⟩
 have e1 : ztxt (l.drop i) = ztxtF (f + 1) (l.drop i):=by unfold ztxt;rw [hf]
 rw [e1]
 show (if l.drop i = [] then true else if (oneL (l.drop i)).2.2 = true ∧ chrP (oneL (l.drop i)).1 then ztxtF f ((l.drop i).drop (oneL (l.drop i)).2.1) else false) = _
 rw [if_neg hne,if_pos ⟨a,of_decide_eq_true b⟩,List.drop_drop]
 exact txtF_eq f (by rw [List.length_drop];omega)
theorem txt_stop {l : List UInt8} {i : Nat} (h : i < l.length) (a : (oneA l i).2.2 = false ∨ chr (oneA l i).1 = false) : ztxt (l.drop i) = false:=by
 rw [oneA_L l i (by omega)] at a
 have hl : (l.drop i).length = l.length - i:=List.length_drop
 have hne : ¬ l.drop i = []:=fun e=>by rw [e] at hl;simp at hl;omega
 obtain ⟨f,hf⟩ : ∃ f,(l.drop i).length = f + 1:=⟨(l.drop i).length - 1,by omega⟩
 have e1 : ztxt (l.drop i) = ztxtF (f + 1) (l.drop i):=by unfold ztxt;rw [hf]
 rw [e1]
 show (if l.drop i = [] then true else if (oneL (l.drop i)).2.2 = true ∧ chrP (oneL (l.drop i)).1 then ztxtF f ((l.drop i).drop (oneL (l.drop i)).2.1) else false) = _
 rw [if_neg hne,if_neg]
 rintro ⟨p,q⟩
 rcases a with a | a
 ·rw [a] at p;exact Bool.noConfusion p
 ·exact of_decide_eq_false a q
theorem oneN_le (n b0 b1 b2 b3 : Nat) (h : 1 ≤ n) : (oneN n b0 b1 b2 b3).2.1 ≤ n:=by
 unfold oneN
 repeat' split
 all_goals dsimp only
 all_goals omega
theorem oneA_le {l : List UInt8} {i : Nat} (h : i < l.length) : i + (oneA l i).2.1 ≤ l.length:=by
 have:=oneN_le (l.length - i) (l.getD i 0).toNat (l.getD (i + 1) 0).toNat (l.getD (i + 2) 0).toNat (l.getD (i + 3) 0).toNat (by omega)
 unfold oneA
 omega
def CharsPost (l : List UInt8) (w : World) (e : Ending) (w' : World) : Prop:=∃ v,e = .returned (.tuple #[v,.bool (ztxt l)]) ∧ Below w.heap.size w w'
set_option maxHeartbeats 1000000 in
theorem chars_any (l : List UInt8) (hl : l.length ≤ 1048576) (w : World) : Calls Tryd.prog 59 #[.string ⟨l.toArray⟩] w (CharsPost l w):=by
 obtain ⟨z,hz⟩ : ∃ z,z = ztxt l:=⟨_,rfl⟩
 have HZ:=Lib.hid hz
 have HP : Hid (∀ (v : Value) (w' : World),Below w.heap.size w w' → CharsPost l w (.returned (.tuple #[v,.bool z])) w'):=Lib.hid (fun v w' h2=>⟨v,by rw [hz],h2⟩)
 have HLEN:=Lib.hid hl
 clear hz
 go_enter Tryd.func59,Tryd.ntmps59
 go_wp2_with fail
 go_loopg [4,5] l.length (fun k v i wr=>∃ (t : Nat) (ds : List Int),t ≤ l.length ∧ k = l.length - t ∧ i = .int .i64 t ∧ wr.ownsRow w.heap.size 3 1 v ds.length (ds.map (Value.int .i64)) ∧ ds.length ≤ t ∧ Hid (z = ztxt (l.drop t)) ∧ Below w.heap.size w wr)
 case atStart=>clear hl;exact ⟨0,[],by omega,by omega,rfl,World.ownsRow_nil _ _ _ _,by simp,Lib.hid (by rw [List.drop_zero];exact HZ.out),by (repeat' first|(with_reducible first|exact blR _ _|assumption|refine blD ?_|refine blN ?_ _)|((with_reducible first|refine blA ?_ ?_ _|refine blS ?_ ?_ _|refine blT (by assumption) ?_ ?_);focus (go_size;done)))⟩
 case round =>
  obtain ⟨t,ds,htl,hk,rfl,hown,hdl,HT,hbel⟩:=hrel
  have HK:=Lib.hid hk
  have HDL:=Lib.hid hdl
  clear hk hdl hl
  by_cases hlt : t < l.length
  ·have HO:=Lib.hid (chone_any l (by have:=HLEN.out;omega) t hlt wr)
   have HLE:=Lib.hid (oneA_le hlt)
   have HST:=Lib.hid (fun a b=>txt_step (l:=l) (i:=t) hlt a b)
   have HSP:=Lib.hid (fun a=>txt_stop (l:=l) (i:=t) hlt a)
   obtain ⟨c,hc⟩ : ∃ c,c = (oneA l t).1:=⟨_,rfl⟩
   obtain ⟨m,hm⟩ : ∃ m,m = (oneA l t).2.1:=⟨_,rfl⟩
   obtain ⟨ok,hok⟩ : ∃ ok,ok = (oneA l t).2.2:=⟨_,rfl⟩
   rw [← hc,← hm,← hok] at HO
   rw [← hm] at HLE
   rw [← hc,← hm,← hok] at HST
   rw [← hc,← hok] at HSP
   have HC:=Lib.hid (rchar_any c wr)
   clear hc hm hok
   cases ok with
   | false =>
    have hz : z = false:=by rw [HT.out];exact HSP.out (.inl rfl)
    subst hz
    go_wp2_with fail
    refine HO.out.mono ?_
    rintro _ _ ⟨rfl,rfl⟩
    go_wp2_with fail
    go_ret2
    exact HP.out (.slice none 0 0) _ (by (repeat' first|(with_reducible first|exact blR _ _|assumption|refine blD ?_|refine blN ?_ _)|((with_reducible first|refine blA ?_ ?_ _|refine blS ?_ ?_ _|refine blT (by assumption) ?_ ?_);focus (go_size;done))))
   | true =>
    obtain ⟨y,hy⟩ : ∃ y,y = chr c:=⟨_,rfl⟩
    rw [← hy] at HC HST HSP
    clear hy
    cases y with
    | false =>
     have hz : z = false:=by rw [HT.out];exact HSP.out (.inr rfl)
     subst hz
     go_wp2_with fail
     refine HO.out.mono ?_
     rintro _ _ ⟨rfl,rfl⟩
     go_wp2_with fail
     refine HC.out.mono ?_
     rintro _ _ ⟨rfl,rfl⟩
     go_wp2_with fail
     go_ret2
     exact HP.out (.slice none 0 0) _ (by (repeat' first|(with_reducible first|exact blR _ _|assumption|refine blD ?_|refine blN ?_ _)|((with_reducible first|refine blA ?_ ?_ _|refine blS ?_ ?_ _|refine blT (by assumption) ?_ ?_);focus (go_size;done))))
    | true =>
     obtain ⟨h1,h2⟩:=HST.out rfl rfl
     have h3:=HLE.out
     have h4 : (t : Int) + (m : Int) ≤ 1048576:=by have:=HLEN.out;omega
     have H1:=Lib.hid h1
     clear HST HSP h1
     go_wp2_with fail
     refine HO.out.mono ?_
     rintro _ _ ⟨rfl,rfl⟩
     go_wp2_with fail
     refine HC.out.mono ?_
     rintro _ wr ⟨rfl,rfl⟩
     go_wp2_with (at_builtin;refine wpList_push rfl (.tmp 27) (.tmp 29) rfl w.heap.size u4 ds rfl (hown.alloc _) wr.heap.size (t : Int) rfl ?hc ?hl ?hb ?_;rotate_left 3;intro v1 w1 hown1 hg1)
     case hc=>simp [go_sem]
     case hl=>have:=HDL.out;have:=HLEN.out;omega
     case hb=>have:=hbel.size;rw [World.size_alloc];omega
     have hbp:=below_push (hbel.alloc hbel.size _) (hown.alloc _) hg1 (by have:=hbel.size;rw [World.size_alloc];omega)
     go_wp2_with fail
     go_roundg (gk - m)
     case measure=>have:=HK.out;omega
     case rel=>exact ⟨t + m,ds ++ [(t : Int)],h3,by have:=HK.out;omega,by go_num,hown1,by rw [List.length_append,List.length_singleton];have:=HDL.out;omega,Lib.hid (by rw [HT.out,H1.out]),hbp⟩
  ·obtain rfl : t = l.length:=by omega
   have hz : z = true:=by rw [HT.out,List.drop_length];rfl
   subst hz
   clear hlt
   go_wp2_with (at_builtin;refine wpList_push rfl (.tmp 34) (.tmp 36) rfl w.heap.size u4 ds rfl (hown.alloc _) wr.heap.size (l.length : Int) rfl ?hc ?hl ?hb ?_;rotate_left 3;intro v1 w1 hown1 hg1)
   case hc=>simp [go_sem]
   case hl=>have:=HDL.out;have:=HLEN.out;omega
   case hb=>have:=hbel.size;rw [World.size_alloc];omega
   have hbp:=below_push (hbel.alloc hbel.size _) (hown.alloc _) hg1 (by have:=hbel.size;rw [World.size_alloc];omega)
   go_wp2_with fail
   go_ret2
   exact HP.out _ _ hbp
theorem rvalid_any (l : List UInt8) (hl : l.length ≤ 1048576) (w : World) : Calls Tryd.prog 49 #[.string ⟨l.toArray⟩] w fun e w'=>e = .returned (.bool (ztxt l)) ∧ Below w.heap.size w w':=by
 have HC:=Lib.hid (chars_any l hl w)
 obtain ⟨z,hz⟩ : ∃ z,z = ztxt l:=⟨_,rfl⟩
 unfold CharsPost at HC
 rw [← hz] at HC ⊢
 clear hz hl
 go_enter Tryd.func49,Tryd.ntmps49
 go_wp2_with fail
 refine HC.out.mono ?_
 rintro _ w1 ⟨v,rfl,hb⟩
 go_wp2_with fail
 go_ret
 exact ⟨rfl,hb⟩
end Go.Proofs.YtnhmplfonkjfoaaDoor



namespace Go.Proofs.YtnhmplfonkjfoaaDoor
open Go.RowKit

set_option maxRecDepth 100000 in
theorem eq_dec0 (b : Bool) (x y s : Int) (W : World) : (binOp .eql 41 (.agg #[.bool b,.int .u64 x,.int .u64 y,.int .i64 s]) (.agg #[.bool false,.int .u64 0,.int .u64 0,.int .i64 0])).run Tryd.prog W = .ok (.bool (!b && (x == 0 && (y == 0 && s == 0)))) W:=by
 go_simp
 by_cases h1 : x = 0 <;> by_cases h2 : y = 0 <;> by_cases h3 : s = 0 <;> cases b <;> simp [h1,h2,h3]
set_option maxHeartbeats 8000000 in
theorem fields_any (op a : Int) (l : List UInt8) (hl : l.length ≤ 1048576) (ng : Bool) (hi lo sc dy : Int) (h1 : U64 hi) (h2 : U64 lo) (w : World) : Calls Tryd.prog 31 #[.agg #[.int .i64 op,.int .i64 a,.string ⟨l.toArray⟩,.bool ng,.int .u64 hi,.int .u64 lo,.int .i64 sc,.int .i64 dy]] w fun e w'=>e = .returned (.bool (fldB op l ng hi lo sc dy)) ∧ Below w.heap.size w w':=by
 have HF:=Lib.hid (rform_any ng (cI hi lo) sc (cI_lt h1 h2))
 rw [cI_hi h1 h2,cI_lo h1 h2] at HF
 have HL:=Lib.hid hl
 have HN:=Lib.hid (rname4_any l (by omega))
 have HV:=Lib.hid (rvalid_any l hl)
 have HI:=Lib.hid (ris_any dy)
 clear h1 h2 hl
 obtain ⟨R,hR⟩ : ∃ x,x = fldB op l ng hi lo sc dy:=⟨_,rfl⟩
 obtain ⟨cT,hcT⟩ : ∃ x,x = clrT op l:=⟨_,rfl⟩
 obtain ⟨cB,hcB⟩ : ∃ x,x = clrB op ng:=⟨_,rfl⟩
 obtain ⟨cH,hcH⟩ : ∃ x,x = clrI op hi:=⟨_,rfl⟩
 obtain ⟨cL,hcL⟩ : ∃ x,x = clrI op lo:=⟨_,rfl⟩
 obtain ⟨cS,hcS⟩ : ∃ x,x = clrI op sc:=⟨_,rfl⟩
 obtain ⟨cD,hcD⟩ : ∃ x,x = clrD op dy:=⟨_,rfl⟩
 obtain ⟨ok,hok⟩ : ∃ x,x = okP op l ng (cI hi lo) sc dy:=⟨_,rfl⟩
 have HR : Hid (R = (ok && ((cT == []) && ((!cB && (cH == 0 && (cL == 0 && cS == 0))) && cD == 0)))):=Lib.hid (by rw [hR,hok,hcT,hcB,hcH,hcL,hcS,hcD];unfold fldB;rw [nilP_eq])
 rw [← hR]
 have HE : Hid (cT = clrT op l ∧ cB = clrB op ng ∧ cH = clrI op hi ∧ cL = clrI op lo ∧ cS = clrI op sc ∧ cD = clrD op dy ∧ ok = okP op l ng (cI hi lo) sc dy):=Lib.hid ⟨hcT,hcB,hcH,hcL,hcS,hcD,hok⟩
 clear hcT hcB hcH hcL hcS hcD hok hR
 go_enter Tryd.func31,Tryd.ntmps31
 have k1:=Bk.new w 45 [.int .i64 op,.int .i64 a,.string ⟨l.toArray⟩,.bool ng,.int .u64 hi,.int .u64 lo,.int .i64 sc,.int .i64 dy]
 have hw : Hid (Below w.heap.size w (w.alloc (.cells #[.int .i64 op,.int .i64 a,.string ⟨l.toArray⟩,.bool ng,.int .u64 hi,.int .u64 lo,.int .i64 sc,.int .i64 dy] 45))):=Lib.hid (by (repeat' first|(with_reducible first|exact blR _ _|assumption|refine blD ?_|refine blN ?_ _)|((with_reducible first|refine blA ?_ ?_ _|refine blS ?_ ?_ _|refine blT (by assumption) ?_ ?_);focus (go_size;done))))
 go_upto_region 1 with fail
 generalize w.alloc (.cells #[.int .i64 op,.int .i64 a,.string ⟨l.toArray⟩,.bool ng,.int .u64 hi,.int .u64 lo,.int .i64 sc,.int .i64 dy] 45) = w1 at k1 hw ⊢
 have kc0:=k1.cell 0 rfl
 have kc1:=k1.cell 1 rfl
 have kc2:=k1.cell 2 rfl
 have kc3:=k1.cell 3 rfl
 have kc4:=k1.cell 4 rfl
 have kc5:=k1.cell 5 rfl
 have kc6:=k1.cell 6 rfl
 have kc7:=k1.cell 7 rfl
 have kf0:=k1.frozen 0
 have kf1:=k1.frozen 1
 have kf2:=k1.frozen 2
 have kf3:=k1.frozen 3
 have kf4:=k1.frozen 4
 have kf5:=k1.frozen 5
 have kf6:=k1.frozen 6
 have kf7:=k1.frozen 7
 have kl:=k1.lt
 have K1:=Lib.hid k1
 go_cut [3,4,5] (fun s3 s4 s5 wx=>∃ g1 : Nat,s3 = .string ⟨l.toArray⟩ ∧ s4 = .pointer (some ⟨g1,0,none⟩) ∧ s5 = .int .i64 dy ∧ w.heap.size < g1 ∧ Hid (Bk wx w.heap.size 45 [.int .i64 op,.int .i64 a,.string ⟨l.toArray⟩,.bool ng,.int .u64 hi,.int .u64 lo,.int .i64 sc,.int .i64 dy]) ∧ Hid (Bk wx g1 41 [.bool ng,.int .u64 hi,.int .u64 lo,.int .i64 sc]) ∧ Hid (Below w.heap.size w wx))
 case first =>
  clear k1
  go_region_held3 (fun w'=>w'.cell? ⟨w.heap.size,2,none⟩ = some (.string ⟨l.toArray⟩) ∧ w'.cell? ⟨w.heap.size,3,none⟩ = some (.bool ng) ∧ w'.cell? ⟨w.heap.size,4,none⟩ = some (.int .u64 hi) ∧ w'.cell? ⟨w.heap.size,5,none⟩ = some (.int .u64 lo) ∧ w'.cell? ⟨w.heap.size,6,none⟩ = some (.int .i64 sc) ∧ w'.cell? ⟨w.heap.size,7,none⟩ = some (.int .i64 dy)) (first | (first | (go_keep;done) | (simp [go_sem];done) | ((try dsimp only);(repeat' apply And.intro) <;> (first | (with_reducible assumption) | ((rw [World.cell?_alloc_lt _ _ _ (by show _ < _;omega)]);go_split_ands;(first | with_reducible assumption | (refine (World.cell?_alloc_lt _ _ _ (by show _ < _;omega)).symm.trans ?_;with_reducible assumption))) | ((rw [World.cell?_setCell_other _ _ _ _ (by intro e;injection e;omega)]);with_reducible assumption) | (go_keep;done) | (simp [go_sem];done) | (simp (disch:=go_size) [*,World.cell?_alloc_some,World.cell?_setCell_far];done))))) (fail)
  all_goals go_wp2_with fail
  all_goals go_meet
  all_goals exact ⟨w1.heap.size,rfl,rfl,rfl,kl,Lib.hid ((K1.out.alloc _).drew),Lib.hid (Bk.new w1 41 [.bool ng,.int .u64 hi,.int .u64 lo,.int .i64 sc]).drew,Lib.hid (((hw.out.alloc (Nat.le_of_lt kl) _)).drew)⟩
 case rest =>
  obtain ⟨g1,rfl,rfl,rfl,hg,K1,K2,HW⟩:=hcut
  clear k1 kl kc0 kc1 kc2 kc3 kc4 kc5 kc6 kc7 kf0 kf1 kf2 kf3 kf4 kf5 kf6 kf7
  have k2:=K2.out
  have d_0:=k2.cell 0 rfl
  have d_1:=k2.cell 1 rfl
  have d_2:=k2.cell 2 rfl
  have d_3:=k2.cell 3 rfl
  have d_4:=k2.frozen 0
  have d_5:=k2.frozen 1
  have d_6:=k2.frozen 2
  have d_7:=k2.frozen 3
  have ko:=K1.out.cell 0 rfl
  have hgl:=k2.lt
  clear k2
  obtain ⟨w1,rfl⟩ : ∃ w1,w1 = wc:=⟨_,rfl⟩
  go_upto_block 0 with fail
  go_cut [3,5] (fun s3 s5 wx=>ok = true ∧ s3 = .string ⟨cT.toArray⟩ ∧ s5 = .int .i64 cD ∧ Hid (Bk wx g1 41 [.bool cB,.int .u64 cH,.int .u64 cL,.int .i64 cS]) ∧ Hid (Below w.heap.size w wx))
  case first =>
   by_cases q4 : op = 4
   ·subst q4
    obtain rfl : cT = l:=HE.out.1.trans (by first | rfl | (unfold clrT;rw [if_neg (by omega)]))
    obtain rfl : cB = false:=HE.out.2.1.trans (by first | rfl | (unfold clrB;rw [if_neg (by omega)]))
    obtain rfl : cH = 0:=HE.out.2.2.1.trans (by first | rfl | (unfold clrI;rw [if_neg (by omega)]))
    obtain rfl : cL = 0:=HE.out.2.2.2.1.trans (by first | rfl | (unfold clrI;rw [if_neg (by omega)]))
    obtain rfl : cS = 0:=HE.out.2.2.2.2.1.trans (by first | rfl | (unfold clrI;rw [if_neg (by omega)]))
    obtain rfl : cD = dy:=HE.out.2.2.2.2.2.1.trans (by first | rfl | (unfold clrD;rw [if_neg (by omega)]))
    have HO : Hid (ok = (dform ng (cI hi lo) sc && !ng)):=Lib.hid (HE.out.2.2.2.2.2.2.trans (by first | rfl | (unfold okP;rw [if_neg (by omega),if_neg (by omega),if_neg (by omega),if_neg (by omega),if_neg (by omega)])))
    clear HE
    generalize dform ng (cI hi lo) sc = z at HF HO
    go_wp2_with fail
    refine (HF.out _).mono ?_
    rintro _ w2 ⟨rfl,hb2⟩
    have J2:=Lib.hid (K2.out.below hb2 hgl)
    have HW2:=Lib.hid (HW.out.trans (hb2.mono (Nat.le_of_lt K1.out.lt)))
    have j2:=J2.out
    clear d_0 d_1 d_2 d_3 d_4 d_5 d_6 d_7 hb2
    have d_0:=j2.cell 0 rfl
    have d_1:=j2.cell 1 rfl
    have d_2:=j2.cell 2 rfl
    have d_3:=j2.cell 3 rfl
    have d_4:=j2.frozen 0
    have d_5:=j2.frozen 1
    have d_6:=j2.frozen 2
    have d_7:=j2.frozen 3
    clear j2
    cases z with
    | false =>
     go_wp2_with fail
     go_ret
     refine ⟨ret_bool ?_,HW2.out⟩
     rw [HR.out,HO.out]
     rfl
    | true =>
     cases ng with
     | true =>
      go_wp2_with fail
      go_ret
      refine ⟨ret_bool ?_,HW2.out⟩
      rw [HR.out,HO.out]
      rfl
     | false =>
      go_wp2_with fail
      go_meet
      exact ⟨HO.out,rfl,rfl,Lib.hid ((((J2.out.set_ 0 _).set_ 1 _).set_ 2 _).set_ 3 _),Lib.hid ((((HW2.out.setCell (Nat.le_of_lt hg) _).setCell (Nat.le_of_lt hg) _).setCell (Nat.le_of_lt hg) _).setCell (Nat.le_of_lt hg) _)⟩
   by_cases q5 : op = 5
   ·subst q5
    obtain rfl : cT = []:=HE.out.1.trans (by first | rfl | (unfold clrT;rw [if_neg (by omega)]))
    obtain rfl : cB = ng:=HE.out.2.1.trans (by first | rfl | (unfold clrB;rw [if_neg (by omega)]))
    obtain rfl : cH = hi:=HE.out.2.2.1.trans (by first | rfl | (unfold clrI;rw [if_neg (by omega)]))
    obtain rfl : cL = lo:=HE.out.2.2.2.1.trans (by first | rfl | (unfold clrI;rw [if_neg (by omega)]))
    obtain rfl : cS = sc:=HE.out.2.2.2.2.1.trans (by first | rfl | (unfold clrI;rw [if_neg (by omega)]))
    obtain rfl : cD = dy:=HE.out.2.2.2.2.2.1.trans (by first | rfl | (unfold clrD;rw [if_neg (by omega)]))
    have HO : Hid (ok = (decide (l.length ≤ 1000) && ztxt l)):=Lib.hid (HE.out.2.2.2.2.2.2.trans (by first | rfl | (unfold okP;rw [if_neg (by omega),if_neg (by omega),if_neg (by omega),if_neg (by omega),if_neg (by omega)])))
    clear HE
    go_wp2_with fail
    refine (HV.out _).mono ?_
    rintro _ w2 ⟨rfl,hb2⟩
    have J2:=Lib.hid (K2.out.below hb2 hgl)
    have HW2:=Lib.hid (HW.out.trans (hb2.mono (Nat.le_of_lt K1.out.lt)))
    clear d_0 d_1 d_2 d_3 d_4 d_5 d_6 d_7 hb2
    cases hz : ztxt l with
    | false =>
     rw [hz,Bool.and_false] at HO
     go_wp2_with fail
     go_ret
     refine ⟨ret_bool ?_,HW2.out⟩
     rw [HR.out,HO.out]
     rfl
    | true =>
     rw [hz,Bool.and_true] at HO
     by_cases hlen : l.length ≤ 1000
     ·have HO : Hid (ok = true):=Lib.hid (by rw [HO.out,decide_eq_true hlen])
      have hlen2 : (l.length : Int) ≤ 1000:=by omega
      clear hlen
      go_wp2_with fail
      go_meet
      exact ⟨HO.out,rfl,rfl,J2,HW2⟩
     ·have HO : Hid (ok = false):=Lib.hid (by rw [HO.out,decide_eq_false hlen])
      have hlen2 : (1000 : Int) < l.length:=by omega
      clear hlen
      go_wp2_with fail
      go_ret
      refine ⟨ret_bool ?_,HW2.out⟩
      rw [HR.out,HO.out]
      rfl
   by_cases q6 : op = 6
   ·subst q6
    obtain rfl : cT = l:=HE.out.1.trans (by first | rfl | (unfold clrT;rw [if_neg (by omega)]))
    obtain rfl : cB = ng:=HE.out.2.1.trans (by first | rfl | (unfold clrB;rw [if_neg (by omega)]))
    obtain rfl : cH = hi:=HE.out.2.2.1.trans (by first | rfl | (unfold clrI;rw [if_neg (by omega)]))
    obtain rfl : cL = lo:=HE.out.2.2.2.1.trans (by first | rfl | (unfold clrI;rw [if_neg (by omega)]))
    obtain rfl : cS = sc:=HE.out.2.2.2.2.1.trans (by first | rfl | (unfold clrI;rw [if_neg (by omega)]))
    obtain rfl : cD = 0:=HE.out.2.2.2.2.2.1.trans (by first | rfl | (unfold clrD;rw [if_neg (by omega)]))
    have HO : Hid (ok = (dayB dy)):=Lib.hid (HE.out.2.2.2.2.2.2.trans (by first | rfl | (unfold okP;rw [if_neg (by omega),if_neg (by omega),if_neg (by omega),if_neg (by omega),if_neg (by omega)])))
    clear HE
    go_wp2_with fail
    refine (HI.out _).mono ?_
    rintro _ _ ⟨rfl,rfl⟩
    cases hz : dayB dy with
    | false =>
     rw [hz] at HO
     go_wp2_with fail
     go_ret
     refine ⟨ret_bool ?_,HW.out⟩
     rw [HR.out,HO.out]
     rfl
    | true =>
     rw [hz] at HO
     go_wp2_with fail
     go_meet
     exact ⟨HO.out,rfl,rfl,K2,HW⟩
   by_cases q7 : op = 7
   ·subst q7
    have hq2 : (7 : Int) = 7:=rfl
    clear hq2
    obtain rfl : cT = []:=HE.out.1.trans (by first | rfl | (unfold clrT;rw [if_neg (by omega)]))
    obtain rfl : cB = ng:=HE.out.2.1.trans (by first | rfl | (unfold clrB;rw [if_neg (by omega)]))
    obtain rfl : cH = hi:=HE.out.2.2.1.trans (by first | rfl | (unfold clrI;rw [if_neg (by omega)]))
    obtain rfl : cL = lo:=HE.out.2.2.2.1.trans (by first | rfl | (unfold clrI;rw [if_neg (by omega)]))
    obtain rfl : cS = sc:=HE.out.2.2.2.2.1.trans (by first | rfl | (unfold clrI;rw [if_neg (by omega)]))
    obtain rfl : cD = dy:=HE.out.2.2.2.2.2.1.trans (by first | rfl | (unfold clrD;rw [if_neg (by omega)]))
    have HO : Hid (ok = (nam l)):=Lib.hid (HE.out.2.2.2.2.2.2.trans (by first | rfl | (unfold okP;rw [if_neg (by omega),if_neg (by omega),if_neg (by omega),if_neg (by omega),if_neg (by omega)])))
    clear HE
    go_wp2_with fail
    refine (HN.out _).mono ?_
    rintro _ _ ⟨rfl,rfl⟩
    cases hz : nam l with
    | false =>
     rw [hz] at HO
     go_wp2_with fail
     go_ret
     refine ⟨ret_bool ?_,by have:=HW.out;(repeat' first|(with_reducible first|exact blR _ _|assumption|refine blD ?_|refine blN ?_ _)|((with_reducible first|refine blA ?_ ?_ _|refine blS ?_ ?_ _|refine blT (by assumption) ?_ ?_);focus (go_size;done)))⟩
     rw [HR.out,HO.out]
     rfl
    | true =>
     rw [hz] at HO
     go_wp2_with fail
     go_meet
     exact ⟨HO.out,rfl,rfl,K2,HW⟩
   by_cases q8 : op = 24
   ·subst q8
    have hq2 : (24 : Int) = 24:=rfl
    clear hq2
    obtain rfl : cT = []:=HE.out.1.trans (by first | rfl | (unfold clrT;rw [if_neg (by omega)]))
    obtain rfl : cB = ng:=HE.out.2.1.trans (by first | rfl | (unfold clrB;rw [if_neg (by omega)]))
    obtain rfl : cH = hi:=HE.out.2.2.1.trans (by first | rfl | (unfold clrI;rw [if_neg (by omega)]))
    obtain rfl : cL = lo:=HE.out.2.2.2.1.trans (by first | rfl | (unfold clrI;rw [if_neg (by omega)]))
    obtain rfl : cS = sc:=HE.out.2.2.2.2.1.trans (by first | rfl | (unfold clrI;rw [if_neg (by omega)]))
    obtain rfl : cD = dy:=HE.out.2.2.2.2.2.1.trans (by first | rfl | (unfold clrD;rw [if_neg (by omega)]))
    have HO : Hid (ok = (nam l)):=Lib.hid (HE.out.2.2.2.2.2.2.trans (by first | rfl | (unfold okP;rw [if_neg (by omega),if_neg (by omega),if_neg (by omega),if_neg (by omega),if_neg (by omega)])))
    clear HE
    go_wp2_with fail
    refine (HN.out _).mono ?_
    rintro _ _ ⟨rfl,rfl⟩
    cases hz : nam l with
    | false =>
     rw [hz] at HO
     go_wp2_with fail
     go_ret
     refine ⟨ret_bool ?_,by have:=HW.out;(repeat' first|(with_reducible first|exact blR _ _|assumption|refine blD ?_|refine blN ?_ _)|((with_reducible first|refine blA ?_ ?_ _|refine blS ?_ ?_ _|refine blT (by assumption) ?_ ?_);focus (go_size;done)))⟩
     rw [HR.out,HO.out]
     rfl
    | true =>
     rw [hz] at HO
     go_wp2_with fail
     go_meet
     exact ⟨HO.out,rfl,rfl,K2,HW⟩
   by_cases q9 : op = 25
   ·subst q9
    have hq2 : (25 : Int) = 25:=rfl
    clear hq2
    obtain rfl : cT = []:=HE.out.1.trans (by first | rfl | (unfold clrT;rw [if_neg (by omega)]))
    obtain rfl : cB = ng:=HE.out.2.1.trans (by first | rfl | (unfold clrB;rw [if_neg (by omega)]))
    obtain rfl : cH = hi:=HE.out.2.2.1.trans (by first | rfl | (unfold clrI;rw [if_neg (by omega)]))
    obtain rfl : cL = lo:=HE.out.2.2.2.1.trans (by first | rfl | (unfold clrI;rw [if_neg (by omega)]))
    obtain rfl : cS = sc:=HE.out.2.2.2.2.1.trans (by first | rfl | (unfold clrI;rw [if_neg (by omega)]))
    obtain rfl : cD = dy:=HE.out.2.2.2.2.2.1.trans (by first | rfl | (unfold clrD;rw [if_neg (by omega)]))
    have HO : Hid (ok = (nam l)):=Lib.hid (HE.out.2.2.2.2.2.2.trans (by first | rfl | (unfold okP;rw [if_neg (by omega),if_neg (by omega),if_neg (by omega),if_neg (by omega),if_neg (by omega)])))
    clear HE
    go_wp2_with fail
    refine (HN.out _).mono ?_
    rintro _ _ ⟨rfl,rfl⟩
    cases hz : nam l with
    | false =>
     rw [hz] at HO
     go_wp2_with fail
     go_ret
     refine ⟨ret_bool ?_,by have:=HW.out;(repeat' first|(with_reducible first|exact blR _ _|assumption|refine blD ?_|refine blN ?_ _)|((with_reducible first|refine blA ?_ ?_ _|refine blS ?_ ?_ _|refine blT (by assumption) ?_ ?_);focus (go_size;done)))⟩
     rw [HR.out,HO.out]
     rfl
    | true =>
     rw [hz] at HO
     go_wp2_with fail
     go_meet
     exact ⟨HO.out,rfl,rfl,K2,HW⟩
   by_cases q10 : op = 28
   ·subst q10
    have hq2 : (28 : Int) = 28:=rfl
    clear hq2
    obtain rfl : cT = []:=HE.out.1.trans (by first | rfl | (unfold clrT;rw [if_neg (by omega)]))
    obtain rfl : cB = ng:=HE.out.2.1.trans (by first | rfl | (unfold clrB;rw [if_neg (by omega)]))
    obtain rfl : cH = hi:=HE.out.2.2.1.trans (by first | rfl | (unfold clrI;rw [if_neg (by omega)]))
    obtain rfl : cL = lo:=HE.out.2.2.2.1.trans (by first | rfl | (unfold clrI;rw [if_neg (by omega)]))
    obtain rfl : cS = sc:=HE.out.2.2.2.2.1.trans (by first | rfl | (unfold clrI;rw [if_neg (by omega)]))
    obtain rfl : cD = dy:=HE.out.2.2.2.2.2.1.trans (by first | rfl | (unfold clrD;rw [if_neg (by omega)]))
    have HO : Hid (ok = (nam l)):=Lib.hid (HE.out.2.2.2.2.2.2.trans (by first | rfl | (unfold okP;rw [if_neg (by omega),if_neg (by omega),if_neg (by omega),if_neg (by omega),if_neg (by omega)])))
    clear HE
    go_wp2_with fail
    refine (HN.out _).mono ?_
    rintro _ _ ⟨rfl,rfl⟩
    cases hz : nam l with
    | false =>
     rw [hz] at HO
     go_wp2_with fail
     go_ret
     refine ⟨ret_bool ?_,by have:=HW.out;(repeat' first|(with_reducible first|exact blR _ _|assumption|refine blD ?_|refine blN ?_ _)|((with_reducible first|refine blA ?_ ?_ _|refine blS ?_ ?_ _|refine blT (by assumption) ?_ ?_);focus (go_size;done)))⟩
     rw [HR.out,HO.out]
     rfl
    | true =>
     rw [hz] at HO
     go_wp2_with fail
     go_meet
     exact ⟨HO.out,rfl,rfl,K2,HW⟩
   by_cases q11 : op = 35
   ·subst q11
    obtain rfl : cT = []:=HE.out.1.trans (by first | rfl | (unfold clrT;rw [if_neg (by omega)]))
    obtain rfl : cB = ng:=HE.out.2.1.trans (by first | rfl | (unfold clrB;rw [if_neg (by omega)]))
    obtain rfl : cH = hi:=HE.out.2.2.1.trans (by first | rfl | (unfold clrI;rw [if_neg (by omega)]))
    obtain rfl : cL = lo:=HE.out.2.2.2.1.trans (by first | rfl | (unfold clrI;rw [if_neg (by omega)]))
    obtain rfl : cS = sc:=HE.out.2.2.2.2.1.trans (by first | rfl | (unfold clrI;rw [if_neg (by omega)]))
    obtain rfl : cD = dy:=HE.out.2.2.2.2.2.1.trans (by first | rfl | (unfold clrD;rw [if_neg (by omega)]))
    have HO : Hid (ok = (spanB l)):=Lib.hid (HE.out.2.2.2.2.2.2.trans (by first | rfl | (unfold okP;rw [if_neg (by omega),if_neg (by omega),if_neg (by omega),if_neg (by omega),if_neg (by omega)])))
    clear HE
    by_cases s0 : l = [91,93]
    ·subst s0
     go_wp2_with fail
     go_meet
     exact ⟨HO.out,rfl,rfl,K2,HW⟩
    by_cases s1 : l = [91,41]
    ·subst s1
     go_wp2_with fail
     go_meet
     exact ⟨HO.out,rfl,rfl,K2,HW⟩
    by_cases s2 : l = [40,93]
    ·subst s2
     go_wp2_with fail
     go_meet
     exact ⟨HO.out,rfl,rfl,K2,HW⟩
    by_cases s3 : l = [40,41]
    ·subst s3
     go_wp2_with fail
     go_meet
     exact ⟨HO.out,rfl,rfl,K2,HW⟩
    have HO : Hid (ok = false):=Lib.hid (by rw [HO.out];simp [spanB, *])
    have t0 : (!l == [91,93]) = true:=by simp [s0]
    have t1 : (!l == [91,41]) = true:=by simp [s1]
    have t2 : (!l == [40,93]) = true:=by simp [s2]
    have t3 : (!l == [40,41]) = true:=by simp [s3]
    go_wp2_with fail
    go_ret
    refine ⟨ret_bool ?_,HW.out⟩
    rw [HR.out,HO.out]
    rfl
   ·have tokx : True:=trivial
    clear tokx
    obtain rfl : cT = l:=HE.out.1.trans (by first | rfl | (unfold clrT;rw [if_neg (by omega)]))
    obtain rfl : cB = ng:=HE.out.2.1.trans (by first | rfl | (unfold clrB;rw [if_neg (by omega)]))
    obtain rfl : cH = hi:=HE.out.2.2.1.trans (by first | rfl | (unfold clrI;rw [if_neg (by omega)]))
    obtain rfl : cL = lo:=HE.out.2.2.2.1.trans (by first | rfl | (unfold clrI;rw [if_neg (by omega)]))
    obtain rfl : cS = sc:=HE.out.2.2.2.2.1.trans (by first | rfl | (unfold clrI;rw [if_neg (by omega)]))
    obtain rfl : cD = dy:=HE.out.2.2.2.2.2.1.trans (by first | rfl | (unfold clrD;rw [if_neg (by omega)]))
    have HO : Hid (ok = true):=Lib.hid (HE.out.2.2.2.2.2.2.trans (by first | rfl | (unfold okP;rw [if_neg (by omega),if_neg (by omega),if_neg (by omega),if_neg (by omega),if_neg (by omega)])))
    clear HE
    have r4 : (op == 4) = false:=by rw [beq_eq_false_iff_ne];exact q4
    have r5 : (op == 5) = false:=by rw [beq_eq_false_iff_ne];exact q5
    have r6 : (op == 6) = false:=by rw [beq_eq_false_iff_ne];exact q6
    have r7 : (op == 7) = false:=by rw [beq_eq_false_iff_ne];exact q7
    have r8 : (op == 24) = false:=by rw [beq_eq_false_iff_ne];exact q8
    have r9 : (op == 25) = false:=by rw [beq_eq_false_iff_ne];exact q9
    have r10 : (op == 28) = false:=by rw [beq_eq_false_iff_ne];exact q10
    have r11 : (op == 35) = false:=by rw [beq_eq_false_iff_ne];exact q11
    clear q4 q5 q6 q7 q8 q9 q10 q11
    go_wp2_with fail
    go_meet
    exact ⟨HO.out,rfl,rfl,K2,HW⟩
  case rest =>
   obtain ⟨hok,rfl,rfl,K3,HW3⟩:=hcut
   clear d_0 d_1 d_2 d_3 d_4 d_5 d_6 d_7 HE
   rw [hok,Bool.true_and] at HR
   have k3:=K3.out
   have d_0:=k3.cell 0 rfl
   have d_1:=k3.cell 1 rfl
   have d_2:=k3.cell 2 rfl
   have d_3:=k3.cell 3 rfl
   have d_4:=k3.frozen 0
   have d_5:=k3.frozen 1
   have d_6:=k3.frozen 2
   have d_7:=k3.frozen 3
   clear k3
   have r1:=eq_dec0 cB cH cL cS
   go_wp2_with fail
   all_goals go_ret
   all_goals refine ⟨ret_bool ?_,by have:=HW3.out;(repeat' first|(with_reducible first|exact blR _ _|assumption|refine blD ?_|refine blN ?_ _)|((with_reducible first|refine blA ?_ ?_ _|refine blS ?_ ?_ _|refine blT (by assumption) ?_ ?_);focus (go_size;done)))⟩
   all_goals rw [HR.out]
   all_goals simp [*]
end Go.Proofs.YtnhmplfonkjfoaaDoor



namespace Go.Proofs.YtnhmplfonkjfoaaDoor
open Go.RowKit

theorem compile_any (is : List InsD) (v : Value) (b : Bool) (w : World) (h : Cod w v is) (hg : ∀ r,r < is.length → GoodI (ig is r)) (hT : Tabs w) : Calls Tryd.prog 11 #[v,.bool b] w (CmpPost is b w):=by
 have hc : Calls Tryd.prog 21 #[v,.bool b] w fun e w'=>e = .returned (.int .i64 (chkP is b)) ∧ Below w.heap.size w w':=by
  by_cases hl : 300 < is.length
  ·exact check_long is v b w h hl
  ·exact check_in is v b w h hg hT (by omega)
 by_cases h0 : chkP is b = 0
 ·exact compile_good is v b w h hc h0
 ·exact compile_bad is v b w hc h0
theorem Ro.cod {w : World} {o : Nat → Nat} {l n : Nat} {t : TypeId} {v : Value} {p : List InsD} (h : Ro w o l t 8 v n (ics p)) (hn : p.length = n) : Cod w v p:=by
 subst hn
 obtain ⟨A,C,rfl,hm⟩:=h.sl.is
 refine ⟨A,C,rfl,hm,fun r hr=>?_⟩
 obtain ⟨g,e,-,hat⟩:=h.ins rfl hr
 exact ⟨g,0,e,by rw [Nat.zero_add];exact hat⟩
theorem bk_cod {w : World} {g C : Nat} {t : TypeId} {p : List InsD} (h : Bk w g t (ics p)) (hm : p.length ≤ maxLen) : Cod w (.slice (some ⟨g,0,none⟩) p.length C) p :=
 ⟨_,C,rfl,hm,fun r hr=>⟨g,0,rfl,fun j hj=>by
  rw [cs_len] at hj
  rw [Nat.zero_add,← ics_get p r j hr hj]
  have hl : r * 8 + j < (ics p).length:=by rw [ics_length];omega
  rw [List.getElem?_eq_getElem hl]
  exact h.cell _ (List.getElem?_eq_getElem hl)⟩⟩
def chIs : List InsD:=[insO 2 0,insO 1 0,insO 3 0,insO 21 3]
def knIs : List InsD:=[insO 2 0,insO 102 4,insO 1 0,insO 101 5,insO 3 0]
set_option maxHeartbeats 1000000 in
theorem choice14_any (w : World) : Calls Tryd.prog 19 #[] w fun e w'=>∃ v,e = .returned v ∧ Cod w' v chIs ∧ Below w.heap.size w w':=by
 go_enter Tryd.func19,Tryd.ntmps19
 go_wp2_with fail
 go_ret
 exact ⟨_,rfl,bk_cod (p:=chIs) (C:=4) (Bk.new w 45 (ics chIs)) (by unfold maxLen;decide),by (repeat' first|(with_reducible first|exact blR _ _|assumption|refine blD ?_|refine blN ?_ _)|((with_reducible first|refine blA ?_ ?_ _|refine blS ?_ ?_ _|refine blT (by assumption) ?_ ?_);focus (go_size;done)))⟩
theorem comp_ch : compD chIs = knIs:=by rfl
theorem node_zero {is : List InsD} {i : InsD} {st : List Th} (h1 : fldI i = true) (h2 : kidsB i.op 0 = true) (ha : i.a = 0) (h27 : i.op ≠ 27) : nodeP is i st :=
 ⟨h1,by rw [ha];exact h2,by rw [ha];exact Int.natCast_nonneg _,fun k hk=>by rw [ha] at hk;exact absurd hk (Nat.not_lt_zero _),fun h=>h27 h.1⟩
theorem chk_ch : chkP chIs false = 0:=by
 unfold chkP
 rw [if_neg (by decide)]
 have n0 : nodeP chIs (ig chIs 0) []:=node_zero (by decide) (by decide) rfl (by decide)
 show endC false (cGo chIs 4 0 [] 0) = 0
 rw [cGo_yes n0]
 have s0 : stepT (ig chIs 0) 0 [] = [(1,1,0)]:=by decide
 rw [s0]
 have n1 : nodeP chIs (ig chIs 1) [(1,1,0)]:=node_zero (by decide) (by decide) rfl (by decide)
 rw [cGo_yes n1]
 have s1 : stepT (ig chIs 1) 1 [(1,1,0)] = [(1,1,0),(1,1,1)]:=by decide
 rw [s1]
 have n2 : nodeP chIs (ig chIs 2) [(1,1,0),(1,1,1)]:=node_zero (by decide) (by decide) rfl (by decide)
 rw [cGo_yes n2]
 have s2 : stepT (ig chIs 2) 2 [(1,1,0),(1,1,1)] = [(1,1,0),(1,1,1),(1,1,2)]:=by decide
 rw [s2]
 have n3 : nodeP chIs (ig chIs 3) [(1,1,0),(1,1,1),(1,1,2)]:=by
  refine ⟨by decide,by decide,by decide,fun k hk=>?_,fun h=>absurd h.1 (by decide)⟩
  have hk : k < 3:=hk
  match k,hk with
  | 0,_=>decide
  | 1,_=>decide
  | 2,_=>decide
  | k + 3,hk=>omega
 rw [cGo_yes n3]
 have s3 : stepT (ig chIs 3) 3 [(1,1,0),(1,1,1),(1,1,2)] = [(1,2,3)]:=by decide
 rw [s3]
 decide
theorem cmp_ch : cmpD chIs false = knIs:=by
 unfold cmpD
 rw [if_pos chk_ch,comp_ch]
theorem good_ch : ∀ r,r < chIs.length → GoodI (ig chIs r):=fun r hr=>by
 have hr : r < 4:=hr
 have u0 : U64 0:=⟨by decide,by decide⟩
 match r,hr with
 | 0,_=>exact ⟨u0,u0,by decide⟩
 | 1,_=>exact ⟨u0,u0,by decide⟩
 | 2,_=>exact ⟨u0,u0,by decide⟩
 | 3,_=>exact ⟨u0,u0,by decide⟩
 | k + 4,hk=>omega
set_option maxHeartbeats 1500000 in
theorem known14_any (w : World) (hT : Tabs w) : Calls Tryd.prog 9 #[] w fun e w'=>e = .returned (.bool true) ∧ Below w.heap.size w w':=by
 have HT:=Lib.hid hT
 clear hT
 go_enter Tryd.func9,Tryd.ntmps9
 go_upto_region 2 with (first | (go_at_call 19;(with_reducible refine (choice14_any _).mono ?_);rintro _ w1 ⟨v1,rfl,hc1,hb1⟩) | (go_at_call 11;(with_reducible refine (compile_any chIs _ false _ hc1 good_ch (tabs_below HT.out hb1)).mono ?_);rintro _ w2 ⟨r,o,rfl,ht2,hr2⟩))
 rw [chk_ch]
 rw [cmp_ch] at hr2
 have hcr : Cod w2 r knIs:=hr2.cod rfl
 have hb3 : Below w.heap.size w w2:=hb1.trans ((ht2.below (B:=w1.heap.size) (fun _ _=>by simp) (Nat.le_refl _)).mono hb1.size)
 have HCR:=Lib.hid hcr
 obtain ⟨Ar,Cr,rfl,-,-⟩:=hcr
 clear hr2 ht2 hb1 hc1
 have HSM:=Lib.hid (fun (X : Obj) (hX : X = .cells (ics knIs).toArray 43)=>same_ins knIs knIs (.slice Ar knIs.length Cr) (.slice (some ⟨w2.heap.size,0,none⟩) 5 5) (w2.alloc X) (HCR.out.below (Below.alloc (Below.refl _ _) (Nat.le_refl _) _)) (by subst hX;exact bk_cod (p:=knIs) (C:=5) (Bk.new w2 43 (ics knIs)) (by unfold maxLen;decide)))
 have hsm:=sameB_yes (rfl : knIs = knIs)
 simp only [hsm] at HSM
 clear hsm
 go_wp2_with (go_at_call 12;(refine (HSM.out _ rfl).mono ?_);rintro _ w3 ⟨rfl,hb4⟩)
 go_ret
 exact ⟨rfl,(hb3.alloc hb3.size _).trans (hb4.mono (Nat.le_trans hb3.size (by rw [World.size_alloc];exact Nat.le_succ _)))⟩
end Go.Proofs.YtnhmplfonkjfoaaDoor



namespace Go.Proofs.YtnhmplfonkjfoaaDoor
open Go.RowKit

abbrev Pts:=List (List Nat)
def stOk (i : InsD) (hv : List Nat) : Bool:=kidsB i.op i.a && decide (i.a ≤ hv.length)
def stPart (i : InsD) (hv : List Nat) : List Nat:=hv.drop (hv.length - i.a.toNat)
def stStep (i : InsD) (t : Nat) (hv : List Nat) : List Nat:=hv.take (hv.length - i.a.toNat) ++ [t]
def stGo (is : List InsD) : Nat → Nat → Pts → List Nat → Option (Pts × List Nat)
 | 0,_,ps,hv=>some (ps,hv)
 | n + 1,t,ps,hv=>if stOk (ig is t) hv = true then stGo is n (t + 1) (ps ++ [stPart (ig is t) hv]) (stStep (ig is t) t hv) else none
def ng (p : List Nat) (k : Nat) : Nat:=p.getD k 0
def ndOk (is : List InsD) (p : List Nat) (i : InsD) : Prop :=
 fldI i = true ∧ (∀ k,k < p.length → sortR (ig is (ng p k)).op = wantD i.op k) ∧ ¬ (i.op = 27 ∧ twF (fun r=>(ig is (ng p r)).tx) p.length = true)
def dpOf (ds : List Int) (p : List Nat) : Nat → Int
 | 0=>0
 | k + 1=>max (dpOf ds p k) (ds.getD (ng p k) 0)
def pgN (ps : Pts) (t : Nat) : List Nat:=ps.getD t []
open Classical in
noncomputable def rGo (is : List InsD) (ps : Pts) : Nat → Nat → List Int → Int → Option Int
 | 0,_,_,d=>some d
 | n + 1,t,ds,d=>if ndOk is (pgN ps t) (ig is t) then rGo is ps n (t + 1) (ds.set t (dpOf ds (pgN ps t) (pgN ps t).length + 1)) (max d (dpOf ds (pgN ps t) (pgN ps t).length + 1)) else none
def endR (b : Bool) (s d : Int) : Int:=if (b = true ∧ s ≠ 4 ∧ s ≠ 5) ∨ (b = false ∧ s ≠ 1) then 2 else if 40 < d then 7 else 0
noncomputable def chkR (is : List InsD) (b : Bool) : Int :=
 if 300 < is.length then 6
 else match stGo is is.length 0 [] [] with
 | none=>2
 | some (ps,hv)=>if hv.length ≠ 1 then 2 else
  match rGo is ps is.length 0 (List.replicate is.length 0) 0 with
  | none=>2
  | some d=>endR b (sortR (ig is (is.length - 1)).op) d
theorem rGo_no {is : List InsD} {ps : Pts} {n t : Nat} {ds : List Int} {d : Int} (h : ¬ ndOk is (pgN ps t) (ig is t)) : rGo is ps (n + 1) t ds d = none:=by
 unfold rGo;exact if_neg h
theorem rGo_yes {is : List InsD} {ps : Pts} {n t : Nat} {ds : List Int} {d : Int} (h : ndOk is (pgN ps t) (ig is t)) : rGo is ps (n + 1) t ds d = rGo is ps n (t + 1) (ds.set t (dpOf ds (pgN ps t) (pgN ps t).length + 1)) (max d (dpOf ds (pgN ps t) (pgN ps t).length + 1)):=by
 rw [rGo];exact if_pos h
theorem stGo_no {is : List InsD} {n t : Nat} {ps : Pts} {hv : List Nat} (h : stOk (ig is t) hv = false) : stGo is (n + 1) t ps hv = none:=by
 unfold stGo;rw [h];rfl
theorem stGo_yes {is : List InsD} {n t : Nat} {ps : Pts} {hv : List Nat} (h : stOk (ig is t) hv = true) : stGo is (n + 1) t ps hv = stGo is n (t + 1) (ps ++ [stPart (ig is t) hv]) (stStep (ig is t) t hv):=by
 rw [stGo];exact if_pos h
theorem stGo_ext {is : List InsD} : ∀ (n t : Nat) (ps : Pts) (hv : List Nat) (PS : Pts) (HV : List Nat),stGo is n t ps hv = some (PS,HV) → ∃ q,PS = ps ++ q
 | 0,t,ps,hv,PS,HV,h=>by
  injection h with h
  injection h with h1 h2
  exact ⟨[],by rw [List.append_nil,h1]⟩
 | n + 1,t,ps,hv,PS,HV,h=>by
  cases hc : stOk (ig is t) hv with
  | false=>rw [stGo_no hc] at h;cases h
  | true =>
   rw [stGo_yes hc] at h
   obtain ⟨q,hq⟩:=stGo_ext n _ _ _ _ _ h
   exact ⟨[stPart (ig is t) hv] ++ q,by rw [hq,List.append_assoc]⟩
def stOf (is : List InsD) (ds : List Int) (hv : List Nat) : List Th:=hv.map fun i=>(sortD (ig is i).op,ds.getD i 0,i)
theorem tg_of {is : List InsD} {ds : List Int} {hv : List Nat} {j : Nat} (h : j < hv.length) : tg (stOf is ds hv) j = (sortD (ig is (ng hv j)).op,ds.getD (ng hv j) 0,ng hv j):=by
 unfold tg stOf ng
 rw [List.getD_eq_getElem?_getD,List.getElem?_map,List.getD_eq_getElem?_getD,List.getElem?_eq_getElem h]
 rfl
theorem stOf_length {is : List InsD} {ds : List Int} {hv : List Nat} : (stOf is ds hv).length = hv.length:=List.length_map _
theorem ng_drop (hv : List Nat) (n k : Nat) : ng (hv.drop n) k = ng hv (n + k):=by
 unfold ng;rw [List.getD_eq_getElem?_getD,List.getD_eq_getElem?_getD,List.getElem?_drop]
structure Along (is : List InsD) (t : Nat) (ds : List Int) (hv : List Nat) : Prop where
 lt : ∀ x ∈ hv,x < t
 ks : ∀ x ∈ hv,kidsB (ig is x).op (ig is x).a = true
 last : 0 < t → 0 < hv.length ∧ ng hv (hv.length - 1) = t - 1
 len : ds.length = is.length
theorem ng_mem {hv : List Nat} {k : Nat} (h : k < hv.length) : ng hv k ∈ hv:=by
 unfold ng
 rw [List.getD_eq_getElem?_getD,List.getElem?_eq_getElem h]
 exact List.getElem_mem h
theorem part_len {i : InsD} {hv : List Nat} (h1 : 0 ≤ i.a) (h2 : i.a ≤ hv.length) : (stPart i hv).length = i.a.toNat:=by
 unfold stPart;rw [List.length_drop];omega
theorem dp_same {is : List InsD} {ds : List Int} {hv : List Nat} {i : InsD} (h1 : 0 ≤ i.a) (h2 : i.a ≤ hv.length) : ∀ k,k ≤ i.a.toNat → thDep (partF i (stOf is ds hv)) k = dpOf ds (stPart i hv) k
 | 0,_=>rfl
 | k + 1,hk=>by
  show max _ _ = max _ _
  rw [dp_same h1 h2 k (by omega)]
  unfold partF cutN
  rw [stOf_length,tg_of (by omega)]
  unfold stPart
  rw [ng_drop]
theorem node_same {is : List InsD} {t : Nat} {ds : List Int} {hv : List Nat} {i : InsD} (h : Along is t ds hv) : nodeP is i (stOf is ds hv) ↔ stOk i hv = true ∧ ndOk is (stPart i hv) i:=by
 unfold nodeP stOk ndOk
 rw [Bool.and_eq_true,decide_eq_true_eq,stOf_length]
 by_cases hk : kidsB i.op i.a = true
 ·by_cases ha : i.a ≤ hv.length
  ·have h1:=kids_pos hk
   have hl:=part_len h1 ha
   have e1 : ∀ k,k < i.a.toNat → partF i (stOf is ds hv) k = (sortD (ig is (ng (stPart i hv) k)).op,ds.getD (ng (stPart i hv) k) 0,ng (stPart i hv) k):=fun k hk'=>by
    unfold partF cutN stPart
    rw [stOf_length,tg_of (by omega),ng_drop]
   have e2 : sortsP i.op (partF i (stOf is ds hv)) i.a.toNat ↔ ∀ k,k < (stPart i hv).length → sortR (ig is (ng (stPart i hv) k)).op = wantD i.op k:=by
    rw [hl]
    unfold sortsP
    refine forall_congr' fun k=>forall_congr' fun hk'=>?_
    rw [e1 k hk',sortR_kids (h.ks _ (by
     have : ng (stPart i hv) k = ng hv (hv.length - i.a.toNat + k):=by unfold stPart;rw [ng_drop]
     rw [this]
     exact ng_mem (by omega)))]
   have e3 : twF (fun r=>(ig is (partF i (stOf is ds hv) r).2.2).tx) i.a.toNat = twF (fun r=>(ig is (ng (stPart i hv) r)).tx) (stPart i hv).length:=by
    rw [hl]
    unfold twF
    congr 1
    refine propext ?_
    unfold twP
    constructor
    ·rintro ⟨x,hx,y,hy,e⟩
     refine ⟨x,hx,y,hy, ?_⟩
     have e' : (ig is (partF i (stOf is ds hv) x).2.2).tx = (ig is (partF i (stOf is ds hv) y).2.2).tx:=e
     rw [e1 x hx,e1 y (by omega)] at e'
     exact e'
    ·rintro ⟨x,hx,y,hy,e⟩
     refine ⟨x,hx,y,hy, ?_⟩
     show (ig is (partF i (stOf is ds hv) x).2.2).tx = (ig is (partF i (stOf is ds hv) y).2.2).tx
     rw [e1 x hx,e1 y (by omega)]
     exact e
   rw [e2,e3]
   exact ⟨fun ⟨a,b,c,d,e⟩=>⟨⟨b,c⟩,a,d,e⟩,fun ⟨⟨b,c⟩,a,d,e⟩=>⟨a,b,c,d,e⟩⟩
  ·exact ⟨fun ⟨_,_,c,_⟩=>absurd c ha,fun ⟨⟨_,c⟩,_⟩=>absurd c ha⟩
 ·exact ⟨fun ⟨_,b,_⟩=>absurd b hk,fun ⟨⟨b,_⟩,_⟩=>absurd b hk⟩
theorem along_step {is : List InsD} {t : Nat} {ds : List Int} {hv : List Nat} (h : Along is t ds hv) (v : Int) (hk : stOk (ig is t) hv = true) : Along is (t + 1) (ds.set t v) (stStep (ig is t) t hv):=by
 unfold stOk at hk
 rw [Bool.and_eq_true] at hk
 have hs : (stStep (ig is t) t hv).length = (hv.take (hv.length - (ig is t).a.toNat)).length + 1:=by unfold stStep;rw [List.length_append];rfl
 refine ⟨fun x hx=>?_,fun x hx=>?_,fun _=>⟨by omega, ?_⟩,by rw [List.length_set];exact h.len⟩
 ·unfold stStep at hx
  rcases List.mem_append.1 hx with hx | hx
  ·have:=h.lt x (List.mem_of_mem_take hx);omega
  ·rw [List.mem_singleton.1 hx];omega
 ·unfold stStep at hx
  rcases List.mem_append.1 hx with hx | hx
  ·exact h.ks x (List.mem_of_mem_take hx)
  ·rw [List.mem_singleton.1 hx];exact hk.1
 ·rw [hs]
  unfold stStep ng
  rw [List.getD_eq_getElem?_getD,List.getElem?_append_right (by omega)]
  simp
theorem step_same {is : List InsD} {t : Nat} {ds : List Int} {hv : List Nat} (h : Along is t ds hv) (ht : t < is.length) (hk : stOk (ig is t) hv = true) :
  stepT (ig is t) t (stOf is ds hv) = stOf is (ds.set t (dpOf ds (stPart (ig is t) hv) (stPart (ig is t) hv).length + 1)) (stStep (ig is t) t hv):=by
 unfold stOk at hk
 rw [Bool.and_eq_true,decide_eq_true_eq] at hk
 have h1:=kids_pos hk.1
 have hl:=part_len h1 hk.2
 unfold stepT stStep
 rw [hl,dp_same h1 hk.2 _ (Nat.le_refl _)]
 unfold stOf cutN
 rw [List.map_append,List.map_take,List.length_map]
 congr 1
 ·congr 1
  refine List.map_congr_left fun x hx=>?_
  have:=h.lt x hx
  rw [List.getD_eq_getElem?_getD,List.getD_eq_getElem?_getD,List.getElem?_set,if_neg (by omega)]
 ·have hd : (ds.set t (dpOf ds (stPart (ig is t) hv) (ig is t).a.toNat + 1)).getD t 0 = dpOf ds (stPart (ig is t) hv) (ig is t).a.toNat + 1:=by
   rw [List.getD_eq_getElem?_getD,List.getElem?_set,if_pos rfl,if_pos (by rw [h.len];exact ht)];rfl
  show [(sortD (ig is t).op,_,t)] = [(sortD (ig is t).op,(ds.set t (dpOf ds (stPart (ig is t) hv) (ig is t).a.toNat + 1)).getD t 0,t)]
  rw [hd]
theorem go_same {is : List InsD} : ∀ (n t : Nat) (ps : Pts) (hv : List Nat) (ds : List Int) (d : Int),n + t = is.length → ps.length = t → Along is t ds hv →
  (stGo is n t ps hv = none → cGo is n t (stOf is ds hv) d = none) ∧
  ∀ PS HV,stGo is n t ps hv = some (PS,HV) → (rGo is PS n t ds d = none → cGo is n t (stOf is ds hv) d = none) ∧ ∀ D,rGo is PS n t ds d = some D → ∃ DS,cGo is n t (stOf is ds hv) d = some (stOf is DS HV,D) ∧ Along is is.length DS HV
 | 0,t,ps,hv,ds,d,hn,hp,ha=>by
  refine ⟨fun h=>(by cases h),fun PS HV h=>⟨fun h2=>(by (unfold rGo at h2;cases h2)),fun D h2=>?_⟩⟩
  injection h with h
  injection h with h3 h4
  unfold rGo at h2
  injection h2 with h2
  subst h4 h2
  exact ⟨ds,rfl,by rw [show is.length = t by omega];exact ha⟩
 | n + 1,t,ps,hv,ds,d,hn,hp,ha=>by
  have ht : t < is.length:=by omega
  cases hc : stOk (ig is t) hv with
  | false =>
   have hno : cGo is (n + 1) t (stOf is ds hv) d = none:=cGo_no (fun h=>by
    have:=((node_same ha).1 h).1
    rw [hc] at this;cases this)
   rw [stGo_no hc]
   exact ⟨fun _=>hno,fun PS HV h=>(by cases h)⟩
  | true =>
   rw [stGo_yes hc]
   by_cases hnd : ndOk is (stPart (ig is t) hv) (ig is t)
   ·have hN:=(node_same (i:=ig is t) ha).2 ⟨hc,hnd⟩
    have hkk:=hc
    unfold stOk at hkk
    rw [Bool.and_eq_true,decide_eq_true_eq] at hkk
    have hl:=part_len (kids_pos hkk.1) hkk.2
    have hdp:=dp_same (is:=is) (ds:=ds) (kids_pos hkk.1) hkk.2 _ (Nat.le_refl _)
    rw [cGo_yes hN,step_same ha ht hc,hdp,← hl]
    have ih:=go_same n (t + 1) (ps ++ [stPart (ig is t) hv]) (stStep (ig is t) t hv) (ds.set t (dpOf ds (stPart (ig is t) hv) (stPart (ig is t) hv).length + 1)) (max d (dpOf ds (stPart (ig is t) hv) (stPart (ig is t) hv).length + 1)) (by omega) (by rw [List.length_append,hp];rfl) (along_step ha _ hc)
    refine ⟨ih.1,fun PS HV h=>?_⟩
    obtain ⟨q,hq⟩:=stGo_ext _ _ _ _ _ _ h
    have e : pgN PS t = stPart (ig is t) hv:=by
     unfold pgN
     rw [hq,List.append_assoc,List.getD_eq_getElem?_getD,List.getElem?_append_right (by omega),hp,Nat.sub_self]
     rfl
    have ih2:=ih.2 PS HV h
    rw [rGo_yes (by rw [e];exact hnd),e]
    exact ih2
   ·have hno : cGo is (n + 1) t (stOf is ds hv) d = none:=cGo_no (fun h=>hnd ((node_same ha).1 h).2)
    rw [hno]
    refine ⟨fun _=>rfl,fun PS HV h=>⟨fun _=>rfl,fun D h2=>?_⟩⟩
    obtain ⟨q,hq⟩:=stGo_ext _ _ _ _ _ _ h
    have e : pgN PS t = stPart (ig is t) hv:=by
     unfold pgN
     rw [hq,List.append_assoc,List.getD_eq_getElem?_getD,List.getElem?_append_right (by omega),hp,Nat.sub_self]
     rfl
    rw [rGo_no (by rw [e];exact hnd)] at h2
    cases h2
theorem chk_same (is : List InsD) (b : Bool) : chkR is b = chkP is b:=by
 unfold chkR chkP
 by_cases hl : 300 < is.length
 ·rw [if_pos hl,if_pos hl]
 ·rw [if_neg hl,if_neg hl]
  have h:=go_same is.length 0 [] [] (List.replicate is.length 0) 0 rfl rfl (is:=is) ⟨fun x hx=>(by cases hx),fun x hx=>(by cases hx),fun h=>absurd h (by omega),List.length_replicate⟩
  have hz : stOf is (List.replicate is.length 0) [] = []:=rfl
  rw [hz] at h
  cases hs : stGo is is.length 0 [] [] with
  | none=>rw [h.1 hs];rfl
  | some x =>
   obtain ⟨PS,HV⟩:=x
   have h2:=h.2 PS HV hs
   dsimp only
   cases hr : rGo is PS is.length 0 (List.replicate is.length 0) 0 with
   | none =>
    rw [h2.1 hr]
    show (if _ then _ else _) = (2 : Int)
    split <;> rfl
   | some D =>
    obtain ⟨DS,e1,al⟩:=h2.2 D hr
    rw [e1]
    unfold endC endR
    dsimp only
    rw [stOf_length]
    by_cases h1 : HV.length = 1
    ·rw [if_neg (fun h=>h h1)]
     have e0 : (tg (stOf is DS HV) 0).1 = sortR (ig is (is.length - 1)).op:=by
      have hpos : 0 < is.length:=by
       rcases Nat.eq_zero_or_pos is.length with h | h
       ·rw [h] at hs
        injection hs with hs
        injection hs with _ hs
        rw [← hs] at h1;cases h1
       ·exact h
      have hlast:=(al.last hpos).2
      rw [h1] at hlast
      rw [tg_of (by omega)]
      have hm:=al.ks (ng HV 0) (ng_mem (by omega))
      show sortD _ = _
      rw [← sortR_kids hm,hlast]
     rw [e0]
     by_cases hc : (b = true ∧ sortR (ig is (is.length - 1)).op ≠ 4 ∧ sortR (ig is (is.length - 1)).op ≠ 5) ∨ (b = false ∧ sortR (ig is (is.length - 1)).op ≠ 1)
     ·rw [if_pos hc,if_pos (.inr hc)]
     ·rw [if_neg hc,if_neg (show ¬ (HV.length ≠ 1 ∨ _ ∨ _) from fun h=>h.elim (fun h=>h h1) hc)]
    ·rw [if_pos h1,if_pos (.inl h1)]
end Go.Proofs.YtnhmplfonkjfoaaDoor



namespace Go.Proofs.YtnhmplfonkjfoaaDoor
open Go.RowKit

def rowD (op : Int) (g : Nat → Nat → List InsD) (p : List Nat) (fr : Nat) : Nat → List InsD
 | 0=>[]
 | k + 1=>rowD op g p fr k ++ g (ng p k) (fr + (rowD op g p fr k).length) ++ (if op = 23 ∧ k = 0 then [insO 103 0] else [])
def bodyD (i : InsD) (g : Nat → Nat → List InsD) (p : List Nat) (fr : Nat) : List InsD :=
 if i.op = 21 then
  g (ng p 0) fr ++ [insO 102 ((fr : Int) + (g (ng p 0) fr).length + (g (ng p 1) (fr + (g (ng p 0) fr).length + 1)).length + 2)] ++ g (ng p 1) (fr + (g (ng p 0) fr).length + 1) ++
   [insO 101 ((fr : Int) + (g (ng p 0) fr).length + (g (ng p 1) (fr + (g (ng p 0) fr).length + 1)).length + (g (ng p 2) (fr + (g (ng p 0) fr).length + (g (ng p 1) (fr + (g (ng p 0) fr).length + 1)).length + 2)).length + 2)] ++
   g (ng p 2) (fr + (g (ng p 0) fr).length + (g (ng p 1) (fr + (g (ng p 0) fr).length + 1)).length + 2)
 else rowD i.op g p fr p.length ++ [if i.op = 23 then insO 104 0 else lastI i]
def ofF (is : List InsD) (ps : Pts) : Nat → Nat → Nat → List InsD
 | 0,_,_=>[]
 | f + 1,a,fr=>bodyD (ig is a) (ofF is ps f) (pgN ps a) fr
def ofD (is : List InsD) (ps : Pts) (a fr : Nat) : List InsD:=ofF is ps (a + 1) a fr
structure Wf (is : List InsD) (ps : Pts) : Prop where
 lt : ∀ a,a < is.length → ∀ x ∈ pgN ps a,x < a
 three : ∀ a,a < is.length → (ig is a).op = 21 → (pgN ps a).length = 3
 two : ∀ a,a < is.length → (ig is a).op = 23 → (pgN ps a).length = 2
 jmp : ∀ a,a < is.length → ¬ jmpP (ig is a).op
theorem rowD_congr {op : Int} {g g' : Nat → Nat → List InsD} {p : List Nat} {fr : Nat} (h : ∀ x ∈ p,∀ f,g x f = g' x f) : ∀ k,k ≤ p.length → rowD op g p fr k = rowD op g' p fr k
 | 0,_=>rfl
 | k + 1,hk=>by
  show rowD op g p fr k ++ g (ng p k) _ ++ _ = rowD op g' p fr k ++ g' (ng p k) _ ++ _
  rw [rowD_congr h k (by omega),h _ (ng_mem (by omega))]
theorem bodyD_congr {i : InsD} {g g' : Nat → Nat → List InsD} {p : List Nat} {fr : Nat} (h : ∀ x ∈ p,∀ f,g x f = g' x f) (h3 : i.op = 21 → p.length = 3) : bodyD i g p fr = bodyD i g' p fr:=by
 unfold bodyD
 by_cases c : i.op = 21
 ·have hl:=h3 c
  rw [if_pos c,if_pos c]
  simp only [h _ (ng_mem (show 0 < p.length by omega)),h _ (ng_mem (show 1 < p.length by omega)),h _ (ng_mem (show 2 < p.length by omega))]
 ·rw [if_neg c,if_neg c,rowD_congr h _ (Nat.le_refl _)]
theorem ofF_fuel {is : List InsD} {ps : Pts} (hw : Wf is ps) : ∀ (f f' a fr : Nat),a < f → a < f' → a < is.length → ofF is ps f a fr = ofF is ps f' a fr
 | 0,_,_,_,h,_,_=>absurd h (Nat.not_lt_zero _)
 | _ + 1,0,_,_,_,h,_=>absurd h (Nat.not_lt_zero _)
 | f + 1,f' + 1,a,fr,h1,h2,h3=>by
  refine bodyD_congr (fun x hx k=>?_) (hw.three a h3)
  have:=hw.lt a h3 x hx
  exact ofF_fuel hw f f' x k (by omega) (by omega) (by omega)
theorem ofD_eq {is : List InsD} {ps : Pts} (hw : Wf is ps) {a : Nat} (ha : a < is.length) (fr : Nat) : ofD is ps a fr = bodyD (ig is a) (ofD is ps) (pgN ps a) fr:=by
 show bodyD (ig is a) (ofF is ps a) (pgN ps a) fr = _
 refine bodyD_congr (fun x hx k=>?_) (hw.three a ha)
 have:=hw.lt a ha x hx
 exact ofF_fuel hw _ _ _ _ (by omega) (by omega) (by omega)
def shI (n : Int) (i : InsD) : InsD:=if jmpP i.op then { i with a:=i.a + n } else i
def shL (n : Int) (p : List InsD) : List InsD:=p.map (shI n)
theorem shL_length (n : Int) (p : List InsD) : (shL n p).length = p.length:=List.length_map _
theorem shL_append (n : Int) (p q : List InsD) : shL n (p ++ q) = shL n p ++ shL n q:=List.map_append
theorem shL_one {n : Int} {i : InsD} (h : ¬ jmpP i.op) : shL n [i] = [i]:=by
 show [shI n i] = [i]
 unfold shI
 rw [if_neg h]
theorem shL_jmp {n : Int} {op a : Int} (h : jmpP op) : shL n [insO op a] = [insO op (a + n)]:=by
 show [shI n (insO op a)] = _
 unfold shI
 rw [if_pos (show jmpP (insO op a).op from h)]
 rfl
theorem lastI_op (i : InsD) : (lastI i).op = i.op:=by unfold lastI;split <;> rfl
theorem nj {op : Int} (h : op ≠ 101 ∧ op ≠ 102) : ¬ jmpP op:=fun hh=>by unfold jmpP at hh;omega
theorem rowD_sh {op : Int} {g : Nat → Nat → List InsD} {p : List Nat} (h : ∀ x ∈ p,∀ f n : Nat,g x (f + n) = shL n (g x f)) (fr n : Nat) : ∀ k,k ≤ p.length → rowD op g p (fr + n) k = shL n (rowD op g p fr k)
 | 0,_=>rfl
 | k + 1,hk=>by
  have ih:=rowD_sh (op:=op) h fr n k (by omega)
  show rowD op g p (fr + n) k ++ g (ng p k) _ ++ _ = shL n (rowD op g p fr k ++ g (ng p k) _ ++ _)
  rw [ih,shL_length,shL_append,shL_append,show fr + n + (rowD op g p fr k).length = fr + (rowD op g p fr k).length + n by omega,h _ (ng_mem (by omega))]
  congr 1
  split
  ·exact (shL_one (nj ⟨by decide,by decide⟩)).symm
  ·rfl
theorem bodyD_sh {i : InsD} {g : Nat → Nat → List InsD} {p : List Nat} (h : ∀ x ∈ p,∀ f n : Nat,g x (f + n) = shL n (g x f)) (h3 : i.op = 21 → p.length = 3) (hj : ¬ jmpP i.op) (fr n : Nat) : bodyD i g p (fr + n) = shL n (bodyD i g p fr):=by
 unfold bodyD
 by_cases c : i.op = 21
 ·have hl:=h3 c
  rw [if_pos c,if_pos c]
  have e0 : g (ng p 0) (fr + n) = shL n (g (ng p 0) fr):=h _ (ng_mem (by omega)) _ _
  rw [e0,shL_length]
  have e1 : g (ng p 1) (fr + n + (g (ng p 0) fr).length + 1) = shL n (g (ng p 1) (fr + (g (ng p 0) fr).length + 1)):=by
   rw [show fr + n + (g (ng p 0) fr).length + 1 = fr + (g (ng p 0) fr).length + 1 + n by omega]
   exact h _ (ng_mem (by omega)) _ _
  rw [e1,shL_length]
  have e2 : g (ng p 2) (fr + n + (g (ng p 0) fr).length + (g (ng p 1) (fr + (g (ng p 0) fr).length + 1)).length + 2) = shL n (g (ng p 2) (fr + (g (ng p 0) fr).length + (g (ng p 1) (fr + (g (ng p 0) fr).length + 1)).length + 2)):=by
   rw [show fr + n + (g (ng p 0) fr).length + (g (ng p 1) (fr + (g (ng p 0) fr).length + 1)).length + 2 = fr + (g (ng p 0) fr).length + (g (ng p 1) (fr + (g (ng p 0) fr).length + 1)).length + 2 + n by omega]
   exact h _ (ng_mem (by omega)) _ _
  rw [e2,shL_length,shL_append,shL_append,shL_append,shL_append,shL_jmp (.inr rfl),shL_jmp (.inl rfl)]
  congr 1
  congr 1
  ·congr 1
   congr 1
   congr 1
   congr 1
   push_cast
   omega
  ·congr 1
   congr 1
   push_cast
   omega
 ·rw [if_neg c,if_neg c,shL_append,rowD_sh h fr n _ (Nat.le_refl _)]
  congr 1
  split
  ·exact (shL_one (nj ⟨by decide,by decide⟩)).symm
  ·exact (shL_one (by rw [lastI_op];exact hj)).symm
theorem ofF_sh {is : List InsD} {ps : Pts} (hw : Wf is ps) : ∀ (f a fr n : Nat),a < f → a < is.length → ofF is ps f a (fr + n) = shL n (ofF is ps f a fr)
 | 0,_,_,_,h,_=>absurd h (Nat.not_lt_zero _)
 | f + 1,a,fr,n,h1,h2=>by
  refine bodyD_sh (fun x hx k m=>?_) (hw.three a h2) (hw.jmp a h2) fr n
  have:=hw.lt a h2 x hx
  exact ofF_sh hw f x k m (by omega) (by omega)
theorem ofD_sh {is : List InsD} {ps : Pts} (hw : Wf is ps) {a : Nat} (ha : a < is.length) (fr : Nat) : ofD is ps a fr = shL fr (ofD is ps a 0):=by
 have:=ofF_sh hw (a + 1) a 0 fr (by omega) ha
 rw [Nat.zero_add] at this
 exact this
end Go.Proofs.YtnhmplfonkjfoaaDoor



namespace Go.Proofs.YtnhmplfonkjfoaaDoor
open Go.RowKit

theorem wpList_pushM {w : World} {ops : Array Oper} {rest : List Oper} {o : Oper} {a : Act} {Q : Exit → Act → World → Prop} (hgd : o.guard = none) (s x : Operand) (t e : TypeId) (k : Nat) (bytes : Nat) (z : Value)
  (ho : o.op = .call { callee:=.builtin .append,args:=#[s,x],argTypes:=#[t,t] }) (ht : Tryd.prog.underlying t = some (.slice e))
  (hi : (Tryd.prog.info? e).map (fun i=>(i.zero,i.size,i.bytes)) = some (some z,k,bytes)) (hzk : z.cells.size = k) (hk : 0 < k)
  (own : Nat → Nat) (l : Nat) (v : Value) (n : Nat) (ds : List Value) (hs : a.eval s = v) (hrow : Ro w own l e k v n ds)
  (A : Option Addr) (m c : Nat) (news : List Value) (hx : a.eval x = .slice A m c) (hl : news.length = m * k) (hnews : 0 < m → ∃ ad,A = some ad ∧ ∀ j u,news[j]? = some u → w.cell? (ad.add j) = some u) (h1 : ∀ u ∈ news,u.oneCell' = true) (hlen : (n + m) * bytes ≤ 140737488355328) (h63 : n + m ≤ maxLen)
  (h : ∀ A' C' w',Ro w' (relabel own w.heap.size l) l e k (.slice A' (n + m) C') (n + m) (ds ++ news) → Turn (· = l) w own w' (relabel own w.heap.size l) → wpList Tryd.prog ops Q rest (a.put o.dst (.slice A' (n + m) C')) w') :
  wpList Tryd.prog ops Q (o :: rest) a w:=by
 rcases Nat.eq_zero_or_pos m with rfl | hm
 ·have hn : news = []:=List.eq_nil_of_length_eq_zero (by rw [hl,Nat.zero_mul])
  subst hn
  obtain ⟨i0,hi0,hz0,hz1,hz2⟩:=info_parts hi
  have hsrc : Src Tryd.prog i0.size t (.slice A 0 c) 0 [] w:=by
   cases A with
   | none=>exact Src.ofNil w ht c
   | some ad=>exact Src.ofSlice w ht ad 0 c [] (by simp) (fun j u hu=>by simp at hu) (fun u hu=>by cases hu)
  obtain ⟨A',C',rfl,hc⟩:=hrow.sl.is
  have hcap:=Ro.cap hrow
  have hr:=run_append_nothing (P:=Tryd.prog) w t t o.type e i0 ht hi0 A' n C' hcap.1 (.slice A 0 c) hsrc
  refine wpList_plain hgd fun K hK=>?_
  unfold Oper.wp execOp
  simp only [ho,resolve,invoke,builtin,Sem.run_bind,Sem.run_pure,Result.andThen_ok,List.map_toArray,List.map_cons,List.map_nil,hs,hx,hr]
  refine hK _ _ (h A' C' w ?_ ?_)
  ·rw [List.append_nil]
   exact ⟨hrow.1,fun g hg=>by rw [relabel_old (hrow.1.lt g hg).2];exact hrow.2 g hg⟩
  ·exact (Turn.refl _ _ _).relabel (Nat.le_refl _) _
 ·obtain ⟨ad,rfl,hn⟩:=hnews hm
  exact wpList_pushR hgd s x t e k bytes z ho ht hi hzk hk own l v n ds hs hrow ad m c news hx hl hn h1 hm hlen h63 (fun g cap w' h1 h2 _=>h _ _ w' h1 h2)
def ob (B : Nat) : Nat → Nat:=fun k=>if k < B then 0 else 1
theorem ob_low {B k : Nat} (h : k < B) : ob B k = 0:=if_pos h
theorem ob_up {B k : Nat} (h : B ≤ k) : ob B k = 1:=if_neg (by omega)
theorem ob_re {B n : Nat} (h : B ≤ n) : relabel (ob B) n 1 = ob B:=by
 funext k
 by_cases hk : k < n
 ·exact relabel_old hk
 ·rw [relabel_new (by omega),ob_up (by omega)]
theorem ob_below {w0 w w' : World} (h : Turn (· = 1) w (ob w0.heap.size) w' (ob w0.heap.size)) (hb : Below w0.heap.size w0 w) : Below w0.heap.size w0 w' :=
 hb.trans (h.below (fun k hk=>by rw [ob_low hk];decide) hb.size)
theorem ob_ro {B : Nat} {w : World} {t : TypeId} {k n : Nat} {v : Value} {cs : List Value} (h : Ro w (ob B) 1 t k v n cs) (o : Nat → Nat) (l : Nat) : Ro w (relabel o B l) l t k v n cs :=
 h.renum (fun g hg=>by
  rcases Nat.lt_or_ge g B with h' | h'
  ·rw [ob_low h'] at hg;cases hg
  ·exact h') o l
theorem ob_nil (w : World) (t : TypeId) (k : Nat) (B : Nat) (hB : B ≤ w.heap.size) : Ro (w.alloc (.cells #[] t)) (ob B) 1 t k (.slice (some ⟨w.heap.size,0,none⟩) 0 0) 0 [] :=
 Ro.of_block (cur:=[]) (cap:=0) ⟨Bk.new w t [],ob_up hB⟩ (Nat.le_refl _) (by unfold maxLen;omega) (by simp) (by simp)
theorem wpList_copyM {w0 : World} {ops : Array Oper} {rest : List Oper} {o : Oper} {a : Act} {Q : Exit → Act → World → Prop} (hgd : o.guard = none) (s x : Operand) (t e : TypeId) (k : Nat) (bytes : Nat) (z : Value)
  (ho : o.op = .call { callee:=.builtin .append,args:=#[s,x],argTypes:=#[t,t] }) (ht : Tryd.prog.underlying t = some (.slice e))
  (hi : (Tryd.prog.info? e).map (fun i=>(i.zero,i.size,i.bytes)) = some (some z,k,bytes)) (hzk : z.cells.size = k) (hk : 0 < k)
  (hs : a.eval s = .slice (some ⟨w0.heap.size,0,none⟩) 0 0)
  (A : Option Addr) (m c : Nat) (news : List Value) (hx : a.eval x = .slice A m c) (hl : news.length = m * k) (hnews : 0 < m → ∃ ad,A = some ad ∧ ∀ j u,news[j]? = some u → w0.cell? (ad.add j) = some u) (h1 : ∀ u ∈ news,u.oneCell' = true) (hlen : m * bytes ≤ 140737488355328) (h63 : m ≤ maxLen)
  (h : ∀ A' C' w',Ro w' (ob w0.heap.size) 1 e k (.slice A' m C') m news → Below w0.heap.size w0 w' → wpList Tryd.prog ops Q rest (a.put o.dst (.slice A' m C')) w') :
  wpList Tryd.prog ops Q (o :: rest) a (w0.alloc (.cells #[] e)):=by
 refine wpList_pushM hgd s x t e k bytes z ho ht hi hzk hk (ob w0.heap.size) 1 _ 0 [] hs (ob_nil w0 e k w0.heap.size (Nat.le_refl _)) A m c news hx hl (fun hm=>?_) h1 (by rw [Nat.zero_add];exact hlen) (by rw [Nat.zero_add];exact h63) (fun A' C' w' h2 h3=>?_)
 ·obtain ⟨ad,e1,h2⟩:=hnews hm
  exact ⟨ad,e1,fun j u hj=>(World.cell?_alloc_some _ _ _ (Option.isSome_iff_exists.2 ⟨u,h2 j u hj⟩)).trans (h2 j u hj)⟩
 ·rw [ob_re (by rw [World.size_alloc];exact Nat.le_succ _)] at h2 h3
  rw [List.nil_append,Nat.zero_add] at h2
  rw [Nat.zero_add]
  exact h A' C' w' h2 (ob_below (w0:=w0) h3 (Below.alloc (Below.refl _ _) (Nat.le_refl _) _))
def nts (l : List Nat) : List Value:=l.map fun (i : Nat)=>Value.int .i64 (i : Int)
theorem nts_length (l : List Nat) : (nts l).length = l.length * 1:=by unfold nts;rw [List.length_map,Nat.mul_one]
theorem nts_cells (l : List Nat) : ∀ u ∈ nts l,u.oneCell' = true:=fun u hu=>by
 obtain ⟨i,_,rfl⟩:=List.mem_map.1 hu
 rfl
theorem nts_append (l r : List Nat) : nts (l ++ r) = nts l ++ nts r:=List.map_append
theorem nts_get {l : List Nat} {r : Nat} (h : r < l.length) : (nts l)[r]? = some (.int .i64 (l.getD r 0 : Nat)):=by
 unfold nts
 rw [List.getElem?_map,List.getD_eq_getElem?_getD,List.getElem?_eq_getElem h];rfl
theorem info_nat : (Tryd.prog.info? 3).map (fun i=>(i.zero,i.size,i.bytes)) = some (some (.int .i64 0),1,8):=by kernel_rfl
theorem info_ints : (Tryd.prog.info? 74).map (fun i=>(i.zero,i.size,i.bytes)) = some (some (.slice none 0 0),1,24):=by kernel_rfl
theorem cut_runI (A : Option Addr) (n C cut : Nat) (hA : 0 < C → ∃ g,A = some ⟨g,0,none⟩) (h1 : cut ≤ n) (h2 : n ≤ C) : ∃ A6 C6,(cut < n → ∃ g,A = some ⟨g,0,none⟩ ∧ A6 = some ⟨g,cut,none⟩) ∧ n - cut ≤ C6 ∧ C6 ≤ C ∧ ∀ W : World,(Instr.slice 74 (.slice A n C) (some (.int .i64 cut)) none none).run Tryd.prog W = .ok (.slice A6 (n - cut) C6) W:=by
 have hn : (cut : Int) ≤ (n : Int):=by omega
 by_cases hC : C = cut
 ·subst hC
  obtain rfl : n = C:=by omega
  refine ⟨A,0,fun h=>by omega,by omega,by omega,fun W=>?_⟩
  go_simp
 ·obtain ⟨g,rfl⟩:=hA (by omega)
  refine ⟨some ⟨g,cut,none⟩,C - cut,fun _=>⟨g,rfl,rfl⟩,by omega,by omega,fun W=>?_⟩
  go_simp
  try rw [if_pos (by omega),if_neg (by omega)]
theorem ro_tail {w : World} {o : Nat → Nat} {l : Nat} {t : TypeId} {A A6 : Option Addr} {n C cut : Nat} {hv : List Nat} (h : Ro w o l t 1 (.slice A n C) n (nts hv)) (hn : hv.length = n) (hc : cut < n → ∃ g,A = some ⟨g,0,none⟩ ∧ A6 = some ⟨g,cut,none⟩) : 0 < n - cut → ∃ ad,A6 = some ad ∧ ∀ j u,(nts (hv.drop cut))[j]? = some u → w.cell? (ad.add j) = some u:=fun hpos=>by
 obtain ⟨g,rfl,rfl⟩:=hc (by omega)
 refine ⟨_,rfl,fun j u hj=>?_⟩
 obtain ⟨A',C',e,-,-,h4⟩:=h.sl
 injection e with e
 have hj2 : j < n - cut:=by
  have:=(List.getElem?_eq_some_iff.1 hj).1
  rw [nts_length,Nat.mul_one,List.length_drop,hn] at this
  exact this
 obtain ⟨b,q,e2,h5⟩:=h4 (cut + j) (by omega)
 rw [← e] at e2
 injection e2 with e2
 injection e2 with e2 e3
 subst e2 e3
 have hadd : (⟨g,cut,none⟩ : Addr).add j = ⟨g,cut + j,none⟩:=by unfold Addr.add;split <;> simp_all
 rw [hadd]
 rw [Nat.zero_add] at h5
 rw [h5,nts_get (by omega)]
 rw [nts_get (by rw [List.length_drop];omega),getD_drop] at hj
 exact hj
theorem ro_head {w : World} {o : Nat → Nat} {l : Nat} {t : TypeId} {A : Option Addr} {n C cut : Nat} {hv : List Nat} (h : Ro w o l t 1 (.slice A n C) n (nts hv)) (hn : hv.length = n) (hcut : cut ≤ n) : 0 < cut → ∃ ad,A = some ad ∧ ∀ j u,(nts (hv.take cut))[j]? = some u → w.cell? (ad.add j) = some u:=fun hpos=>by
 obtain ⟨g,cap,cur,e,h1,h2,h3,h4,h5⟩:=h.form (by omega)
 injection e with e1 e2 e3
 refine ⟨_,e1,fun j u hj=>?_⟩
 have hj2 : j < cut:=by
  have:=(List.getElem?_eq_some_iff.1 hj).1
  rw [nts_length,Nat.mul_one,List.length_take] at this
  omega
 rw [add_nought]
 refine h4.1.cell j ?_
 have h6 : (cur.take (n * 1))[j]? = (nts hv)[j]?:=by rw [h5]
 rw [List.getElem?_take_of_lt (by omega)] at h6
 rw [h6,nts_get (by omega)]
 rw [nts_get (by rw [List.length_take];omega),getD_take _ _ _ _ hj2] at hj
 exact hj
end Go.Proofs.YtnhmplfonkjfoaaDoor



namespace Go.Proofs.YtnhmplfonkjfoaaDoor
open Go.RowKit

def Nts (w : World) (v : Value) (l : List Nat) : Prop:=Lsn 1 (fun r=>[.int .i64 (ng l r)]) w v l.length
def Prd (w : World) (v : Value) (ps : Pts) : Prop:=∃ A C,v = .slice A ps.length C ∧ ps.length ≤ maxLen ∧ ∀ r,r < ps.length → ∃ b q u,A = some ⟨b,q,none⟩ ∧ w.cell? ⟨b,q + r,none⟩ = some u ∧ Nts w u (pgN ps r)
theorem Prd.below {w w' : World} {v : Value} {ps : Pts} (h : Prd w v ps) (hb : Below w.heap.size w w') : Prd w' v ps:=by
 obtain ⟨A,C,e,hm,h4⟩:=h
 refine ⟨A,C,e,hm,fun r hr=>?_⟩
 obtain ⟨b,q,u,e1,h5,h6⟩:=h4 r hr
 exact ⟨b,q,u,e1,(hb.cell (p:=⟨b,q + r,none⟩) (cell_lt2 h5)).trans h5,Lsn.below h6 hb⟩
theorem Nts.below {w w' : World} {v : Value} {l : List Nat} (h : Nts w v l) (hb : Below w.heap.size w w') : Nts w' v l:=Lsn.below h hb
theorem ro_nts {w : World} {o : Nat → Nat} {l n : Nat} {t : TypeId} {v : Value} {hv : List Nat} (h : Ro w o l t 1 v n (nts hv)) (hn : hv.length = n) : Nts w v hv:=by
 subst hn
 obtain ⟨A,C,rfl,hm,-,h4⟩:=h.sl
 refine ⟨A,C,rfl,hm,fun r hr=>?_⟩
 obtain ⟨b,q,e,h5⟩:=h4 r (by omega)
 refine ⟨b,q,e,fun j hj=>?_⟩
 have hj : j < 1:=hj
 obtain rfl : j = 0:=by omega
 rw [Nat.mul_one,Nat.add_zero,h5,nts_get hr]
 rfl
structure Skm (w0 : World) (o : Nat → Nat) (wr : World) (vP vH : Value) (vs : List Value) (ps : Pts) (hv : List Nat) : Prop where
 row : Ro wr o 1 74 1 vP ps.length vs
 len : vs.length = ps.length
 rows : ∀ r,r < ps.length → Ro wr o 2 3 1 (vs.getD r undef) (pgN ps r).length (nts (pgN ps r))
 hav : Ro wr o 3 3 1 vH hv.length (nts hv)
 turn : Turn (fun l=>l ≠ 0) w0 (fun _=>0) wr o
section
variable {w0 wr w' : World} {o : Nat → Nat} {vP vH : Value} {vs : List Value} {ps : Pts} {hv : List Nat}
theorem Skm.below (h : Skm w0 o wr vP vH vs ps hv) : Below w0.heap.size w0 wr:=h.turn.below (fun _ _=>by simp) (Nat.le_refl _)
theorem Skm.kept (h : Skm w0 o wr vP vH vs ps hv) (hb : Below wr.heap.size wr w') (l : Nat) : Skm w0 (relabel o wr.heap.size l) w' vP vH vs ps hv:=by
 have t : Turn (fun _=>False) wr o w' (relabel o wr.heap.size l):=⟨hb.os,hb.tape,hb.output,hb.size,fun k hk=>relabel_old hk,fun k hk _=>hb.block k hk⟩
 exact ⟨h.row.turn t (fun hh=>hh),h.len,fun r hr=>(h.rows r hr).turn t (fun hh=>hh),h.hav.turn t (fun hh=>hh),h.turn.trans (t.mono fun l hl=>hl.elim)⟩
theorem Skm.prd (h : Skm w0 o wr vP vH vs ps hv) : Prd wr vP ps:=by
 obtain ⟨A,C,rfl,hm,-,h4⟩:=h.row.sl
 refine ⟨A,C,rfl,hm,fun r hr=>?_⟩
 obtain ⟨b,q,e,h5⟩:=h4 r (by omega)
 have hl:=h.len
 refine ⟨b,q,vs.getD r undef,e, ?_,ro_nts (h.rows r hr) rfl⟩
 rw [h5,List.getD_eq_getElem?_getD,List.getElem?_eq_getElem (by omega)];rfl
theorem Skm.nts (h : Skm w0 o wr vP vH vs ps hv) : Nts wr vH hv:=ro_nts h.hav rfl
theorem Skm.push {w2 w3 : World} {A' : Option Addr} {C' n : Nat} {p : List Nat} {g : Nat} {C3 : Nat} {o1 o3 : Nat → Nat} (hpn : p.length = n) (h : Skm w0 o wr vP vH vs ps hv) (hb : Below wr.heap.size wr w2) (ho1 : o1 = relabel o wr.heap.size 2) (hn : Ro w2 o1 2 3 1 (.slice A' n C') n (Go.Proofs.YtnhmplfonkjfoaaDoor.nts p))
  (ht : Turn (· = 1) w2 o1 w3 o3) (hr : Ro w3 o3 1 74 1 (.slice (some ⟨g,0,none⟩) (ps.length + 1) C3) (ps.length + 1) (vs ++ [.slice A' n C'])) : Skm w0 o3 w3 (.slice (some ⟨g,0,none⟩) (ps.length + 1) C3) vH (vs ++ [.slice A' n C']) (ps ++ [p]) hv:=by
 subst hpn
 have h1:=h.kept hb 2
 rw [← ho1] at h1
 have hl : (ps ++ [p]).length = ps.length + 1:=by rw [List.length_append];rfl
 refine ⟨by rw [hl];exact hr,by rw [List.length_append,List.length_append,h.len];rfl,fun r hr=>?_,h1.hav.turn ht (by decide),h1.turn.trans (ht.mono fun l hl=>by have hl' : l = 1:=hl;omega)⟩
 rw [hl] at hr
 by_cases e : r < ps.length
 ·have:=(h1.rows r e).turn ht (by decide)
  unfold pgN at *
  rw [getD_left _ _ _ (by rw [h.len];exact e),getD_left _ _ _ e]
  exact this
 ·obtain rfl : r = ps.length:=by omega
  unfold pgN
  rw [getD_last _ _ _ h.len,getD_last _ _ _ rfl]
  exact hn.turn ht (by decide)
theorem Skm.again {v2 : Value} {h2 : List Nat} (h : Skm w0 o wr vP vH vs ps hv) (hb : Below wr.heap.size wr w') (hn : Ro w' (ob wr.heap.size) 1 3 1 v2 h2.length (Go.Proofs.YtnhmplfonkjfoaaDoor.nts h2)) : Skm w0 (relabel o wr.heap.size 3) w' vP v2 vs ps h2:=by
 have h1:=h.kept hb 3
 exact ⟨h1.row,h1.len,h1.rows,ob_ro hn o 3,h1.turn⟩
end
def StkPost (is : List InsD) (w : World) (e : Ending) (w' : World) : Prop :=
 match stGo is is.length 0 [] [] with
 | none=>e = .returned (.tuple #[.slice none 0 0,.slice none 0 0,.bool false]) ∧ Below w.heap.size w w'
 | some (ps,hv)=>∃ vP vH,e = .returned (.tuple #[vP,vH,.bool true]) ∧ Prd w' vP ps ∧ Nts w' vH hv ∧ Below w.heap.size w w'
set_option maxRecDepth 100000 in
set_option maxHeartbeats 4000000 in
theorem stack10_any (is : List InsD) (v : Value) (w : World) (h : Cod w v is) (hl : is.length ≤ 1000) : Calls Tryd.prog 30 #[v,.int .i64 ((is.length : Int) - 1)] w (StkPost is w):=by
 obtain ⟨X,hX⟩ : ∃ X,X = stGo is is.length 0 [] []:=⟨_,rfl⟩
 unfold StkPost
 rw [← hX]
 have HV:=Lib.hid hX.symm
 have HC:=Lib.hid h
 obtain ⟨A,C,rfl,-,-⟩:=h
 clear hX
 go_enter Tryd.func30,Tryd.ntmps30
 go_wp2_with fail
 go_loopg [7,8,9] is.length (fun k s7 s8 s9 wr=>∃ (t : Nat) (vs : List Value) (ps : Pts) (hv : List Nat) (o : Nat → Nat),k + t = is.length ∧ s9 = .int .i64 t ∧ Hid (Skm w o wr s8 s7 vs ps hv) ∧ Hid (ps.length = t) ∧ Hid (hv.length ≤ t) ∧ Hid (stGo is k t ps hv = X))
 case atStart=>exact ⟨0,[],[],[],fun _=>0,by omega,rfl,Lib.hid ⟨Ro.nil _ _ _ _ _,rfl,fun r hr=>absurd hr (Nat.not_lt_zero _),Ro.nil _ _ _ _ _,Turn.refl _ _ _⟩,Lib.hid rfl,Lib.hid (Nat.le_refl _),HV⟩
 case round =>
  obtain ⟨t,vs,ps,hv,o,hk,rfl,HM,HPL,HHL,HW⟩:=hrel
  have HK:=Lib.hid hk
  have htn : t ≤ is.length:=by omega
  clear HV
  by_cases hlt : t < is.length
  ·have hle : (t : Int) ≤ (is.length : Int) - 1:=by omega
   obtain ⟨b1,p1,rfl,hat⟩:=(HC.out.below HM.out.below).at hlt
   obtain ⟨gk',rfl⟩ : ∃ g',gk = g' + 1:=⟨gk - 1,by omega⟩
   clear hk
   obtain ⟨I,hI⟩ : ∃ I,I = ig is t:=⟨_,rfl⟩
   rw [← hI] at hat
   have HI:=Lib.hid hI
   obtain ⟨op,a,tx,ng,hi,lo,sc,dy⟩:=I
   obtain ⟨a0,a1,a2,a3,a4,a5,a6,a7⟩:=hat.ins
   dsimp only at a0 a1 a2 a3 a4 a5 a6 a7
   have HKI:=Lib.hid (rkids_any op a)
   obtain ⟨kb,hkb⟩ : ∃ b,b = kidsB op a:=⟨_,rfl⟩
   rw [← hkb] at HKI
   have HKB:=Lib.hid hkb
   obtain ⟨A7,C7,rfl,h77⟩:=HM.out.hav.sl.is
   obtain ⟨A8,C8,rfl,h88⟩:=HM.out.row.sl.is
   have hcap:=HM.out.hav.cap
   obtain ⟨n0,hn0⟩ : ∃ n0,n0 = hv.length:=⟨_,rfl⟩
   rw [← hn0] at hcap h77 ⊢
   have HN0:=Lib.hid hn0
   obtain ⟨hc1,hc2⟩:=hcap
   unfold maxLen at hc2 h77 h88
   have hn1000 : n0 ≤ 1000:=by have:=HHL.out;omega
   have hps : ps.length ≤ 1000:=by have:=HPL.out;omega
   clear hat hI hkb hn0
   have hno : ∀ (hf : stOk (ig is t) hv = false),X = none:=fun hf=>by rw [← HW.out,stGo_no hf]
   have HNO:=Lib.hid hno
   clear hno
   cases kb with
   | false =>
    obtain rfl : X = none:=HNO.out (by unfold stOk;rw [← HI.out,← HKB.out];rfl)
    go_wp2_with (go_at_call 47;(with_reducible refine (HKI.out _).mono ?_);rintro _ _ ⟨rfl,rfl⟩)
    refine bodyPost_ret (by simp [results,Tryd.results30,go_sem, *];try rfl) rfl ?_
    exact ⟨rfl,HM.out.below.trans (Below.alloc (Below.refl _ _) HM.out.below.size _)⟩
   | true =>
    by_cases hal : a ≤ (n0 : Int)
    ·have hz3:=kids_pos HKB.out.symm
     obtain ⟨an,rfl⟩ : ∃ an : Nat,a = (an : Int):=⟨a.toNat,by omega⟩
     have hcut : an ≤ n0:=by omega
     have hOK : stOk (ig is t) hv = true:=by
      unfold stOk
      rw [← HI.out,← HKB.out,← HN0.out,Bool.true_and]
      exact decide_eq_true hal
     have hst:=HW.out
     rw [stGo_yes hOK] at hst
     have HST:=Lib.hid hst
     have hw1 : IntKind.i64.wrap ((n0 : Int) - (an : Int)) = ((n0 - an : Nat) : Int):=by rw [IntKind.wrap_i64];omega
     clear hst hOK hz3
     go_upto_region 10 with (go_at_call 47;(with_reducible refine (HKI.out _).mono ?_);rintro _ _ ⟨rfl,rfl⟩)
     obtain ⟨cut,hct⟩ : ∃ c,c = n0 - an:=⟨_,rfl⟩
     rw [← hct]
     have hcn : cut ≤ n0:=by omega
     have hcC : cut ≤ C7:=by omega
     obtain ⟨A6,C6,hq6,hc6,hc7,hsl⟩:=cut_runI A7 n0 C7 cut (fun hC=>HM.out.hav.addr hC) hcn hc1
     rw [show n0 - cut = an by omega] at hsl hc6
     have HCT:=Lib.hid hct
     have hb1 : Below wr.heap.size wr (wr.alloc (.cells #[.int .i64 op,.int .i64 an,.string tx,.bool ng,.int .u64 hi,.int .u64 lo,.int .i64 sc,.int .i64 dy] 45)):=by (repeat' first|(with_reducible first|exact blR _ _|assumption|refine blD ?_|refine blN ?_ _)|((with_reducible first|refine blA ?_ ?_ _|refine blS ?_ ?_ _|refine blT (by assumption) ?_ ?_);focus (go_size;done)))
     generalize (wr.alloc (.cells #[.int .i64 op,.int .i64 an,.string tx,.bool ng,.int .u64 hi,.int .u64 lo,.int .i64 sc,.int .i64 dy] 45)) = w1 at hb1 ⊢
     have hM1:=HM.out.kept hb1 4
     generalize relabel o wr.heap.size 4 = o1 at hM1
     have HM1:=Lib.hid hM1
     have HTL:=Lib.hid (ro_tail (n:=n0) (hv:=hv) (by rw [HN0.out];exact hM1.hav) HN0.out.symm hq6)
     rw [show n0 - cut = an by omega] at HTL
     clear hct hq6 hb1 hM1 a0 a1 a2 a3 a4 a5 a6 a7 hw1
     go_upto_region 11 with (first | (at_builtin;refine wpList_copyM rfl _ _ 74 3 1 8 (.int .i64 0) rfl Tryd.underlying74 info_nat rfl (by decide) rfl A6 an C6 (nts (hv.drop cut)) rfl (by rw [nts_length,List.length_drop,← HN0.out];have:=HCT.out;omega) HTL.out (nts_cells _) (by omega) (by unfold maxLen;omega) ?_;intro A9 C9 w2 hr2 hb2;have hrow:=(HM1.out.kept hb2 2).row) | (at_builtin;refine wpList_pushR rfl _ _ 73 74 1 24 (.slice none 0 0) rfl Tryd.underlying73 info_ints rfl (by decide) (relabel o1 w1.heap.size 2) 1 (.slice A8 ps.length C8) ps.length vs rfl (hrow.alloc _) ⟨w2.heap.size,0,none⟩ 1 1 [.slice A9 an C9] rfl rfl (news_bk (Bk.new w2 _ [.slice A9 an C9])) (fun u hu=>by rw [List.mem_singleton.1 hu];rfl) (by decide) (by omega) (by unfold maxLen;omega) ?_;intro g5 cap5 w3 hr5 ht5 hlt5))
     have hM3:=HM1.out.push (p:=hv.drop cut) (by rw [List.length_drop,← HN0.out];have:=HCT.out;omega) (hb2.alloc hb2.size _) rfl ((ob_ro hr2 o1 2).alloc _) ht5 hr5
     generalize relabel (relabel o1 w1.heap.size 2) _ 1 = o3 at hM3
     have HM3:=Lib.hid hM3
     have HHD:=Lib.hid (ro_head (n:=n0) (hv:=hv) (by rw [HN0.out];exact hM3.hav) HN0.out.symm hcn)
     clear hM3 hr5 ht5 hr2 hb2 hrow HTL hsl hc6 hc7
     go_wp2_with (first | (at_builtin;refine wpList_copyM rfl _ _ 74 3 1 8 (.int .i64 0) rfl Tryd.underlying74 info_nat rfl (by decide) rfl A7 cut C7 (nts (hv.take cut)) rfl (by rw [nts_length,List.length_take,← HN0.out];omega) HHD.out (nts_cells _) (by omega) (by unfold maxLen;omega) ?_;intro A10 C10 w4 hr6 hb6) | (at_builtin;refine wpList_pushR rfl _ _ 74 3 1 8 (.int .i64 0) rfl Tryd.underlying74 info_nat rfl (by decide) (ob w3.heap.size) 1 (.slice A10 cut C10) cut (nts (hv.take cut)) rfl (hr6.alloc _) ⟨w4.heap.size,0,none⟩ 1 1 [.int .i64 (t : Int)] rfl rfl (news_bk (Bk.new w4 _ [.int .i64 (t : Int)])) (fun u hu=>by rw [List.mem_singleton.1 hu];rfl) (by decide) (by omega) (by unfold maxLen;omega) ?_;intro g7 cap7 w5 hr7 ht7 hlt7))
     have e7:=ob_re (B:=w3.heap.size) (n:=(w4.alloc (.cells #[.int .i64 (t : Int)] 3)).heap.size) (by rw [World.size_alloc];exact Nat.le_succ_of_le hb6.size)
     rw [e7] at hr7 ht7
     have hb7:=ob_below ht7 (hb6.alloc hb6.size _)
     have h2l : (stStep (ig is t) t hv).length = cut + 1:=by
      unfold stStep
      rw [List.length_append,List.length_take,← HI.out,← HN0.out]
      show min _ _ + 1 = _
      rw [Int.toNat_natCast]
      have:=HCT.out
      omega
     have h2e : stStep (ig is t) t hv = hv.take cut ++ [t]:=by
      unfold stStep
      rw [← HI.out,HCT.out,← HN0.out]
      rfl
     rw [show nts (hv.take cut) ++ [Value.int .i64 (t : Int)] = nts (stStep (ig is t) t hv) by rw [h2e,nts_append];rfl] at hr7
     have HNEW:=Lib.hid (HM3.out.again hb7 (h2:=stStep (ig is t) t hv) (by rw [h2l];exact hr7))
     have HST2 : Hid (stGo is gk' (t + 1) (ps ++ [hv.drop cut]) (stStep (ig is t) t hv) = X):=Lib.hid (by
      rw [← HST.out]
      unfold stPart
      rw [← HI.out,HCT.out,HN0.out]
      rfl)
     have HPL2 : Hid ((ps ++ [hv.drop cut]).length = t + 1):=Lib.hid (by rw [List.length_append,HPL.out];rfl)
     have HHL2 : Hid ((stStep (ig is t) t hv).length ≤ t + 1):=Lib.hid (by rw [h2l];have:=HHL.out;have:=HN0.out;omega)
     clear hr7 ht7 hb7 hr6 hb6 e7 h2e h2l HM3 HHD
     go_roundg gk'
     case measure=>omega
     case rel=>exact ⟨t + 1,_,_,_,_,by have:=HK.out;omega,by go_num,HNEW,HPL2,HHL2,HST2⟩
    ·obtain rfl : X = none:=HNO.out (by unfold stOk;rw [← HI.out,← HKB.out,← HN0.out,Bool.true_and];exact decide_eq_false hal)
     have hgt : (n0 : Int) < a:=by omega
     go_wp2_with (go_at_call 47;(with_reducible refine (HKI.out _).mono ?_);rintro _ _ ⟨rfl,rfl⟩)
     refine bodyPost_ret (by simp [results,Tryd.results30,go_sem, *];try rfl) rfl ?_
     exact ⟨rfl,HM.out.below.trans (Below.alloc (Below.refl _ _) HM.out.below.size _)⟩
  ·obtain rfl : t = is.length:=by omega
   obtain rfl : gk = 0:=by omega
   have hgt : ¬ ((is.length : Int) ≤ (is.length : Int) - 1):=by omega
   obtain rfl : X = some (ps,hv):=HW.out.symm
   have HB:=Lib.hid HM.out.below
   have HP:=Lib.hid HM.out.prd
   have HNT:=Lib.hid HM.out.nts
   go_wp2_with fail
   refine bodyPost_ret (by simp [results,Tryd.results30,go_sem, *];try rfl) rfl ?_
   exact ⟨_,_,rfl,HP.out,HNT.out,HB.out⟩
end Go.Proofs.YtnhmplfonkjfoaaDoor



namespace Go.Proofs.YtnhmplfonkjfoaaDoor
open Go.RowKit

set_option maxRecDepth 100000 in
theorem wpList_makeM {w : World} {ops : Array Oper} {rest : List Oper} {o : Oper} {a : Act} {Q : Exit → Act → World → Prop} (hg : o.guard = none) (l c : Operand) (t e : TypeId) (hop : o.op = Op.makeSlice t l c)
  (z : Value) (hz : z.cells = #[z]) (bytes : Nat) (ht : Tryd.prog.underlying t = some (.slice e)) (hi : (Tryd.prog.info? e).map (fun i=>(i.zero,i.size,i.bytes)) = some (some z,1,bytes)) (own : Nat → Nat) (lab n : Nat)
  (hl : a.eval l = .int .i64 n) (hc : a.eval c = .int .i64 n) (b2 : bytes * n ≤ 281474976710656) (b3 : n ≤ maxLen)
  (h : ∀ w',Lb w' (relabel own w.heap.size lab) lab w.heap.size e (List.replicate n z) → Turn (fun _=>False) w own w' (relabel own w.heap.size lab) → wpList Tryd.prog ops Q rest (a.put o.dst (.slice (some ⟨w.heap.size,0,none⟩) n n)) w') :
  wpList Tryd.prog ops Q (o :: rest) a w:=by
 obtain ⟨i0,hi0,hz0,hz1,hz2⟩:=info_parts hi
 refine wpList_make_full w hg l c t hop w.heap.size e i0 z 1 ht hi0 hz0 hz1 .i64 .i64 n n n hl hc rfl rfl (by rw [hz2];exact b2) b3 (Nat.le_refl _) fun w' h1 h2=>?_
 refine h w' ⟨?_,relabel_new (Nat.le_refl _)⟩ ⟨h2.os,h2.tape,h2.output,h2.size,fun k hk=>relabel_old hk,fun k hk _=>h2.block k hk (by simp)⟩
 rcases h1.2 with ⟨hn,_⟩ | ⟨g,cap,cur,hv,_,hg',h3,h4,h5,h6⟩
 ·cases hn
 ·injection hv with e1 e2 e3
  injection e1 with e1
  injection e1 with e1
  subst e1 e3
  rw [hz,toList_madeCells_one,Nat.mul_one] at h6
  rw [Nat.mul_one] at h5
  rw [List.take_of_length_le (by rw [Array.length_toList,h5];exact Nat.le_refl _)] at h6
  unfold Bk
  rw [hg',← h6]
def GoodJ (i : InsD) : Prop:=U64 i.hi ∧ U64 i.lo ∧ (txI i).length ≤ 1048576
def ics1 (ds : List Int) : List Value:=ds.map fun (d : Int)=>Value.int .i64 d
theorem ics1_get {ds : List Int} {r : Nat} (h : r < ds.length) : (ics1 ds)[r]? = some (.int .i64 (ds.getD r 0)):=by
 unfold ics1
 rw [List.getElem?_map,List.getD_eq_getElem?_getD,List.getElem?_eq_getElem h];rfl
theorem ics1_set (ds : List Int) (r : Nat) (x : Int) : (ics1 ds).set r (.int .i64 x) = ics1 (ds.set r x):=by
 unfold ics1;rw [List.map_set]
theorem Prd.at {w : World} {A : Option Addr} {n C : Nat} {ps : Pts} (h : Prd w (.slice A n C) ps) {r : Nat} (hr : r < ps.length) : ∃ b q u,A = some ⟨b,q,none⟩ ∧ w.cell? ⟨b,q + r,none⟩ = some u ∧ Nts w u (pgN ps r):=by
 obtain ⟨A',C',e,_,h3⟩:=h
 injection e with e1 e2 e3
 subst e1
 exact h3 r hr
theorem Nts.at {w : World} {A : Option Addr} {n C : Nat} {l : List Nat} (h : Nts w (.slice A n C) l) {r : Nat} (hr : r < l.length) : ∃ b q,A = some ⟨b,q,none⟩ ∧ w.cell? ⟨b,q + r,none⟩ = some (.int .i64 (ng l r)):=by
 obtain ⟨b,q,e,hat⟩:=Lsn.at h hr
 have h0:=hat 0 (by show 0 < 1;decide)
 rw [Nat.mul_one,Nat.add_zero] at h0
 exact ⟨b,q,e,h0⟩
theorem tx_eq' (i : InsD) : i.tx = ⟨(txI i).toArray⟩:=by unfold txI;simp
theorem stGo_len {is : List InsD} : ∀ (n t : Nat) (ps : Pts) (hv : List Nat) (PS : Pts) (HV : List Nat),stGo is n t ps hv = some (PS,HV) → PS.length = ps.length + n
 | 0,t,ps,hv,PS,HV,h=>by
  injection h with h
  injection h with h1 h2
  rw [h1];rfl
 | n + 1,t,ps,hv,PS,HV,h=>by
  cases hc : stOk (ig is t) hv with
  | false=>rw [stGo_no hc] at h;cases h
  | true =>
   rw [stGo_yes hc] at h
   have:=stGo_len n _ _ _ _ _ h
   rw [List.length_append] at this
   rw [this]
   show ps.length + 1 + n = _
   omega
theorem stGo_lt {is : List InsD} : ∀ (n t : Nat) (ps : Pts) (hv : List Nat) (PS : Pts) (HV : List Nat),stGo is n t ps hv = some (PS,HV) → ps.length = t → (∀ x ∈ hv,x < t) → (∀ j,j < ps.length → ∀ x ∈ pgN ps j,x < j) → ∀ j,j < PS.length → ∀ x ∈ pgN PS j,x < j
 | 0,t,ps,hv,PS,HV,h,_,_,hp=>by
  injection h with h
  injection h with h1 h2
  rw [← h1];exact hp
 | n + 1,t,ps,hv,PS,HV,h,hl,hh,hp=>by
  cases hc : stOk (ig is t) hv with
  | false=>rw [stGo_no hc] at h;cases h
  | true =>
   rw [stGo_yes hc] at h
   refine stGo_lt n _ _ _ _ _ h (by rw [List.length_append,hl];rfl) (fun x hx=>?_) (fun j hj x hx=>?_)
   ·unfold stStep at hx
    rcases List.mem_append.1 hx with hx | hx
    ·have:=hh x (List.mem_of_mem_take hx);omega
    ·rw [List.mem_singleton.1 hx];omega
   ·rw [List.length_append] at hj
    have hj : j < ps.length + 1:=hj
    unfold pgN at hx hp
    by_cases e : j < ps.length
    ·rw [getD_left _ _ _ e] at hx
     exact hp j e x hx
    ·obtain rfl : j = ps.length:=by omega
     rw [getD_last _ _ _ rfl] at hx
     unfold stPart at hx
     have:=hh x (List.mem_of_mem_drop hx)
     omega
theorem dpOf_le {ds : List Int} {p : List Nat} {b : Int} (h0 : 0 ≤ b) (h : ∀ r,0 ≤ ds.getD r 0 ∧ ds.getD r 0 ≤ b) : ∀ k,0 ≤ dpOf ds p k ∧ dpOf ds p k ≤ b
 | 0=>⟨Int.le_refl _,h0⟩
 | k + 1=>by
  have h1:=dpOf_le (p:=p) h0 h k
  have h2:=h (ng p k)
  show 0 ≤ max _ _ ∧ max _ _ ≤ b
  omega
theorem set_getD {ds : List Int} {t r : Nat} {x : Int} : (ds.set t x).getD r 0 = if r = t ∧ t < ds.length then x else ds.getD r 0:=by
 rw [List.getD_eq_getElem?_getD,List.getD_eq_getElem?_getD,List.getElem?_set]
 by_cases e : t = r
 ·subst e
  by_cases hl : t < ds.length
  ·rw [if_pos rfl,if_pos hl,if_pos ⟨rfl,hl⟩];rfl
  ·rw [if_pos rfl,if_neg hl,if_neg (fun h=>hl h.2),List.getElem?_eq_none (by omega)]
 ·rw [if_neg e,if_neg (fun h=>e h.1.symm)]
theorem set_zero {ds : List Int} {t : Nat} (h : ds.getD t 0 = 0) : ds.set t 0 = ds:=by
 apply List.ext_getElem?
 intro k
 rw [List.getElem?_set]
 split
 ·rename_i e
  subst e
  split
  ·rename_i hl
   rw [List.getD_eq_getElem?_getD,List.getElem?_eq_getElem hl] at h
   rw [List.getElem?_eq_getElem hl]
   exact congrArg some h.symm
  ·rename_i hl
   rw [List.getElem?_eq_none (by omega)]
 ·rfl
theorem check10_long (is : List InsD) (v : Value) (b : Bool) (w : World) (h : Cod w v is) (hl : 300 < is.length) : Calls Tryd.prog 18 #[v,.bool b] w fun e w'=>e = .returned (.int .i64 (chkR is b)) ∧ Below w.heap.size w w':=by
 have HR : Hid (chkR is b = 6):=Lib.hid (by unfold chkR;rw [if_pos hl])
 obtain ⟨A,C,rfl,h2,h3⟩:=h
 have hl2 : (300 : Int) < (is.length : Int):=by omega
 clear h3 h2
 go_enter Tryd.func18,Tryd.ntmps18
 go_wp2_with fail
 go_ret
 exact ⟨by rw [HR.out];rfl,Below.refl _ _⟩
set_option maxRecDepth 100000 in
set_option maxHeartbeats 8000000 in
theorem check10_in (is : List InsD) (v : Value) (b : Bool) (w : World) (h : Cod w v is) (hg : ∀ r,r < is.length → GoodJ (ig is r)) (hl : is.length ≤ 300) : Calls Tryd.prog 18 #[v,.bool b] w fun e w'=>e = .returned (.int .i64 (chkR is b)) ∧ Below w.heap.size w w':=by
 obtain ⟨R,hR⟩ : ∃ R,R = chkR is b:=⟨_,rfl⟩
 have HS:=Lib.hid (stack10_any is v w h (by omega))
 unfold StkPost at HS
 have hR2:=hR
 unfold chkR at hR2
 rw [if_neg (by omega)] at hR2
 rw [← hR]
 have HC:=Lib.hid h
 have HG:=Lib.hid hg
 obtain ⟨A,C,rfl,-,-⟩:=h
 have hl2 : (is.length : Int) ≤ 300:=by omega
 have hw1 : IntKind.i64.wrap ((is.length : Int) - 1) = (is.length : Int) - 1:=by rw [IntKind.wrap_i64];omega
 clear hg hR
 cases hst : stGo is is.length 0 [] [] with
 | none =>
  rw [hst] at hR2 HS
  dsimp only at hR2 HS
  go_enter Tryd.func18,Tryd.ntmps18
  go_wp2_with (go_at_call 30;(with_reducible refine HS.out.mono ?_);rintro _ w2 ⟨rfl,hb2⟩)
  go_ret
  exact ⟨by first | rfl | (rw [hR2];rfl),hb2⟩
 | some X =>
  obtain ⟨ps,hv⟩:=X
  rw [hst] at hR2 HS
  dsimp only at hR2 HS
  by_cases h1 : hv.length = 1
  ·rw [if_neg (fun hh=>hh h1)] at hR2
   have HR:=Lib.hid hR2
   obtain ⟨Y,hY⟩ : ∃ Y,Y = rGo is ps is.length 0 (List.replicate is.length 0) 0:=⟨_,rfl⟩
   rw [← hY] at HR
   have HY:=Lib.hid hY.symm
   have HPS:=Lib.hid hst
   have H1:=Lib.hid h1
   clear hR2 hst hY
   go_enter Tryd.func18,Tryd.ntmps18
   go_upto_region 9 with (first | (go_at_call 30;(with_reducible refine HS.out.mono ?_);rintro _ w2 ⟨vP,vH,rfl,hp2,hn2,hb2⟩;obtain ⟨AP,CP,rfl,hpm,-⟩:=id hp2;obtain ⟨AH,CH,rfl,-,-⟩:=id hn2;rw [h1]) | (at_make;refine wpList_makeM rfl _ _ 74 3 rfl (.int .i64 0) rfl 8 Tryd.underlying74 info_nat (ob w2.heap.size) 1 is.length rfl rfl (by omega) (by unfold maxLen;omega) ?_;intro w3 lw t3))
   rw [ob_re (Nat.le_refl _)] at lw t3
   have hB3 : Below w2.heap.size w2 w3:=ob_below (w0:=w2) (t3.mono (fun l hl=>hl.elim)) (Below.refl _ _)
   obtain ⟨g,hgd⟩ : ∃ g,g = w2.heap.size:=⟨_,rfl⟩
   rw [← hgd] at lw ⊢
   have HGE:=Lib.hid hgd
   have hbk : Bk w3 g 3 (ics1 (List.replicate is.length 0)):=by
    unfold ics1
    rw [List.map_replicate]
    exact lw.1
   have HBK0:=Lib.hid hbk
   have HB30:=Lib.hid hB3
   have HB2:=Lib.hid hb2
   have HP2:=Lib.hid hp2
   clear lw t3 hB3 hbk hb2 hp2 hn2 hgd HS hpm
   go_loopg [9,10] is.length (fun k s9 s10 wr=>∃ (t : Nat) (ds : List Int) (d : Int),k + t = is.length ∧ s10 = .int .i64 t ∧ s9 = .int .i64 d ∧ Hid (ds.length = is.length) ∧ Hid (Bk wr g 3 (ics1 ds)) ∧ Hid (Below w2.heap.size w2 wr) ∧ Hid (rGo is ps k t ds d = Y) ∧ Hid (∀ r,0 ≤ ds.getD r 0 ∧ ds.getD r 0 ≤ (t : Int)) ∧ Hid (0 ≤ d ∧ d ≤ (t : Int)) ∧ Hid (∀ r,t ≤ r → ds.getD r 0 = 0))
   case atStart=>exact ⟨0,List.replicate is.length 0,0,by omega,rfl,rfl,Lib.hid List.length_replicate,HBK0,HB30,HY,Lib.hid (fun r=>by rw [List.getD_eq_getElem?_getD,List.getElem?_replicate];split <;> exact ⟨Int.le_refl _,Int.le_refl _⟩),Lib.hid ⟨Int.le_refl _,Int.le_refl _⟩,Lib.hid (fun r _=>by rw [List.getD_eq_getElem?_getD,List.getElem?_replicate];split <;> rfl)⟩
   case round =>
    obtain ⟨t,ds,d,hk,rfl,rfl,HDL,HBK,HBW,HW,HDS,HDD,HDZ⟩:=hrel
    have HK:=Lib.hid hk
    have htn : t ≤ is.length:=by omega
    clear HBK0 HB30 HY
    by_cases hlt : t < is.length
    ·obtain ⟨b1,p1,rfl,hat⟩:=(HC.out.below (HB2.out.trans (HBW.out.mono HB2.out.size))).at hlt
     obtain ⟨gk',rfl⟩ : ∃ g',gk = g' + 1:=⟨gk - 1,by omega⟩
     clear hk
     obtain ⟨I,hI⟩ : ∃ I,I = ig is t:=⟨_,rfl⟩
     have hgI:=HG.out t hlt
     rw [← hI] at hat hgI
     have HI:=Lib.hid hI
     obtain ⟨u1,u2,u3⟩:=hgI
     have hfi:=fields_any I.op I.a (txI I) u3 I.ng I.hi I.lo I.sc I.dy u1 u2
     rw [show fldB I.op (txI I) I.ng I.hi I.lo I.sc I.dy = fldI I from rfl] at hfi
     obtain ⟨fb,hfb⟩ : ∃ x,x = fldI I:=⟨_,rfl⟩
     rw [← hfb] at hfi
     have HFB:=Lib.hid hfb
     have hnd : ndOk is (pgN ps t) (ig is t) ↔ (fb = true ∧ (∀ k,k < (pgN ps t).length → sortR (ig is (ng (pgN ps t) k)).op = wantD I.op k) ∧ ¬ (I.op = 27 ∧ twF (fun r=>(ig is (ng (pgN ps t) r)).tx) (pgN ps t).length = true)):=by
      unfold ndOk
      rw [hfb,hI]
     have HND:=Lib.hid hnd
     have HNO : Hid (¬ ndOk is (pgN ps t) (ig is t) → R = 2):=Lib.hid (fun hh=>by
      have:=HW.out
      rw [rGo_no hh] at this
      rw [HR.out,← this])
     have HFI:=Lib.hid hfi
     clear hfi hnd hfb
     obtain ⟨op,a,tx,nb,hi,lo,sc,dy⟩:=I
     obtain ⟨a0,a1,a2,a3,a4,a5,a6,a7⟩:=hat.ins
     dsimp only at a0 a1 a2 a3 a4 a5 a6 a7 HFI HND
     obtain ⟨l,hl3⟩ : ∃ l,l = txI ⟨op,a,tx,nb,hi,lo,sc,dy⟩:=⟨_,rfl⟩
     have htx : tx = ⟨l.toArray⟩:=by rw [hl3];exact tx_eq' ⟨op,a,tx,nb,hi,lo,sc,dy⟩
     rw [← hl3] at HFI
     subst htx
     have HA0:=Lib.hid a0
     have hlb:=cell_lt2 a0
     obtain ⟨p,hpp⟩ : ∃ p,p = pgN ps t:=⟨_,rfl⟩
     have hpl : ps.length = is.length:=by have:=stGo_len _ _ _ _ _ _ HPS.out;rw [this];exact Nat.zero_add _
     have hplt : ∀ x ∈ p,x < t:=by rw [hpp];exact stGo_lt _ _ _ _ _ _ HPS.out rfl (fun x hx=>by cases hx) (fun j hj=>absurd hj (Nat.not_lt_zero _)) t (by rw [hpl];exact hlt)
     have HPLT:=Lib.hid hplt
     obtain ⟨bq,qq,uP,rfl,hcP,hnP⟩:=HP2.out.at (r:=t) (by rw [hpl];exact hlt)
     obtain ⟨Au,Cu,rfl,hpm2,-⟩:=id hnP
     rw [← hpp] at hcP hnP HND HNO hpm2
     unfold maxLen at hpm2
     have HCP:=Lib.hid hcP
     have HNP:=Lib.hid hnP
     have hpb:=cell_lt2 hcP
     have HPP:=Lib.hid hpp
     have hWs:=HBW.out.size
     have hltp : t < ps.length:=by rw [hpl];exact hlt
     clear hI hat u1 u2 u3 hl3 hpp hplt hcP hnP hpl
     cases fb with
     | false =>
      have hr : R = 2:=HNO.out (fun hh=>Bool.noConfusion (HND.out.1 hh).1)
      go_wp2_with (go_at_call 31;(with_reducible refine (HFI.out _).mono ?_);rintro _ w4 ⟨rfl,hb4⟩)
      go_ret
      exact ⟨by first | rfl | (rw [hr];rfl),(HB2.out.trans (HBW.out.mono HB2.out.size)).trans (hb4.mono (Nat.le_trans HB2.out.size HBW.out.size))⟩
     | true =>
      go_upto_region 13 with (go_at_call 31;(with_reducible refine (HFI.out _).mono ?_);rintro _ w4 ⟨rfl,hb4⟩)
      have HBK4:=Lib.hid (HBK.out.below hb4 HBK.out.lt)
      have HBW4:=Lib.hid (HBW.out.trans (hb4.mono HBW.out.size))
      have HI0 : Hid (ds.set t (dpOf ds p 0) = ds):=Lib.hid (set_zero (HDZ.out t (Nat.le_refl _)))
      obtain ⟨dd,hdd⟩ : ∃ dd,dd = d:=⟨_,rfl⟩
      rw [← hdd]
      have HDE:=Lib.hid hdd
      clear hb4 a0 a1 a2 a3 a4 a5 a6 a7 HFI hdd
      go_wp2_with fail
      obtain ⟨wr0,hwr0⟩ : ∃ g,g = wr:=⟨_,rfl⟩
      subst hwr0
      obtain ⟨gk0,hgk0⟩ : ∃ g,g = gk':=⟨_,rfl⟩
      subst hgk0
      go_loopg [11] p.length (fun k2 s11 wx=>∃ u : Nat,k2 + u = p.length ∧ s11 = .int .i64 u ∧ Hid (∀ k,k < u → sortR (ig is (ng p k)).op = wantD op k) ∧ Hid (Bk wx g 3 (ics1 (ds.set t (dpOf ds p u)))) ∧ Hid (Below w2.heap.size w2 wx))
      case atStart=>exact ⟨0,by omega,rfl,Lib.hid (fun r hr=>absurd hr (Nat.not_lt_zero _)),Lib.hid (by rw [HI0.out];exact HBK4.out),HBW4⟩
      case round =>
       obtain ⟨u,hk,rfl,HU,HBU,HBX⟩:=hrel
       have HKK:=Lib.hid hk
       have hun : u ≤ p.length:=by omega
       clear hk
       have c1:=(HBX.out.cell (p:=⟨bq,qq + t,none⟩) hpb).trans HCP.out
       have hbx:=HBX.out.size
       by_cases hlu : u < p.length
       ·obtain ⟨b3,q3,rfl,c2⟩:=(HNP.out.below HBX.out).at hlu
        obtain ⟨x,hx⟩ : ∃ x,x = ng p u:=⟨_,rfl⟩
        have hxt : x < t:=by rw [hx];exact HPLT.out _ (ng_mem hlu)
        rw [← hx] at c2
        obtain ⟨b1',p1',e9,hat2⟩:=(HC.out.below (HB2.out.trans (HBX.out.mono HB2.out.size))).at (show x < is.length by omega)
        injection e9 with e9
        injection e9 with e8 e9
        subst e8 e9
        obtain ⟨c3,-,-,-,-,-,-,-⟩:=hat2.ins
        obtain ⟨xo,hxo⟩ : ∃ y,y = (ig is x).op:=⟨_,rfl⟩
        rw [← hxo] at c3
        obtain ⟨b1',p1',e9,hat2⟩:=(HC.out.below (HB2.out.trans (HBX.out.mono HB2.out.size))).at hlt
        injection e9 with e9
        injection e9 with e8 e9
        subst e8 e9
        obtain ⟨c4,-,-,-,-,-,-,-⟩:=hat2.ins
        rw [← HI.out] at c4
        dsimp only at c4
        obtain ⟨D1,hD1⟩ : ∃ y,y = dpOf ds p u:=⟨_,rfl⟩
        obtain ⟨D2,hD2⟩ : ∃ y,y = ds.getD x 0:=⟨_,rfl⟩
        have c5 : wr.cell? ⟨g,t,none⟩ = some (.int .i64 D1):=by
         refine HBU.out.cell t ?_
         rw [ics1_get (by rw [List.length_set,HDL.out];exact hlt),set_getD,if_pos ⟨rfl,by rw [HDL.out];exact hlt⟩,hD1]
        have c6 : wr.cell? ⟨g,x,none⟩ = some (.int .i64 D2):=by
         refine HBU.out.cell x ?_
         rw [ics1_get (by rw [List.length_set,HDL.out];omega),set_getD,if_neg (by omega),hD2]
        have f5:=HBU.out.frozen t
        have HXX:=Lib.hid (And.intro hx (And.intro hxo (And.intro hD1 hD2)))
        have HSR:=Lib.hid (fun (W : World)=>(rsort_any xo W).mono (fun e w' h=>(⟨h.1,0,h.2.symm⟩ : e = .returned (.int .i64 (sortR xo)) ∧ ∃ nn,w' = W.drewN nn)))
        have HWN:=Lib.hid (fun (W : World)=>(rwants_any op u W).mono (fun e w' h=>(⟨h.1,0,h.2.symm⟩ : e = .returned (.int .i64 (wantD op u)) ∧ ∃ nn,w' = W.drewN nn)))
        obtain ⟨sv,hsv⟩ : ∃ y,y = sortR xo:=⟨_,rfl⟩
        obtain ⟨wv,hwv⟩ : ∃ y,y = wantD op u:=⟨_,rfl⟩
        rw [← hsv] at HSR
        rw [← hwv] at HWN
        have HSV:=Lib.hid (And.intro hsv hwv)
        clear hat2 hx hxo hD1 hD2 hsv hwv
        by_cases hse : sv = wv
        ·subst hse
         go_wp2_with fail
         go_quiet (first | (go_at_call 32;(first | exact Calls.quiet_of (HSR.out _) | exact quiet_add (HSR.out _))) | (go_at_call 33;(first | exact Calls.quiet_of (HWN.out _) | exact quiet_add (HWN.out _))))
         go_upto_region 18 with fail
         have hxl : x < is.length:=by omega
         have hmx : max D1 D2 = D1 ∨ max D1 D2 = D2:=by omega
         have HBU2:=Lib.hid (HBU.out.drewN nq)
         have HBX2:=Lib.hid (below_drewN HBX.out nq)
         have e1 : (wr.drewN nq).cell? ⟨bq,qq + t,none⟩ = _:=c1
         have e2 : (wr.drewN nq).cell? ⟨b3,q3 + u,none⟩ = _:=c2
         have e5 : (wr.drewN nq).cell? ⟨g,t,none⟩ = _:=c5
         have e6 : (wr.drewN nq).cell? ⟨g,x,none⟩ = _:=c6
         have ef : (wr.drewN nq).frozen? ⟨g,t,none⟩ = _:=f5
         clear c1 c2 c3 c4 c5 c6 f5 hbx
         generalize wr.drewN nq = wq at HBU2 HBX2 e1 e2 e5 e6 ef ⊢
         go_region
         have HNB : Hid (Bk ((wq.setCell ⟨g,t,none⟩ (.int .i64 (max D1 D2))).drew) g 3 (ics1 (ds.set t (dpOf ds p (u + 1))))):=Lib.hid (by
          have h9:=(HBU2.out.set_ t (.int .i64 (max D1 D2))).drew
          rw [ics1_set,List.set_set] at h9
          rw [show dpOf ds p (u + 1) = max D1 D2 by rw [HXX.out.2.2.1,HXX.out.2.2.2,HXX.out.1];rfl]
          exact h9)
         have HNX : Hid (Below w2.heap.size w2 ((wq.setCell ⟨g,t,none⟩ (.int .i64 (max D1 D2))).drew)):=Lib.hid ((HBX2.out.setCell (by rw [← HGE.out];exact Nat.le_refl _) _).drew)
         clear e1 e2 e5 e6 ef HBU2 HBX2
         go_wp2_with fail
         go_roundg (gk - 1)
         case measure=>have:=HKK.out;omega
         case rel=>exact ⟨u + 1,by have:=HKK.out;omega,by go_num,Lib.hid (fun k hk=>by
           by_cases e : k = u
           ·subst e
            rw [← HXX.out.1,← HXX.out.2.1,← HSV.out.1,← HSV.out.2]
           ·exact HU.out k (by omega)),HNB,HNX⟩
        ·have hr : R = 2:=HNO.out (fun hh=>by
          have h9:=(HND.out.1 hh).2.1 u hlu
          rw [← HXX.out.1,← HXX.out.2.1,← HSV.out.1,← HSV.out.2] at h9
          exact hse h9)
         have hne : (sv != wv) = true:=by rw [bne_iff_ne];exact hse
         go_wp2_with fail
         go_quiet (first | (go_at_call 32;(first | exact Calls.quiet_of (HSR.out _) | exact quiet_add (HSR.out _))) | (go_at_call 33;(first | exact Calls.quiet_of (HWN.out _) | exact quiet_add (HWN.out _))))
         go_wp2_with fail
         go_ret
         exact ⟨by first | rfl | (rw [hr];rfl),below_drewN (HB2.out.trans (HBX.out.mono HB2.out.size)) _⟩
       ·obtain rfl : u = p.length:=by omega
        obtain ⟨b1',p1',e9,hat2⟩:=(HC.out.below (HB2.out.trans (HBX.out.mono HB2.out.size))).at hlt
        injection e9 with e9
        injection e9 with e8 e9
        subst e8 e9
        obtain ⟨c4,-,-,-,-,-,-,-⟩:=hat2.ins
        rw [← HI.out] at c4
        dsimp only at c4
        obtain ⟨D1,hD1⟩ : ∃ y,y = dpOf ds p p.length:=⟨_,rfl⟩
        have HD1:=Lib.hid hD1
        have hD:=dpOf_le (p:=p) (ds:=ds) (b:=t) (by omega) HDS.out p.length
        rw [← hD1] at hD HBU
        obtain ⟨tw,htw⟩ : ∃ x,x = twF (fun r=>(ig is (ng p r)).tx) p.length:=⟨_,rfl⟩
        have HTW:=Lib.hid htw
        have HUN:=Lib.hid (twice10_any is _ wr (HC.out.below (HB2.out.trans (HBX.out.mono HB2.out.size))) _ p.length (fun r=>ng p r) (HNP.out.below HBX.out) (fun r hr=>by have:=HPLT.out _ (ng_mem hr);omega))
        rw [← htw] at HUN
        have hHE : R = R:=rfl
        clear hat2 hD1 htw hHE
        go_upto_region 19 with fail
        go_cut [107] (fun s107 wx=>s107 = .bool (decide (op = 27) && tw) ∧ Hid (Bk wx g 3 (ics1 (ds.set t D1))) ∧ Hid (Below w2.heap.size w2 wx))
        case first =>
         by_cases h27 : op = 27
         ·subst h27
          go_wp2_with fail
          refine HUN.out.mono ?_
          rintro _ w9 ⟨rfl,hb9⟩
          have HBU9:=Lib.hid (HBU.out.below hb9 HBU.out.lt)
          have HBX9:=Lib.hid (HBX.out.trans (hb9.mono HBX.out.size))
          cases tw
          all_goals go_wp2_with fail
          all_goals go_meet
          all_goals exact ⟨rfl,HBU9,HBX9⟩
         ·have q27 : (op == 27) = false:=by rw [beq_eq_false_iff_ne];exact h27
          have q27' : decide (op = 27) = false:=decide_eq_false h27
          go_wp2_with fail
          go_meet
          exact ⟨by rw [q27'];rfl,HBU,HBX⟩
        case rest =>
         obtain ⟨rfl,HBU9,HBX9⟩:=hcut
         clear HBU HBX c1 c4 hbx HUN
         obtain ⟨w5,rfl⟩ : ∃ w5,w5 = wc:=⟨_,rfl⟩
         cases hz : (decide (op = 27) && tw) with
         | true =>
          have hr : R = 2:=HNO.out (fun hh=>by
           have h9:=(HND.out.1 hh).2.2
           rw [Bool.and_eq_true,decide_eq_true_eq] at hz
           exact h9 ⟨hz.1,by rw [← HTW.out];exact hz.2⟩)
          go_wp2_with fail
          go_ret
          exact ⟨by first | rfl | (rw [hr];rfl),HB2.out.trans (HBX9.out.mono HB2.out.size)⟩
         | false =>
          have HNY : Hid (ndOk is p (ig is t)):=Lib.hid (by
           rw [HPP.out]
           rw [← HPP.out]
           refine HND.out.2 ⟨trivial,HU.out,fun ⟨h1,h2⟩=>?_⟩
           rw [HTW.out,h2,decide_eq_true h1] at hz
           cases hz)
          have hw9:=HW.out
          rw [rGo_yes (by rw [← HPP.out];exact HNY.out),← HPP.out,← HD1.out] at hw9
          have HW9:=Lib.hid hw9
          have d5 : w5.cell? ⟨g,t,none⟩ = some (.int .i64 D1):=by
           refine HBU9.out.cell t ?_
           rw [ics1_get (by rw [List.length_set,HDL.out];exact hlt),set_getD,if_pos ⟨rfl,by rw [HDL.out];exact hlt⟩]
          have f5:=HBU9.out.frozen t
          have hw2 : IntKind.i64.wrap (D1 + 1) = D1 + 1:=by rw [IntKind.wrap_i64];omega
          have HNB : Hid (Bk (w5.setCell ⟨g,t,none⟩ (.int .i64 (D1 + 1))) g 3 (ics1 (ds.set t (D1 + 1)))):=Lib.hid (by
           have h9:=HBU9.out.set_ t (.int .i64 (D1 + 1))
           rw [ics1_set,List.set_set] at h9
           exact h9)
          have HNX : Hid (Below w2.heap.size w2 (w5.setCell ⟨g,t,none⟩ (.int .i64 (D1 + 1)))):=Lib.hid (HBX9.out.setCell (by rw [← HGE.out];exact Nat.le_refl _) _)
          have hdd:=HDD.out
          rw [← HDE.out] at hdd HW9
          clear hw9 hz HW HU
          go_wp2_with fail
          go_roundg gk0
          case measure=>omega
          case rel=>exact ⟨t + 1,ds.set t (D1 + 1),max dd (D1 + 1),by have:=HK.out;omega,by go_num,rfl,Lib.hid (by rw [List.length_set];exact HDL.out),HNB,HNX,HW9,Lib.hid (fun r=>by
            have h8:=HDS.out r
            rw [set_getD]
            split
            ·omega
            ·omega),Lib.hid (by omega),Lib.hid (fun r hr=>by
            rw [set_getD,if_neg (by omega)]
            exact HDZ.out r (by omega))⟩
    ·obtain rfl : t = is.length:=by omega
     obtain rfl : gk = 0:=by omega
     obtain rfl : Y = some d:=HW.out.symm
     have HRE : Hid (R = endR b (sortR (ig is (is.length - 1)).op) d):=Lib.hid HR.out
     have hpos : 0 < is.length:=by
      rcases Nat.eq_zero_or_pos is.length with hz | hz
      ·have h9:=HPS.out
       rw [hz] at h9
       injection h9 with h9
       injection h9 with _ h9
       have h8:=H1.out
       rw [← h9] at h8
       cases h8
      ·exact hz
     obtain ⟨b1,p1,rfl,hat⟩:=(HC.out.below (HB2.out.trans (HBW.out.mono HB2.out.size))).at (show is.length - 1 < is.length by omega)
     obtain ⟨c0,-,-,-,-,-,-,-⟩:=hat.ins
     obtain ⟨m,hm⟩ : ∃ m,m = is.length - 1:=⟨_,rfl⟩
     rw [← hm] at c0
     obtain ⟨xo,hxo⟩ : ∃ y,y = (ig is m).op:=⟨_,rfl⟩
     rw [← hxo] at c0
     have HSR:=Lib.hid (rsort_any xo)
     obtain ⟨x,hx⟩ : ∃ y,y = sortR xo:=⟨_,rfl⟩
     rw [← hx] at HSR
     have HX2 : Hid (R = if (b = true ∧ x ≠ 4 ∧ x ≠ 5) ∨ (b = false ∧ x ≠ 1) then 2 else if 40 < d then 7 else 0):=Lib.hid (by
      rw [HRE.out,hx,hxo,hm]
      rfl)
     have hm2 : (is.length : Int) - 1 = (m : Int):=by omega
     have HM:=Lib.hid (HB2.out.trans (HBW.out.mono HB2.out.size))
     have hml : m < is.length:=by omega
     rw [hm2] at hw1
     clear hat hx hxo hm hk HW HDS HDD HDZ HR HRE HG HPS HP2
     rw [← hm2] at hw1
     go_upto_region 24 with (go_at_call 32;(with_reducible refine (HSR.out _).mono ?_);rintro _ _ ⟨rfl,rfl⟩)
     cases b with
     | true =>
      by_cases h4 : x = 4
      ·subst h4
       have HX3 : Hid (R = if 40 < d then 7 else 0):=Lib.hid (HX2.out.trans (if_neg (by simp)))
       clear HX2
       by_cases hd : 40 < d
       ·have hr : R = 7:=HX3.out.trans (if_pos hd)
        go_wp2_with fail
        go_ret
        exact ⟨by first | rfl | (rw [hr];rfl),HM.out⟩
       ·have hr : R = 0:=HX3.out.trans (if_neg hd)
        go_wp2_with fail
        go_ret
        exact ⟨by first | rfl | (rw [hr];rfl),HM.out⟩
      ·have q4 : (x != 4) = true:=by rw [bne_iff_ne];exact h4
       by_cases h5 : x = 5
       ·subst h5
        have HX3 : Hid (R = if 40 < d then 7 else 0):=Lib.hid (HX2.out.trans (if_neg (by simp)))
        clear HX2
        by_cases hd : 40 < d
        ·have hr : R = 7:=HX3.out.trans (if_pos hd)
         go_wp2_with fail
         go_ret
         exact ⟨by first | rfl | (rw [hr];rfl),HM.out⟩
        ·have hr : R = 0:=HX3.out.trans (if_neg hd)
         go_wp2_with fail
         go_ret
         exact ⟨by first | rfl | (rw [hr];rfl),HM.out⟩
       ·have q5 : (x != 5) = true:=by rw [bne_iff_ne];exact h5
        have hr : R = 2:=HX2.out.trans (if_pos (.inl ⟨rfl,h4,h5⟩))
        go_wp2_with fail
        go_ret
        exact ⟨by first | rfl | (rw [hr];rfl),HM.out⟩
     | false =>
      by_cases h4 : x = 1
      ·subst h4
       have HX3 : Hid (R = if 40 < d then 7 else 0):=Lib.hid (HX2.out.trans (if_neg (by simp)))
       clear HX2
       by_cases hd : 40 < d
       ·have hr : R = 7:=HX3.out.trans (if_pos hd)
        go_wp2_with fail
        go_ret
        exact ⟨by first | rfl | (rw [hr];rfl),HM.out⟩
       ·have hr : R = 0:=HX3.out.trans (if_neg hd)
        go_wp2_with fail
        go_ret
        exact ⟨by first | rfl | (rw [hr];rfl),HM.out⟩
      ·have q4 : (x != 1) = true:=by rw [bne_iff_ne];exact h4
       have hr : R = 2:=HX2.out.trans (if_pos (.inr ⟨rfl,h4⟩))
       go_wp2_with fail
       go_ret
       exact ⟨by first | rfl | (rw [hr];rfl),HM.out⟩
  ·have hr : R = 2:=by rw [hR2,if_pos h1]
   have hne : ((hv.length : Int) != 1) = true:=by rw [bne_iff_ne];omega
   go_enter Tryd.func18,Tryd.ntmps18
   go_wp2_with (go_at_call 30;(with_reducible refine HS.out.mono ?_);rintro _ w2 ⟨vP,vH,rfl,hp2,hn2,hb2⟩;obtain ⟨AP,CP,rfl,-,-⟩:=id hp2;obtain ⟨AH,CH,rfl,-,-⟩:=id hn2)
   go_ret
   exact ⟨by first | rfl | (rw [hr];rfl),hb2⟩
theorem check10_any (is : List InsD) (v : Value) (b : Bool) (w : World) (h : Cod w v is) (hg : ∀ r,r < is.length → GoodJ (ig is r)) : Calls Tryd.prog 18 #[v,.bool b] w fun e w'=>e = .returned (.int .i64 (chkP is b)) ∧ Below w.heap.size w w':=by
 rw [← chk_same]
 by_cases hl : 300 < is.length
 ·exact check10_long is v b w h hl
 ·exact check10_in is v b w h hg (by omega)
end Go.Proofs.YtnhmplfonkjfoaaDoor



namespace Go.Proofs.YtnhmplfonkjfoaaDoor
open Go.RowKit

theorem stGo_kids {is : List InsD} : ∀ (n t : Nat) (ps : Pts) (hv : List Nat) (PS : Pts) (HV : List Nat),stGo is n t ps hv = some (PS,HV) → ps.length = t →
  (∀ j,j < ps.length → kidsB (ig is j).op (ig is j).a = true ∧ (pgN ps j).length = (ig is j).a.toNat) → ∀ j,j < PS.length → kidsB (ig is j).op (ig is j).a = true ∧ (pgN PS j).length = (ig is j).a.toNat
 | 0,t,ps,hv,PS,HV,h,_,hp=>by
  injection h with h
  injection h with h1 h2
  rw [← h1];exact hp
 | n + 1,t,ps,hv,PS,HV,h,hl,hp=>by
  cases hc : stOk (ig is t) hv with
  | false=>rw [stGo_no hc] at h;cases h
  | true =>
   rw [stGo_yes hc] at h
   refine stGo_kids n _ _ _ _ _ h (by rw [List.length_append,hl];rfl) (fun j hj=>?_)
   rw [List.length_append] at hj
   have hj : j < ps.length + 1:=hj
   unfold pgN at hp ⊢
   by_cases e : j < ps.length
   ·rw [getD_left _ _ _ e]
    exact hp j e
   ·obtain rfl : j = ps.length:=by omega
    rw [getD_last _ _ _ rfl]
    subst hl
    unfold stOk at hc
    rw [Bool.and_eq_true,decide_eq_true_eq] at hc
    exact ⟨hc.1,part_len (kids_pos hc.1) hc.2⟩
theorem kids_nj {op a : Int} (h : kidsB op a = true) : ¬ jmpP op:=fun hj=>by
 have h:=(of_decide_eq_true h).1
 rcases hj with rfl | rfl
 ·exact h (by decide)
 ·exact h (by decide)
theorem wf_of {is : List InsD} {PS : Pts} {HV : List Nat} (h : stGo is is.length 0 [] [] = some (PS,HV)) : Wf is PS:=by
 have hl:=stGo_len _ _ _ _ _ _ h
 have hl : PS.length = is.length:=by rw [hl];exact Nat.zero_add _
 have hk:=stGo_kids _ _ _ _ _ _ h rfl (fun j hj=>absurd hj (Nat.not_lt_zero _))
 refine ⟨fun a ha=>stGo_lt _ _ _ _ _ _ h rfl (fun x hx=>by cases hx) (fun j hj=>absurd hj (Nat.not_lt_zero _)) a (by omega),fun a ha e=>?_,fun a ha e=>?_,fun a ha=>kids_nj (hk a (by omega)).1⟩
 ·obtain ⟨k1,k2⟩:=hk a (by omega)
  have:=(kids_if k1).1 e
  omega
 ·obtain ⟨k1,k2⟩:=hk a (by omega)
  have:=(kids_if k1).2 e
  omega
def jf (fr : Nat) (p : List InsD) : Prop:=∀ i ∈ p,jmpP i.op → (fr : Int) ≤ i.a ∧ i.a ≤ (fr : Int) + p.length
theorem jf_wide {fr fr' : Nat} {p : List InsD} {n : Nat} (h : jf fr p) (h1 : fr' ≤ fr) (h2 : fr + p.length ≤ fr' + n) : ∀ i ∈ p,jmpP i.op → (fr' : Int) ≤ i.a ∧ i.a ≤ (fr' : Int) + n:=fun i hi hj=>by
 have:=h i hi hj
 omega
theorem rowD_jf {op : Int} {g : Nat → Nat → List InsD} {p : List Nat} (h : ∀ x ∈ p,∀ f,jf f (g x f)) (fr : Nat) : ∀ k,k ≤ p.length → jf fr (rowD op g p fr k)
 | 0,_=>fun i hi=>by cases hi
 | k + 1,hk=>by
  have ih:=rowD_jf (op:=op) h fr k (by omega)
  have hx:=h _ (ng_mem (show k < p.length by omega)) (fr + (rowD op g p fr k).length)
  intro i hi hj
  have hi : i ∈ rowD op g p fr k ++ g (ng p k) (fr + (rowD op g p fr k).length) ++ (if op = 23 ∧ k = 0 then [insO 103 0] else []):=hi
  have hlen : (rowD op g p fr (k + 1)).length = (rowD op g p fr k).length + (g (ng p k) (fr + (rowD op g p fr k).length)).length + (if op = 23 ∧ k = 0 then [insO 103 0] else [] : List InsD).length:=by
   show (rowD op g p fr k ++ g (ng p k) (fr + (rowD op g p fr k).length) ++ (if op = 23 ∧ k = 0 then [insO 103 0] else [])).length = _
   rw [List.length_append,List.length_append]
  rw [hlen]
  rcases List.mem_append.1 hi with hi | hi
  ·rcases List.mem_append.1 hi with hi | hi
   ·exact jf_wide ih (Nat.le_refl _) (by omega) i hi hj
   ·exact jf_wide hx (by omega) (by omega) i hi hj
  ·split at hi
   ·rw [List.mem_singleton.1 hi] at hj
    exact absurd hj (nj ⟨by decide,by decide⟩)
   ·cases hi
theorem bodyD_jf {i : InsD} {g : Nat → Nat → List InsD} {p : List Nat} (h : ∀ x ∈ p,∀ f,jf f (g x f)) (h3 : i.op = 21 → p.length = 3) (hj : ¬ jmpP i.op) (fr : Nat) : jf fr (bodyD i g p fr):=by
 unfold bodyD
 by_cases c : i.op = 21
 ·have hl:=h3 c
  rw [if_pos c]
  have h0:=h _ (ng_mem (show 0 < p.length by omega)) fr
  generalize g (ng p 0) fr = A at h0 ⊢
  have h1:=h _ (ng_mem (show 1 < p.length by omega)) (fr + A.length + 1)
  generalize g (ng p 1) (fr + A.length + 1) = B at h1 ⊢
  have h2:=h _ (ng_mem (show 2 < p.length by omega)) (fr + A.length + B.length + 2)
  generalize g (ng p 2) (fr + A.length + B.length + 2) = C at h2 ⊢
  intro x hx hjx
  have hlen : (A ++ [insO 102 ((fr : Int) + A.length + B.length + 2)] ++ B ++ [insO 101 ((fr : Int) + A.length + B.length + C.length + 2)] ++ C).length = A.length + B.length + C.length + 2:=by
   simp only [List.length_append,List.length_cons,List.length_nil]
   omega
  rw [hlen]
  simp only [List.mem_append,List.mem_singleton] at hx
  rcases hx with (((hx | hx) | hx) | hx) | hx
  ·exact jf_wide h0 (Nat.le_refl _) (by omega) x hx hjx
  ·subst hx
   show (fr : Int) ≤ (fr : Int) + A.length + B.length + 2 ∧ (fr : Int) + A.length + B.length + 2 ≤ _
   push_cast
   omega
  ·exact jf_wide h1 (by omega) (by omega) x hx hjx
  ·subst hx
   show (fr : Int) ≤ (fr : Int) + A.length + B.length + C.length + 2 ∧ (fr : Int) + A.length + B.length + C.length + 2 ≤ _
   push_cast
   omega
  ·exact jf_wide h2 (by omega) (by omega) x hx hjx
 ·rw [if_neg c]
  have ih:=rowD_jf (op:=i.op) h fr _ (Nat.le_refl _)
  intro x hx hjx
  rw [List.length_append]
  rcases List.mem_append.1 hx with hx | hx
  ·exact jf_wide ih (Nat.le_refl _) (by omega) x hx hjx
  ·rw [List.mem_singleton.1 hx] at hjx
   split at hjx
   ·exact absurd hjx (nj ⟨by decide,by decide⟩)
   ·rw [lastI_op] at hjx
    exact absurd hjx hj
theorem ofF_jf {is : List InsD} {ps : Pts} (hw : Wf is ps) : ∀ (f a fr : Nat),a < f → a < is.length → jf fr (ofF is ps f a fr)
 | 0,_,_,h,_=>absurd h (Nat.not_lt_zero _)
 | f + 1,a,fr,h1,h2=>by
  refine bodyD_jf (fun x hx k=>?_) (hw.three a h2) (hw.jmp a h2) fr
  have:=hw.lt a h2 x hx
  exact ofF_jf hw f x k (by omega) (by omega)
theorem mvL_sh {n : Nat} {p : List InsD} (h : jf 0 p) (hb : p.length + n ≤ 1000000) : mvL n p = shL n p:=by
 unfold mvL shL
 refine List.map_congr_left fun i hi=>?_
 unfold mvI shI
 by_cases hj : jmpP i.op
 ·rw [if_pos hj,if_pos hj]
  have:=h i hi hj
  have e : wrap64 (i.a + n) = i.a + n:=by unfold wrap64;omega
  rw [e]
 ·rw [if_neg hj,if_neg hj]
theorem mvL_one {n : Nat} {i : InsD} (h : ¬ jmpP i.op) : mvL n [i] = [i]:=by
 show [mvI n i] = [i]
 rw [mvI_no h]
theorem pg_map {is : List InsD} {PS : Pts} (_hw : Wf is PS) {p : List Nat} {k : Nat} (hk : k < p.length) : pg (p.map fun x=>ofD is PS x 0) k = ofD is PS (ng p k) 0:=by
 unfold pg ng
 rw [List.getD_eq_getElem?_getD,List.getElem?_map,List.getD_eq_getElem?_getD,List.getElem?_eq_getElem hk]
 rfl
section
variable {is : List InsD} {PS : Pts} (hw : Wf is PS)
include hw
theorem ofD_mv {x n : Nat} (hx : x < is.length) (hb : (ofD is PS x 0).length + n ≤ 1000000) : mvL n (ofD is PS x 0) = ofD is PS x n:=by
 have hj : jf 0 (ofD is PS x 0):=ofF_jf hw _ _ _ (Nat.lt_succ_self _) hx
 rw [mvL_sh hj hb,ofD_sh hw hx n]
theorem ofD_len {x n : Nat} (hx : x < is.length) : (ofD is PS x n).length = (ofD is PS x 0).length:=by
 rw [ofD_sh hw hx n,shL_length]
theorem row_join {op : Int} {p : List Nat} (hp : ∀ x ∈ p,x < is.length) (h23 : op ≠ 23) (hb : sumL (p.map fun x=>ofD is PS x 0) ≤ 1000000) : ∀ k,k ≤ p.length → joinD [] ((p.take k).map fun x=>ofD is PS x 0) = rowD op (ofD is PS) p 0 k
 | 0,_=>rfl
 | k + 1,hk=>by
  have ih:=row_join hp h23 hb k (by omega)
  have hlt : k < p.length:=by omega
  have e3 : p.take (k + 1) = p.take k ++ [ng p k]:=by
   rw [List.take_add_one,List.getElem?_eq_getElem hlt]
   congr 1
   unfold ng
   rw [List.getD_eq_getElem?_getD,List.getElem?_eq_getElem hlt];rfl
  have hs:=sumL_take (p.map fun x=>ofD is PS x 0) k
  rw [← List.map_take,← List.map_drop,List.drop_eq_getElem_cons hlt] at hs
  have eg : p[k] = ng p k:=by unfold ng;rw [List.getD_eq_getElem?_getD,List.getElem?_eq_getElem hlt];rfl
  rw [eg] at hs
  have hs : sumL (p.map fun x=>ofD is PS x 0) = sumL ((p.take k).map fun x=>ofD is PS x 0) + ((ofD is PS (ng p k) 0).length + sumL ((p.drop (k + 1)).map fun x=>ofD is PS x 0)):=hs
  have hjl:=joinD_length ((p.take k).map fun x=>ofD is PS x 0) []
  have hjl : (joinD [] ((p.take k).map fun x=>ofD is PS x 0)).length = 0 + sumL ((p.take k).map fun x=>ofD is PS x 0):=hjl
  rw [e3,List.map_append]
  show joinD [] (((p.take k).map fun x=>ofD is PS x 0) ++ [ofD is PS (ng p k) 0]) = rowD op (ofD is PS) p 0 k ++ ofD is PS (ng p k) (0 + (rowD op (ofD is PS) p 0 k).length) ++ (if op = 23 ∧ k = 0 then [insO 103 0] else [])
  rw [joinD_push,ih,if_neg (fun h=>h23 h.1),List.append_nil,Nat.zero_add]
  rw [ih] at hjl
  rw [ofD_mv hw (hp _ (ng_mem hlt)) (by omega)]
theorem tell_same {t : Nat} (ht : t < is.length) (hb : sumL ((pgN PS t).map fun x=>ofD is PS x 0) ≤ 900000) : tellD (ig is t) ((pgN PS t).map fun x=>ofD is PS x 0) = ofD is PS t 0:=by
 rw [ofD_eq hw ht]
 have hlt:=hw.lt t ht
 have h3:=hw.three t ht
 have h2:=hw.two t ht
 obtain ⟨p,hp⟩ : ∃ p,p = pgN PS t:=⟨_,rfl⟩
 rw [← hp] at hb hlt h3 h2 ⊢
 have hpl : ∀ x ∈ p,x < is.length:=fun x hx=>by have:=hlt x hx;omega
 unfold tellD bodyD
 by_cases c1 : (ig is t).op = 21
 ·have hl:=h3 c1
  rw [if_pos c1,if_pos c1,pg_map hw (by omega),pg_map hw (by omega),pg_map hw (by omega)]
  have hs:=sumL_three (p.map fun x=>ofD is PS x 0) (by rw [List.length_map];omega)
  rw [pg_map hw (by omega),pg_map hw (by omega),pg_map hw (by omega)] at hs
  have l0:=hpl _ (ng_mem (show 0 < p.length by omega))
  have l1:=hpl _ (ng_mem (show 1 < p.length by omega))
  have l2:=hpl _ (ng_mem (show 2 < p.length by omega))
  unfold choiceD
  rw [ofD_mv hw l1 (by omega),ofD_mv hw l2 (by omega)]
  simp only [Nat.zero_add,Int.natCast_zero,Int.zero_add]
  have e1 : (ofD is PS (ng p 1) ((ofD is PS (ng p 0) 0).length + 1)).length = (ofD is PS (ng p 1) 0).length:=ofD_len hw l1
  rw [e1]
  have e2 : (ofD is PS (ng p 2) ((ofD is PS (ng p 0) 0).length + (ofD is PS (ng p 1) 0).length + 2)).length = (ofD is PS (ng p 2) 0).length:=ofD_len hw l2
  rw [e2]
 ·rw [if_neg c1,if_neg c1]
  by_cases c2 : (ig is t).op = 23
  ·have hl:=h2 c2
   rw [if_pos c2,if_pos c2,pg_map hw (by omega),pg_map hw (by omega),hl]
   have hs:=sumL_two (p.map fun x=>ofD is PS x 0) (by rw [List.length_map];omega)
   rw [pg_map hw (by omega),pg_map hw (by omega)] at hs
   have l0:=hpl _ (ng_mem (show 0 < p.length by omega))
   have l1:=hpl _ (ng_mem (show 1 < p.length by omega))
   have n1 : ¬ jmpP (insO 103 0).op:=nj ⟨by decide,by decide⟩
   have n2 : ¬ jmpP (insO 104 0).op:=nj ⟨by decide,by decide⟩
   show ((([] ++ mvL 0 (ofD is PS (ng p 0) 0)) ++ mvL _ [insO 103 0]) ++ mvL ((([] ++ mvL 0 (ofD is PS (ng p 0) 0)) ++ mvL _ [insO 103 0])).length (ofD is PS (ng p 1) 0)) ++ mvL _ [insO 104 0] = ((([] ++ ofD is PS (ng p 0) (0 + 0) ++ (if (ig is t).op = 23 ∧ 0 = 0 then [insO 103 0] else [])) ++ ofD is PS (ng p 1) (0 + ([] ++ ofD is PS (ng p 0) (0 + 0) ++ (if (ig is t).op = 23 ∧ 0 = 0 then [insO 103 0] else [])).length) ++ (if (ig is t).op = 23 ∧ 1 = 0 then [insO 103 0] else []))) ++ [insO 104 0]
   rw [mvL_one n1,mvL_one n2,if_pos ⟨c2,rfl⟩,if_neg (fun h=>absurd h.2 (by decide)),List.append_nil,List.nil_append,List.nil_append,ofD_mv hw l0 (by omega),Nat.zero_add,Nat.zero_add,ofD_mv hw l1 (by rw [List.length_append];show _ + (_ + 1) ≤ _;omega)]
  ·rw [if_neg c2,if_neg c2]
   have h:=row_join hw (op:=(ig is t).op) hpl c2 (by omega) p.length (Nat.le_refl _)
   rw [List.take_length] at h
   rw [h]
theorem comp_same : ∀ (n t : Nat) (ps : Pts) (hv HV : List Nat),n + t = is.length → is.length ≤ 1000 → ps.length = t → stGo is n t ps hv = some (PS,HV) → (∀ x ∈ hv,x < t) → sumL (hv.map fun x=>ofD is PS x 0) ≤ 2 * t →
  compGo is n t (hv.map fun x=>ofD is PS x 0) = HV.map (fun x=>ofD is PS x 0) ∧ sumL (HV.map fun x=>ofD is PS x 0) ≤ 2 * is.length
 | 0,t,ps,hv,HV,hn,_,hl,h,_,hs=>by
  injection h with h
  injection h with h1 h2
  subst h2
  exact ⟨rfl,by rw [← hn,Nat.zero_add];exact hs⟩
 | n + 1,t,ps,hv,HV,hn,hlen,hl,h,hlt,hs=>by
  cases hc : stOk (ig is t) hv with
  | false=>rw [stGo_no hc] at h;cases h
  | true =>
   rw [stGo_yes hc] at h
   obtain ⟨q,hq⟩:=stGo_ext _ _ _ _ _ _ h
   have e : pgN PS t = stPart (ig is t) hv:=by
    unfold pgN
    rw [hq,List.append_assoc,List.getD_eq_getElem?_getD,List.getElem?_append_right (by omega),hl,Nat.sub_self]
    rfl
   have htl : t < is.length:=by omega
   have hsp:=sumL_take (hv.map fun x=>ofD is PS x 0) (hv.length - (ig is t).a.toNat)
   rw [← List.map_take,← List.map_drop] at hsp
   have hpart : sumL ((pgN PS t).map fun x=>ofD is PS x 0) ≤ 2 * t:=by
    rw [e]
    unfold stPart
    omega
   have hT:=tell_same hw htl (by omega)
   have hstep : stepP (ig is t) (hv.map fun x=>ofD is PS x 0) = (stStep (ig is t) t hv).map fun x=>ofD is PS x 0:=by
    unfold stepP cutP stStep
    rw [List.length_map,← List.map_take,← List.map_drop,List.map_append]
    congr 1
    show [_] = [_]
    congr 1
    show _ = ofD is PS t 0
    rw [← hT,e]
    rfl
   show compGo is n (t + 1) (stepP (ig is t) (hv.map fun x=>ofD is PS x 0)) = _ ∧ _
   rw [hstep]
   refine comp_same n (t + 1) _ _ _ (by omega) hlen (by rw [List.length_append,hl];rfl) h (fun x hx=>?_) ?_
   ·unfold stStep at hx
    rcases List.mem_append.1 hx with hx | hx
    ·have:=hlt x (List.mem_of_mem_take hx);omega
    ·rw [List.mem_singleton.1 hx];omega
   ·unfold stStep
    rw [List.map_append,sumL_append]
    show _ + ((ofD is PS t 0).length + 0) ≤ _
    rw [← hT]
    have h9:=tellD_length (i:=ig is t) (P:=(pgN PS t).map fun x=>ofD is PS x 0) (fun c=>by rw [List.length_map,hw.three t htl c];exact Nat.le_refl _) (fun c=>by rw [List.length_map,hw.two t htl c];exact Nat.le_refl _)
    rw [e] at h9 ⊢
    unfold stPart at h9 ⊢
    omega
end
end Go.Proofs.YtnhmplfonkjfoaaDoor



namespace Go.Proofs.YtnhmplfonkjfoaaDoor
open Go.RowKit

theorem cod_news {w : World} {A : Option Addr} {m C : Nat} {q : List InsD} (h : Cod w (.slice A m C) q) (hm : q.length = m) : 0 < m → ∃ ad,A = some ad ∧ ∀ j u,(ics q)[j]? = some u → w.cell? (ad.add j) = some u:=fun hpos=>by
 obtain ⟨b,o,rfl,-⟩:=h.at (r:=0) (by omega)
 refine ⟨_,rfl,fun j u hj=>?_⟩
 have hl : j < (ics q).length:=by
  rcases Nat.lt_or_ge j (ics q).length with h' | h'
  ·exact h'
  ·rw [List.getElem?_eq_none h'] at hj;cases hj
 rw [ics_length] at hl
 obtain ⟨b',o',e,hat⟩:=h.at (r:=j / 8) (by omega)
 injection e with e
 injection e with e1 e2
 subst e1 e2
 have hc:=hat (j % 8) (by rw [cs_len];omega)
 rw [← ics_get q (j / 8) (j % 8) (by omega) (by omega)] at hc
 have e1 : j / 8 * 8 + j % 8 = j:=by omega
 have e2 : o + j / 8 * 8 + j % 8 = o + j:=by omega
 rw [e1,e2,hj] at hc
 have hadd : (⟨b,o,none⟩ : Addr).add j = ⟨b,o + j,none⟩:=by unfold Addr.add;split <;> simp_all
 rw [hadd]
 exact hc
theorem ob_mono {w : World} {B B' : Nat} {t : TypeId} {k n : Nat} {v : Value} {cs : List Value} (h : Ro w (ob B) 1 t k v n cs) (hB : B' ≤ B) : Ro w (ob B') 1 t k v n cs :=
 ⟨h.1,fun g hg=>by
  have:=h.2 g hg
  rcases Nat.lt_or_ge g B with h' | h'
  ·rw [ob_low h'] at this;cases this
  ·exact ob_up (by omega)⟩
theorem ob_kept {w w' : World} {B : Nat} {t : TypeId} {k n : Nat} {v : Value} {cs : List Value} (h : Ro w (ob B) 1 t k v n cs) (hb : Below w.heap.size w w') : Ro w' (ob B) 1 t k v n cs :=
 h.relab hb (fun _ _ e=>e)
theorem rowD_mono {op : Int} {g : Nat → Nat → List InsD} {p : List Nat} {fr : Nat} (k : Nat) : ∀ n,(rowD op g p fr k).length ≤ (rowD op g p fr (k + n)).length
 | 0=>Nat.le_refl _
 | n + 1=>by
  have:=rowD_mono (op:=op) (g:=g) (p:=p) (fr:=fr) k n
  show _ ≤ (rowD op g p fr (k + n) ++ _ ++ _).length
  rw [List.length_append,List.length_append]
  omega
set_option maxHeartbeats 1000000 in
theorem one_any (op a : Int) (tx : ByteArray) (ng : Bool) (hi lo sc dy : Int) (w : World) : Calls Tryd.prog 52 #[.agg #[.int .i64 op,.int .i64 a,.string tx,.bool ng,.int .u64 hi,.int .u64 lo,.int .i64 sc,.int .i64 dy]] w fun e w'=>e = .returned (.agg #[.int .i64 op,.int .i64 (lastI ⟨op,a,tx,ng,hi,lo,sc,dy⟩).a,.string tx,.bool ng,.int .u64 hi,.int .u64 lo,.int .i64 sc,.int .i64 dy]) ∧ Below w.heap.size w w':=by
 have HC:=Lib.hid (rcounted_any op)
 obtain ⟨x,hx⟩ : ∃ x,x = (lastI ⟨op,a,tx,ng,hi,lo,sc,dy⟩).a:=⟨_,rfl⟩
 have HX : Hid (x = if cnt op = true then a else 0):=Lib.hid (by rw [hx];unfold lastI;dsimp only;split <;> rfl)
 rw [← hx]
 obtain ⟨c,hc⟩ : ∃ c,c = cnt op:=⟨_,rfl⟩
 rw [← hc] at HX HC
 clear hx hc
 cases c with
 | true =>
  obtain rfl : x = a:=HX.out
  go_enter Tryd.func52,Tryd.ntmps52
  go_wp2_with (go_at_call 45;(with_reducible refine (HC.out _).mono ?_);rintro _ _ ⟨rfl,rfl⟩)
  refine bodyPost_ret (by simp [results,Tryd.results52,go_sem, *];try rfl) rfl ?_
  exact ⟨rfl,by (repeat' first|(with_reducible first|exact blR _ _|assumption|refine blD ?_|refine blN ?_ _)|((with_reducible first|refine blA ?_ ?_ _|refine blS ?_ ?_ _|refine blT (by assumption) ?_ ?_);focus (go_size;done)))⟩
 | false =>
  obtain rfl : x = 0:=HX.out
  go_enter Tryd.func52,Tryd.ntmps52
  go_wp2_with (go_at_call 45;(with_reducible refine (HC.out _).mono ?_);rintro _ _ ⟨rfl,rfl⟩)
  refine bodyPost_ret (by simp [results,Tryd.results52,go_sem, *];try rfl) rfl ?_
  exact ⟨rfl,by (repeat' first|(with_reducible first|exact blR _ _|assumption|refine blD ?_|refine blN ?_ _)|((with_reducible first|refine blA ?_ ?_ _|refine blS ?_ ?_ _|refine blT (by assumption) ?_ ?_);focus (go_size;done)))⟩
def OfPost (L : List InsD) (w : World) (e : Ending) (w' : World) : Prop:=∃ r,e = .returned r ∧ Below w.heap.size w w' ∧ Ro w' (ob w.heap.size) 1 43 8 r L.length (ics L)
def OfOk (is : List InsD) (ps : Pts) (f : Nat) : Prop:=∀ (a fr : Nat) (w : World) (v vP : Value),a < f → a < is.length → fr ≤ 4000 * (1000 - a) → Cod w v is → Prd w vP ps → Calls Tryd.prog 35 #[v,vP,.int .i64 a,.int .i64 fr] w (OfPost (ofD is ps a fr) w)
section
variable {is : List InsD} {ps : Pts}
set_option maxRecDepth 100000 in
set_option maxHeartbeats 4000000 in
theorem of_if (hw : Wf is ps) (hpl : ps.length = is.length) (hl3 : is.length ≤ 300) (hb : ∀ x,x < is.length → (ofD is ps x 0).length ≤ 2000) (f : Nat) (ih : OfOk is ps f) (a fr : Nat) (w : World) (v vP : Value) (ha : a < f + 1) (hal : a < is.length) (hfr : fr ≤ 4000 * (1000 - a)) (h : Cod w v is) (hp : Prd w vP ps) (hop : (ig is a).op = 21) : Calls Tryd.prog 35 #[v,vP,.int .i64 a,.int .i64 fr] w (OfPost (ofD is ps a fr) w):=by
 have h3:=hw.three a hal hop
 have hlt:=hw.lt a hal
 obtain ⟨p,hpp⟩ : ∃ p,p = pgN ps a:=⟨_,rfl⟩
 have hbody:=ofD_eq hw hal fr
 have htot:=ofD_len hw (n:=fr) hal
 have htot2:=hb a hal
 obtain ⟨L,hL⟩ : ∃ L,L = ofD is ps a fr:=⟨_,rfl⟩
 unfold bodyD at hbody
 rw [if_pos hop,← hpp,← hL] at hbody
 rw [← hL] at htot ⊢
 have hL2 : L.length ≤ 2000:=by omega
 rw [← hpp] at h3 hlt
 have m0:=hlt _ (ng_mem (show 0 < p.length by omega))
 have m1:=hlt _ (ng_mem (show 1 < p.length by omega))
 have m2:=hlt _ (ng_mem (show 2 < p.length by omega))
 obtain ⟨x0,hx0⟩ : ∃ x,x = ng p 0:=⟨_,rfl⟩
 obtain ⟨x1,hx1⟩ : ∃ x,x = ng p 1:=⟨_,rfl⟩
 obtain ⟨x2,hx2⟩ : ∃ x,x = ng p 2:=⟨_,rfl⟩
 rw [← hx0] at m0 hbody
 rw [← hx1] at m1 hbody
 rw [← hx2] at m2 hbody
 obtain ⟨X,hX⟩ : ∃ X,X = ofD is ps x0 fr:=⟨_,rfl⟩
 rw [← hX] at hbody
 obtain ⟨Y,hY⟩ : ∃ Y,Y = ofD is ps x1 (fr + X.length + 1):=⟨_,rfl⟩
 rw [← hY] at hbody
 obtain ⟨Z,hZ⟩ : ∃ Z,Z = ofD is ps x2 (fr + X.length + Y.length + 2):=⟨_,rfl⟩
 rw [← hZ] at hbody
 have hlens : X.length + Y.length + Z.length + 2 ≤ 2000:=by
  have e:=congrArg List.length hbody
  simp only [List.length_append,List.length_cons,List.length_nil] at e
  omega
 have HI0:=Lib.hid (fun (W : World) (hW : Below w.heap.size w W)=>ih x0 fr W v vP (by omega) (by omega) (by omega) (h.below hW) (hp.below hW))
 have q1 : ((fr + X.length + 1 : Nat) : Int) = (fr : Int) + X.length + 1:=by omega
 have q2 : ((fr + X.length + Y.length + 2 : Nat) : Int) = (fr : Int) + X.length + Y.length + 2:=by omega
 have HI1 : Hid (∀ W : World,Below w.heap.size w W → Calls Tryd.prog 35 #[v,vP,.int .i64 x1,.int .i64 ((fr : Int) + X.length + 1)] W (OfPost Y W)):=Lib.hid (fun W hW=>by
  have q:=ih x1 (fr + X.length + 1) W v vP (by omega) (by omega) (by omega) (h.below hW) (hp.below hW)
  rw [q1,← hY] at q
  exact q)
 have HI2 : Hid (∀ W : World,Below w.heap.size w W → Calls Tryd.prog 35 #[v,vP,.int .i64 x2,.int .i64 ((fr : Int) + X.length + Y.length + 2)] W (OfPost Z W)):=Lib.hid (fun W hW=>by
  have q:=ih x2 (fr + X.length + Y.length + 2) W v vP (by omega) (by omega) (by omega) (h.below hW) (hp.below hW)
  rw [q2,← hZ] at q
  exact q)
 rw [← hX] at HI0
 unfold OfPost at HI0 HI1 HI2
 have HBODY:=Lib.hid hbody
 obtain ⟨A,C,rfl,-,-⟩:=id h
 obtain ⟨AP,CP,rfl,hpm,-⟩:=id hp
 obtain ⟨bq,qq,uP,rfl,hcP,hnP⟩:=hp.at (r:=a) (by omega)
 obtain ⟨Au,Cu,rfl,-,-⟩:=id hnP
 rw [← hpp,h3] at hcP
 rw [← hpp] at hnP
 obtain ⟨b3,q3,rfl,e0⟩:=hnP.at (r:=0) (by omega)
 obtain ⟨b3',q3',e9,e1⟩:=hnP.at (r:=1) (by omega)
 injection e9 with e9
 injection e9 with e8 e9
 subst e8 e9
 obtain ⟨b3',q3',e9,e2⟩:=hnP.at (r:=2) (by omega)
 injection e9 with e9
 injection e9 with e8 e9
 subst e8 e9
 rw [← hx0] at e0
 rw [← hx1] at e1
 rw [← hx2] at e2
 obtain ⟨b1,p1,rfl,hat⟩:=h.at hal
 obtain ⟨c0,-,-,-,-,-,-,-⟩:=hat.ins
 rw [hop] at c0
 have l0:=cell_lt2 e0
 have l1:=cell_lt2 hcP
 rw [Nat.add_zero] at e0
 have HE:=Lib.hid (And.intro e0 (And.intro e1 e2))
 have hpa : a < ps.length:=by omega
 clear hbody htot htot2 q1 q2 hX hY hZ hx0 hx1 hx2 h hp hnP hat hpp ih hL hb h3 hlt hop hpl
 go_enter Tryd.func35,Tryd.ntmps35
 go_upto_region 4 with (go_at_call 35;(with_reducible refine (HI0.out _ (by (repeat' first|(with_reducible first|exact blR _ _|assumption|refine blD ?_|refine blN ?_ _)|((with_reducible first|refine blA ?_ ?_ _|refine blS ?_ ?_ _|refine blT (by assumption) ?_ ?_);focus (go_size;done))))).mono ?_);rintro _ w1 ⟨r1,rfl,hb1,hr1⟩;obtain ⟨A1,C1,rfl,hm1⟩:=hr1.sl.is)
 have HC1:=Lib.hid (hr1.cod rfl)
 have B1:=hb1
 have e1:=(B1.cell (p:=⟨b3,q3 + 1,none⟩) l0).trans HE.out.2.1
 have e2:=(B1.cell (p:=⟨b3,q3 + 2,none⟩) l0).trans HE.out.2.2
 clear hr1
 go_upto_region 5 with (go_at_call 35;(with_reducible refine (HI1.out _ (by (repeat' first|(with_reducible first|exact blR _ _|assumption|refine blD ?_|refine blN ?_ _)|((with_reducible first|refine blA ?_ ?_ _|refine blS ?_ ?_ _|refine blT (by assumption) ?_ ?_);focus (go_size;done))))).mono ?_);rintro _ w2 ⟨r2,rfl,hb2,hr2⟩;obtain ⟨A2,C2,rfl,hm2⟩:=hr2.sl.is)
 have HC2:=Lib.hid (hr2.cod rfl)
 have HC1':=Lib.hid (HC1.out.below hb2)
 have B2 : Below w.heap.size w w2:=B1.trans (hb2.mono B1.size)
 have e2:=(B2.cell (p:=⟨b3,q3 + 2,none⟩) l0).trans HE.out.2.2
 clear hr2 e1 HC1 hb1 B1
 go_upto_region 6 with (go_at_call 35;(with_reducible refine (HI2.out _ (by (repeat' first|(with_reducible first|exact blR _ _|assumption|refine blD ?_|refine blN ?_ _)|((with_reducible first|refine blA ?_ ?_ _|refine blS ?_ ?_ _|refine blT (by assumption) ?_ ?_);focus (go_size;done))))).mono ?_);rintro _ w3 ⟨r3,rfl,hb3,hr3⟩;obtain ⟨A3,C3,rfl,hm3⟩:=hr3.sl.is)
 have HC3:=Lib.hid (hr3.cod rfl)
 have HC2':=Lib.hid (HC2.out.below hb3)
 have HC1:=Lib.hid (HC1'.out.below hb3)
 have B3 : Below w.heap.size w w3:=B2.trans (hb3.mono B2.size)
 clear hr3 e0 e2 HC1' HC2 hb2 hb3 B2 hcP c0
 have HB3:=Lib.hid B3
 clear B3
 go_upto_region 7 with (at_builtin;refine wpList_copyM rfl _ _ 24 43 8 72 (.agg #[.int .i64 0,.int .i64 0,.string ⟨#[]⟩,.bool false,.int .u64 0,.int .u64 0,.int .i64 0,.int .i64 0]) rfl Tryd.underlying24 info_ins rfl (by decide) rfl A1 X.length C1 (ics X) rfl (by rw [ics_length]) (cod_news HC1.out rfl) (ics_cells _) (by omega) (by unfold maxLen;omega) ?_;intro A4 C4 w4 hr4 hb4)
 have HR4:=Lib.hid hr4
 have HB4:=Lib.hid hb4
 clear hr4 hb4
 go_upto_region 8 with (at_builtin;refine wpList_pushR rfl _ _ 24 43 8 72 (.agg #[.int .i64 0,.int .i64 0,.string ⟨#[]⟩,.bool false,.int .u64 0,.int .u64 0,.int .i64 0,.int .i64 0]) rfl Tryd.underlying24 info_ins rfl (by decide) (ob w3.heap.size) 1 (.slice A4 X.length C4) X.length (ics X) rfl (HR4.out.alloc _) ⟨w4.heap.size,0,none⟩ 1 1 (insO 102 ((fr : Int) + X.length + Y.length + 2)).cs rfl rfl (news_o _ _ _ _) (cs_cells _) (by decide) (by omega) (by unfold maxLen;omega) ?_;intro g5 cap5 w5 hr5 ht5 hlt5)
 rw [ob_re (by rw [World.size_alloc];exact Nat.le_succ_of_le HB4.out.size)] at hr5 ht5
 rw [← ics_one,← ics_append] at hr5
 have HR5:=Lib.hid hr5
 have HB5:=Lib.hid (ob_below ht5 (HB4.out.alloc HB4.out.size _))
 clear hr5 ht5 HR4 HB4
 go_upto_region 9 with (at_builtin;refine wpList_pushM rfl _ _ 24 43 8 72 (.agg #[.int .i64 0,.int .i64 0,.string ⟨#[]⟩,.bool false,.int .u64 0,.int .u64 0,.int .i64 0,.int .i64 0]) rfl Tryd.underlying24 info_ins rfl (by decide) (ob w3.heap.size) 1 (.slice (some ⟨g5,0,none⟩) (X.length + 1) cap5) (X.length + 1) _ rfl HR5.out A2 Y.length C2 (ics Y) rfl (by rw [ics_length]) (cod_news (HC2'.out.below HB5.out) rfl) (ics_cells _) (by omega) (by unfold maxLen;omega) ?_;intro A6 C6 w6 hr6 ht6)
 rw [ob_re HB5.out.size] at hr6 ht6
 rw [← ics_append] at hr6
 have HR6:=Lib.hid hr6
 have HB6:=Lib.hid (ob_below ht6 HB5.out)
 clear hr6 ht6 HR5 HB5
 go_upto_region 10 with (at_builtin;refine wpList_pushR rfl _ _ 24 43 8 72 (.agg #[.int .i64 0,.int .i64 0,.string ⟨#[]⟩,.bool false,.int .u64 0,.int .u64 0,.int .i64 0,.int .i64 0]) rfl Tryd.underlying24 info_ins rfl (by decide) (ob w3.heap.size) 1 (.slice A6 (X.length + 1 + Y.length) C6) (X.length + 1 + Y.length) _ rfl (HR6.out.alloc _) ⟨w6.heap.size,0,none⟩ 1 1 (insO 101 ((fr : Int) + X.length + Y.length + Z.length + 2)).cs rfl rfl (news_o _ _ _ _) (cs_cells _) (by decide) (by omega) (by unfold maxLen;omega) ?_;intro g7 cap7 w7 hr7 ht7 hlt7)
 rw [ob_re (by rw [World.size_alloc];exact Nat.le_succ_of_le HB6.out.size)] at hr7 ht7
 rw [← ics_one,← ics_append] at hr7
 have HR7:=Lib.hid hr7
 have HB7:=Lib.hid (ob_below ht7 (HB6.out.alloc HB6.out.size _))
 clear hr7 ht7 HR6 HB6
 go_wp2_with (at_builtin;refine wpList_pushM rfl _ _ 24 43 8 72 (.agg #[.int .i64 0,.int .i64 0,.string ⟨#[]⟩,.bool false,.int .u64 0,.int .u64 0,.int .i64 0,.int .i64 0]) rfl Tryd.underlying24 info_ins rfl (by decide) (ob w3.heap.size) 1 (.slice (some ⟨g7,0,none⟩) (X.length + 1 + Y.length + 1) cap7) (X.length + 1 + Y.length + 1) _ rfl HR7.out A3 Z.length C3 (ics Z) rfl (by rw [ics_length]) (cod_news (HC3.out.below HB7.out) rfl) (ics_cells _) (by omega) (by unfold maxLen;omega) ?_;intro A8 C8 w8 hr8 ht8)
 rw [ob_re HB7.out.size] at hr8 ht8
 rw [← ics_append] at hr8
 have HR8:=Lib.hid (ob_mono hr8 HB3.out.size)
 have HB8:=Lib.hid (ob_below ht8 HB7.out)
 clear hr8 ht8 HR7 HB7
 go_ret
 refine ⟨_,rfl,HB3.out.trans (HB8.out.mono HB3.out.size), ?_⟩
 have hLl : L.length = X.length + 1 + Y.length + 1 + Z.length:=by
  rw [HBODY.out]
  simp only [List.length_append,List.length_cons,List.length_nil]
  try omega
 rw [hLl,HBODY.out]
 exact HR8.out
set_option maxRecDepth 100000 in
set_option maxHeartbeats 4000000 in
theorem of_else (hw : Wf is ps) (hpl : ps.length = is.length) (hl3 : is.length ≤ 300) (hb : ∀ x,x < is.length → (ofD is ps x 0).length ≤ 2000) (f : Nat) (ih : OfOk is ps f) (a fr : Nat) (w : World) (v vP : Value) (ha : a < f + 1) (hal : a < is.length) (hfr : fr ≤ 4000 * (1000 - a)) (h : Cod w v is) (hp : Prd w vP ps) (hop : (ig is a).op ≠ 21) : Calls Tryd.prog 35 #[v,vP,.int .i64 a,.int .i64 fr] w (OfPost (ofD is ps a fr) w):=by
 have hlt:=hw.lt a hal
 obtain ⟨p,hpp⟩ : ∃ p,p = pgN ps a:=⟨_,rfl⟩
 have hbody:=ofD_eq hw hal fr
 have htot:=ofD_len hw (n:=fr) hal
 have htot2:=hb a hal
 obtain ⟨L,hL⟩ : ∃ L,L = ofD is ps a fr:=⟨_,rfl⟩
 unfold bodyD at hbody
 rw [if_neg hop,← hpp,← hL] at hbody
 rw [← hL] at htot ⊢
 have hL2 : L.length ≤ 2000:=by omega
 rw [← hpp] at hlt
 obtain ⟨I,hI⟩ : ∃ I,I = ig is a:=⟨_,rfl⟩
 have HI:=Lib.hid hI
 rw [← hI] at hbody hop
 obtain ⟨op,aa,tx,nq,hi,lo,sc,dy⟩:=I
 dsimp only at hbody hop
 obtain ⟨D,hD⟩ : ∃ D : Nat → List InsD,D = rowD op (ofD is ps) p fr:=⟨_,rfl⟩
 rw [← hD] at hbody
 have hrow : (D p.length).length + 1 = L.length:=by
  rw [hbody,List.length_append];rfl
 have hDl : ∀ k,k ≤ p.length → (D k).length ≤ 2000:=fun k hk=>by
  have:=rowD_mono (op:=op) (g:=ofD is ps) (p:=p) (fr:=fr) k (p.length - k)
  rw [show k + (p.length - k) = p.length by omega,← hD] at this
  omega
 have hDs : ∀ k,D (k + 1) = D k ++ ofD is ps (ng p k) (fr + (D k).length) ++ (if op = 23 ∧ k = 0 then [insO 103 0] else []):=fun k=>by rw [hD];rfl
 have hD0 : D 0 = []:=by rw [hD];rfl
 have HIX : Hid (∀ (W : World) (k : Nat),Below w.heap.size w W → k < p.length → Calls Tryd.prog 35 #[v,vP,.int .i64 (ng p k : Nat),.int .i64 ((fr : Int) + (D k).length)] W (OfPost (ofD is ps (ng p k) (fr + (D k).length)) W)):=Lib.hid (fun W k hW hk=>by
  have hx:=hlt _ (ng_mem hk)
  have hk2:=hDl k (by omega)
  have q:=ih (ng p k) (fr + (D k).length) W v vP (by omega) (by omega) (by omega) (h.below hW) (hp.below hW)
  rw [Int.natCast_add] at q
  exact q)
 have HBODY:=Lib.hid hbody
 have HDL:=Lib.hid hDl
 have HDS:=Lib.hid hDs
 have HC:=Lib.hid h
 obtain ⟨A,C,rfl,-,-⟩:=id h
 obtain ⟨AP,CP,rfl,hpm,-⟩:=id hp
 obtain ⟨bq,qq,uP,rfl,hcP,hnP⟩:=hp.at (r:=a) (by omega)
 obtain ⟨Au,Cu,rfl,hpm2,-⟩:=id hnP
 rw [← hpp] at hcP hnP hpm2
 unfold maxLen at hpm2
 have HNP:=Lib.hid hnP
 have l1:=cell_lt2 hcP
 have hpa : a < ps.length:=by omega
 have h0 : Ro w (ob w.heap.size) 1 43 8 (.slice none 0 0) (D 0).length (ics (D 0)):=by rw [hD0];exact Ro.nil _ _ _ _ _
 have HR0:=Lib.hid h0
 obtain ⟨b1,p1,rfl,hat⟩:=h.at hal
 rw [← hI] at hat
 obtain ⟨c0,-,-,-,-,-,-,-⟩:=hat.ins
 dsimp only at c0
 have HA0:=Lib.hid c0
 have l2:=cell_lt2 c0
 have q21 : (op == 21) = false:=by rw [beq_eq_false_iff_ne];exact hop
 have hfr2 : fr ≤ 4000000:=by omega
 clear hbody htot htot2 h hp hnP hpp ih hL hb hlt hop hpl h0 hD hDl hDs hD0 hrow hat hI
 go_enter Tryd.func35,Tryd.ntmps35
 go_wp2_with fail
 go_loopg [14,15] p.length (fun k s14 s15 wr=>∃ t : Nat,k + t = p.length ∧ s15 = .int .i64 t ∧ Hid (Ro wr (ob w.heap.size) 1 43 8 s14 (D t).length (ics (D t))) ∧ Hid (Below w.heap.size w wr))
 case atStart=>exact ⟨0,by omega,rfl,HR0,Lib.hid (Below.refl _ _)⟩
 case round =>
  obtain ⟨t,hk,rfl,HRO,HB⟩:=hrel
  have HK:=Lib.hid hk
  have htn : t ≤ p.length:=by omega
  have hDt:=HDL.out t htn
  obtain ⟨A4,C4,rfl,-⟩:=HRO.out.sl.is
  obtain ⟨n,hn⟩ : ∃ n,n = (D t).length:=⟨_,rfl⟩
  rw [← hn] at hDt ⊢
  have HN:=Lib.hid hn
  have hsz:=HB.out.size
  clear hk HR0 hn
  by_cases hlt : t < p.length
  ·have HDS1:=Lib.hid (HDS.out t)
   have hD1:=HDL.out (t + 1) (by omega)
   obtain ⟨E,hE⟩ : ∃ E,E = ofD is ps (ng p t) (fr + (D t).length):=⟨_,rfl⟩
   rw [← hE] at HDS1
   have hEl : n + E.length ≤ 2000:=by
    rw [HDS1.out,List.length_append,List.length_append,← HN.out] at hD1
    omega
   have hcall:=HIX.out wr t HB.out hlt
   rw [← hE,← HN.out] at hcall
   obtain ⟨b3,q3,rfl,e0⟩:=(HNP.out.below HB.out).at hlt
   obtain ⟨x,hx⟩ : ∃ x,x = ng p t:=⟨_,rfl⟩
   rw [← hx] at e0 hcall
   unfold OfPost at hcall
   have HCALL:=Lib.hid hcall
   clear hcall hE hx hD1
   go_upto_region 16 with (first | (go_at_call 35;(with_reducible refine HCALL.out.mono ?_);rintro _ w2 ⟨r2,rfl,hb2,hr2⟩;obtain ⟨A2,C2,rfl,hm2⟩:=hr2.sl.is;have hro2:=ob_kept HRO.out hb2;rw [← HN.out] at hro2) | (at_builtin;refine wpList_pushM rfl _ _ 24 43 8 72 (.agg #[.int .i64 0,.int .i64 0,.string ⟨#[]⟩,.bool false,.int .u64 0,.int .u64 0,.int .i64 0,.int .i64 0]) rfl Tryd.underlying24 info_ins rfl (by decide) (ob w.heap.size) 1 (.slice A4 n C4) n (ics (D t)) rfl hro2 A2 E.length C2 (ics E) rfl (by rw [ics_length]) (cod_news (hr2.cod rfl) rfl) (ics_cells _) (by omega) (by unfold maxLen;omega) ?_;intro A5 C5 w3 hr3 ht3))
   have hB2:=HB.out.trans (hb2.mono hsz)
   rw [ob_re hB2.size] at hr3 ht3
   rw [← ics_append] at hr3
   have HR3:=Lib.hid hr3
   have HB3:=Lib.hid (ob_below ht3 hB2)
   have d0:=(HB3.out.cell (p:=⟨b1,p1 + a * 8,none⟩) l2).trans HA0.out
   have hs3:=HB3.out.size
   clear hr3 ht3 hr2 hro2 hb2 hB2 HCALL
   by_cases h23 : op = 23
   ·have q23 : (op == 23) = true:=by rw [beq_iff_eq];exact h23
    have H23:=Lib.hid h23
    clear h23
    by_cases ht0 : t = 0
    ·have HDE : Hid (D (t + 1) = D t ++ E ++ [insO 103 0]):=Lib.hid (by rw [HDS1.out,if_pos ⟨H23.out,ht0⟩])
     subst ht0
     clear HDS1
     go_wp2_with (at_builtin;refine wpList_pushR rfl _ _ 24 43 8 72 (.agg #[.int .i64 0,.int .i64 0,.string ⟨#[]⟩,.bool false,.int .u64 0,.int .u64 0,.int .i64 0,.int .i64 0]) rfl Tryd.underlying24 info_ins rfl (by decide) (ob w.heap.size) 1 (.slice A5 (n + E.length) C5) (n + E.length) _ rfl (HR3.out.alloc _) ⟨w3.heap.size,0,none⟩ 1 1 (insO 103 0).cs rfl rfl (news_o _ _ _ _) (cs_cells _) (by decide) (by omega) (by unfold maxLen;omega) ?_;intro g7 cap7 w5 hr7 ht7 hlt7)
     rw [ob_re (by rw [World.size_alloc];exact Nat.le_succ_of_le hs3)] at hr7 ht7
     rw [← ics_one,← ics_append,← HDE.out] at hr7
     have HR7 : Hid (Ro w5 (ob w.heap.size) 1 43 8 (.slice (some ⟨g7,0,none⟩) (n + E.length + 1) cap7) (D (0 + 1)).length (ics (D (0 + 1)))):=Lib.hid (by
      have e : (D (0 + 1)).length = n + E.length + 1:=by rw [HDE.out,List.length_append,List.length_append,← HN.out];rfl
      rw [e]
      exact hr7)
     have HB7:=Lib.hid (ob_below ht7 (HB3.out.alloc hs3 _))
     clear hr7 ht7
     go_roundg (gk - 1)
     case measure=>have:=HK.out;omega
     case rel=>exact ⟨0 + 1,by have:=HK.out;omega,by go_num,HR7,HB7⟩
    ·have HDE : Hid (D (t + 1) = D t ++ E):=Lib.hid (by rw [HDS1.out,if_neg (fun hh=>ht0 hh.2),List.append_nil])
     have q0 : ((t : Int) == 0) = false:=by rw [beq_eq_false_iff_ne];omega
     clear HDS1
     go_wp2_with fail
     go_roundg (gk - 1)
     case measure=>have:=HK.out;omega
     case rel=>exact ⟨t + 1,by have:=HK.out;omega,by go_num,Lib.hid (by
      have e : (D (t + 1)).length = n + E.length:=by rw [HDE.out,List.length_append,← HN.out]
      rw [e,HDE.out]
      exact HR3.out),HB3⟩
   ·have HDE : Hid (D (t + 1) = D t ++ E):=Lib.hid (by rw [HDS1.out,if_neg (fun hh=>h23 hh.1),List.append_nil])
    have q23 : (op == 23) = false:=by rw [beq_eq_false_iff_ne];exact h23
    clear HDS1
    go_wp2_with fail
    go_roundg (gk - 1)
    case measure=>have:=HK.out;omega
    case rel=>exact ⟨t + 1,by have:=HK.out;omega,by go_num,Lib.hid (by
      have e : (D (t + 1)).length = n + E.length:=by rw [HDE.out,List.length_append,← HN.out]
      rw [e,HDE.out]
      exact HR3.out),HB3⟩
  ·obtain rfl : t = p.length:=by omega
   have d0:=(HB.out.cell (p:=⟨b1,p1 + a * 8,none⟩) l2).trans HA0.out
   have hrow : Ro wr (ob w.heap.size) 1 43 8 (.slice A4 n C4) n (ics (D p.length)):=by rw [HN.out];exact HRO.out
   have HROW:=Lib.hid hrow
   have hLl : L.length = n + 1:=by rw [HBODY.out,List.length_append,HN.out];rfl
   clear hrow HRO
   by_cases h23 : op = 23
   ·have q23 : (op == 23) = true:=by rw [beq_iff_eq];exact h23
    have HLE : Hid (L = D p.length ++ [insO 104 0]):=Lib.hid (by rw [HBODY.out,if_pos h23])
    go_wp2_with (at_builtin;refine wpList_pushR rfl _ _ 24 43 8 72 (.agg #[.int .i64 0,.int .i64 0,.string ⟨#[]⟩,.bool false,.int .u64 0,.int .u64 0,.int .i64 0,.int .i64 0]) rfl Tryd.underlying24 info_ins rfl (by decide) (ob w.heap.size) 1 (.slice A4 n C4) n (ics (D p.length)) rfl (HROW.out.alloc _) ⟨wr.heap.size,0,none⟩ 1 1 (insO 104 0).cs rfl rfl (news_o _ _ _ _) (cs_cells _) (by decide) (by omega) (by unfold maxLen;omega) ?_;intro g7 cap7 w5 hr7 ht7 hlt7)
    rw [ob_re (by rw [World.size_alloc];exact Nat.le_succ_of_le hsz)] at hr7 ht7
    rw [← ics_one,← ics_append,← HLE.out] at hr7
    have HR7:=Lib.hid hr7
    have HB7:=Lib.hid (ob_below ht7 (HB.out.alloc hsz _))
    clear hr7 ht7
    go_ret
    exact ⟨_,rfl,HB7.out,by rw [hLl];exact HR7.out⟩
   ·have q23 : (op == 23) = false:=by rw [beq_eq_false_iff_ne];exact h23
    have HLE : Hid (L = D p.length ++ [lastI ⟨op,aa,tx,nq,hi,lo,sc,dy⟩]):=Lib.hid (by rw [HBODY.out,if_neg h23])
    obtain ⟨b1',p1',e9,hat⟩:=(HC.out.below HB.out).at hal
    injection e9 with e9
    injection e9 with e8 e9
    subst e8 e9
    rw [← HI.out] at hat
    obtain ⟨a0,a1,a2,a3,a4,a5,a6,a7⟩:=hat.ins
    dsimp only at a0 a1 a2 a3 a4 a5 a6 a7
    have HON:=Lib.hid (fun (W : World)=>one_any op aa tx nq hi lo sc dy W)
    have hLs : (lastI ⟨op,aa,tx,nq,hi,lo,sc,dy⟩).cs = [.int .i64 op,.int .i64 (lastI ⟨op,aa,tx,nq,hi,lo,sc,dy⟩).a,.string tx,.bool nq,.int .u64 hi,.int .u64 lo,.int .i64 sc,.int .i64 dy]:=by unfold lastI;dsimp only;split <;> rfl
    obtain ⟨la,hla⟩ : ∃ x,x = (lastI ⟨op,aa,tx,nq,hi,lo,sc,dy⟩).a:=⟨_,rfl⟩
    rw [← hla] at hLs HON
    have HLS:=Lib.hid hLs
    clear hat hLs hla
    go_wp2_with (first | (go_at_call 52;(with_reducible refine (HON.out _).mono ?_);rintro _ w2 ⟨rfl,hb2⟩;have hro2:=ob_kept HROW.out hb2) | (at_builtin;refine wpList_pushR rfl _ _ 24 43 8 72 (.agg #[.int .i64 0,.int .i64 0,.string ⟨#[]⟩,.bool false,.int .u64 0,.int .u64 0,.int .i64 0,.int .i64 0]) rfl Tryd.underlying24 info_ins rfl (by decide) (ob w.heap.size) 1 (.slice A4 n C4) n (ics (D p.length)) rfl (hro2.alloc _) ⟨w2.heap.size,0,none⟩ 1 1 (InsD.mk op la tx nq hi lo sc dy).cs rfl rfl (news8 w2 (InsD.mk op la tx nq hi lo sc dy) _) (cs_cells _) (by decide) (by omega) (by unfold maxLen;omega) ?_;intro g7 cap7 w5 hr7 ht7 hlt7))
    have hB2:=HB.out.trans (hb2.mono hsz)
    rw [ob_re (by rw [World.size_alloc];exact Nat.le_succ_of_le hB2.size)] at hr7 ht7
    rw [show (InsD.mk op la tx nq hi lo sc dy).cs = (lastI ⟨op,aa,tx,nq,hi,lo,sc,dy⟩).cs from HLS.out.symm,← ics_one,← ics_append,← HLE.out] at hr7
    have HR7:=Lib.hid hr7
    have HB7:=Lib.hid (ob_below ht7 (hB2.alloc hB2.size _))
    clear hr7 ht7 hro2
    go_ret
    exact ⟨_,rfl,HB7.out,by rw [hLl];exact HR7.out⟩
theorem docof_any (hw : Wf is ps) (hpl : ps.length = is.length) (hl3 : is.length ≤ 300) (hb : ∀ x,x < is.length → (ofD is ps x 0).length ≤ 2000) : ∀ f,OfOk is ps f
 | 0=>fun a fr w v vP ha=>absurd ha (Nat.not_lt_zero _)
 | f + 1=>fun a fr w v vP ha hal hfr h hp=>by
  by_cases hop : (ig is a).op = 21
  ·exact of_if hw hpl hl3 hb f (docof_any hw hpl hl3 hb f) a fr w v vP ha hal hfr h hp hop
  ·exact of_else hw hpl hl3 hb f (docof_any hw hpl hl3 hb f) a fr w v vP ha hal hfr h hp hop
end
end Go.Proofs.YtnhmplfonkjfoaaDoor



namespace Go.Proofs.YtnhmplfonkjfoaaDoor
open Go.RowKit

def nodeB (c : InsD) : Bool:=(tk c.op c.a).2.2.2.2 && !(decide (101 ≤ c.op)) && !(c.op == 21) && !(c.op == 23)
def nodeD (c : InsD) : InsD:={ c with a:=(tk c.op c.a).1 }
def ifP (is : List InsD) (i e : Nat) (a : Int) : Prop:=(i : Int) + 1 < a ∧ a ≤ e ∧ (ig is (a.toNat - 1)).op = 101 ∧ a ≤ (ig is (a.toNat - 1)).a ∧ (ig is (a.toNat - 1)).a ≤ e
instance (is : List InsD) (i e : Nat) (a : Int) : Decidable (ifP is i e a):=by unfold ifP;infer_instance
def unD (is : List InsD) : Nat → Nat → Nat → Option (List InsD)
 | 0,_,_=>none
 | f + 1,i,e =>
  if e ≤ i then some []
  else if (ig is i).op = 103 then unD is f (i + 1) e
  else if (ig is i).op = 104 then (unD is f (i + 1) e).map fun r=>insO 23 2 :: r
  else if (ig is i).op = 102 then
   if ifP is i e (ig is i).a then
    match unD is f (i + 1) ((ig is i).a.toNat - 1),unD is f (ig is i).a.toNat (ig is ((ig is i).a.toNat - 1)).a.toNat with
    | some b,some d=>(unD is f (ig is ((ig is i).a.toNat - 1)).a.toNat e).map fun r=>b ++ d ++ [insO 21 3] ++ r
    | _,_=>none
   else none
  else if nodeB (ig is i) = true then (unD is f (i + 1) e).map fun r=>nodeD (ig is i) :: r
  else none
section
variable {is : List InsD} {f i e : Nat}
theorem unD_end (h : e ≤ i) : unD is (f + 1) i e = some []:=by unfold unD;rw [if_pos h]
theorem unD_enter (h : i < e) (ho : (ig is i).op = 103) : unD is (f + 1) i e = unD is f (i + 1) e:=by rw [unD,if_neg (by omega),if_pos ho]
theorem unD_leave (h : i < e) (ho : (ig is i).op = 104) : unD is (f + 1) i e = (unD is f (i + 1) e).map fun r=>insO 23 2 :: r:=by rw [unD,if_neg (by omega),if_neg (by omega),if_pos ho]
theorem unD_if (h : i < e) (ho : (ig is i).op = 102) (hp : ifP is i e (ig is i).a) : unD is (f + 1) i e = match unD is f (i + 1) ((ig is i).a.toNat - 1),unD is f (ig is i).a.toNat (ig is ((ig is i).a.toNat - 1)).a.toNat with
  | some b,some d=>(unD is f (ig is ((ig is i).a.toNat - 1)).a.toNat e).map fun r=>b ++ d ++ [insO 21 3] ++ r
  | _,_=>none:=by rw [unD,if_neg (by omega),if_neg (by omega),if_neg (by omega),if_pos ho,if_pos hp]
theorem unD_ifno (h : i < e) (ho : (ig is i).op = 102) (hp : ¬ ifP is i e (ig is i).a) : unD is (f + 1) i e = none:=by rw [unD,if_neg (by omega),if_neg (by omega),if_neg (by omega),if_pos ho,if_neg hp]
theorem unD_node (h : i < e) (h1 : (ig is i).op ≠ 103) (h2 : (ig is i).op ≠ 104) (h3 : (ig is i).op ≠ 102) (hn : nodeB (ig is i) = true) : unD is (f + 1) i e = (unD is f (i + 1) e).map fun r=>nodeD (ig is i) :: r:=by rw [unD,if_neg (by omega),if_neg h1,if_neg h2,if_neg h3,if_pos hn]
theorem unD_no (h : i < e) (h1 : (ig is i).op ≠ 103) (h2 : (ig is i).op ≠ 104) (h3 : (ig is i).op ≠ 102) (hn : nodeB (ig is i) = false) : unD is (f + 1) i e = none:=by rw [unD,if_neg (by omega),if_neg h1,if_neg h2,if_neg h3,if_neg (by rw [hn];decide)]
end
theorem unD_fuel {is : List InsD} : ∀ (f f' i e : Nat),e - i < f → e - i < f' → unD is f i e = unD is f' i e
 | 0,_,_,_,h,_=>absurd h (Nat.not_lt_zero _)
 | _ + 1,0,_,_,_,h=>absurd h (Nat.not_lt_zero _)
 | f + 1,f' + 1,i,e,h1,h2=>by
  by_cases hlt : i < e
  ·have ih:=fun (i' e' : Nat) (ha : i < i') (hb : e' ≤ e)=>unD_fuel (is:=is) f f' i' e' (by omega) (by omega)
   by_cases c1 : (ig is i).op = 103
   ·rw [unD_enter hlt c1,unD_enter hlt c1,ih _ _ (by omega) (by omega)]
   ·by_cases c2 : (ig is i).op = 104
    ·rw [unD_leave hlt c2,unD_leave hlt c2,ih _ _ (by omega) (by omega)]
    ·by_cases c3 : (ig is i).op = 102
     ·by_cases hp : ifP is i e (ig is i).a
      ·rw [unD_if hlt c3 hp,unD_if hlt c3 hp]
       obtain ⟨p1,p2,p3,p4,p5⟩:=hp
       rw [ih _ _ (by omega) (by omega),ih (ig is i).a.toNat _ (by omega) (by omega),ih _ e (by omega) (by omega)]
      ·rw [unD_ifno hlt c3 hp,unD_ifno hlt c3 hp]
     ·cases hn : nodeB (ig is i) with
      | true=>rw [unD_node hlt c1 c2 c3 hn,unD_node hlt c1 c2 c3 hn,ih _ _ (by omega) (by omega)]
      | false=>rw [unD_no hlt c1 c2 c3 hn,unD_no hlt c1 c2 c3 hn]
  ·rw [unD_end (by omega),unD_end (by omega)]
theorem unD_len {is : List InsD} : ∀ (f i e : Nat) (L : List InsD),unD is f i e = some L → L.length ≤ e - i
 | 0,_,_,_,h=>by cases h
 | f + 1,i,e,L,h=>by
  by_cases hlt : i < e
  ·by_cases c1 : (ig is i).op = 103
   ·rw [unD_enter hlt c1] at h
    have:=unD_len f _ _ _ h
    omega
   ·by_cases c2 : (ig is i).op = 104
    ·rw [unD_leave hlt c2] at h
     obtain ⟨r,hr,rfl⟩:=Option.map_eq_some_iff.1 h
     have:=unD_len f _ _ _ hr
     show r.length + 1 ≤ _
     omega
    ·by_cases c3 : (ig is i).op = 102
     ·by_cases hp : ifP is i e (ig is i).a
      ·rw [unD_if hlt c3 hp] at h
       obtain ⟨p1,p2,p3,p4,p5⟩:=hp
       cases hb : unD is f (i + 1) ((ig is i).a.toNat - 1) with
       | none=>rw [hb] at h;cases h
       | some b =>
        cases hd : unD is f (ig is i).a.toNat (ig is ((ig is i).a.toNat - 1)).a.toNat with
        | none=>rw [hb,hd] at h;cases h
        | some d =>
         rw [hb,hd] at h
         obtain ⟨r,hr,rfl⟩:=Option.map_eq_some_iff.1 h
         have h1:=unD_len f _ _ _ hb
         have h2:=unD_len f _ _ _ hd
         have h3:=unD_len f _ _ _ hr
         simp only [List.length_append,List.length_cons,List.length_nil]
         omega
      ·rw [unD_ifno hlt c3 hp] at h;cases h
     ·cases hn : nodeB (ig is i) with
      | true =>
       rw [unD_node hlt c1 c2 c3 hn] at h
       obtain ⟨r,hr,rfl⟩:=Option.map_eq_some_iff.1 h
       have:=unD_len f _ _ _ hr
       show r.length + 1 ≤ _
       omega
      | false=>rw [unD_no hlt c1 c2 c3 hn] at h;cases h
  ·rw [unD_end (by omega)] at h
   injection h with h
   rw [← h]
   exact Nat.zero_le _
end Go.Proofs.YtnhmplfonkjfoaaDoor

