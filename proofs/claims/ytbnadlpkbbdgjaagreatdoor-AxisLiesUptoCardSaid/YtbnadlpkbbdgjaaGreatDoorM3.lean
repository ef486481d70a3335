/- The contracts of the functions that the laws reach, part 3: what each returns and what becomes of memory. -/
import Derived.WalkKit
import Derived.Lib.TrimUEq
import Derived.Lib.ValidU
import Derived.Shelf.GgClosure.StringsIndexFunc
import Derived.Shelf.GgClosure.StringsIndexFuncTop
import Derived.ChangeKeysEq
import Init.Omega
import Derived.Deep.OwnRows
import Derived.Laws.AppendOwn
import Derived.Sort.Grow
import Derived.Deep.AppendLies
import Derived.Deep.RegionLaw
import Derived.Laws.OwnMore
import Derived.Deep.Upon
import Derived.Deep.AppendSrc
import Derived.OwnWalk
import Derived.RangeFuncOwn
import Derived.RangeFuncKeeps
import Derived.RangeFuncCalls
import Derived.RangeFuncLeaves
import Derived.Test.YtbnadlpkbbdgjaaGreatDoorM2
set_option linter.unusedSimpArgs false
set_option linter.unusedVariables false


namespace Go.Proofs.YtbnadlpkbbdgjaaGreatDoor
open Go.Lib

/-- a character of a text, as the document says -/
def chrP (c : Nat) : Prop:=c = 9 ∨ c = 10 ∨ c = 13 ∨ (32 ≤ c ∧ c ≤ 55295) ∨ (57344 ≤ c ∧ c ≤ 65533) ∨ (65536 ≤ c ∧ c ≤ 1114111)
instance (c : Nat) : Decidable (chrP c):=by unfold chrP;infer_instance
def chr (c : Nat) : Bool:=decide (chrP c)
/-- the document's decoder at the head of n bytes: the character, its bytes, and whether it is one in its shortest form -/
def oneN (n b0 b1 b2 b3 : Nat) : Nat × Nat × Bool :=
 if b0 < 128 then (b0,1,true)
 else if 192 ≤ b0 ∧ b0 < 224 then
  (if 1 < n ∧ b1 / 64 = 2 then (b0 % 32 * 64 + b1 % 64,2,decide (128 ≤ b0 % 32 * 64 + b1 % 64)) else (0,0,false))
 else if 224 ≤ b0 ∧ b0 < 240 then
  (if 1 < n ∧ b1 / 64 = 2 then (if 2 < n ∧ b2 / 64 = 2 then ((b0 % 16 * 64 + b1 % 64) * 64 + b2 % 64,3,decide (2048 ≤ (b0 % 16 * 64 + b1 % 64) * 64 + b2 % 64)) else (0,0,false)) else (0,0,false))
 else if 240 ≤ b0 ∧ b0 < 248 then
  (if 1 < n ∧ b1 / 64 = 2 then (if 2 < n ∧ b2 / 64 = 2 then (if 3 < n ∧ b3 / 64 = 2 then (((b0 % 8 * 64 + b1 % 64) * 64 + b2 % 64) * 64 + b3 % 64,4,decide (65536 ≤ ((b0 % 8 * 64 + b1 % 64) * 64 + b2 % 64) * 64 + b3 % 64)) else (0,0,false)) else (0,0,false)) else (0,0,false))
 else (0,0,false)
/-- the two decoders, case by case: either both take the same character, or neither does -/
theorem one_dec {n b0 b1 b2 b3 : Nat} (h0 : b0 < 256) :
  (∃ c m,oneN n b0 b1 b2 b3 = (c,m,true) ∧ chrP c ∧ decodeN n b0 b1 b2 b3 = (c,m) ∧ ¬ (c = 65533 ∧ m = 1)) ∨
  (((oneN n b0 b1 b2 b3).2.2 = false ∨ ¬ chrP (oneN n b0 b1 b2 b3).1) ∧ (((decodeN n b0 b1 b2 b3).1 = 65533 ∧ (decodeN n b0 b1 b2 b3).2 = 1) ∨ ¬ chrP (decodeN n b0 b1 b2 b3).1)):=by
 by_cases a1 : b0 < 128
 ·have e1 : oneN n b0 b1 b2 b3 = (b0,1,true):=by unfold oneN;rw [if_pos a1]
  have e2 : decodeN n b0 b1 b2 b3 = (b0,1):=by unfold decodeN;rw [if_pos a1]
  by_cases hc : chrP b0
  ·exact .inl ⟨b0,1,e1,hc,e2,by omega⟩
  ·exact .inr ⟨.inr (by rw [e1];exact hc),.inr (by rw [e2];exact hc)⟩
 by_cases a2 : 192 ≤ b0 ∧ b0 < 224
 ·by_cases t1 : 1 < n ∧ b1 / 64 = 2
  ·have d : b0 / 32 = 6 ∧ (1 < n ∧ b1 / 64 = 2):=⟨by omega,t1⟩
   have e1 : oneN n b0 b1 b2 b3 = (b0 % 32 * 64 + b1 % 64,2,decide (128 ≤ b0 % 32 * 64 + b1 % 64)):=by unfold oneN;rw [if_neg a1,if_pos a2,if_pos t1]
   by_cases g : 128 ≤ b0 % 32 * 64 + b1 % 64
   ·have e2 : decodeN n b0 b1 b2 b3 = (b0 % 32 * 64 + b1 % 64,2):=by unfold decodeN;rw [if_neg a1,if_pos d,if_pos g]
    rw [decide_eq_true g] at e1
    by_cases hc : chrP (b0 % 32 * 64 + b1 % 64)
    ·exact .inl ⟨_,2,e1,hc,e2,by omega⟩
    ·exact .inr ⟨.inr (by rw [e1];exact hc),.inr (by rw [e2];exact hc)⟩
   ·have e2 : decodeN n b0 b1 b2 b3 = (65533,1):=by unfold decodeN;rw [if_neg a1,if_pos d,if_neg g]
    exact .inr ⟨.inl (by rw [e1];exact decide_eq_false g),.inl (by rw [e2];exact ⟨rfl,rfl⟩)⟩
  ·have e1 : oneN n b0 b1 b2 b3 = (0,0,false):=by unfold oneN;rw [if_neg a1,if_pos a2,if_neg t1]
   have e2 : decodeN n b0 b1 b2 b3 = (65533,1):=by
    unfold decodeN;rw [if_neg a1,if_neg (fun h => t1 h.2),if_neg (by omega),if_neg (by omega)]
   exact .inr ⟨.inl (by rw [e1]),.inl (by rw [e2];exact ⟨rfl,rfl⟩)⟩
 by_cases a3 : 224 ≤ b0 ∧ b0 < 240
 ·have n1 : ¬ (b0 / 32 = 6 ∧ (1 < n ∧ b1 / 64 = 2)):=by omega
  by_cases t1 : 1 < n ∧ b1 / 64 = 2
  ·by_cases t2 : 2 < n ∧ b2 / 64 = 2
   ·have d : b0 / 16 = 14 ∧ (1 < n ∧ b1 / 64 = 2) ∧ (2 < n ∧ b2 / 64 = 2):=⟨by omega,t1,t2⟩
    have ec : b0 % 16 * 4096 + b1 % 64 * 64 + b2 % 64 = (b0 % 16 * 64 + b1 % 64) * 64 + b2 % 64:=by omega
    have e1 : oneN n b0 b1 b2 b3 = ((b0 % 16 * 64 + b1 % 64) * 64 + b2 % 64,3,decide (2048 ≤ (b0 % 16 * 64 + b1 % 64) * 64 + b2 % 64)):=by unfold oneN;rw [if_neg a1,if_neg a2,if_pos a3,if_pos t1,if_pos t2]
    obtain ⟨c,hc⟩ : ∃ c,c = (b0 % 16 * 64 + b1 % 64) * 64 + b2 % 64:=⟨_,rfl⟩
    rw [← hc] at e1 ec
    have hcl : c < 65536:=by omega
    by_cases g : c ≥ 2048 ∧ (c < 55296 ∨ (57344 ≤ c ∧ c ≤ 1114111))
    ·have e2 : decodeN n b0 b1 b2 b3 = (c,3):=by unfold decodeN;rw [if_neg a1,if_neg n1,if_pos d,ec,if_pos g]
     rw [decide_eq_true g.1] at e1
     by_cases hcc : chrP c
     ·exact .inl ⟨_,3,e1,hcc,e2,by omega⟩
     ·exact .inr ⟨.inr (by rw [e1];exact hcc),.inr (by rw [e2];exact hcc)⟩
    ·have e2 : decodeN n b0 b1 b2 b3 = (65533,1):=by unfold decodeN;rw [if_neg a1,if_neg n1,if_pos d,ec,if_neg g]
     refine .inr ⟨?_,.inl (by rw [e2];exact ⟨rfl,rfl⟩)⟩
     rw [e1]
     by_cases g2 : 2048 ≤ c
     ·right;unfold chrP;show ¬ _;omega
     ·left;exact decide_eq_false g2
   ·have e1 : oneN n b0 b1 b2 b3 = (0,0,false):=by unfold oneN;rw [if_neg a1,if_neg a2,if_pos a3,if_pos t1,if_neg t2]
    have e2 : decodeN n b0 b1 b2 b3 = (65533,1):=by
     unfold decodeN;rw [if_neg a1,if_neg n1,if_neg (fun h => t2 h.2.2),if_neg (by omega)]
    exact .inr ⟨.inl (by rw [e1]),.inl (by rw [e2];exact ⟨rfl,rfl⟩)⟩
  ·have e1 : oneN n b0 b1 b2 b3 = (0,0,false):=by unfold oneN;rw [if_neg a1,if_neg a2,if_pos a3,if_neg t1]
   have e2 : decodeN n b0 b1 b2 b3 = (65533,1):=by
    unfold decodeN;rw [if_neg a1,if_neg n1,if_neg (fun h => t1 h.2.1),if_neg (by omega)]
   exact .inr ⟨.inl (by rw [e1]),.inl (by rw [e2];exact ⟨rfl,rfl⟩)⟩
 by_cases a4 : 240 ≤ b0 ∧ b0 < 248
 ·have n1 : ¬ (b0 / 32 = 6 ∧ (1 < n ∧ b1 / 64 = 2)):=by omega
  have n2 : ¬ (b0 / 16 = 14 ∧ (1 < n ∧ b1 / 64 = 2) ∧ (2 < n ∧ b2 / 64 = 2)):=by omega
  by_cases t1 : 1 < n ∧ b1 / 64 = 2
  ·by_cases t2 : 2 < n ∧ b2 / 64 = 2
   ·by_cases t3 : 3 < n ∧ b3 / 64 = 2
    ·have d : b0 / 8 = 30 ∧ (1 < n ∧ b1 / 64 = 2) ∧ (2 < n ∧ b2 / 64 = 2) ∧ (3 < n ∧ b3 / 64 = 2):=⟨by omega,t1,t2,t3⟩
     have ec : b0 % 8 * 262144 + b1 % 64 * 4096 + b2 % 64 * 64 + b3 % 64 = ((b0 % 8 * 64 + b1 % 64) * 64 + b2 % 64) * 64 + b3 % 64:=by omega
     have e1 : oneN n b0 b1 b2 b3 = (((b0 % 8 * 64 + b1 % 64) * 64 + b2 % 64) * 64 + b3 % 64,4,decide (65536 ≤ ((b0 % 8 * 64 + b1 % 64) * 64 + b2 % 64) * 64 + b3 % 64)):=by unfold oneN;rw [if_neg a1,if_neg a2,if_neg a3,if_pos a4,if_pos t1,if_pos t2,if_pos t3]
     obtain ⟨c,hc⟩ : ∃ c,c = ((b0 % 8 * 64 + b1 % 64) * 64 + b2 % 64) * 64 + b3 % 64:=⟨_,rfl⟩
     rw [← hc] at e1 ec
     by_cases g : c ≥ 65536 ∧ (c < 55296 ∨ (57344 ≤ c ∧ c ≤ 1114111))
     ·have e2 : decodeN n b0 b1 b2 b3 = (c,4):=by unfold decodeN;rw [if_neg a1,if_neg n1,if_neg n2,if_pos d,ec,if_pos g]
      rw [decide_eq_true g.1] at e1
      by_cases hcc : chrP c
      ·exact .inl ⟨_,4,e1,hcc,e2,by omega⟩
      ·exact .inr ⟨.inr (by rw [e1];exact hcc),.inr (by rw [e2];exact hcc)⟩
     ·have e2 : decodeN n b0 b1 b2 b3 = (65533,1):=by unfold decodeN;rw [if_neg a1,if_neg n1,if_neg n2,if_pos d,ec,if_neg g]
      refine .inr ⟨?_,.inl (by rw [e2];exact ⟨rfl,rfl⟩)⟩
      rw [e1]
      by_cases g2 : 65536 ≤ c
      ·right;unfold chrP;show ¬ _;omega
      ·left;exact decide_eq_false g2
    ·have e1 : oneN n b0 b1 b2 b3 = (0,0,false):=by unfold oneN;rw [if_neg a1,if_neg a2,if_neg a3,if_pos a4,if_pos t1,if_pos t2,if_neg t3]
     have e2 : decodeN n b0 b1 b2 b3 = (65533,1):=by
      unfold decodeN;rw [if_neg a1,if_neg n1,if_neg n2,if_neg (fun h => t3 h.2.2.2)]
     exact .inr ⟨.inl (by rw [e1]),.inl (by rw [e2];exact ⟨rfl,rfl⟩)⟩
   ·have e1 : oneN n b0 b1 b2 b3 = (0,0,false):=by unfold oneN;rw [if_neg a1,if_neg a2,if_neg a3,if_pos a4,if_pos t1,if_neg t2]
    have e2 : decodeN n b0 b1 b2 b3 = (65533,1):=by
     unfold decodeN;rw [if_neg a1,if_neg n1,if_neg n2,if_neg (fun h => t2 h.2.2.1)]
    exact .inr ⟨.inl (by rw [e1]),.inl (by rw [e2];exact ⟨rfl,rfl⟩)⟩
  ·have e1 : oneN n b0 b1 b2 b3 = (0,0,false):=by unfold oneN;rw [if_neg a1,if_neg a2,if_neg a3,if_pos a4,if_neg t1]
   have e2 : decodeN n b0 b1 b2 b3 = (65533,1):=by
    unfold decodeN;rw [if_neg a1,if_neg n1,if_neg n2,if_neg (fun h => t1 h.2.1)]
   exact .inr ⟨.inl (by rw [e1]),.inl (by rw [e2];exact ⟨rfl,rfl⟩)⟩
 ·have e1 : oneN n b0 b1 b2 b3 = (0,0,false):=by unfold oneN;rw [if_neg a1,if_neg a2,if_neg a3,if_neg a4]
  have e2 : decodeN n b0 b1 b2 b3 = (65533,1):=by
   unfold decodeN;rw [if_neg a1,if_neg (by omega),if_neg (by omega),if_neg (by omega)]
  exact .inr ⟨.inl (by rw [e1]),.inl (by rw [e2];exact ⟨rfl,rfl⟩)⟩

/-- the document's decoder at the head of a list of bytes -/
def oneL (l : List UInt8) : Nat × Nat × Bool:=oneN l.length (l.getD 0 0).toNat (l.getD 1 0).toNat (l.getD 2 0).toNat (l.getD 3 0).toNat
/-- is it a text, as the document says: as many steps as there is fuel -/
def ztxtF : Nat → List UInt8 → Bool
 | 0,l => l.isEmpty
 | f + 1,l => if l = [] then true else if (oneL l).2.2 = true ∧ chrP (oneL l).1 then ztxtF f (l.drop (oneL l).2.1) else false
def ztxt (l : List UInt8) : Bool:=ztxtF l.length l
theorem oneN_pos {n b0 b1 b2 b3 : Nat} (h : (oneN n b0 b1 b2 b3).2.2 = true) : 1 ≤ (oneN n b0 b1 b2 b3).2.1:=by
 unfold oneN at h ⊢
 repeat' split
 all_goals first | (simp only [];omega) | (exfalso;simp_all)
/-- the program's way: valid, and no character that is none of a text's -/
theorem txt_go (s : ByteArray) (f : Nat) : ∀ pos,s.size ≤ pos + f →
  ((validGoD f (s.data.toList.drop pos) = true ∧ idxFuncFrom (fun r => !chr r) true s f pos = -1) ↔ ztxtF f (s.data.toList.drop pos) = true):=by
 have hsz : s.size = s.data.toList.length:=size_eq s
 induction f with
 | zero =>
  intro pos h
  have : s.data.toList.drop pos = []:=List.drop_eq_nil_of_le (by omega)
  rw [this]
  exact ⟨fun _ => rfl,fun _ => ⟨rfl,rfl⟩⟩
 | succ f ih =>
  intro pos h
  show ((if s.data.toList.drop pos = [] then true else if (decodeL (s.data.toList.drop pos)).1 = 65533 ∧ (decodeL (s.data.toList.drop pos)).2 = 1 then false else validGoD f ((s.data.toList.drop pos).drop (decodeL (s.data.toList.drop pos)).2)) = true ∧
   (if pos < s.size then (if (!chr (Utf8.decode s pos).1) = true then (pos : Int) else idxFuncFrom (fun r => !chr r) true s f (pos + (Utf8.decode s pos).2)) else -1) = -1) ↔
   (if s.data.toList.drop pos = [] then true else if (oneL (s.data.toList.drop pos)).2.2 = true ∧ chrP (oneL (s.data.toList.drop pos)).1 then ztxtF f ((s.data.toList.drop pos).drop (oneL (s.data.toList.drop pos)).2.1) else false) = true
  by_cases hp : pos < s.size
  ·have hne : ¬ s.data.toList.drop pos = []:=fun e => by
    have:=congrArg List.length e
    rw [List.length_drop,List.length_nil] at this
    omega
   rw [if_neg hne,if_neg hne,if_pos hp,← decodeL_drop]
   obtain ⟨l,hl⟩ : ∃ l,l = s.data.toList.drop pos:=⟨_,rfl⟩
   rw [← hl]
   have hd:=decodeL_N l
   rcases one_dec (n:=l.length) (b1:=(l.getD 1 0).toNat) (b2:=(l.getD 2 0).toNat) (b3:=(l.getD 3 0).toNat) (UInt8.toNat_lt (l.getD 0 0)) with ⟨c,m,e1,e2,e3,e4⟩ | ⟨h1,h2⟩
   ·rw [e3] at hd
    have e1' : oneL l = (c,m,true):=e1
    have hm:=oneN_pos (n:=l.length) (b0:=(l.getD 0 0).toNat) (b1:=(l.getD 1 0).toNat) (b2:=(l.getD 2 0).toNat) (b3:=(l.getD 3 0).toNat) (by rw [e1])
    rw [e1] at hm
    rw [hd,e1',if_neg e4,if_neg (by unfold chr;rw [decide_eq_true e2];decide),if_pos ⟨rfl,e2⟩]
    have:=ih (pos + m) (by have : 1 ≤ m:=hm;omega)
    rw [hl,List.drop_drop]
    exact this
   ·have hd2 : ¬ ((oneL l).2.2 = true ∧ chrP (oneL l).1):=by
     rintro ⟨a,b⟩
     rcases h1 with h1 | h1
     ·have : (oneL l).2.2 = false:=h1
      rw [this] at a;cases a
     ·exact h1 b
    rw [if_neg hd2]
    rw [← hd] at h2
    constructor
    ·rintro ⟨g1,g2⟩
     exfalso
     rcases h2 with h2 | h2
     ·rw [if_pos h2] at g1;cases g1
     ·rw [if_pos (by unfold chr;rw [decide_eq_false h2];rfl)] at g2
      omega
    ·intro g;cases g
  ·have he : s.data.toList.drop pos = []:=List.drop_eq_nil_of_le (by omega)
   rw [if_pos he,if_pos he,if_neg hp]
   exact ⟨fun _ => rfl,fun _ => ⟨rfl,rfl⟩⟩
theorem ztxt_is (s : ByteArray) : (validD s.data.toList && decide (idxFunc (fun r => !chr r) true s < 0)) = ztxt s.data.toList:=by
 have h:=txt_go s s.size 0 (by omega)
 have hr:=idxFunc_range (fun r => !chr r) true s
 have hsz : s.size = s.data.toList.length:=size_eq s
 rw [List.drop_zero] at h
 rw [Bool.eq_iff_iff,Bool.and_eq_true,decide_eq_true_eq]
 unfold validD ztxt
 rw [← hsz]
 refine Iff.trans ⟨fun ⟨a,b⟩ => ⟨a, ?_⟩,fun ⟨a,b⟩ => ⟨a, ?_⟩⟩ h
 ·have : idxFunc (fun r => !chr r) true s = idxFuncFrom (fun r => !chr r) true s s.size 0:=rfl
  omega
 ·have : idxFunc (fun r => !chr r) true s = idxFuncFrom (fun r => !chr r) true s s.size 0:=rfl
  omega
end Go.Proofs.YtbnadlpkbbdgjaaGreatDoor



namespace Go.Proofs.YtbnadlpkbbdgjaaGreatDoor
open Go.RowKit

set_option maxHeartbeats 1000000 in
theorem char_any (r : Nat) (w : World) : Calls Tryz.prog 127 #[.int .i32 r] w fun e w' => e = .returned (.bool (chr r)) ∧ w = w':=by
 obtain ⟨z,hz⟩ : ∃ z,z = chr r:=⟨_,rfl⟩
 have hc : z = true ↔ chrP r:=by rw [hz];exact decide_eq_true_iff
 rw [← hz]
 have HC:=Far.mk hc
 clear hz hc
 go_enter Tryz.func127,Tryz.ntmps127
 go_wp2
 all_goals go_ret
 all_goals refine ⟨ret_bool ?_,rfl⟩
 all_goals rw [Bool.eq_iff_iff,HC.out]
 all_goals clear HC
 all_goals simp [chrP]
 all_goals (first | done | omega | (simp_all;done) | (simp_all;omega))
theorem closure_chr (w : World) : Go.Proofs.PredAt Tryz.prog 126 #[] Go.Proofs.encR (fun r => !chr r) w:=by
 intro W r hb
 have HK:=Lib.hid (char_any r W)
 show Calls Tryz.prog 126 #[.int .i32 r] W fun e w' => e = .returned (.bool (!chr r)) ∧ ∃ q,w' = W.drewN q
 generalize chr r = z at *
 go_enter Tryz.func126,Tryz.ntmps126
 go_wp2_with fail
 refine HK.out.mono ?_
 rintro _ _ ⟨rfl,rfl⟩
 go_wp2_with fail
 go_ret
 exact ⟨rfl,0,rfl⟩
/-- the keywords -/
def words : List (List UInt8):=[[97,110,100],[98,101,116,119,101,101,110],[101,108,115,101],[102,97,108,115,101],[105,102],[105,110],[110,111,116],[110,117,108,108],[111,114],[116,104,101,110],[116,114,117,101]]
set_option maxHeartbeats 1000000 in
theorem word_any (l : List UInt8) (w : World) : Calls Tryz.prog 163 #[.string ⟨l.toArray⟩] w fun e w' => e = .returned (.bool (words.contains l)) ∧ w = w':=by
 obtain ⟨z,hz⟩ : ∃ z,z = words.contains l:=⟨_,rfl⟩
 rw [← hz]
 have HZ:=Far.mk hz
 clear hz
 go_enter Tryz.func163,Tryz.ntmps163
 go_wp2
 all_goals go_ret
 all_goals refine ⟨ret_bool ?_,rfl⟩
 all_goals rw [HZ.out]
 all_goals clear HZ
 all_goals simp_all [words,List.contains_cons]
/-- a letter of a name -/
def ltr (c : UInt8) : Bool:=decide (97 ≤ c.toNat ∧ c.toNat ≤ 122 ∨ 65 ≤ c.toNat ∧ c.toNat ≤ 90 ∨ c.toNat = 95)
def dgt (c : UInt8) : Bool:=decide (48 ≤ c.toNat ∧ c.toNat ≤ 57)
/-- is it a name? -/
def nam (l : List UInt8) : Bool:=!l.isEmpty && decide (l.length ≤ 64) && !words.contains l && ltr (l.getD 0 0) && l.all fun c => ltr c || dgt c
theorem name_bad {l : List UInt8} (h : l = [] ∨ 64 < l.length ∨ words.contains l = true) : nam l = false:=by
 unfold nam
 rcases h with h | h | h
 ·subst h;rfl
 ·rw [decide_eq_false (by omega)];simp
 ·rw [h];simp
theorem name_at {l : List UInt8} {k : Nat} (hk : k < l.length) (h1 : ltr (l.getD k 0) = false) (h2 : k = 0 ∨ dgt (l.getD k 0) = false) : nam l = false:=by
 rw [Bool.eq_false_iff]
 intro hn
 unfold nam at hn
 simp only [Bool.and_eq_true] at hn
 rcases h2 with rfl | h2
 ·rw [h1] at hn;cases hn.1.2
 ·have:=List.all_eq_true.1 hn.2 (l.getD k 0) (by rw [List.getD_eq_getElem?_getD,List.getElem?_eq_getElem hk];exact List.getElem_mem _)
  rw [h1,h2] at this;cases this
theorem name_ok {l : List UInt8} (h1 : l ≠ []) (h2 : l.length ≤ 64) (h3 : words.contains l = false) (h : ∀ k,k < l.length → ltr (l.getD k 0) = true ∨ (k ≠ 0 ∧ dgt (l.getD k 0) = true)) : nam l = true:=by
 have hp : 0 < l.length:=List.length_pos_iff.2 h1
 have h0 : ltr (l.getD 0 0) = true:=by
  rcases h 0 hp with h | h
  ·exact h
  ·exact absurd rfl h.1
 unfold nam
 simp only [Bool.and_eq_true]
 refine ⟨⟨⟨⟨by simpa using h1,decide_eq_true h2⟩,by rw [h3];rfl⟩,h0⟩, ?_⟩
 rw [List.all_eq_true]
 intro c hc
 obtain ⟨k,hk,rfl⟩:=List.mem_iff_getElem.1 hc
 have:=h k hk
 rw [List.getD_eq_getElem?_getD,List.getElem?_eq_getElem hk] at this
 rw [Bool.or_eq_true]
 rcases this with h | h
 ·exact .inl h
 ·exact .inr h.2
set_option maxHeartbeats 1000000 in
theorem name_any (l : List UInt8) (hl : l.length ≤ 9223372036854775807) (w : World) : Calls Tryz.prog 128 #[.string ⟨l.toArray⟩] w fun e w' => e = .returned (.bool (nam l)) ∧ w = w':=by
 have HW:=Lib.hid (word_any l w)
 by_cases h1 : l = []
 ·have HE:=Lib.hid (name_bad (.inl h1))
  subst h1
  clear hl HW
  go_enter Tryz.func128,Tryz.ntmps128
  go_wp2_with fail
  go_ret
  exact ⟨rfl,rfl⟩
 by_cases h2 : 64 < l.length
 ·have HE:=Lib.hid (name_bad (.inr (.inl h2)))
  have e1 : l.isEmpty = false:=by simpa using h1
  have h2' : 64 < (l.length : Int):=by omega
  clear HW h2
  go_enter Tryz.func128,Tryz.ntmps128
  go_wp2_with fail
  go_ret
  exact ⟨ret_bool HE.out.symm,rfl⟩
 have e1 : l.isEmpty = false:=by simpa using h1
 have h2' : ¬ 64 < (l.length : Int):=by omega
 obtain ⟨z,hz⟩ : ∃ z,z = words.contains l:=⟨_,rfl⟩
 rw [← hz] at HW
 cases z with
 | true =>
  have HE:=Lib.hid (name_bad (.inr (.inr hz.symm)))
  clear hz h2
  go_enter Tryz.func128,Tryz.ntmps128
  go_wp2_with fail
  refine HW.out.mono ?_
  rintro _ _ ⟨rfl,rfl⟩
  go_wp2_with fail
  go_ret
  exact ⟨ret_bool HE.out.symm,rfl⟩
 | false =>
  have HZ:=Lib.hid hz.symm
  have H1:=Lib.hid h1
  have H2:=Lib.hid h2
  clear hz h2
  go_enter Tryz.func128,Tryz.ntmps128
  go_wp2_with fail
  refine HW.out.mono ?_
  rintro _ _ ⟨rfl,rfl⟩
  go_wp2_with fail
  go_loopg [19] l.length (fun k i wr => ∃ t : Nat,k + t = l.length ∧ i = .int .i64 t ∧ Hid (∀ k,k < t → ltr (l.getD k 0) = true ∨ (k ≠ 0 ∧ dgt (l.getD k 0) = true)) ∧ w = wr)
  case atStart => exact ⟨0,by omega,rfl,Lib.hid (fun k hk => absurd hk (Nat.not_lt_zero _)),rfl⟩
  case round =>
   obtain ⟨t,hk,rfl,HA,rfl⟩:=hrel
   have HK:=Lib.hid hk
   have htn : t ≤ l.length:=by omega
   clear hk
   by_cases hlt : t < l.length
   ·have hs : t < (⟨l.toArray⟩ : ByteArray).size:=by show t < l.toArray.size;simpa using hlt
    have hc : (⟨l.toArray⟩ : ByteArray)[t] = l.getD t 0:=by
     rw [List.getD_eq_getElem?_getD,List.getElem?_eq_getElem hlt];rfl
    have hu:=UInt8.toNat_lt (l.getD t 0)
    have hcase : (97 ≤ (l.getD t 0).toNat ∧ (l.getD t 0).toNat ≤ 122) ∨ (65 ≤ (l.getD t 0).toNat ∧ (l.getD t 0).toNat ≤ 90) ∨ (95 ≤ (l.getD t 0).toNat ∧ (l.getD t 0).toNat ≤ 95) ∨ (0 ≤ (l.getD t 0).toNat ∧ (l.getD t 0).toNat ≤ 47) ∨ (48 ≤ (l.getD t 0).toNat ∧ (l.getD t 0).toNat ≤ 57) ∨ (58 ≤ (l.getD t 0).toNat ∧ (l.getD t 0).toNat ≤ 64) ∨ (91 ≤ (l.getD t 0).toNat ∧ (l.getD t 0).toNat ≤ 94) ∨ (96 ≤ (l.getD t 0).toNat ∧ (l.getD t 0).toNat ≤ 96) ∨ (123 ≤ (l.getD t 0).toNat ∧ (l.getD t 0).toNat ≤ 255):=by omega
    rcases hcase with hcase | hcase | hcase | hcase | hcase | hcase | hcase | hcase | hcase
    ·obtain ⟨h1c,h2c⟩:=hcase
     have HY : Hid (ltr (l.getD t 0) = true ∨ (t ≠ 0 ∧ dgt (l.getD t 0) = true)):=Lib.hid (.inl (by unfold ltr;exact decide_eq_true (by omega)))
     have d1 : (97 : Int) ≤ ((⟨l.toArray⟩ : ByteArray)[t].toNat : Int):=by rw [hc];have:=h1c;omega
     have d2 : ((⟨l.toArray⟩ : ByteArray)[t].toNat : Int) ≤ (122 : Int):=by rw [hc];have:=h2c;omega
     have d3 : (((⟨l.toArray⟩ : ByteArray)[t].toNat : Int) == 95) = false:=by rw [hc];first | (rw [beq_eq_false_iff_ne];omega) | (rw [beq_iff_eq];omega)
     clear h1c h2c hc
     go_wp2_with fail
     go_roundg (gk - 1)
     case measure => have:=HK.out;omega
     case rel =>
      refine ⟨t + 1,by have:=HK.out;omega,by go_num,Lib.hid fun k hk => ?_,rfl⟩
      by_cases e : k = t
      ·subst e;exact HY.out
      ·exact HA.out k (by omega)
    ·obtain ⟨h1c,h2c⟩:=hcase
     have HY : Hid (ltr (l.getD t 0) = true ∨ (t ≠ 0 ∧ dgt (l.getD t 0) = true)):=Lib.hid (.inl (by unfold ltr;exact decide_eq_true (by omega)))
     have d1 : (65 : Int) ≤ ((⟨l.toArray⟩ : ByteArray)[t].toNat : Int):=by rw [hc];have:=h1c;omega
     have d2 : ((⟨l.toArray⟩ : ByteArray)[t].toNat : Int) ≤ (90 : Int):=by rw [hc];have:=h2c;omega
     have d3 : (((⟨l.toArray⟩ : ByteArray)[t].toNat : Int) == 95) = false:=by rw [hc];first | (rw [beq_eq_false_iff_ne];omega) | (rw [beq_iff_eq];omega)
     clear h1c h2c hc
     go_wp2_with fail
     go_roundg (gk - 1)
     case measure => have:=HK.out;omega
     case rel =>
      refine ⟨t + 1,by have:=HK.out;omega,by go_num,Lib.hid fun k hk => ?_,rfl⟩
      by_cases e : k = t
      ·subst e;exact HY.out
      ·exact HA.out k (by omega)
    ·obtain ⟨h1c,h2c⟩:=hcase
     have HY : Hid (ltr (l.getD t 0) = true ∨ (t ≠ 0 ∧ dgt (l.getD t 0) = true)):=Lib.hid (.inl (by unfold ltr;exact decide_eq_true (by omega)))
     have d1 : (95 : Int) ≤ ((⟨l.toArray⟩ : ByteArray)[t].toNat : Int):=by rw [hc];have:=h1c;omega
     have d2 : ((⟨l.toArray⟩ : ByteArray)[t].toNat : Int) ≤ (95 : Int):=by rw [hc];have:=h2c;omega
     have d3 : (((⟨l.toArray⟩ : ByteArray)[t].toNat : Int) == 95) = true:=by rw [hc];first | (rw [beq_eq_false_iff_ne];omega) | (rw [beq_iff_eq];omega)
     clear h1c h2c hc
     go_wp2_with fail
     go_roundg (gk - 1)
     case measure => have:=HK.out;omega
     case rel =>
      refine ⟨t + 1,by have:=HK.out;omega,by go_num,Lib.hid fun k hk => ?_,rfl⟩
      by_cases e : k = t
      ·subst e;exact HY.out
      ·exact HA.out k (by omega)
    ·obtain ⟨h1c,h2c⟩:=hcase
     have HE:=Lib.hid (name_at hlt (by unfold ltr;exact decide_eq_false (by omega)) (.inr (by unfold dgt;exact decide_eq_false (by omega))))
     have d1 : (0 : Int) ≤ ((⟨l.toArray⟩ : ByteArray)[t].toNat : Int):=by rw [hc];have:=h1c;omega
     have d2 : ((⟨l.toArray⟩ : ByteArray)[t].toNat : Int) ≤ (47 : Int):=by rw [hc];have:=h2c;omega
     have d3 : (((⟨l.toArray⟩ : ByteArray)[t].toNat : Int) == 95) = false:=by rw [hc];first | (rw [beq_eq_false_iff_ne];omega) | (rw [beq_iff_eq];omega)
     clear h1c h2c hc
     have tz : (t : Int) = 0 ∨ ¬ (t : Int) = 0:=by omega
     rcases tz with tz | tz
     ·obtain rfl : t = 0:=by omega
      clear tz
      go_wp2_with fail
      go_ret
      exact ⟨ret_bool HE.out.symm,rfl⟩
     ·have tz' : ((t : Int) == 0) = false:=by simpa using tz
      go_wp2_with fail
      go_ret
      exact ⟨ret_bool HE.out.symm,rfl⟩
    ·obtain ⟨h1c,h2c⟩:=hcase
     by_cases tz : t = 0
     ·have HE:=Lib.hid (name_at hlt (by unfold ltr;exact decide_eq_false (by omega)) (.inl tz))
      have d1 : (48 : Int) ≤ ((⟨l.toArray⟩ : ByteArray)[t].toNat : Int):=by rw [hc];have:=h1c;omega
      have d2 : ((⟨l.toArray⟩ : ByteArray)[t].toNat : Int) ≤ (57 : Int):=by rw [hc];have:=h2c;omega
      have d3 : (((⟨l.toArray⟩ : ByteArray)[t].toNat : Int) == 95) = false:=by rw [hc];first | (rw [beq_eq_false_iff_ne];omega) | (rw [beq_iff_eq];omega)
      clear h1c h2c hc
      subst tz
      go_wp2_with fail
      go_ret
      exact ⟨ret_bool HE.out.symm,rfl⟩
     ·have HY : Hid (ltr (l.getD t 0) = true ∨ (t ≠ 0 ∧ dgt (l.getD t 0) = true)):=Lib.hid (.inr ⟨tz,by unfold dgt;exact decide_eq_true (by omega)⟩)
      have d1 : (48 : Int) ≤ ((⟨l.toArray⟩ : ByteArray)[t].toNat : Int):=by rw [hc];have:=h1c;omega
      have d2 : ((⟨l.toArray⟩ : ByteArray)[t].toNat : Int) ≤ (57 : Int):=by rw [hc];have:=h2c;omega
      have d3 : (((⟨l.toArray⟩ : ByteArray)[t].toNat : Int) == 95) = false:=by rw [hc];first | (rw [beq_eq_false_iff_ne];omega) | (rw [beq_iff_eq];omega)
      clear h1c h2c hc
      have tz' : ((t : Int) == 0) = false:=by simpa using tz
      go_wp2_with fail
      go_roundg (gk - 1)
      case measure => have:=HK.out;omega
      case rel =>
       refine ⟨t + 1,by have:=HK.out;omega,by go_num,Lib.hid fun k hk => ?_,rfl⟩
       by_cases e : k = t
       ·subst e;exact HY.out
       ·exact HA.out k (by omega)
    ·obtain ⟨h1c,h2c⟩:=hcase
     have HE:=Lib.hid (name_at hlt (by unfold ltr;exact decide_eq_false (by omega)) (.inr (by unfold dgt;exact decide_eq_false (by omega))))
     have d1 : (58 : Int) ≤ ((⟨l.toArray⟩ : ByteArray)[t].toNat : Int):=by rw [hc];have:=h1c;omega
     have d2 : ((⟨l.toArray⟩ : ByteArray)[t].toNat : Int) ≤ (64 : Int):=by rw [hc];have:=h2c;omega
     have d3 : (((⟨l.toArray⟩ : ByteArray)[t].toNat : Int) == 95) = false:=by rw [hc];first | (rw [beq_eq_false_iff_ne];omega) | (rw [beq_iff_eq];omega)
     clear h1c h2c hc
     have tz : (t : Int) = 0 ∨ ¬ (t : Int) = 0:=by omega
     rcases tz with tz | tz
     ·obtain rfl : t = 0:=by omega
      clear tz
      go_wp2_with fail
      go_ret
      exact ⟨ret_bool HE.out.symm,rfl⟩
     ·have tz' : ((t : Int) == 0) = false:=by simpa using tz
      go_wp2_with fail
      go_ret
      exact ⟨ret_bool HE.out.symm,rfl⟩
    ·obtain ⟨h1c,h2c⟩:=hcase
     have HE:=Lib.hid (name_at hlt (by unfold ltr;exact decide_eq_false (by omega)) (.inr (by unfold dgt;exact decide_eq_false (by omega))))
     have d1 : (91 : Int) ≤ ((⟨l.toArray⟩ : ByteArray)[t].toNat : Int):=by rw [hc];have:=h1c;omega
     have d2 : ((⟨l.toArray⟩ : ByteArray)[t].toNat : Int) ≤ (94 : Int):=by rw [hc];have:=h2c;omega
     have d3 : (((⟨l.toArray⟩ : ByteArray)[t].toNat : Int) == 95) = false:=by rw [hc];first | (rw [beq_eq_false_iff_ne];omega) | (rw [beq_iff_eq];omega)
     clear h1c h2c hc
     have d4 : decide (((⟨l.toArray⟩ : ByteArray)[t].toNat : Int) ≤ 90) = false:=decide_eq_false (by omega)
     have tz : (t : Int) = 0 ∨ ¬ (t : Int) = 0:=by omega
     rcases tz with tz | tz
     ·obtain rfl : t = 0:=by omega
      clear tz
      go_wp2_with fail
      go_ret
      exact ⟨ret_bool HE.out.symm,rfl⟩
     ·have tz' : ((t : Int) == 0) = false:=by simpa using tz
      go_wp2_with fail
      go_ret
      exact ⟨ret_bool HE.out.symm,rfl⟩
    ·obtain ⟨h1c,h2c⟩:=hcase
     have HE:=Lib.hid (name_at hlt (by unfold ltr;exact decide_eq_false (by omega)) (.inr (by unfold dgt;exact decide_eq_false (by omega))))
     have d1 : (96 : Int) ≤ ((⟨l.toArray⟩ : ByteArray)[t].toNat : Int):=by rw [hc];have:=h1c;omega
     have d2 : ((⟨l.toArray⟩ : ByteArray)[t].toNat : Int) ≤ (96 : Int):=by rw [hc];have:=h2c;omega
     have d3 : (((⟨l.toArray⟩ : ByteArray)[t].toNat : Int) == 95) = false:=by rw [hc];first | (rw [beq_eq_false_iff_ne];omega) | (rw [beq_iff_eq];omega)
     clear h1c h2c hc
     have d4 : decide (((⟨l.toArray⟩ : ByteArray)[t].toNat : Int) ≤ 90) = false:=decide_eq_false (by omega)
     have tz : (t : Int) = 0 ∨ ¬ (t : Int) = 0:=by omega
     rcases tz with tz | tz
     ·obtain rfl : t = 0:=by omega
      clear tz
      go_wp2_with fail
      go_ret
      exact ⟨ret_bool HE.out.symm,rfl⟩
     ·have tz' : ((t : Int) == 0) = false:=by simpa using tz
      go_wp2_with fail
      go_ret
      exact ⟨ret_bool HE.out.symm,rfl⟩
    ·obtain ⟨h1c,h2c⟩:=hcase
     have HE:=Lib.hid (name_at hlt (by unfold ltr;exact decide_eq_false (by omega)) (.inr (by unfold dgt;exact decide_eq_false (by omega))))
     have d1 : (123 : Int) ≤ ((⟨l.toArray⟩ : ByteArray)[t].toNat : Int):=by rw [hc];have:=h1c;omega
     have d2 : ((⟨l.toArray⟩ : ByteArray)[t].toNat : Int) ≤ (255 : Int):=by rw [hc];have:=h2c;omega
     have d3 : (((⟨l.toArray⟩ : ByteArray)[t].toNat : Int) == 95) = false:=by rw [hc];first | (rw [beq_eq_false_iff_ne];omega) | (rw [beq_iff_eq];omega)
     clear h1c h2c hc
     have d4 : decide (((⟨l.toArray⟩ : ByteArray)[t].toNat : Int) ≤ 90) = false:=decide_eq_false (by omega)
     have d5 : decide (((⟨l.toArray⟩ : ByteArray)[t].toNat : Int) ≤ 122) = false:=decide_eq_false (by omega)
     have tz : (t : Int) = 0 ∨ ¬ (t : Int) = 0:=by omega
     rcases tz with tz | tz
     ·obtain rfl : t = 0:=by omega
      clear tz
      go_wp2_with fail
      go_ret
      exact ⟨ret_bool HE.out.symm,rfl⟩
     ·have tz' : ((t : Int) == 0) = false:=by simpa using tz
      go_wp2_with fail
      go_ret
      exact ⟨ret_bool HE.out.symm,rfl⟩
   ·have HE:=Lib.hid (name_ok H1.out (by have:=H2.out;omega) HZ.out (fun k hk => HA.out k (by omega)))
    go_wp2_with fail
    go_ret
    exact ⟨ret_bool HE.out.symm,rfl⟩
end Go.Proofs.YtbnadlpkbbdgjaaGreatDoor



namespace Go.Proofs.YtbnadlpkbbdgjaaGreatDoor
open Go.RowKit

def lcells (m : Nat) : List Value:=(List.range 4).map fun j => .int .u64 (wd m j)
theorem lcells_eq (m : Nat) : lcells m = [.int .u64 (wd m 0),.int .u64 (wd m 1),.int .u64 (wd m 2),.int .u64 (wd m 3)]:=rfl
theorem lcells_at (m j : Nat) (hj : j < 4) : (lcells m)[j]? = some (.int .u64 (wd m j)):=by
 unfold lcells
 rw [List.getElem?_map,List.getElem?_range hj];rfl
theorem lcells_set (V j : Nat) (hj : j < 4) (hV : V < 2 ^ 256) (v : Int) (h0 : 0 ≤ v) (h1 : v < 18446744073709551616) :
  ∃ V' : Nat,V' < 2 ^ 256 ∧ (V' : Int) = V + (v - wd V j) * ((2 ^ (64 * j) : Nat) : Int) ∧ (lcells V).set j (.int .u64 v) = lcells V' ∧ (∀ i,i < 4 → i ≠ j → wd V' i = wd V i) ∧ wd V' j = v:=by
 have hf:=wd_four hV
 have a0:=wd_nn V 0
 have a1:=wd_lt V 0
 have b0:=wd_nn V 1
 have b1:=wd_lt V 1
 have c0:=wd_nn V 2
 have c1:=wd_lt V 2
 have d0:=wd_nn V 3
 have d1:=wd_lt V 3
 have key : ∀ (x0 x1 x2 x3 : Int),0 ≤ x0 → x0 < 18446744073709551616 → 0 ≤ x1 → x1 < 18446744073709551616 → 0 ≤ x2 → x2 < 18446744073709551616 → 0 ≤ x3 → x3 < 18446744073709551616 →
   ∃ V' : Nat,V' < 2 ^ 256 ∧ (V' : Int) = x3 * 6277101735386680763835789423207666416102355444464034512896 + x2 * 340282366920938463463374607431768211456 + x1 * 18446744073709551616 + x0 ∧ x0 = wd V' 0 ∧ x1 = wd V' 1 ∧ x2 = wd V' 2 ∧ x3 = wd V' 3:=by
  intro x0 x1 x2 x3 e0 e1 e2 e3 e4 e5 e6 e7
  refine ⟨(x3 * 6277101735386680763835789423207666416102355444464034512896 + x2 * 340282366920938463463374607431768211456 + x1 * 18446744073709551616 + x0).toNat,by omega,by omega, ?_⟩
  exact wd_of4 _ x0 x1 x2 x3 e0 e1 e2 e3 e4 e5 e6 e7 (by omega)
 have hc : j = 0 ∨ j = 1 ∨ j = 2 ∨ j = 3:=by omega
 rcases hc with rfl | rfl | rfl | rfl
 ·obtain ⟨V',g1,g2,e0,e1,e2,e3⟩:=key v (wd V 1) (wd V 2) (wd V 3) h0 h1 b0 b1 c0 c1 d0 d1
  refine ⟨V',g1, ?_, ?_, ?_,e0.symm⟩
  ·rw [g2];omega
  ·rw [lcells_eq,lcells_eq,← e0,← e1,← e2,← e3];rfl
  ·intro i hi hne
   have hc : i = 1 ∨ i = 2 ∨ i = 3:=by omega
   rcases hc with rfl | rfl | rfl
   ·exact e1.symm
   ·exact e2.symm
   ·exact e3.symm
 ·obtain ⟨V',g1,g2,e0,e1,e2,e3⟩:=key (wd V 0) v (wd V 2) (wd V 3) a0 a1 h0 h1 c0 c1 d0 d1
  refine ⟨V',g1, ?_, ?_, ?_,e1.symm⟩
  ·rw [g2];omega
  ·rw [lcells_eq,lcells_eq,← e0,← e1,← e2,← e3];rfl
  ·intro i hi hne
   have hc : i = 0 ∨ i = 2 ∨ i = 3:=by omega
   rcases hc with rfl | rfl | rfl
   ·exact e0.symm
   ·exact e2.symm
   ·exact e3.symm
 ·obtain ⟨V',g1,g2,e0,e1,e2,e3⟩:=key (wd V 0) (wd V 1) v (wd V 3) a0 a1 b0 b1 h0 h1 d0 d1
  refine ⟨V',g1, ?_, ?_, ?_,e2.symm⟩
  ·rw [g2];omega
  ·rw [lcells_eq,lcells_eq,← e0,← e1,← e2,← e3];rfl
  ·intro i hi hne
   have hc : i = 0 ∨ i = 1 ∨ i = 3:=by omega
   rcases hc with rfl | rfl | rfl
   ·exact e0.symm
   ·exact e1.symm
   ·exact e3.symm
 ·obtain ⟨V',g1,g2,e0,e1,e2,e3⟩:=key (wd V 0) (wd V 1) (wd V 2) v a0 a1 b0 b1 c0 c1 h0 h1
  refine ⟨V',g1, ?_, ?_, ?_,e3.symm⟩
  ·rw [g2];omega
  ·rw [lcells_eq,lcells_eq,← e0,← e1,← e2,← e3];rfl
  ·intro i hi hne
   have hc : i = 0 ∨ i = 1 ∨ i = 2:=by omega
   rcases hc with rfl | rfl | rfl
   ·exact e0.symm
   ·exact e1.symm
   ·exact e2.symm
theorem wd_past {V k j : Nat} (h : V < 2 ^ (64 * k)) (hj : k ≤ j) : wd V j = 0:=by
 unfold wd
 rw [Nat.div_eq_of_lt (Nat.lt_of_lt_of_le h (Nat.pow_le_pow_right (by decide) (by omega)))];rfl
/-- one word more of a number from below -/
theorem wd_mod_succ (n t : Nat) : ((n % 2 ^ (64 * (t + 1)) : Nat) : Int) = ((n % 2 ^ (64 * t) : Nat) : Int) + wd n t * ((2 ^ (64 * t) : Nat) : Int):=by
 unfold wd
 rw [show 64 * (t + 1) = 64 * t + 64 by omega,Nat.pow_add,Nat.mod_mul,Int.natCast_add,Int.natCast_mul,Int.mul_comm]
end Go.Proofs.YtbnadlpkbbdgjaaGreatDoor



namespace Go.Proofs.YtbnadlpkbbdgjaaGreatDoor
open Go.RowKit
theorem eq_wide (a b c d : Int) (W : World) : (binOp .eql 25 (.agg #[.int .u64 a,.int .u64 b]) (.agg #[.int .u64 c,.int .u64 d])).run Tryz.prog W = .ok (.bool ((a == c) && (b == d))) W:=by
 go_simp
 by_cases h0 : a = c <;> by_cases h1 : b = d <;> simp [h0,h1]
end Go.Proofs.YtbnadlpkbbdgjaaGreatDoor



namespace Go.Proofs.YtbnadlpkbbdgjaaGreatDoor

def dval : List Int → Int
 | [] => 0
 | d :: r => d + 10 * dval r
def Digs (l : List Int) : Prop:=∀ d ∈ l,0 ≤ d ∧ d ≤ 9
def Top (l : List Int) : Prop:=l.getLast? ≠ some 0
/-- l is the list of the digits of n, the least first, without noughts at the top. -/
def IsDg (l : List Int) (n : Nat) : Prop:=Digs l ∧ Top l ∧ dval l = (n : Int)

theorem Digs.nil : Digs []:=by intro d h;cases h
theorem Digs.snoc {a : List Int} {x : Int} (h : Digs a) (h0 : 0 ≤ x) (h1 : x ≤ 9) : Digs (a ++ [x]):=by
 intro d hd
 rcases List.mem_append.1 hd with hd | hd
 ·exact h d hd
 ·rw [List.mem_singleton.1 hd];exact ⟨h0,h1⟩
theorem Digs.take {a : List Int} (h : Digs a) (k : Nat) : Digs (a.take k):=fun d hd => h d (List.mem_of_mem_take hd)
theorem Digs.drop {a : List Int} (h : Digs a) (k : Nat) : Digs (a.drop k):=fun d hd => h d (List.mem_of_mem_drop hd)
theorem Digs.append {a b : List Int} (h : Digs a) (h' : Digs b) : Digs (a ++ b):=by
 intro d hd
 rcases List.mem_append.1 hd with hd | hd
 ·exact h d hd
 ·exact h' d hd
theorem IsDg.nil : IsDg [] 0:=⟨Digs.nil,by simp [Top],rfl⟩
theorem Digs.set_ {l : List Int} (h : Digs l) (k : Nat) {x : Int} (h0 : 0 ≤ x) (h1 : x ≤ 9) : Digs (l.set k x):=by
 intro d hd
 rcases List.mem_or_eq_of_mem_set hd with hd | rfl
 ·exact h d hd
 ·exact ⟨h0,h1⟩
end Go.Proofs.YtbnadlpkbbdgjaaGreatDoor



namespace Go.Proofs.YtbnadlpkbbdgjaaGreatDoor

def tch (N k : Nat) : Nat:=48 + N / 10 ^ k % 10
def txl (N L : Nat) : List UInt8:=(List.range L).map fun i => UInt8.ofNat (tch N (L - 1 - i))
def txt (N L : Nat) : ByteArray:=⟨(txl N L).toArray⟩
/-- L is how many digits N has, one at least -/
def IsNd (N L : Nat) : Prop:=1 ≤ L ∧ N < 10 ^ L ∧ (L = 1 ∨ 10 ^ (L - 1) ≤ N)
theorem pow_lt10 {a b : Nat} (h : (10 : Nat) ^ a < 10 ^ b) : a < b:=(Nat.pow_lt_pow_iff_right (by decide)).1 h
theorem IsNd.le {N L M : Nat} (h : IsNd N L) (hM : 1 ≤ M) (hN : N < 10 ^ M) : L ≤ M:=by
 obtain ⟨h1,h2,h3⟩:=h
 rcases h3 with h3 | h3
 ·omega
 ·have:=pow_lt10 (Nat.lt_of_le_of_lt h3 hN)
  omega
/-- the number that bytes tell -/
def dvb : List UInt8 → Nat → Nat
 | [],a => a
 | c :: r,a => dvb r (a * 10 + (c.toNat - 48))
theorem dvb_append (l : List UInt8) (c : UInt8) (a : Nat) : dvb (l ++ [c]) a = dvb l a * 10 + (c.toNat - 48):=by
 induction l generalizing a with
 | nil => rfl
 | cons d r ih => exact ih _
theorem dvb_from (l : List UInt8) (a : Nat) : a ≤ dvb l a:=by
 induction l generalizing a with
 | nil => exact Nat.le_refl _
 | cons d r ih => exact Nat.le_trans (by omega) (ih (a * 10 + (d.toNat - 48)))
theorem dvb_split (l m : List UInt8) (a : Nat) : dvb (l ++ m) a = dvb m (dvb l a):=by
 induction l generalizing a with
 | nil => rfl
 | cons d r ih => exact ih _
theorem dvb_low (l : List UInt8) (a k : Nat) (ha : 10 ^ k ≤ a) : 10 ^ (k + l.length) ≤ dvb l a:=by
 induction l generalizing a k with
 | nil => simpa [dvb] using ha
 | cons d r ih =>
  have:=ih (a * 10 + (d.toNat - 48)) (k + 1) (by rw [Nat.pow_succ];omega)
  rw [List.length_cons,show k + (r.length + 1) = k + 1 + r.length by omega]
  exact this
def isD (c : UInt8) : Bool:=decide (48 ≤ c.toNat ∧ c.toNat ≤ 57)
/-- a text of a number: digits alone, one at least, no nought ahead of others -/
def okB (l : List UInt8) : Bool:=decide (l ≠ []) && (decide (l.length ≤ 1) || decide ((l.headD 0).toNat ≠ 48)) && l.all isD
end Go.Proofs.YtbnadlpkbbdgjaaGreatDoor



namespace Go.Proofs.YtbnadlpkbbdgjaaGreatDoor
open Go.RowKit

def dayB (d : Int) : Bool:=decide (1 ≤ d ∧ d ≤ 3652059)
end Go.Proofs.YtbnadlpkbbdgjaaGreatDoor



namespace Go.Proofs.YtbnadlpkbbdgjaaGreatDoor
open Go.RowKit

/-- from address A on lie, in a block of ints, the numbers xs (nothing is said where there are none) -/
def Sl (w : World) (A : Option Addr) (xs : List Int) : Prop :=
 xs ≠ [] → ∃ g o cs,A = some ⟨g,o,none⟩ ∧ Bk w g 3 cs ∧ ∀ j,j < xs.length → cs[o + j]? = some (.int .i64 (xs.getD j 0))
def IsSl (w : World) (v : Value) (xs : List Int) : Prop:=∃ A c,v = .slice A xs.length c ∧ xs.length ≤ c ∧ Sl w A xs
/-- v holds the digits of n, the least first -/
def Dg (w : World) (v : Value) (n : Nat) : Prop:=∃ xs,IsSl w v xs ∧ IsDg xs n
section
variable {w w' : World} {A : Option Addr} {xs : List Int} {v : Value} {n B : Nat}
theorem Sl.below (h : Sl w A xs) (hb : Below w.heap.size w w') : Sl w' A xs:=fun hne => by
 obtain ⟨g,o,cs,e,hg,hc⟩:=h hne
 exact ⟨g,o,cs,e,hg.below hb hg.lt,hc⟩
theorem Sl.far (h : Sl w A xs) {b : Nat} {T : TypeId} {ds : List Value} (hb : Bk w b T ds) (hT : 3 ≠ T) (i : Nat) (u : Value) : Sl (w.setCell ⟨b,i,none⟩ u) A xs:=fun hne => by
 obtain ⟨g,o,cs,e,hg,hc⟩:=h hne
 refine ⟨g,o,cs,e,hg.far ?_ u,hc⟩
 rintro rfl
 unfold Bk at hg hb
 rw [hg] at hb
 injection hb with hb
 injection hb with _ ht
 exact hT ht
theorem IsSl.below (h : IsSl w v xs) (hb : Below w.heap.size w w') : IsSl w' v xs:=by
 obtain ⟨A,c,e,hc,hs⟩:=h
 exact ⟨A,c,e,hc,hs.below hb⟩
theorem Dg.below (h : Dg w v n) (hb : Below w.heap.size w w') : Dg w' v n:=by
 obtain ⟨xs,hs,hd⟩:=h
 exact ⟨xs,hs.below hb,hd⟩
theorem Dg.far (h : Dg w v n) {b : Nat} {T : TypeId} {ds : List Value} (hb : Bk w b T ds) (hT : 3 ≠ T) (i : Nat) (u : Value) : Dg (w.setCell ⟨b,i,none⟩ u) v n:=by
 obtain ⟨xs,⟨A,c,e,hc,hs⟩,hd⟩:=h
 exact ⟨xs,⟨A,c,e,hc,hs.far hb hT i u⟩,hd⟩
theorem Dg.drew (h : Dg w v n) : Dg w.drew v n:=h
theorem Dg.drewN (h : Dg w v n) (k : Nat) : Dg (w.drewN k) v n:=h
theorem Sl.take (h : Sl w A xs) (k : Nat) : Sl w A (xs.take k):=fun hne => by
 have hx : xs ≠ []:=fun e => hne (by rw [e];simp)
 obtain ⟨g,o,cs,e,hg,hc⟩:=h hx
 refine ⟨g,o,cs,e,hg,fun j hj => ?_⟩
 rw [List.length_take] at hj
 rw [hc j (by omega),List.getD_eq_getElem?_getD,List.getD_eq_getElem?_getD,List.getElem?_take_of_lt (by omega)]
/-- the cell at a place -/
theorem Sl.at_ (h : Sl w A xs) {k : Nat} (hk : k < xs.length) : ∃ g o,A = some ⟨g,o,none⟩ ∧ g < w.heap.size ∧ w.cell? ⟨g,o + k,none⟩ = some (.int .i64 (xs.getD k 0)):=by
 obtain ⟨g,o,cs,e,hg,hc⟩:=h (by intro e;subst e;simp at hk)
 exact ⟨g,o,e,hg.lt,hg.cell _ (hc k hk)⟩
end

/-- where it has an address, it lies from block B on -/
def New (B : Nat) (v : Value) : Prop:=∀ g o p n c,v = .slice (some ⟨g,o,p⟩) n c → B ≤ g
theorem New.mono {B C : Nat} {v : Value} (h : New C v) (hb : B ≤ C) : New B v:=fun g o p n c e => Nat.le_trans hb (h g o p n c e)
theorem New.nil (B n c : Nat) : New B (.slice none n c):=by intro g o p n c e;cases e
theorem New.same {B : Nat} {A : Option Addr} {n c : Nat} (h : New B (.slice A n c)) (k d : Nat) : New B (.slice A k d):=by
 intro g o p n' c' e;injection e with e1 e2 e3;subst e1;exact h g o p n c rfl
theorem New.at_ {B g : Nat} (h : B ≤ g) (o : Nat) (p : Option Nat) (n c : Nat) : New B (.slice (some ⟨g,o,p⟩) n c):=by
 intro g' o' p' n' c' e;injection e with e1 e2 e3;injection e1 with e1;injection e1 with e1;subst e1;exact h
theorem New.own {w : World} {B : Nat} {E : TypeId} {v : Value} {n : Nat} {xs : List Value} (h : w.ownsRow B E 1 v n xs) : New B v:=by
 rcases h.2 with ⟨rfl,_⟩ | ⟨g,cap,cur,rfl,hg,_⟩
 ·exact New.nil _ _ _
 ·exact New.at_ hg _ _ _ _
end Go.Proofs.YtbnadlpkbbdgjaaGreatDoor



namespace Go.Proofs.YtbnadlpkbbdgjaaGreatDoor
open Go.RowKit

theorem cnt_in {s : Nat} {m : Int} (h : (s : Int) ≤ m) : cnt s m = s:=if_pos h
theorem cnt_out {s : Nat} {m : Int} (h : m < s) : cnt s m = m + 1:=if_neg (by omega)
theorem cnt_le {s : Nat} {m : Int} (h : 0 ≤ m) (h1 : 1 ≤ s) : 1 ≤ cnt s m ∧ cnt s m ≤ m + 1:=by unfold cnt;split <;> omega
def CountOf (R : World → Value → Value → VD → Prop) : Prop:=∀ (x : VD) (L N : Value) (most : Int) (w : World),0 ≤ most → most ≤ 1000000 → R w L N x →
 Calls Tryz.prog 58 #[vagg x.s L N,.int .i64 most] w fun e w' => e = .returned (.int .i64 (cnt x.size most)) ∧ Below w.heap.size w w'
set_option maxHeartbeats 1000000 in
theorem count_step (R : World → Value → Value → VD → Prop) (hR : ∀ w w' L N x,R w L N x → Below w.heap.size w w' → R w' L N x) (H : CountOf R)
  (s : VS) (l : List VD) (L N : Value) (most : Int) (w : World) (h0 : 0 ≤ most) (h1 : most ≤ 1000000) (hv : Vls (R w) w L l) :
  Calls Tryz.prog 58 #[vagg s L N,.int .i64 most] w fun e w' => e = .returned (.int .i64 (cnt (1 + sizes l) most)) ∧ Below w.heap.size w w':=by
 have HV:=Lib.hid hv
 have HH:=Lib.hid H
 have HR:=Lib.hid hR
 obtain ⟨A,C,rfl,hl⟩:=hv.is
 clear hv H hR
 obtain ⟨z,hz⟩ : ∃ z,z = cnt (1 + sizes l) most:=⟨_,rfl⟩
 rw [← hz]
 have HZ:=Lib.hid hz
 clear hz
 go_enter Tryz.func58,Tryz.ntmps58
 go_wp2_with fail
 go_loopg [5,11] l.length (fun k s5 s11 wr => ∃ (t : Nat) (n : Int),k + t = l.length ∧ s11 = .int .i64 t ∧ s5 = .int .i64 n ∧ Hid (n = cnt (1 + sizes (l.take t)) most) ∧ 1 ≤ n ∧ n ≤ most + 1 ∧ w.heap.size < wr.heap.size ∧ Below w.heap.size w wr)
 case atStart => exact ⟨0,1,by omega,rfl,rfl,Lib.hid (by rw [List.take_zero];unfold cnt sizes;split <;> omega),by omega,by omega,by go_size,by exact bel⟩
 case round =>
  obtain ⟨t,n,hk,rfl,rfl,HN,n1,n2,hsz,hbel⟩:=hrel
  have HK:=Lib.hid hk
  have htn : t ≤ l.length:=by omega
  clear hk
  by_cases hlt : t < l.length
  ·obtain ⟨b,o,A1,C1,A2,C2,rfl,hat,hx⟩:=(HV.out.below hbel (fun _ _ _ h => HR.out _ _ _ _ _ h hbel)).at hlt
   obtain ⟨a0,a1,a2,a3,a4,a5,a6,a7,a8,a9⟩:=hat.val
   have lb:=vcell_lt a0
   have HST:=Lib.hid (sizes_take hlt)
   have HPOS:=Lib.hid (size_pos (vg l t))
   have HSL:=Lib.hid (sizes_le (l:=l) (t + 1))
   obtain ⟨x,hxx⟩ : ∃ x,x = vg l t:=⟨_,rfl⟩
   rw [← hxx] at hx a0 a1 a2 a3 a4 a5 a6 a7 a8 a9 HST HPOS
   have HX:=Lib.hid hx
   obtain ⟨n1',hn1⟩ : ∃ n1',n1' = x.list.length:=⟨_,rfl⟩
   obtain ⟨n2',hn2⟩ : ∃ n2',n2' = x.names.length:=⟨_,rfl⟩
   rw [← hn1,← hn2] at HX
   rw [← hn1] at a8
   rw [← hn2] at a9
   clear hat hx hxx hn1 hn2
   by_cases hm : most < n
   ·have hz : z = n:=by
     have e1:=HN.out;have e2:=HST.out;have e3:=HSL.out;have e4:=HZ.out
     have : ¬ ((1 + sizes (l.take t) : Nat) : Int) ≤ most:=fun q => by rw [cnt_in q] at e1;omega
     rw [e4,cnt_out (by omega)];omega
    subst hz
    go_wp2_with fail
    go_ret
    exact ⟨rfl,by exact bel⟩
   ·have hm' : n ≤ most:=by omega
    have HC:=Lib.hid (fun W hW => HH.out x (.slice A1 n1' C1) (.slice A2 n2' C2) (most - n) W (by omega) (by omega) hW)
    have HQ : Hid (n + cnt x.size (most - n) = cnt (1 + sizes (l.take (t + 1))) most):=Lib.hid (by
     have e1:=HN.out;have e2:=HST.out
     have : ((1 + sizes (l.take t) : Nat) : Int) ≤ most:=by
      rcases Int.lt_or_le most ((1 + sizes (l.take t) : Nat) : Int) with q | q
      ·rw [cnt_out q] at e1;omega
      ·exact q
     rw [cnt_in this] at e1
     rw [e2]
     unfold cnt
     split <;> split <;> omega)
    have hcl:=cnt_le (s:=x.size) (m:=most - n) (by omega) HPOS.out
    obtain ⟨q,hq⟩ : ∃ q,q = cnt x.size (most - n):=⟨_,rfl⟩
    rw [← hq] at HC HQ hcl
    obtain ⟨hc1,hc2⟩:=hcl
    clear hm hq
    go_wp2_with fail
    refine (HC.out _ (HR.out _ _ _ _ _ HX.out (by exact bel))).mono ?_
    rintro _ w2 ⟨rfl,hb2⟩;have hb2s:=hb2.size;(try simp only [wsA,wsS,wsD,wsN] at hb2s);obtain ⟨hb2c,hb2f⟩:=bcell hb2;(try have : w.heap.size < w2.heap.size:=by omega);(try have : w.heap.size + 1 < w2.heap.size:=by omega);(try have : w.heap.size + 1 + 1 < w2.heap.size:=by omega);(try have : w.heap.size + 1 + 1 + 1 < w2.heap.size:=by omega)
    go_wp2_with fail
    go_roundg (gk - 1)
    case measure => have:=HK.out;omega
    case rel => exact ⟨t + 1,n + q,by have:=HK.out;omega,by go_num,rfl,HQ,by omega,by omega,by omega,by exact bel⟩
  ·obtain rfl : t = l.length:=by omega
   have hz : z = n:=by have:=HN.out;rw [List.take_length] at this;rw [this,HZ.out]
   subst hz
   go_wp2_with fail
   go_ret
   exact ⟨rfl,by exact bel⟩
theorem count_any : ∀ n,CountOf (VR n)
 | 0,_,_,_,_,_,_,_,h => h.elim
 | n + 1,x,L,N,most,w,h0,h1,h => by
  rw [VD.size_eq]
  exact count_step (VR n) (fun _ _ _ _ _ h hb => h.below hb) (count_any n) x.s x.list L N most w h0 h1 h.2.1
end Go.Proofs.YtbnadlpkbbdgjaaGreatDoor



namespace Go.Proofs.YtbnadlpkbbdgjaaGreatDoor
open Go.RowKit

/-- a value at its two slices, at whatever depth -/
def RV (w : World) (L N : Value) (d : VD) : Prop:=∃ n,VR n w L N d
theorem RV.below {w w' : World} {L N : Value} {d : VD} (h : RV w L N d) (hb : Below w.heap.size w w') : RV w' L N d:=by
 obtain ⟨n,h⟩:=h
 exact ⟨n,h.below hb⟩
theorem Vls.imp {R R' : Value → Value → VD → Prop} {w : World} {L : Value} {l : List VD} (h : Vls R w L l) (hR : ∀ L N d,R L N d → R' L N d) : Vls R' w L l:=h.below (Below.refl _ _) hR
theorem RV.list {w : World} {L N : Value} {d : VD} (h : RV w L N d) : d.s.ok ∧ Vls (RV w) w L d.list ∧ Nms w N d.names:=by
 obtain ⟨n,h⟩:=h
 cases n with
 | zero => exact h.elim
 | succ n => exact ⟨h.1,h.2.1.imp (fun _ _ _ h => ⟨n,h⟩),h.2.2⟩
theorem Vls.kept {w w' : World} {L : Value} {l : List VD} (h : Vls (RV w) w L l) (hb : Below w.heap.size w w') : Vls (RV w') w' L l:=h.below hb (fun _ _ _ h => h.below hb)
/-- lists that are still to be counted -/
inductive Stk (w0 : World) : List Value → List (List VD) → Prop
 | nil : Stk w0 [] []
 | snoc {vs : List Value} {td : List (List VD)} {L : Value} {l : List VD} : Stk w0 vs td → Vls (RV w0) w0 L l → l ≠ [] → Stk w0 (vs ++ [L]) (td ++ [l])
theorem Stk.cases {w0 : World} {vs : List Value} {td : List (List VD)} (h : Stk w0 vs td) : (vs = [] ∧ td = []) ∨ ∃ vs' L td' l,vs = vs' ++ [L] ∧ td = td' ++ [l] ∧ Stk w0 vs' td' ∧ Vls (RV w0) w0 L l ∧ l ≠ []:=by
 cases h with
 | nil => exact .inl ⟨rfl,rfl⟩
 | snoc a b c => exact .inr ⟨_,_,_,_,rfl,rfl,a,b,c⟩
theorem Stk.len {w0 : World} {vs : List Value} {td : List (List VD)} (h : Stk w0 vs td) : vs.length = td.length:=by
 induction h with
 | nil => rfl
 | snoc _ _ _ ih => simp [ih]
def vobj (s : VS) (L N : Value) : Obj:=.cells #[.int .i64 s.kind,.bool s.yes,.bool s.neg,.int .u64 (wd s.coef 1),.int .u64 (wd s.coef 0),.int .i64 s.sc,.string ⟨s.text.toArray⟩,.int .i64 s.day,L,N] 30
/-- the list of the one value, as it is laid at the start -/
theorem vls_one {w : World} {d : VD} {A : Option Addr} {C : Nat} {A2 : Option Addr} {C2 : Nat} (h : RV w (.slice A d.list.length C) (.slice A2 d.names.length C2) d) :
  Vls (RV (w.alloc (vobj d.s (.slice A d.list.length C) (.slice A2 d.names.length C2)))) (w.alloc (vobj d.s (.slice A d.list.length C) (.slice A2 d.names.length C2))) (.slice (some ⟨w.heap.size,0,none⟩) 1 1) [d]:=by
 have hb : Below w.heap.size w (w.alloc (vobj d.s (.slice A d.list.length C) (.slice A2 d.names.length C2))):=(Below.refl _ _).alloc (Nat.le_refl _) _
 refine ⟨_,_,rfl,⟨by simp,by simp,by unfold maxLen;simp⟩,fun r hr => ?_⟩
 obtain rfl : r = 0:=by simp at hr;omega
 refine ⟨w.heap.size,0,A,C,A2,C2,rfl,fun j hj => ?_,h.below hb⟩
 have:=Bk.new w 30 (d.s.cs ++ [.slice A d.list.length C,.slice A2 d.names.length C2])
 rw [Nat.zero_mul,Nat.zero_add]
 have e : vg [d] 0 = d:=rfl
 rw [e] at hj ⊢
 have hc:=this.cell j (List.getElem?_eq_getElem hj)
 rw [List.getElem?_eq_getElem hj]
 exact hc
end Go.Proofs.YtbnadlpkbbdgjaaGreatDoor



namespace Go.Proofs.YtbnadlpkbbdgjaaGreatDoor
open Go.RowKit

theorem pow_step (t : Nat) : ((2 ^ (64 * (t + 1)) : Nat) : Int) = ((2 ^ (64 * t) : Nat) : Int) * 18446744073709551616:=by
 rw [show 64 * (t + 1) = 64 * t + 64 by omega,Nat.pow_add,Int.natCast_mul];rfl
theorem plus_word {V V' n m t : Nat} {c s k x y : Int} (i1 : (V : Int) + c * ((2 ^ (64 * t) : Nat) : Int) = n + ((m % 2 ^ (64 * t) : Nat) : Int)) (hx : x = wd V t) (hy : y = wd m t)
  (i2 : (V' : Int) = V + (s - wd V t) * ((2 ^ (64 * t) : Nat) : Int)) (i3 : s + 18446744073709551616 * k = x + y + c) :
  (V' : Int) + k * ((2 ^ (64 * (t + 1)) : Nat) : Int) = n + ((m % 2 ^ (64 * (t + 1)) : Nat) : Int):=by
 rw [pow_step,wd_mod_succ,i2,← hy,← hx]
 generalize ((2 ^ (64 * t) : Nat) : Int) = P at *
 generalize ((m % 2 ^ (64 * t) : Nat) : Int) = M at *
 grind
theorem minus_word {V V' n m t : Nat} {c s k x y : Int} (i1 : (V : Int) - c * ((2 ^ (64 * t) : Nat) : Int) = n - ((m % 2 ^ (64 * t) : Nat) : Int)) (hx : x = wd V t) (hy : y = wd m t)
  (i2 : (V' : Int) = V + (s - wd V t) * ((2 ^ (64 * t) : Nat) : Int)) (i3 : s - 18446744073709551616 * k = x - y - c) :
  (V' : Int) - k * ((2 ^ (64 * (t + 1)) : Nat) : Int) = n - ((m % 2 ^ (64 * (t + 1)) : Nat) : Int):=by
 rw [pow_step,wd_mod_succ,i2,← hy,← hx]
 generalize ((2 ^ (64 * t) : Nat) : Int) = P at *
 generalize ((m % 2 ^ (64 * t) : Nat) : Int) = M at *
 grind
theorem ten_word {V V' n t : Nat} {c s k h x : Int} (i1 : (V : Int) + c * ((2 ^ (64 * t) : Nat) : Int) = n + 9 * ((n % 2 ^ (64 * t) : Nat) : Int)) (hx : x = wd V t) (hn : wd V t = wd n t)
  (i2 : (V' : Int) = V + (s - wd V t) * ((2 ^ (64 * t) : Nat) : Int)) (i3 : s + 18446744073709551616 * (h + k) = x * 10 + c) :
  (V' : Int) + (h + k) * ((2 ^ (64 * (t + 1)) : Nat) : Int) = n + 9 * ((n % 2 ^ (64 * (t + 1)) : Nat) : Int):=by
 rw [pow_step,wd_mod_succ,i2,← hn,← hx]
 generalize ((2 ^ (64 * t) : Nat) : Int) = P at *
 generalize ((n % 2 ^ (64 * t) : Nat) : Int) = M at *
 grind
theorem p256 : ((2 ^ (64 * 4) : Nat) : Int) = 115792089237316195423570985008687907853269984665640564039457584007913129639936:=by rfl
theorem plus_end {V n m : Nat} {c : Int} (hV : V < 2 ^ 256) (hs : n + m < 2 ^ 256) (h0 : 0 ≤ c) (i1 : (V : Int) + c * ((2 ^ (64 * 4) : Nat) : Int) = n + ((m % 2 ^ (64 * 4) : Nat) : Int)) : V = n + m:=by
 rw [Nat.mod_eq_of_lt (show m < 2 ^ (64 * 4) by omega),p256] at i1
 omega
theorem minus_end {V n m : Nat} {c : Int} (hV : V < 2 ^ 256) (hn : n < 2 ^ 256) (hs : m ≤ n) (h0 : 0 ≤ c) (i1 : (V : Int) - c * ((2 ^ (64 * 4) : Nat) : Int) = n - ((m % 2 ^ (64 * 4) : Nat) : Int)) : V = n - m:=by
 rw [Nat.mod_eq_of_lt (show m < 2 ^ (64 * 4) by omega),p256] at i1
 omega
theorem ten_end {V n : Nat} {c : Int} (hV : V < 2 ^ 256) (hs : n * 10 < 2 ^ 256) (h0 : 0 ≤ c) (i1 : (V : Int) + c * ((2 ^ (64 * 4) : Nat) : Int) = n + 9 * ((n % 2 ^ (64 * 4) : Nat) : Int)) : V = n * 10:=by
 rw [Nat.mod_eq_of_lt (show n < 2 ^ (64 * 4) by omega),p256] at i1
 omega
/-- the order, from the top word on -/
theorem top_word (n k : Nat) : n / 2 ^ (64 * k) = n / 2 ^ (64 * (k + 1)) * 18446744073709551616 + (wd n k).toNat:=by
 unfold wd
 rw [show 64 * (k + 1) = 64 * k + 64 by omega,Nat.pow_add,← Nat.div_div_eq_div_mul,Int.toNat_natCast]
 omega
theorem top_lt {n m k : Nat} (h : n / 2 ^ (64 * (k + 1)) = m / 2 ^ (64 * (k + 1))) (hl : wd n k < wd m k) : n < m:=by
 have e1:=top_word n k
 have e2:=top_word m k
 have a0:=wd_nn n k
 have : n / 2 ^ (64 * k) < m / 2 ^ (64 * k):=by rw [e1,e2,h];omega
 exact Nat.lt_of_not_le fun hle => absurd (Nat.div_le_div_right (c:=2 ^ (64 * k)) hle) (by omega)
theorem top_eq {n m k : Nat} (h : n / 2 ^ (64 * (k + 1)) = m / 2 ^ (64 * (k + 1))) (hl : wd n k = wd m k) : n / 2 ^ (64 * k) = m / 2 ^ (64 * k):=by
 rw [top_word n k,top_word m k,h,hl]
theorem top_none {n m : Nat} (hn : n < 2 ^ 256) (hm : m < 2 ^ 256) : n / 2 ^ (64 * 4) = m / 2 ^ (64 * 4):=by
 rw [Nat.div_eq_of_lt (show n < 2 ^ (64 * 4) from hn),Nat.div_eq_of_lt (show m < 2 ^ (64 * 4) from hm)]
end Go.Proofs.YtbnadlpkbbdgjaaGreatDoor



namespace Go.Proofs.YtbnadlpkbbdgjaaGreatDoor.B
open Go.RowKit

structure Below (B : Nat) (w w' : World) : Prop extends Go.RowKit.Below B w w' where
 drawn : w.drawn ≤ w'.drawn
theorem Below.refl (B : Nat) (w : World) : Below B w w:=⟨Go.RowKit.Below.refl B w,Nat.le_refl _⟩
theorem Below.trans {B : Nat} {a b c : World} (h : Below B a b) (k : Below B b c) : Below B a c:=⟨h.toBelow.trans k.toBelow,Nat.le_trans h.drawn k.drawn⟩
theorem Below.mono {B B' : Nat} {w w' : World} (h : Below B w w') (hB : B' ≤ B) : Below B' w w':=⟨h.toBelow.mono hB,h.drawn⟩
theorem Below.drew {B : Nat} {a w : World} (h : Below B a w) : Below B a w.drew:=⟨h.toBelow.drew,Nat.le_succ_of_le h.drawn⟩
theorem Below.alloc {B : Nat} {a w : World} (h : Below B a w) (hB : B ≤ w.heap.size) (o : Obj) : Below B a (w.alloc o):=⟨h.toBelow.alloc hB o,h.drawn⟩
theorem Below.setCell {B : Nat} {a w : World} (h : Below B a w) {p : Addr} (hp : B ≤ p.block) (u : Value) : Below B a (w.setCell p u):=⟨h.toBelow.setCell hp u,h.drawn⟩
theorem below_drewN {B : Nat} {a w : World} (h : Below B a w) (n : Nat) : Below B a (w.drewN n):=⟨⟨h.os,h.tape,h.output,h.size,h.block⟩,Nat.le_trans h.drawn (Nat.le_add_right _ _)⟩
theorem bcell {W w1 : World} (hb : Below W.heap.size W w1) : (∀ b o,b < W.heap.size → w1.cell? ⟨b,o,none⟩ = W.cell? ⟨b,o,none⟩) ∧ (∀ b o,b < W.heap.size → w1.frozen? ⟨b,o,none⟩ = W.frozen? ⟨b,o,none⟩):=Go.Proofs.YtbnadlpkbbdgjaaGreatDoor.bcell hb.toBelow
theorem Bk.below {B : Nat} {w w' : World} {g : Nat} {t : TypeId} {cs : List Value} (h : Bk w g t cs) (hb : Below B w w') (hg : g < B) : Bk w' g t cs:=Go.Proofs.YtbnadlpkbbdgjaaGreatDoor.Bk.below h hb.toBelow hg
instance {B : Nat} {w w' : World} : Coe (Below B w w') (Go.RowKit.Below B w w'):=⟨Below.toBelow⟩
theorem Bk.alloc {w : World} {g : Nat} {t : TypeId} {cs : List Value} (h : Bk w g t cs) (o : Obj) : Bk (w.alloc o) g t cs:=Go.Proofs.YtbnadlpkbbdgjaaGreatDoor.Bk.alloc h o
/-- as the library's sort wants it -/
theorem Below.grow {W w' : World} (h : Below W.heap.size W w') : ∃ q os',w' = Go.Sort.grow (W.drewN q) os':=by
 refine ⟨w'.drawn - W.drawn,(w'.heap.toList.drop W.heap.size).toArray, ?_⟩
 have hd:=h.drawn
 have hh : w'.heap = W.heap ++ (w'.heap.toList.drop W.heap.size).toArray:=by
  apply Array.ext'
  rw [Array.toList_append]
  apply List.ext_getElem?
  intro i
  rw [List.getElem?_append]
  have hs:=h.size
  split
  ·rename_i hi
   have:=h.block i (by simpa using hi)
   simpa using this
  ·rename_i hi
   have hi : W.heap.size ≤ i:=by simpa using hi
   simp [List.getElem?_drop,show W.heap.size + (i - W.heap.size) = i by omega]
 cases w' with
 | mk heap tape drawn os output =>
  have h1:=h.os
  have h2:=h.tape
  have h3:=h.output
  dsimp only at h1 h2 h3 hh hd
  subst h1 h2 h3
  unfold Go.Sort.grow World.drewN
  dsimp only
  rw [← hh]
  congr 1
  omega
theorem bkW {w : World} {t : TypeId} {cs : List Value} {g : Nat} (hg : g = w.heap.size) : Bk (w.alloc (.cells cs.toArray t)) g t cs:=Bk.new_ hg
theorem bkA {w : World} {g : Nat} {t : TypeId} {cs : List Value} (h : Bk w g t cs) (o : Obj) : Bk (w.alloc o) g t cs:=h.alloc o
theorem bkD {w : World} {g : Nat} {t : TypeId} {cs : List Value} (h : Bk w g t cs) : Bk w.drew g t cs:=h
theorem bkN {w : World} {g : Nat} {t : TypeId} {cs : List Value} (h : Bk w g t cs) (n : Nat) : Bk (w.drewN n) g t cs:=h
theorem bkF {w : World} {g : Nat} {t : TypeId} {cs : List Value} {p : Addr} (hp : g ≠ p.block) (h : Bk w g t cs) (u : Value) : Bk (w.setCell p u) g t cs:=h.far hp u
theorem bkB {w w' : World} {g : Nat} {t : TypeId} {cs : List Value} {B : Nat} (hb : Below B w w') (hg : g < B) (h : Bk w g t cs) : Bk w' g t cs:=h.below hb hg
theorem blR (B : Nat) (w : World) : Below B w w:=Below.refl B w
theorem blD {B : Nat} {w w' : World} (h : Below B w w') : Below B w w'.drew:=h.drew
theorem blN {B : Nat} {w w' : World} (h : Below B w w') (n : Nat) : Below B w (w'.drewN n):=below_drewN h n
theorem blA {B : Nat} {w w' : World} (hs : B ≤ w'.heap.size) (h : Below B w w') (o : Obj) : Below B w (w'.alloc o):=h.alloc hs o
theorem blS {B : Nat} {w w' : World} {a : Addr} (hs : B ≤ a.block) (h : Below B w w') (v : Value) : Below B w (w'.setCell a v):=h.setCell hs v
theorem blT {B m : Nat} {w w1 w2 : World} (h2 : Below m w1 w2) (hs : B ≤ m) (h : Below B w w1) : Below B w w2:=h.trans (h2.mono hs)
theorem wsA (w : World) (o : Obj) : (w.alloc o).heap.size = w.heap.size + 1:=World.size_alloc ..
theorem wsS (w : World) (a : Addr) (v : Value) : (w.setCell a v).heap.size = w.heap.size:=World.size_setCell ..
theorem wsD (w : World) : w.drew.heap.size = w.heap.size:=World.size_drew ..
theorem wsN (w : World) (n : Nat) : (w.drewN n).heap.size = w.heap.size:=rfl
theorem bel {B : Nat} {w w' : World} (h : Below B w w':=by (repeat' first|(with_reducible first|exact blR _ _|assumption|refine blD ?_|refine blN ?_ _)|((with_reducible first|refine blA ?_ ?_ _|refine blS ?_ ?_ _|refine blT (by assumption) ?_ ?_);focus (go_size;done)))) : Below B w w':=h
theorem bkk {w : World} {g : Nat} {t : TypeId} {cs : List Value} (h : Bk w g t cs:=by (repeat (first|(with_reducible assumption)|((with_reducible refine bkW ?_);(first|rfl|(simp only [wsA,wsS,wsD,wsN];done)))|(with_reducible first|refine bkA ?_ _|refine bkD ?_|refine bkN ?_ _)|((with_reducible refine bkF ?_ ?_ _);focus (simp only [];omega))|((with_reducible refine bkB (by assumption) ?_ ?_);focus (go_size;done))))) : Bk w g t cs:=h
end Go.Proofs.YtbnadlpkbbdgjaaGreatDoor.B



namespace Go.Proofs.YtbnadlpkbbdgjaaGreatDoor
open Go.RowKit

/-- what lay in w lies in w' as it did, but for blocks whose number S allows; numbers stay -/
structure Turn (S : Nat → Prop) (w : World) (o : Nat → Nat) (w' : World) (o' : Nat → Nat) : Prop where
 os : w'.os = w.os
 tape : w'.tape = w.tape
 output : w'.output = w.output
 size : w.heap.size ≤ w'.heap.size
 num : ∀ k,k < w.heap.size → o' k = o k
 block : ∀ k,k < w.heap.size → ¬ S (o k) → w'.heap[k]? = w.heap[k]?
section
variable {S S' : Nat → Prop} {w w' w'' : World} {o o' o'' : Nat → Nat}
theorem Turn.refl (S : Nat → Prop) (w : World) (o : Nat → Nat) : Turn S w o w o:=⟨rfl,rfl,rfl,Nat.le_refl _,fun _ _ => rfl,fun _ _ _ => rfl⟩
theorem Turn.trans (h : Turn S w o w' o') (k : Turn S w' o' w'' o'') : Turn S w o w'' o'' :=
 ⟨k.os.trans h.os,k.tape.trans h.tape,k.output.trans h.output,Nat.le_trans h.size k.size,fun i hi => (k.num i (Nat.lt_of_lt_of_le hi h.size)).trans (h.num i hi),
  fun i hi hs => (k.block i (Nat.lt_of_lt_of_le hi h.size) (by rw [h.num i hi];exact hs)).trans (h.block i hi hs)⟩
theorem Turn.mono (h : Turn S w o w' o') (hs : ∀ l,S l → S' l) : Turn S' w o w' o':=⟨h.os,h.tape,h.output,h.size,h.num,fun i hi hn => h.block i hi fun hh => hn (hs _ hh)⟩
theorem Turn.drew (h : Turn S w o w' o') : Turn S w o w'.drew o':=⟨h.os,h.tape,h.output,h.size,h.num,h.block⟩
theorem Turn.drewN (h : Turn S w o w' o') (n : Nat) : Turn S w o (w'.drewN n) o':=⟨h.os,h.tape,h.output,h.size,h.num,h.block⟩
theorem Turn.alloc (h : Turn S w o w' o') (ob : Obj) : Turn S w o (w'.alloc ob) o' :=
 ⟨h.os,h.tape,h.output,by rw [World.size_alloc];exact Nat.le_succ_of_le h.size,h.num,fun i hi hn => (Below.heap_alloc w' ob i (Nat.lt_of_lt_of_le hi h.size)).trans (h.block i hi hn)⟩
theorem Turn.setCell (h : Turn S w o w' o') {p : Addr} (hp : w.heap.size ≤ p.block ∨ S (o p.block)) (u : Value) : Turn S w o (w'.setCell p u) o' :=
 ⟨h.os,h.tape,h.output,by rw [World.size_setCell];exact h.size,h.num,fun i hi hn => (Below.heap_setCell w' p u i (by
  rintro rfl
  rcases hp with hp | hp
  ·omega
  ·exact hn hp)).trans (h.block i hi hn)⟩
theorem Turn.below {B : Nat} (h : Turn S w o w' o') (hB : ∀ k,k < B → ¬ S (o k)) (hs : B ≤ w.heap.size) : Below B w w' :=
 ⟨h.os,h.tape,h.output,h.size,fun k hk => h.block k (Nat.lt_of_lt_of_le hk hs) (hB k hk)⟩
/-- block g is known whole, and bears the number l -/
def Lb (w : World) (o : Nat → Nat) (l g : Nat) (t : TypeId) (cs : List Value) : Prop:=Bk w g t cs ∧ o g = l
/-- v is a row of ints of the call's own, and its block bears the number l -/
def Row (w : World) (o : Nat → Nat) (l : Nat) (v : Value) (xs : List Int) : Prop:=w.ownsRow 0 3 1 v xs.length (xs.map (Value.int .i64)) ∧ ∀ g,v.ownBlock = some g → o g = l
variable {l g : Nat} {t : TypeId} {cs : List Value} {v : Value} {xs : List Int}
theorem Lb.turn (h : Lb w o l g t cs) (k : Turn S w o w' o') (hs : ¬ S l) : Lb w' o' l g t cs :=
 ⟨(k.block g h.1.lt (by rw [h.2];exact hs)).trans h.1,(k.num g h.1.lt).trans h.2⟩
theorem Lb.alloc (h : Lb w o l g t cs) (ob : Obj) : Lb (w.alloc ob) o l g t cs:=⟨h.1.alloc ob,h.2⟩
theorem Lb.drew (h : Lb w o l g t cs) : Lb w.drew o l g t cs:=h
theorem Lb.drewN (h : Lb w o l g t cs) (n : Nat) : Lb (w.drewN n) o l g t cs:=h
theorem Lb.set_ (h : Lb w o l g t cs) (i : Nat) (u : Value) : Lb (w.setCell ⟨g,i,none⟩ u) o l g t (cs.set i u):=⟨h.1.set_ i u,h.2⟩
theorem Lb.far (h : Lb w o l g t cs) {p : Addr} (hp : o p.block ≠ l) (u : Value) : Lb (w.setCell p u) o l g t cs:=⟨h.1.far (fun e => hp (by rw [← e];exact h.2)) u,h.2⟩
theorem Row.turn (h : Row w o l v xs) (k : Turn S w o w' o') (hs : ¬ S l) : Row w' o' l v xs:=by
 refine ⟨⟨h.1.1, ?_⟩,fun g hg => ?_⟩
 ·rcases h.1.2 with hn | ⟨g,cap,cur,rfl,hb,hgg,rest⟩
  ·exact .inl hn
  ·refine .inr ⟨g,cap,cur,rfl,hb, ?_,rest⟩
   have hlt:=(Array.getElem?_eq_some_iff.1 hgg).1
   rw [k.block g hlt (by rw [h.2 g rfl];exact hs)]
   exact hgg
 ·obtain ⟨_,hlt⟩:=h.1.lt g hg
  exact (k.num g hlt).trans (h.2 g hg)
theorem Row.alloc (h : Row w o l v xs) (ob : Obj) : Row (w.alloc ob) o l v xs:=⟨h.1.alloc ob,h.2⟩
theorem Row.drew (h : Row w o l v xs) : Row w.drew o l v xs:=h
theorem Row.drewN (h : Row w o l v xs) (n : Nat) : Row (w.drewN n) o l v xs:=h
theorem Row.nil (w : World) (o : Nat → Nat) (l : Nat) : Row w o l (.slice none 0 0) []:=⟨World.ownsRow_nil _ _ _ _,fun g hg => by cases hg⟩
theorem Row.set (h : Row w o l v xs) {p : Addr} (hp : o p.block ≠ l) (u : Value) : Row (w.setCell p u) o l v xs:=by
 refine ⟨⟨h.1.1, ?_⟩,h.2⟩
 rcases h.1.2 with hn | ⟨g,cap,cur,rfl,hb,hgg,rest⟩
 ·exact .inl hn
 ·exact .inr ⟨g,cap,cur,rfl,hb,(Below.heap_setCell w p u g (fun e => hp (by rw [← e];exact h.2 g rfl))).trans hgg,rest⟩
/-- what a row of the call's own looks like where it is not empty -/
theorem Row.form (h : Row w o l v xs) (hne : 0 < xs.length) : ∃ g cap cs,v = .slice (some ⟨g,0,none⟩) xs.length cap ∧ xs.length ≤ cap ∧ cap ≤ maxLen ∧ cs.length = cap ∧ Lb w o l g 3 cs ∧ cs.take xs.length = xs.map (Value.int .i64):=by
 rcases h.1.2 with ⟨_,hn⟩ | ⟨g,cap,cur,rfl,_,hg,h1,h2,h3,h4⟩
 ·omega
 ·refine ⟨g,cap,cur.toList,rfl,h1,h2,by simpa using h3,⟨by unfold Bk;simpa using hg,h.2 g rfl⟩,by simpa using h4⟩
theorem take_get {cs : List Value} {xs : List Int} (h : cs.take xs.length = xs.map (Value.int .i64)) {k : Nat} (hk : k < xs.length) : cs[k]? = some (.int .i64 (xs.getD k 0)):=by
 have e : (cs.take xs.length)[k]? = cs[k]?:=List.getElem?_take_of_lt hk
 rw [← e,h,List.getElem?_map,List.getElem?_eq_getElem hk,List.getD_eq_getElem?_getD,List.getElem?_eq_getElem hk]
 rfl
theorem Row.of_block {w : World} {o : Nat → Nat} {l g cap : Nat} {cs : List Value} {xs : List Int} (h : Lb w o l g 3 cs) (h1 : xs.length ≤ cap) (h2 : cap ≤ maxLen) (h3 : cs.length = cap) (h4 : cs.take xs.length = xs.map (Value.int .i64)) :
  Row w o l (.slice (some ⟨g,0,none⟩) xs.length cap) xs:=by
 refine ⟨⟨by simp,.inr ⟨g,cap,cs.toArray,rfl,Nat.zero_le _,h.1,h1,h2,by simpa using h3,by simpa using h4⟩⟩,fun k hk => ?_⟩
 injection hk with hk
 subst hk
 exact h.2
theorem take_set {cs : List Value} {xs : List Int} (h : cs.take xs.length = xs.map (Value.int .i64)) (k : Nat) (x : Int) : (cs.set k (.int .i64 x)).take (xs.set k x).length = (xs.set k x).map (Value.int .i64):=by
 rw [List.length_set,List.take_set,h,List.map_set]
end
/-- what is new bears the number l -/
def relabel (o : Nat → Nat) (n l : Nat) : Nat → Nat:=fun k => if k < n then o k else l
theorem relabel_old {o : Nat → Nat} {n l k : Nat} (h : k < n) : relabel o n l k = o k:=if_pos h
theorem relabel_new {o : Nat → Nat} {n l k : Nat} (h : n ≤ k) : relabel o n l k = l:=if_neg (Nat.not_lt.2 h)
theorem Turn.relabel {S : Nat → Prop} {w w' : World} {o : Nat → Nat} (h : Turn S w o w' o) {n : Nat} (hn : w.heap.size ≤ n) (l : Nat) : Turn S w o w' (relabel o n l) :=
 ⟨h.os,h.tape,h.output,h.size,fun k hk => relabel_old (Nat.lt_of_lt_of_le hk hn),h.block⟩
theorem Lb.new {w : World} (o : Nat → Nat) (l : Nat) (t : TypeId) (cs : List Value) {n : Nat} (hn : n ≤ w.heap.size) : Lb (w.alloc (.cells cs.toArray t)) (relabel o n l) l w.heap.size t cs:=⟨Bk.new w t cs,relabel_new hn⟩
/-- a row that has grown -/
theorem Row.push {w w' : World} {o : Nat → Nat} {l : Nat} {v : Value} {xs : List Int} (h : Row w o l v xs) {x : Int} {g cap : Nat}
  (h1 : w'.ownsRow 0 3 1 (.slice (some ⟨g,0,none⟩) (xs.length + 1) cap) (xs.length + 1) (xs.map (Value.int .i64) ++ [.int .i64 x])) (hg : w.grownBy w' v.ownBlock) (hf : v.ownBlock = some g ∨ g = w.heap.size) :
  Row w' (relabel o w.heap.size l) l (.slice (some ⟨g,0,none⟩) (xs.length + 1) cap) (xs ++ [x]) ∧ Turn (· = l) w o w' (relabel o w.heap.size l):=by
 refine ⟨⟨?_,fun k hk => ?_⟩,⟨hg.os,hg.tape,hg.output,hg.size,fun k hk => relabel_old hk,fun k hk hn => hg.block k hk fun e => hn (h.2 k e.symm)⟩⟩
 ·rw [List.length_append,List.map_append];exact h1
 ·injection hk with hk
  subst hk
  rcases hf with hf | hf
  ·rw [relabel_old (h.1.lt g hf).2];exact h.2 g hf
  ·subst hf;exact relabel_new (Nat.le_refl _)
end Go.Proofs.YtbnadlpkbbdgjaaGreatDoor



namespace Go.Proofs.YtbnadlpkbbdgjaaGreatDoor
open Go.RowKit

/-- v reads as n things of k cells each -/
def Slk (w : World) (v : Value) (k n : Nat) (cs : List Value) : Prop :=
 ∃ A C,v = .slice A n C ∧ n ≤ maxLen ∧ cs.length = n * k ∧ ∀ j,j < n * k → ∃ b o,A = some ⟨b,o,none⟩ ∧ w.cell? ⟨b,o + j,none⟩ = cs[j]?
/-- v is a row of n things of k cells each of the call's own, and its block bears the number l -/
def Ro (w : World) (o : Nat → Nat) (l : Nat) (t : TypeId) (k : Nat) (v : Value) (n : Nat) (cs : List Value) : Prop:=w.ownsRow 0 t k v n cs ∧ ∀ g,v.ownBlock = some g → o g = l
theorem cell_lt2 {w : World} {b o : Nat} {u : Value} (h : w.cell? ⟨b,o,none⟩ = some u) : b < w.heap.size:=by
 rcases Nat.lt_or_ge b w.heap.size with hlt | hge
 ·exact hlt
 ·simp [World.cell?,Array.getElem?_eq_none hge] at h
section
variable {w w' : World} {o o' : Nat → Nat} {S : Nat → Prop} {l k n : Nat} {t : TypeId} {v : Value} {cs : List Value}
theorem Slk.below (h : Slk w v k n cs) (hb : Below w.heap.size w w') : Slk w' v k n cs:=by
 obtain ⟨A,C,h1,h2,h3,h4⟩:=h
 refine ⟨A,C,h1,h2,h3,fun j hj => ?_⟩
 obtain ⟨b,o,h5,h6⟩:=h4 j hj
 refine ⟨b,o,h5,(hb.cell (p:=⟨b,o + j,none⟩) ?_).trans h6⟩
 rw [List.getElem?_eq_getElem (by omega)] at h6
 exact cell_lt2 h6
theorem Slk.is (h : Slk w v k n cs) : ∃ A C,v = .slice A n C ∧ n ≤ maxLen:=by
 obtain ⟨A,C,h1,h2,_⟩:=h
 exact ⟨A,C,h1,h2⟩
theorem Slk.at {A : Option Addr} {n' C : Nat} (h : Slk w (.slice A n' C) k n cs) {j : Nat} (hj : j < n * k) : ∃ b o,A = some ⟨b,o,none⟩ ∧ w.cell? ⟨b,o + j,none⟩ = cs[j]?:=by
 obtain ⟨A',C',h1,_,_,h3⟩:=h
 injection h1 with e1 e2 e3
 subst e1
 exact h3 j hj
theorem Slk.drewN (h : Slk w v k n cs) (m : Nat) : Slk (w.drewN m) v k n cs:=h
theorem Slk.nil (w : World) (k : Nat) : Slk w (.slice none 0 0) k 0 []:=⟨none,0,rfl,Nat.zero_le _,by simp,fun j hj => absurd hj (by simp)⟩
theorem Ro.nil (w : World) (o : Nat → Nat) (l : Nat) (t : TypeId) (k : Nat) : Ro w o l t k (.slice none 0 0) 0 []:=⟨World.ownsRow_nil _ _ _ _,fun g hg => by cases hg⟩
theorem Ro.length (h : Ro w o l t k v n cs) : cs.length = n * k:=h.1.1
theorem Ro.turn (h : Ro w o l t k v n cs) (q : Turn S w o w' o') (hs : ¬ S l) : Ro w' o' l t k v n cs:=by
 refine ⟨⟨h.1.1, ?_⟩,fun g hg => ?_⟩
 ·rcases h.1.2 with hn | ⟨g,cap,cur,rfl,hb,hgg,rest⟩
  ·exact .inl hn
  ·refine .inr ⟨g,cap,cur,rfl,hb, ?_,rest⟩
   have hlt:=(Array.getElem?_eq_some_iff.1 hgg).1
   rw [q.block g hlt (by rw [h.2 g rfl];exact hs)]
   exact hgg
 ·obtain ⟨_,hlt⟩:=h.1.lt g hg
  exact (q.num g hlt).trans (h.2 g hg)
theorem Ro.alloc (h : Ro w o l t k v n cs) (ob : Obj) : Ro (w.alloc ob) o l t k v n cs:=⟨h.1.alloc ob,h.2⟩
theorem Ro.drew (h : Ro w o l t k v n cs) : Ro w.drew o l t k v n cs:=h
theorem Ro.drewN (h : Ro w o l t k v n cs) (m : Nat) : Ro (w.drewN m) o l t k v n cs:=h
theorem Ro.set (h : Ro w o l t k v n cs) {p : Addr} (hp : o p.block ≠ l) (u : Value) : Ro (w.setCell p u) o l t k v n cs:=by
 refine ⟨⟨h.1.1, ?_⟩,h.2⟩
 rcases h.1.2 with hn | ⟨g,cap,cur,rfl,hb,hgg,rest⟩
 ·exact .inl hn
 ·exact .inr ⟨g,cap,cur,rfl,hb,(Below.heap_setCell w p u g (fun e => hp (by rw [← e];exact h.2 g rfl))).trans hgg,rest⟩
/-- what a row of the call's own looks like where it is not empty -/
theorem Ro.form (h : Ro w o l t k v n cs) (hne : 0 < n) : ∃ g cap cur,v = .slice (some ⟨g,0,none⟩) n cap ∧ n ≤ cap ∧ cap ≤ maxLen ∧ cur.length = cap * k ∧ Lb w o l g t cur ∧ cur.take (n * k) = cs:=by
 rcases h.1.2 with ⟨_,hn⟩ | ⟨g,cap,cur,rfl,_,hg,h1,h2,h3,h4⟩
 ·omega
 ·refine ⟨g,cap,cur.toList,rfl,h1,h2,by simpa using h3,⟨by unfold Bk;simpa using hg,h.2 g rfl⟩,h4⟩
theorem Ro.sl (h : Ro w o l t k v n cs) : Slk w v k n cs:=by
 by_cases hn : 0 < n
 ·obtain ⟨g,cap,cur,rfl,h1,h2,h3,h4,h5⟩:=h.form hn
  refine ⟨_,_,rfl,by omega,h.1.1,fun j hj => ⟨g,0,rfl, ?_⟩⟩
  have hc : cs[j]? = some (cs[j]'(by rw [h.1.1];exact hj)):=List.getElem?_eq_getElem _
  rw [Nat.zero_add,hc]
  refine h4.1.cell j ?_
  rw [← hc,← h5,List.getElem?_take_of_lt hj]
 ·obtain rfl : n = 0:=by omega
  rcases h.1.2 with ⟨rfl,_⟩ | ⟨g,cap,cur,rfl,_,hg,h1,h2,h3,h4⟩
  ·exact ⟨none,0,rfl,Nat.zero_le _,h.1.1,fun j hj => absurd hj (by simp)⟩
  ·exact ⟨_,_,rfl,Nat.zero_le _,h.1.1,fun j hj => absurd hj (by simp)⟩
theorem Ro.of_block {g cap : Nat} {cur : List Value} (h : Lb w o l g t cur) (h1 : n ≤ cap) (h2 : cap ≤ maxLen) (h3 : cur.length = cap * k) (h4 : cur.take (n * k) = cs) :
  Ro w o l t k (.slice (some ⟨g,0,none⟩) n cap) n cs:=by
 refine ⟨⟨?_,.inr ⟨g,cap,cur.toArray,rfl,Nat.zero_le _,h.1,h1,h2,by simpa using h3,by simpa using h4⟩⟩,fun k hk => ?_⟩
 ·rw [← h4,List.length_take,h3]
  exact Nat.min_eq_left (Nat.mul_le_mul_right _ h1)
 ·injection hk with hk
  subst hk
  exact h.2
/-- a row that has grown -/
theorem Ro.push {w w' : World} (h : Ro w o l t k v n cs) {m : Nat} {news : List Value} {g cap : Nat}
  (h1 : w'.ownsRow 0 t k (.slice (some ⟨g,0,none⟩) (n + m) cap) (n + m) (cs ++ news)) (hg : w.grownBy w' v.ownBlock) (hf : v.ownBlock = some g ∨ g = w.heap.size) :
  Ro w' (relabel o w.heap.size l) l t k (.slice (some ⟨g,0,none⟩) (n + m) cap) (n + m) (cs ++ news) ∧ Turn (· = l) w o w' (relabel o w.heap.size l):=by
 refine ⟨⟨h1,fun k hk => ?_⟩,⟨hg.os,hg.tape,hg.output,hg.size,fun k hk => relabel_old hk,fun k hk hn => hg.block k hk fun e => hn (h.2 k e.symm)⟩⟩
 injection hk with hk
 subst hk
 rcases hf with hf | hf
 ·rw [relabel_old (h.1.lt g hf).2];exact h.2 g hf
 ·subst hf;exact relabel_new (Nat.le_refl _)
theorem Ro.relab (h : Ro w o l t k v n cs) {l' : Nat} (hb : Below w.heap.size w w') (ho : ∀ g,g < w.heap.size → o g = l → o' g = l') : Ro w' o' l' t k v n cs:=by
 refine ⟨⟨h.1.1, ?_⟩,fun g hg => ho g (h.1.lt g hg).2 (h.2 g hg)⟩
 rcases h.1.2 with hn | ⟨g,cap,cur,rfl,hbg,hgg,rest⟩
 ·exact .inl hn
 ·exact .inr ⟨g,cap,cur,rfl,hbg,(hb.block g (h.1.lt g rfl).2).trans hgg,rest⟩
end
/-- things are appended to a row -/
theorem wpList_pushR {w : World} {ops : Array Oper} {rest : List Oper} {o : Oper} {a : Act} {Q : Exit → Act → World → Prop} (hgd : o.guard = none) (s x : Operand) (t e : TypeId) (k : Nat) (bytes : Nat) (z : Value)
  (ho : o.op = .call { callee:=.builtin .append,args:=#[s,x],argTypes:=#[t,t] }) (ht : Tryz.prog.underlying t = some (.slice e))
  (hi : (Tryz.prog.info? e).map (fun i => (i.zero,i.size,i.bytes)) = some (some z,k,bytes)) (hzk : z.cells.size = k) (hk : 0 < k)
  (own : Nat → Nat) (l : Nat) (v : Value) (n : Nat) (ds : List Value) (hs : a.eval s = v) (hrow : Ro w own l e k v n ds)
  (ad : Addr) (m c : Nat) (news : List Value) (hx : a.eval x = .slice (some ad) m c) (hl : news.length = m * k) (hnews : ∀ j u,news[j]? = some u → w.cell? (ad.add j) = some u) (h1 : ∀ u ∈ news,u.oneCell' = true) (hm : 0 < m) (hlen : (n + m) * bytes ≤ 140737488355328) (h63 : n + m ≤ maxLen)
  (h : ∀ g cap w',Ro w' (relabel own w.heap.size l) l e k (.slice (some ⟨g,0,none⟩) (n + m) cap) (n + m) (ds ++ news) → Turn (· = l) w own w' (relabel own w.heap.size l) → g < w'.heap.size → wpList Tryz.prog ops Q rest (a.put o.dst (.slice (some ⟨g,0,none⟩) (n + m) cap)) w') :
  wpList Tryz.prog ops Q (o :: rest) a w:=by
 obtain ⟨i0,hi0,hz0,hz1,hz2⟩:=info_parts hi
 refine wpList_append_lies w hgd s x t ho 0 e i0 z k bytes ht hi0 hz0 hz1 hz2 hzk hk v n ds hs hrow.1 ad m c news hx hl hnews h1 hm h63 hlen (Nat.zero_le _) w.heap.size rfl ?_
 intro g cap w' h1 h2 h3 h4
 obtain ⟨k1,k2⟩:=hrow.push h1 h2 h3
 exact h g cap w' k1 k2 h4
end Go.Proofs.YtbnadlpkbbdgjaaGreatDoor



namespace Go.Proofs.YtbnadlpkbbdgjaaGreatDoor
open Go.RowKit

def nd (ns : List (List Int)) (k : Nat) : List Int:=ns.getD k []
/-- v reads as the ints xs -/
def Lst (w : World) (v : Value) (xs : List Int) : Prop :=
 ∃ A C,v = .slice A xs.length C ∧ xs.length ≤ maxLen ∧ ∀ c,c < xs.length → ∃ b o,A = some ⟨b,o,none⟩ ∧ w.cell? ⟨b,o + c,none⟩ = some (.int .i64 (xs.getD c 0))
/-- v reads as the rows ns -/
def Mat (w : World) (v : Value) (ns : List (List Int)) : Prop :=
 ∃ A C,v = .slice A ns.length C ∧ ns.length ≤ maxLen ∧ ∀ r,r < ns.length → ∃ b o u,A = some ⟨b,o,none⟩ ∧ w.cell? ⟨b,o + r,none⟩ = some u ∧ Lst w u (nd ns r)
theorem cell_lt {w : World} {b o : Nat} {u : Value} (h : w.cell? ⟨b,o,none⟩ = some u) : b < w.heap.size:=by
 rcases Nat.lt_or_ge b w.heap.size with hlt | hge
 ·exact hlt
 ·simp [World.cell?,Array.getElem?_eq_none hge] at h
section
variable {w w' : World} {v : Value} {xs : List Int} {ns : List (List Int)}
theorem Lst.below (h : Lst w v xs) (hb : Below w.heap.size w w') : Lst w' v xs:=by
 obtain ⟨A,C,h1,h2,h3⟩:=h
 refine ⟨A,C,h1,h2,fun c hc => ?_⟩
 obtain ⟨b,o,h4,h5⟩:=h3 c hc
 exact ⟨b,o,h4,(hb.cell (p:=⟨b,o + c,none⟩) (cell_lt h5)).trans h5⟩
theorem Mat.below (h : Mat w v ns) (hb : Below w.heap.size w w') : Mat w' v ns:=by
 obtain ⟨A,C,h1,h2,h3⟩:=h
 refine ⟨A,C,h1,h2,fun r hr => ?_⟩
 obtain ⟨b,o,u,h4,h5,h6⟩:=h3 r hr
 exact ⟨b,o,u,h4,(hb.cell (p:=⟨b,o + r,none⟩) (cell_lt h5)).trans h5,h6.below hb⟩
theorem Lst.is (h : Lst w v xs) : ∃ A C,v = .slice A xs.length C ∧ xs.length ≤ maxLen:=by
 obtain ⟨A,C,h1,h2,_⟩:=h
 exact ⟨A,C,h1,h2⟩
theorem Lst.at {A : Option Addr} {n C : Nat} (h : Lst w (.slice A n C) xs) {c : Nat} (hc : c < xs.length) : ∃ b o,A = some ⟨b,o,none⟩ ∧ w.cell? ⟨b,o + c,none⟩ = some (.int .i64 (xs.getD c 0)):=by
 obtain ⟨A',C',h1,_,h3⟩:=h
 injection h1 with e1 e2 e3
 subst e1
 exact h3 c hc
theorem Mat.at {A : Option Addr} {n C : Nat} (h : Mat w (.slice A n C) ns) {r : Nat} (hr : r < ns.length) : ∃ b o u,A = some ⟨b,o,none⟩ ∧ w.cell? ⟨b,o + r,none⟩ = some u ∧ Lst w u (nd ns r):=by
 obtain ⟨A',C',h1,_,h3⟩:=h
 injection h1 with e1 e2 e3
 subst e1
 exact h3 r hr
theorem Lst.drewN (h : Lst w v xs) (n : Nat) : Lst (w.drewN n) v xs:=h
theorem Mat.drewN (h : Mat w v ns) (n : Nat) : Mat (w.drewN n) v ns:=h
theorem Row.lst {o : Nat → Nat} {l : Nat} (h : Row w o l v xs) : Lst w v xs:=by
 rcases h.1.2 with ⟨rfl,h0⟩ | ⟨g,cap,cur,rfl,_,hg,h1,h2,h3,h4⟩
 ·exact ⟨none,0,by rw [h0],by rw [h0];exact Nat.zero_le _,fun c hc => absurd hc (by omega)⟩
 ·refine ⟨_,_,rfl,by omega,fun c hc => ?_⟩
  obtain ⟨g2,cap2,cs,e,k1,k2,k3,k4,k5⟩:=h.form (by omega)
  injection e with e1 e2 e3
  injection e1 with e1
  injection e1 with e1
  subst e1
  exact ⟨_,0,rfl,by rw [Nat.zero_add];exact k4.1.cell c (take_get k5 hc)⟩
end
end Go.Proofs.YtbnadlpkbbdgjaaGreatDoor



namespace Go.Proofs.YtbnadlpkbbdgjaaGreatDoor
open Go.RowKit

theorem Ro.cap {w : World} {o : Nat → Nat} {l k n C : Nat} {t : TypeId} {A : Option Addr} {cs : List Value} (h : Ro w o l t k (.slice A n C) n cs) : n ≤ C ∧ C ≤ maxLen:=by
 rcases h.1.2 with ⟨hv,h0⟩ | ⟨g,cap,cur,hv,_,hg,h1,h2,h3,h4⟩
 ·injection hv with e1 e2 e3
  subst e3
  exact ⟨by omega,Nat.zero_le _⟩
 ·injection hv with e1 e2 e3
  subst e3
  exact ⟨h1,h2⟩
theorem Ro.renum {w' : World} {o' : Nat → Nat} {l k n : Nat} {t : TypeId} {v : Value} {cs : List Value} (h : Ro w' o' l t k v n cs) {B : Nat} (hnew : ∀ g,o' g = l → B ≤ g) (o : Nat → Nat) (L : Nat) : Ro w' (relabel o B L) L t k v n cs:=⟨h.1,fun g hg => relabel_new (hnew g (h.2 g hg))⟩
theorem wpList_pushM {w : World} {ops : Array Oper} {rest : List Oper} {o : Oper} {a : Act} {Q : Exit → Act → World → Prop} (hgd : o.guard = none) (s x : Operand) (t e : TypeId) (k : Nat) (bytes : Nat) (z : Value)
  (ho : o.op = .call { callee:=.builtin .append,args:=#[s,x],argTypes:=#[t,t] }) (ht : Tryz.prog.underlying t = some (.slice e))
  (hi : (Tryz.prog.info? e).map (fun i => (i.zero,i.size,i.bytes)) = some (some z,k,bytes)) (hzk : z.cells.size = k) (hk : 0 < k)
  (own : Nat → Nat) (l : Nat) (v : Value) (n : Nat) (ds : List Value) (hs : a.eval s = v) (hrow : Ro w own l e k v n ds)
  (A : Option Addr) (m c : Nat) (news : List Value) (hx : a.eval x = .slice A m c) (hl : news.length = m * k) (hnews : 0 < m → ∃ ad,A = some ad ∧ ∀ j u,news[j]? = some u → w.cell? (ad.add j) = some u) (h1 : ∀ u ∈ news,u.oneCell' = true) (hlen : (n + m) * bytes ≤ 140737488355328) (h63 : n + m ≤ maxLen)
  (h : ∀ A' C' w',Ro w' (relabel own w.heap.size l) l e k (.slice A' (n + m) C') (n + m) (ds ++ news) → Turn (· = l) w own w' (relabel own w.heap.size l) → wpList Tryz.prog ops Q rest (a.put o.dst (.slice A' (n + m) C')) w') :
  wpList Tryz.prog ops Q (o :: rest) a w:=by
 rcases Nat.eq_zero_or_pos m with rfl | hm
 ·have hn : news = []:=List.eq_nil_of_length_eq_zero (by rw [hl,Nat.zero_mul])
  subst hn
  obtain ⟨i0,hi0,hz0,hz1,hz2⟩:=info_parts hi
  have hsrc : Src Tryz.prog i0.size t (.slice A 0 c) 0 [] w:=by
   cases A with
   | none => exact Src.ofNil w ht c
   | some ad => exact Src.ofSlice w ht ad 0 c [] (by simp) (fun j u hu => by simp at hu) (fun u hu => by cases hu)
  obtain ⟨A',C',rfl,hc⟩:=hrow.sl.is
  have hcap:=Ro.cap hrow
  have hr:=run_append_nothing (P:=Tryz.prog) w t t o.type e i0 ht hi0 A' n C' hcap.1 (.slice A 0 c) hsrc
  refine wpList_plain hgd fun K hK => ?_
  unfold Oper.wp execOp
  simp only [ho,resolve,invoke,builtin,Sem.run_bind,Sem.run_pure,Result.andThen_ok,List.map_toArray,List.map_cons,List.map_nil,hs,hx,hr]
  refine hK _ _ (h A' C' w ?_ ?_)
  ·rw [List.append_nil]
   exact ⟨hrow.1,fun g hg => by rw [relabel_old (hrow.1.lt g hg).2];exact hrow.2 g hg⟩
  ·exact (Turn.refl _ _ _).relabel (Nat.le_refl _) _
 ·obtain ⟨ad,rfl,hn⟩:=hnews hm
  exact wpList_pushR hgd s x t e k bytes z ho ht hi hzk hk own l v n ds hs hrow ad m c news hx hl hn h1 hm hlen h63 (fun g cap w' h1 h2 _ => h _ _ w' h1 h2)
/-- old blocks bear 0, the others 1 -/
def ob (B : Nat) : Nat → Nat:=fun k => if k < B then 0 else 1
theorem ob_low {B k : Nat} (h : k < B) : ob B k = 0:=if_pos h
theorem ob_up {B k : Nat} (h : B ≤ k) : ob B k = 1:=if_neg (by omega)
theorem ob_re {B n : Nat} (h : B ≤ n) : relabel (ob B) n 1 = ob B:=by
 funext k
 by_cases hk : k < n
 ·exact relabel_old hk
 ·rw [relabel_new (by omega),ob_up (by omega)]
/-- what is done to new blocks alone leaves the old ones -/
theorem ob_below {w0 w w' : World} (h : Turn (· = 1) w (ob w0.heap.size) w' (ob w0.heap.size)) (hb : Below w0.heap.size w0 w) : Below w0.heap.size w0 w' :=
 hb.trans (h.below (fun k hk => by rw [ob_low hk];decide) hb.size)
/-- a thing of the row is written over -/
theorem Ro.store {w : World} {o : Nat → Nat} {l k n C g : Nat} {t : TypeId} {cs : List Value} (h : Ro w o l t k (.slice (some ⟨g,0,none⟩) n C) n cs) {j : Nat} (hj : j < n * k) (u : Value) : Ro (w.setCell ⟨g,j,none⟩ u) o l t k (.slice (some ⟨g,0,none⟩) n C) n (cs.set j u):=by
 have hn : 0 < n:=by
  rcases Nat.eq_zero_or_pos n with e | e
  ·subst e;omega
  ·exact e
 obtain ⟨g',cap,cur,e,h1,h2,h3,h4,h5⟩:=h.form hn
 injection e with e1 e2 e3
 injection e1 with e1
 injection e1 with e1
 subst e1 e3
 refine Ro.of_block (h4.set_ j u) h1 h2 (by rw [List.length_set];exact h3) ?_
 rw [List.take_set,h5]
theorem Turn.store {w : World} {o : Nat → Nat} {l g j : Nat} (h : o g = l) (u : Value) : Turn (· = l) w o (w.setCell ⟨g,j,none⟩ u) o:=(Turn.refl _ _ _).setCell (.inr h) u
theorem add_nought (b j : Nat) : (⟨b,0,none⟩ : Addr).add j = ⟨b,j,none⟩:=by unfold Addr.add;split <;> simp_all
theorem ob_mono {w : World} {B B' : Nat} {t : TypeId} {k n : Nat} {v : Value} {cs : List Value} (h : Ro w (ob B) 1 t k v n cs) (hB : B' ≤ B) : Ro w (ob B') 1 t k v n cs :=
 ⟨h.1,fun g hg => by
  have:=h.2 g hg
  rcases Nat.lt_or_ge g B with h' | h'
  ·rw [ob_low h'] at this;cases this
  ·exact ob_up (by omega)⟩
theorem ob_kept {w w' : World} {B : Nat} {t : TypeId} {k n : Nat} {v : Value} {cs : List Value} (h : Ro w (ob B) 1 t k v n cs) (hb : Below w.heap.size w w') : Ro w' (ob B) 1 t k v n cs :=
 h.relab hb (fun _ _ e => e)
end Go.Proofs.YtbnadlpkbbdgjaaGreatDoor



namespace Go.Proofs.YtbnadlpkbbdgjaaGreatDoor
open Go.RowKit

theorem below_putObj {B : Nat} (W : World) (l : Nat) (o : Obj) (hl : B ≤ l) (hB : B ≤ W.heap.size) : Below B W (W.putObj l o) :=
 (Below.refl B W).grown (grownBy_putObj' W l o) hB (fun k e => by cases e;exact hl)
variable {F : Fence} {n : Nat} {P : Program}
end Go.Proofs.YtbnadlpkbbdgjaaGreatDoor



namespace Go.Proofs.YtbnadlpkbbdgjaaGreatDoor
open Go.RowKit

def marks (Ds : List Nat) : List Deferred:=Ds.map fun D => { target:=.collected D,args:=#[] }
end Go.Proofs.YtbnadlpkbbdgjaaGreatDoor



namespace Go.Proofs.YtbnadlpkbbdgjaaGreatDoor
open Go.RowKit

/-- what an iterator promises that keeps its state in blocks of its own -/
def SeqC {α : Type} (F : Fence) (n : Nat) (P : Program) (g : Nat) (lb : Array Value) (encs : α → Array Value) (Kp : World → World → Prop) (S Sp : List α → Prop) (N : Nat) (w : World) : Prop :=
 ∀ (l : Nat) (J Jx : List α → World → Prop) (W : World),Below w.heap.size w W → (∀ s A B,J s A → Below A.heap.size A B → J s B) → (∀ s A B,Jx s A → Below A.heap.size A B → Jx s B) →
  (∀ pre x W1,J pre W1 → Sp (pre ++ [x]) → YieldAt F (n - 1) P l (encs x) W1 fun e W' =>
   (e = .returned (.bool true) ∧ J (pre ++ [x]) W' ∧ Kp W1 W') ∨ (e = .returned (.bool false) ∧ Jx (pre ++ [x]) W')) →
  J [] W →
  CallsIn F n P g (#[.func (.yield l) #[] #[]] ++ lb) W fun e W' => (∃ v,e = .returned v) ∧ ((∃ xs,S xs ∧ J xs W') ∨ (∃ pre,Sp pre ∧ Jx pre W'))
variable {F : Fence} {n : Nat} {P : Program}
theorem wpIn_rangeC {α : Type} {g : Operand} {ps : Array Tmp} {assign body : Code} {Q : Exit → Act → World → Prop} {a : Act} {w : World}
  (hro : F.round = none) (h1 : 1 ≤ n) {gf : Nat} {lb : Array Value} (hg : a.eval g = .func (.func gf) #[] lb) (hFg : F.fn gf) (eg : ∀ args w,(callFunc gf args).run P w = .ok (.enter gf args) w)
  {encs : α → Array Value} {Kp : World → World → Prop} {S Sp : List α → Prop} {N : Nat} {w0 : World} (hseq : SeqC F (n - 1) P gf lb encs Kp S Sp N w0)
  (hKt : ∀ {A B C : World},Kp A B → Kp B C → Kp A C) (hKb : ∀ (W : World) (l : Nat) (o o' : Obj),w.heap.size ≤ l → W.heap[l]? = some o → o.isCells = false → Kp W (W.putObj l o')) (hb0 : Below w0.heap.size w0 w) (hps : ∀ x,(encs x).size = ps.size)
  (I : List α → World → Prop) (Ix : Code → List α → World → Prop) (hI : ∀ s A B,I s A → Below A.heap.size A B → I s B) (hIx : ∀ c s A B,Ix c s A → Below A.heap.size A B → Ix c s B) (hIp : ∀ s A o,I s A → I s (A.putObj (w.heap.size + 1) o)) (hIxp : ∀ c s A o,Ix c s A → Ix c s (A.putObj (w.heap.size + 1) o)) (h0 : I [] w) (a₁ : α → World → Act) (wa : α → World → World) (hwa : ∀ x W,Below W.heap.size W (wa x W)) (hKa : ∀ x W,w.heap.size ≤ W.heap.size → Kp W (wa x W))
  (hassign : ∀ (l : Nat) (x : α) (W : World) (K : Act → World → Prop),K (a₁ x W) (wa x W) →
   assign.wpIn (F.inRound l) (n - 1 - 1) P (Exit.then K (fun _ _ _ => False)) { tmps:=(ps.zip (encs x)).foldl (fun t (p,v) => t.setIfInBounds p v) a.tmps,defers:=[] } W)
  (hbody : ∀ (l : Nat) (pre : List α) (x : α) (W : World),I pre W → Sp (pre ++ [x]) → w.heap.size + 2 ≤ W.heap.size → ∀ W2,(∃ o,W2 = (wa x W).putObj (w.heap.size + 1) o) → I pre W2 → body.wpIn (F.inRound l) (n - 1 - 1) P (ownPostK Kp I Ix (pre ++ [x]) W2) (a₁ x W) W2)
  (hdone : ∀ (xs : List α) (W : World),S xs → I xs W → W.heap[w.heap.size]? = some (.deferred (some [])) → Q .normal { a with defers:={ target:=.collected w.heap.size,args:=#[] } :: a.defers } W)
  (hstop : ∀ (c : Code) (pre : List α) (W : World),Sp pre → Ix c pre W → W.heap[w.heap.size]? = some (.deferred (some [])) → c.wpIn F n P Q { a with defers:={ target:=.collected w.heap.size,args:=#[] } :: a.defers } W) :
  (Code.rangeFunc g ps assign body).wpIn F n P Q a w:=by
 refine wpIn_rangeFunc fun fn hfn => ?_
 rw [hro]
 obtain ⟨B0,hB0⟩ : ∃ B,B = w.heap.size:=⟨_,rfl⟩
 obtain ⟨rc,hrc⟩ : ∃ rc : LoopState → Option Code → Loop,rc = fun st pe => { state:=st,pending:=pe,fn,tmps:=a.tmps,params:=ps,assign,body,defers:=B0 }:=⟨_,rfl⟩
 obtain ⟨W1,hW1⟩ : ∃ W,W = (w.alloc (.deferred (some []))).alloc (.loop (rc .ready none)):=⟨_,rfl⟩
 have sW : W1.heap.size = B0 + 2:=by rw [hW1,World.size_alloc,World.size_alloc,← hB0]
 have bW : Below B0 w W1:=by rw [hW1,hB0];exact ((Below.refl _ w).alloc (Nat.le_refl _) _).alloc (by simp) _
 have lW : W1.heap[B0 + 1]? = some (.loop (rc .ready none)):=by
  have h:=World.alloc_heap_new (w.alloc (.deferred (some []))) (.loop (rc .ready none))
  rw [World.size_alloc,← hB0] at h
  rw [hW1];exact h
 have dW : W1.heap[B0]? = some (.deferred (some [])):=by
  have h:=World.alloc_heap_new w (.deferred (some []))
  rw [← hB0] at h
  rw [hW1];exact (Below.heap_alloc _ _ _ (by rw [World.size_alloc,← hB0];exact Nat.lt_succ_self _)).trans h
 rw [← hB0] at hIp hIxp hdone hstop hKb
 refine ⟨B0 + 1,[{ target:=.collected B0,args:=#[] }],W1,{ target:=.fn (.func gf) lb,args:=#[.func (.yield (B0 + 1)) #[] #[]] },W1,gf,#[.func (.yield (B0 + 1)) #[] #[]] ++ lb,W1, ?_, ?_, ?_, ?_,fun _ => h1, ?_⟩
 ·rw [hW1,hrc,hB0]
  exact run_enterLoop_outer _ _ _ _ _
 ·simp only [resolve,hg]
  simp [go_sem]
 ·intro f' hf'
  simp [Target.leads] at hf'
  subst hf'
  exact hFg
 ·simp [invoke,go_sem,eg]
 ·refine (hseq (B0 + 1) (fun pre W => I pre W ∧ W.heap[B0 + 1]? = some (.loop (rc .ready none)) ∧ W.heap[B0]? = some (.deferred (some []))) (fun pre W => ∃ c,Ix c pre W ∧ W.heap[B0 + 1]? = some (.loop (rc .done (some c))) ∧ W.heap[B0]? = some (.deferred (some []))) W1 ?_ ?_ ?_ ?_ ⟨hI _ _ _ h0 (by rw [← hB0];exact bW),lW,dW⟩).mono ?_
  ·exact hb0.trans (bW.mono (by rw [hB0];exact hb0.size))
  ·rintro s A B ⟨h2,h3,h4⟩ hb
   exact ⟨hI s A B h2 hb,(hb.block _ (Array.getElem?_eq_some_iff.1 h3).1).trans h3,(hb.block _ (Array.getElem?_eq_some_iff.1 h4).1).trans h4⟩
  ·rintro s A B ⟨c,h2,h3,h4⟩ hb
   exact ⟨c,hIx c s A B h2 hb,(hb.block _ (Array.getElem?_eq_some_iff.1 h3).1).trans h3,(hb.block _ (Array.getElem?_eq_some_iff.1 h4).1).trans h4⟩
  ·rintro pre x W ⟨hi,hl,hd⟩ hlen
   have hlt : B0 + 1 < W.heap.size:=(Array.getElem?_eq_some_iff.1 hl).1
   have hy:=run_yield (P:=P) (args:=encs x) hl (by rw [hrc];exact hps x)
   rw [hrc] at hy
   obtain ⟨Wa,hWa⟩ : ∃ V,V = wa x W:=⟨_,rfl⟩
   have ba : Below W.heap.size W Wa:=by rw [hWa];exact hwa x W
   have la : Wa.heap[B0 + 1]? = some (.loop (rc .ready none)):=(ba.block _ hlt).trans hl
   have da : Wa.heap[B0]? = some (.deferred (some [])):=(ba.block _ (by omega)).trans hd
   have hlta : B0 + 1 < Wa.heap.size:=(Array.getElem?_eq_some_iff.1 la).1
   obtain ⟨W2,hW2⟩ : ∃ V,V = Wa.putObj (B0 + 1) (.loop { rc .ready none with state:=.busy }):=⟨_,rfl⟩
   have b2 : Below B0 Wa W2:=by rw [hW2];exact below_putObj Wa _ _ (by omega) (by omega)
   have l2 : W2.heap[B0 + 1]? = some (.loop { rc .ready none with state:=.busy }):=by rw [hW2];exact World.putObj_heap_same hlta
   have d2 : W2.heap[B0]? = some (.deferred (some [])):=by rw [hW2];exact (World.putObj_heap_other (by omega)).trans da
   have kWa : Kp W Wa:=by rw [hWa];exact hKa x W (by rw [← hB0];omega)
   have kWb : Kp Wa W2:=by rw [hW2];exact hKb _ _ _ _ (by omega) la rfl
   have k2 : Kp W W2:=hKt kWa kWb
   refine ⟨fn,_,assign,body,hy,roundIn_of_wpIn hfn (hassign _ x W _ ?_)⟩
   rw [← hWa]
   refine ⟨W2, ?_, ?_⟩
   ·rw [hW2]
    exact run_beginRound la (by rw [hrc])
   ·have fin : ∀ (jump : Option Code) (W3 : World),KeepsOthers W2 W3 → ∃ W4,(Instr.endRound (B0 + 1) jump).run P W3 = .ok (.bool jump.isNone) W4 ∧ (∃ o,W4 = W3.putObj (B0 + 1) o) ∧ W4.heap[B0 + 1]? = some (.loop (rc (if jump.isNone then .ready else .done) jump)) ∧ W4.heap[B0]? = some (.deferred (some [])) ∧ Kp W3 W4:=fun jump W3 hk3 => by
     have hl3:=hk3.same _ _ l2 rfl
     have hd3:=hk3.same _ _ d2 rfl
     have hlt3:=(Array.getElem?_eq_some_iff.1 hl3).1
     have hr:=run_endRound (P:=P) jump hl3
     rw [hrc] at hr hl3 ⊢
     exact ⟨_,hr,⟨_,rfl⟩,World.putObj_heap_same hlt3,(World.putObj_heap_other (by omega)).trans hd3,hKb _ _ _ _ (by omega) hl3 rfl⟩
    refine wpIn_mono (hbody _ pre x W hi hlen (by rw [← hB0];exact hlt) W2 ⟨_,by rw [← hWa,← hB0];exact hW2⟩ (by rw [hW2];exact hIp _ _ _ (hI _ _ _ hi ba))) ?_
    rintro e a3 W3 hp
    cases e with
    | normal =>
     obtain ⟨q1,q2,q3⟩:=hp
     obtain ⟨W4,r1,⟨o,r2⟩,r3,r4,r5⟩:=fin none W3 q1
     exact ⟨_,W4,r1,.inl ⟨rfl,⟨by rw [r2];exact hIp _ _ _ q3,r3,r4⟩,hKt (hKt k2 q2) r5⟩⟩
    | ret =>
     obtain ⟨q1,q3⟩:=hp
     obtain ⟨W4,r1,⟨o,r2⟩,r3,r4,r5⟩:=fin (some .ret) W3 q1
     exact ⟨_,W4,r1,.inr ⟨rfl,.ret,by rw [r2];exact hIxp _ _ _ _ q3,r3,r4⟩⟩
    | exit id =>
     obtain ⟨q1,q3⟩:=hp
     obtain ⟨W4,r1,⟨o,r2⟩,r3,r4,r5⟩:=fin (some (.exit id)) W3 q1
     exact ⟨_,W4,r1,.inr ⟨rfl,.exit id,by rw [r2];exact hIxp _ _ _ _ q3,r3,r4⟩⟩
    | goto t =>
     obtain ⟨q1,q3⟩:=hp
     obtain ⟨W4,r1,⟨o,r2⟩,r3,r4,r5⟩:=fin (some (.goto t)) W3 q1
     exact ⟨_,W4,r1,.inr ⟨rfl,.goto t,by rw [r2];exact hIxp _ _ _ _ q3,r3,r4⟩⟩
    | panic ch => exact hp.elim
    | outgrown => exact hp.elim
  ·rintro e W2 ⟨⟨v,rfl⟩,(⟨xs,hS,hi,hl,hd⟩ | ⟨pre,hSp,c,hi,hl,hd⟩)⟩
   ·have hlt:=(Array.getElem?_eq_some_iff.1 hl).1
    have he:=run_endLoop (P:=P) hl (by rw [hrc];simp)
    rw [hrc] at he
    exact ⟨none,_,he,hdone xs _ hS (hIp _ _ _ hi) ((World.putObj_heap_other (by omega)).trans hd)⟩
   ·have hlt:=(Array.getElem?_eq_some_iff.1 hl).1
    have he:=run_endLoop (P:=P) hl (by rw [hrc];simp)
    rw [hrc] at he
    exact ⟨some c,_,he,hstop c pre _ hSp (hIxp _ _ _ _ hi) ((World.putObj_heap_other (by omega)).trans hd)⟩
end Go.Proofs.YtbnadlpkbbdgjaaGreatDoor



namespace Go.Proofs.YtbnadlpkbbdgjaaGreatDoor
open Go.RowKit

def lg (ls : List (List VD)) (r : Nat) : List VD:=ls.getD r []
/-- rows of values -/
def Lls (w : World) (v : Value) (ls : List (List VD)) : Prop:=∃ A C,v = .slice A ls.length C ∧ (ls.length ≤ 1048576 ∧ ls.length ≤ C ∧ C ≤ maxLen) ∧ ∀ r,r < ls.length → ∃ b o B D,A = some ⟨b,o,none⟩ ∧ w.cell? ⟨b,o + r,none⟩ = some (.slice B (lg ls r).length D) ∧ Vls (RV w) w (.slice B (lg ls r).length D) (lg ls r)
theorem Lls.below {w w' : World} {v : Value} {ls : List (List VD)} (h : Lls w v ls) (hb : Below w.heap.size w w') : Lls w' v ls:=by
 obtain ⟨A,C,h1,h2,h3⟩:=h
 refine ⟨A,C,h1,h2,fun r hr => ?_⟩
 obtain ⟨b,o,B,D,h4,h5,h6⟩:=h3 r hr
 exact ⟨b,o,B,D,h4,(hb.cell (p:=⟨b,o + r,none⟩) (vcell_lt h5)).trans h5,h6.kept hb⟩
theorem Lls.is {w : World} {v : Value} {ls : List (List VD)} (h : Lls w v ls) : ∃ A C,v = .slice A ls.length C ∧ ls.length ≤ 1048576 ∧ ls.length ≤ C ∧ C ≤ maxLen:=by
 obtain ⟨A,C,h1,h2,_⟩:=h
 exact ⟨A,C,h1,h2⟩
theorem Lls.at {w : World} {ls : List (List VD)} {A : Option Addr} {n C : Nat} (h : Lls w (.slice A n C) ls) {r : Nat} (hr : r < ls.length) : ∃ b o B D,A = some ⟨b,o,none⟩ ∧ w.cell? ⟨b,o + r,none⟩ = some (.slice B (lg ls r).length D) ∧ Vls (RV w) w (.slice B (lg ls r).length D) (lg ls r):=by
 obtain ⟨A',C',h1,_,h3⟩:=h
 injection h1 with e1 e2 e3
 subst e1
 exact h3 r hr
end Go.Proofs.YtbnadlpkbbdgjaaGreatDoor

