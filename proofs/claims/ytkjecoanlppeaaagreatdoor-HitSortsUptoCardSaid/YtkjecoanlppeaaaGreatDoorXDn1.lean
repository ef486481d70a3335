/- What this law reaches beyond the common contracts, part 1. -/
import Init.Omega
import Derived.Laws.AppendOwn
import Derived.WalkKit
import Derived.Lib.TrimUEq
import Derived.Lib.ValidU
import Derived.Shelf.GgClosure.StringsIndexFunc
import Derived.Deep.OwnRows
import Derived.RegionTactic
import Derived.ChangeAlike
import Derived.Test.YtkjecoanlppeaaaGreatDoorM1
set_option linter.unusedSimpArgs false
set_option linter.unusedVariables false


namespace Go.Proofs.YtkjecoanlppeaaaGreatDoor

theorem wd_make (x y : Int) (hx0 : 0 ≤ x) (hx : x < 18446744073709551616) (hy0 : 0 ≤ y) (hy : y < 18446744073709551616) :
  ∃ n : Nat,n < 2 ^ 128 ∧ (n : Int) = x * 18446744073709551616 + y ∧ x = wd n 1 ∧ y = wd n 0:=by
 refine ⟨(x * 18446744073709551616 + y).toNat,by omega,by omega, ?_, ?_⟩
 ·rw [wd1];omega
 ·rw [wd0];omega
end Go.Proofs.YtkjecoanlppeaaaGreatDoor



namespace Go.Proofs.YtkjecoanlppeaaaGreatDoor
open Go.RowKit

theorem Stk.len {w0 : World} {vs : List Value} {td : List (List VD)} (h : Stk w0 vs td) : vs.length = td.length:=by
 induction h with
 | nil=>rfl
 | snoc _ _ _ ih=>simp [ih]
end Go.Proofs.YtkjecoanlppeaaaGreatDoor



namespace Go.Proofs.YtkjecoanlppeaaaGreatDoor
open Go.RowKit

theorem srt_le (rk : Nat → List Nat) (n : Nat) : (srtL rk n).Pairwise fun x y=>cfR rk x.val y.val ≤ 0:=by
 have h:=List.pairwise_mergeSort (le:=fun x y : Fin n=>!decide (cfR rk y.val x.val < 0)) ?_ ?_ (List.finRange n)
 ·refine List.Pairwise.imp ?_ h
  intro a b hab
  simp only [Bool.not_eq_true',decide_eq_false_iff_not] at hab
  rw [cfR_neg];omega
 ·intro a b c h1 h2
  simp only [Bool.not_eq_true',decide_eq_false_iff_not] at h1 h2 ⊢
  intro h3
  by_cases hbc : cfR rk b.val c.val = 0
  ·rw [cfR_zero hbc] at h1;exact h1 h3
  ·have h4 : cfR rk b.val c.val < 0:=by have:=cfR_neg rk b.val c.val;omega
   exact h1 (cfR_trans h4 h3)
 ·intro a b
  simp only [Bool.or_eq_true,Bool.not_eq_true',decide_eq_false_iff_not]
  have:=cfR_neg rk a.val b.val
  omega
theorem srt_nodup (rk : Nat → List Nat) (n : Nat) : (srtL rk n).Nodup:=by
 have h : (srtL rk n).Perm (List.finRange n):=List.mergeSort_perm _ _
 exact h.nodup_iff.2 (List.nodup_finRange n)
theorem srt_lt (rk : Nat → List Nat) (n : Nat) : (srtL rk n).Pairwise fun x y=>cfR rk x.val y.val < 0:=by
 have h:=(srt_le rk n).and (srt_nodup rk n)
 refine h.imp ?_
 rintro a b ⟨h1,h2⟩
 have : cfR rk a.val b.val ≠ 0:=fun e=>h2 (Fin.ext (cfR_zero e))
 omega
theorem srt_pair (rk : Nat → List Nat) (n : Nat) : (srt rk n).Pairwise fun x y=>cfR rk x y < 0:=by
 unfold srt
 rw [List.pairwise_map]
 exact srt_lt rk n
def sgR (rk : Nat → List Nat) (n k : Nat) : Nat:=(srt rk n).getD k 0
theorem sg_lt {rk : Nat → List Nat} {n k : Nat} (h : k < n) : sgR rk n k < n:=by
 have : sgR rk n k ∈ srt rk n:=by
  unfold sgR
  rw [List.getD_eq_getElem?_getD,List.getElem?_eq_getElem (by rw [srt_len];exact h)]
  exact List.getElem_mem _
 exact srt_mem.1 this
theorem srt_drop {rk : Nat → List Nat} {n k : Nat} (h : k < n) : (srt rk n).drop k = sgR rk n k :: (srt rk n).drop (k + 1):=by
 rw [List.drop_eq_getElem_cons (by rw [srt_len];exact h)]
 unfold sgR
 rw [List.getD_eq_getElem?_getD,List.getElem?_eq_getElem (by rw [srt_len];exact h)];rfl
theorem srt_take {rk : Nat → List Nat} {n k : Nat} (h : k < n) : (srt rk n).take (k + 1) = (srt rk n).take k ++ [sgR rk n k]:=by
 rw [List.take_succ_eq_append_getElem (by rw [srt_len];exact h)]
 unfold sgR
 rw [List.getD_eq_getElem?_getD,List.getElem?_eq_getElem (by rw [srt_len];exact h)];rfl
theorem srt_min {rk : Nat → List Nat} {n k i : Nat} (hk : k < n) (hi : i < n) (hn : i ∉ (srt rk n).take k) : i = sgR rk n k ∨ cfR rk (sgR rk n k) i < 0:=by
 have hm : i ∈ (srt rk n).drop k:=by
  have:=srt_mem (rk:=rk).2 hi
  rw [← List.take_append_drop k (srt rk n),List.mem_append] at this
  exact this.resolve_left hn
 rw [srt_drop hk] at hm
 rcases List.mem_cons.1 hm with h | h
 ·exact .inl h
 ·right
  have hp : ((srt rk n).drop k).Pairwise fun x y=>cfR rk x y < 0:=(srt_pair rk n).sublist (List.drop_sublist k _)
  rw [srt_drop hk] at hp
  exact (List.pairwise_cons.1 hp).1 i h
theorem srt_free {rk : Nat → List Nat} {n k : Nat} (hk : k < n) : sgR rk n k ∉ (srt rk n).take k:=by
 intro hm
 have hp:=srt_pair rk n
 rw [← List.take_append_drop k (srt rk n),List.pairwise_append] at hp
 have:=hp.2.2 _ hm (sgR rk n k) (by rw [srt_drop hk];exact List.mem_cons_self ..)
 rw [cfR_self] at this
 omega
end Go.Proofs.YtkjecoanlppeaaaGreatDoor



namespace Go.Proofs.YtkjecoanlppeaaaGreatDoor
open Go.Lib

instance (c : Nat) : Decidable (chrP c):=by unfold chrP;infer_instance
theorem txtF_more : ∀ (f : Nat) (l : List UInt8),l.length ≤ f → ztxtF (f + 1) l = ztxtF f l
 | 0,l,h=>by
  have : l = []:=List.length_eq_zero_iff.1 (by omega)
  subst this;rfl
 | f + 1,l,h=>by
  show (if l = [] then true else if (oneL l).2.2 = true ∧ chrP (oneL l).1 then ztxtF (f + 1) (l.drop (oneL l).2.1) else false) = (if l = [] then true else if (oneL l).2.2 = true ∧ chrP (oneL l).1 then ztxtF f (l.drop (oneL l).2.1) else false)
  by_cases e : l = []
  ·rw [if_pos e,if_pos e]
  ·rw [if_neg e,if_neg e]
   by_cases hk : (oneL l).2.2 = true ∧ chrP (oneL l).1
   ·rw [if_pos hk,if_pos hk]
    have:=oneN_pos (n:=l.length) hk.1
    refine txtF_more f _ ?_
    rw [List.length_drop]
    have hl : 0 < l.length:=List.length_pos_iff.2 e
    unfold oneL
    omega
   ·rw [if_neg hk,if_neg hk]
theorem txtF_eq {l : List UInt8} : ∀ f,l.length ≤ f → ztxtF f l = ztxt l
 | 0,h=>by
  have : l.length = 0:=by omega
  unfold ztxt;rw [this]
 | f + 1,h=>by
  by_cases e : l.length = f + 1
  ·unfold ztxt;rw [e]
  ·rw [txtF_more f l (by omega),txtF_eq f (by omega)]
end Go.Proofs.YtkjecoanlppeaaaGreatDoor



namespace Go.Proofs.YtkjecoanlppeaaaGreatDoor

def Small (n : Nat) : Prop:=True → n < 10 ^ 1000
theorem getD_lt (l : List Int) (k : Nat) (h : k < l.length) : l.getD k 0 = l[k]:=by
 rw [List.getD_eq_getElem?_getD,List.getElem?_eq_getElem h];rfl
theorem ten_mono {a b : Nat} (h : a ≤ b) : (10 : Int) ^ a ≤ 10 ^ b:=by
 have:=Nat.pow_le_pow_right (n:=10) (by decide) h
 exact_mod_cast this
theorem dval_append (a b : List Int) : dval (a ++ b) = dval a + 10 ^ a.length * dval b:=by
 induction a with
 | nil=>simp [dval]
 | cons d r ih =>
  simp only [List.cons_append,dval,ih,List.length_cons,Int.pow_succ]
  rw [Int.mul_add,Int.mul_comm (10 ^ r.length) 10,Int.mul_assoc];omega
theorem dval_snoc (a : List Int) (x : Int) : dval (a ++ [x]) = dval a + 10 ^ a.length * x:=by
 rw [dval_append];simp [dval]
theorem ten_pos (k : Nat) : (0 : Int) < 10 ^ k:=Int.pow_pos (by decide)
theorem Digs.get {a : List Int} (h : Digs a) (k : Nat) : 0 ≤ a.getD k 0 ∧ a.getD k 0 ≤ 9:=by
 rw [List.getD_eq_getElem?_getD]
 rcases hk : a[k]? with _ | x
 ·simp
 ·exact h x (List.mem_of_getElem? hk)
theorem dval_bd {a : List Int} (h : Digs a) : 0 ≤ dval a ∧ dval a < 10 ^ a.length:=by
 induction a with
 | nil=>simp [dval]
 | cons d r ih =>
  have h1:=ih fun x hx=>h x (List.mem_cons_of_mem _ hx)
  have h2:=h d List.mem_cons_self
  simp only [dval,List.length_cons,Int.pow_succ]
  omega
theorem take_snoc_int (l : List Int) (k : Nat) (h : k < l.length) : l.take (k + 1) = l.take k ++ [l.getD k 0]:=by
 rw [List.take_succ_eq_append_getElem h,getD_lt _ _ h]
theorem dval_take_succ (l : List Int) (k : Nat) (h : k < l.length) : dval (l.take (k + 1)) = dval (l.take k) + 10 ^ k * l.getD k 0:=by
 rw [take_snoc_int l k h,dval_snoc,List.length_take,Nat.min_eq_left (by omega)]
theorem dval_drop (l : List Int) (k : Nat) (h : k < l.length) : dval (l.drop k) = l.getD k 0 + 10 * dval (l.drop (k + 1)):=by
 rw [List.drop_eq_getElem_cons h,getD_lt _ _ h];rfl
theorem IsDg.len_le {l : List Int} {n k : Nat} (h : IsDg l n) (hn : n < 10 ^ k) : l.length ≤ k:=by
 obtain ⟨hd,ht,hv⟩:=h
 rcases Nat.lt_or_ge k l.length with hk | hk
 ·exfalso
  have hne : l ≠ []:=by intro e;subst e;simp at hk
  obtain ⟨i,x,rfl⟩ : ∃ i x,l = i ++ [x]:=⟨l.dropLast,l.getLast hne,(List.dropLast_concat_getLast hne).symm⟩
  have hx:=hd x (by simp)
  have hx0 : x ≠ 0:=by intro e;subst e;exact ht (by simp)
  have hb:=dval_bd (a:=i) fun d hd'=>hd d (by simp [hd'])
  rw [dval_snoc] at hv
  simp only [List.length_append,List.length_cons,List.length_nil] at hk
  have hp : (10 : Int) ^ k ≤ 10 ^ i.length:=ten_mono (by omega)
  have hm : (10 : Int) ^ i.length * 1 ≤ 10 ^ i.length * x:=Int.mul_le_mul_of_nonneg_left (by omega) (Int.le_of_lt (ten_pos _))
  have hn' : (n : Int) < 10 ^ k:=by exact_mod_cast hn
  omega
 ·exact hk
theorem IsDg.lt_of_len {l : List Int} {n k : Nat} (h : IsDg l n) (hk : l.length ≤ k) : n < 10 ^ k:=by
 obtain ⟨hd,_,hv⟩:=h
 have hb:=dval_bd hd
 have hp : (10 : Int) ^ l.length ≤ 10 ^ k:=ten_mono hk
 have : (n : Int) < 10 ^ k:=by omega
 exact_mod_cast this
theorem IsDg.zero_iff {l : List Int} {n : Nat} (h : IsDg l n) : l.length = 0 ↔ n = 0:=by
 constructor
 ·intro h0
  have:=h.lt_of_len (k:=0) (by omega)
  simpa using this
 ·intro h0;subst h0
  have:=h.len_le (k:=0) (by simp)
  omega
theorem IsDg.get {l : List Int} {n : Nat} (h : IsDg l n) (k : Nat) : 0 ≤ l.getD k 0 ∧ l.getD k 0 ≤ 9:=h.1.get k
theorem dval_digit {l : List Int} (h : Digs l) (k : Nat) (hk : k < l.length) : l.getD k 0 = dval l / 10 ^ k % 10:=by
 have e:=dval_append (l.take k) (l.drop k)
 rw [List.take_append_drop,List.length_take,Nat.min_eq_left (by omega),dval_drop l k hk] at e
 have hb:=dval_bd (h.take k)
 rw [List.length_take,Nat.min_eq_left (by omega)] at hb
 have hp:=ten_pos k
 have hg:=h.get k
 have : dval l / 10 ^ k = l.getD k 0 + 10 * dval (l.drop (k + 1)):=by
  rw [e,Int.add_mul_ediv_left _ _ (by omega),Int.ediv_eq_zero_of_lt hb.1 hb.2,Int.zero_add]
 rw [this];omega
theorem IsDg.le_of_ne {l : List Int} {n : Nat} (h : IsDg l n) (hne : l ≠ []) : 10 ^ (l.length - 1) ≤ n:=by
 rcases Nat.lt_or_ge n (10 ^ (l.length - 1)) with hlt | hge
 ·have:=h.len_le hlt
  have : l.length ≠ 0:=fun e=>hne (List.length_eq_zero_iff.1 e)
  omega
 ·exact hge
theorem top_of_val {l : List Int} (hd : Digs l) (h : l = [] ∨ (10 : Int) ^ (l.length - 1) ≤ dval l) : Top l:=by
 rcases h with rfl | h
 ·simp [Top]
 ·by_cases hne : l = []
  ·subst hne;simp [Top]
  ·obtain ⟨i,x,rfl⟩ : ∃ i x,l = i ++ [x]:=⟨l.dropLast,l.getLast hne,(List.dropLast_concat_getLast hne).symm⟩
   have hb:=dval_bd (a:=i) fun d hd'=>hd d (by simp [hd'])
   rw [dval_snoc] at h
   simp only [List.length_append,List.length_cons,List.length_nil,Nat.add_sub_cancel] at h
   unfold Top
   intro e
   have hx : x = 0:=by simpa using e
   subst hx
   omega
theorem carry_step (P s : Int) : P * (s % 10) + P * 10 * (s / 10) = P * s:=by
 rw [Int.mul_assoc,← Int.mul_add,Int.emod_add_mul_ediv]
end Go.Proofs.YtkjecoanlppeaaaGreatDoor



namespace Go.Proofs.YtkjecoanlppeaaaGreatDoor

def IsNd (N L : Nat) : Prop:=1 ≤ L ∧ N < 10 ^ L ∧ (L = 1 ∨ 10 ^ (L - 1) ≤ N)
theorem IsNd.le {N L M : Nat} (h : IsNd N L) (hM : 1 ≤ M) (hN : N < 10 ^ M) : L ≤ M:=by
 obtain ⟨h1,h2,h3⟩:=h
 rcases h3 with h3 | h3
 ·omega
 ·have:=pow_lt10 (Nat.lt_of_le_of_lt h3 hN)
  omega
end Go.Proofs.YtkjecoanlppeaaaGreatDoor



namespace Go.Proofs.YtkjecoanlppeaaaGreatDoor
open Go.RowKit

set_option maxHeartbeats 400000 in
theorem letter_any (c : UInt8) (w : World) : Calls Tryz.prog 72 #[.int .u8 c.toNat] w fun e w'=>e = .returned (.bool (ltr c)) ∧ w = w':=by
 have hc:=UInt8.toNat_lt c
 go_enter Tryz.func72,Tryz.ntmps72
 go_wp2
 all_goals go_ret
 all_goals refine ⟨ret_bool ?_,rfl⟩
 all_goals rw [Bool.eq_iff_iff]
 all_goals simp [ltr]
 all_goals (first | done | omega | (simp_all;done) | (simp_all;omega))
set_option maxHeartbeats 400000 in
theorem digit_any (c : UInt8) (w : World) : Calls Tryz.prog 74 #[.int .u8 c.toNat] w fun e w'=>e = .returned (.bool (dgt c)) ∧ w = w':=by
 have hc:=UInt8.toNat_lt c
 go_enter Tryz.func74,Tryz.ntmps74
 go_wp2
 all_goals go_ret
 all_goals refine ⟨ret_bool ?_,rfl⟩
 all_goals rw [Bool.eq_iff_iff]
 all_goals simp [dgt]
 all_goals (first | done | omega | (simp_all;done) | (simp_all;omega))
set_option maxHeartbeats 1000000 in
theorem rword_any (l : List UInt8) (w : World) : Calls Tryz.prog 73 #[.string ⟨l.toArray⟩] w fun e w'=>e = .returned (.bool (words.contains l)) ∧ w = w':=by
 obtain ⟨z,hz⟩ : ∃ z,z = words.contains l:=⟨_,rfl⟩
 rw [← hz]
 have HZ:=Far.mk hz
 clear hz
 go_enter Tryz.func73,Tryz.ntmps73
 go_wp2
 all_goals go_ret
 all_goals refine ⟨ret_bool ?_,rfl⟩
 all_goals rw [HZ.out]
 all_goals clear HZ
 all_goals simp_all [words,List.contains_cons]
theorem bytes_at {l : List UInt8} {t : Nat} (hlt : t < l.length) : t < (⟨l.toArray⟩ : ByteArray).size ∧ ∀ h : t < (⟨l.toArray⟩ : ByteArray).size,(⟨l.toArray⟩ : ByteArray)[t] = l.getD t 0:=by
 refine ⟨by show t < l.toArray.size;simpa using hlt,fun _=>?_⟩
 rw [List.getD_eq_getElem?_getD,List.getElem?_eq_getElem hlt];rfl
set_option maxHeartbeats 1000000 in
theorem rname4_any (l : List UInt8) (hl : l.length ≤ 9223372036854775807) (w : World) : Calls Tryz.prog 42 #[.string ⟨l.toArray⟩] w fun e w'=>e = .returned (.bool (nam l)) ∧ w = w':=by
 have HW:=Lib.hid (rword_any l w)
 by_cases h1 : l = []
 ·have HE:=Lib.hid (name_bad (.inl h1))
  subst h1
  clear hl HW
  go_enter Tryz.func42,Tryz.ntmps42
  go_wp2_with fail
  go_ret
  exact ⟨rfl,rfl⟩
 have e1 : l.isEmpty = false:=by simpa using h1
 by_cases h2 : 64 < l.length
 ·have HE:=Lib.hid (name_bad (.inr (.inl h2)))
  have h2' : 64 < (l.length : Int):=by omega
  clear HW h2
  go_enter Tryz.func42,Tryz.ntmps42
  go_wp2_with fail
  go_ret
  exact ⟨ret_bool HE.out.symm,rfl⟩
 have h2' : ¬ 64 < (l.length : Int):=by omega
 have hp : 0 < l.length:=List.length_pos_iff.2 h1
 obtain ⟨g1,g2⟩:=bytes_at hp
 have hg : l[0]'hp = l.getD 0 0:=by rw [List.getD_eq_getElem?_getD,List.getElem?_eq_getElem hp];rfl
 have HL:=fun W=>letter_any (l.getD 0 0) W
 rw [← g2 g1] at HL
 obtain ⟨y,hy⟩ : ∃ y,y = ltr (l.getD 0 0):=⟨_,rfl⟩
 have HLT : Hid (∀ W,Calls Tryz.prog 72 #[.int .u8 ((⟨l.toArray⟩ : ByteArray)[0]'g1).toNat] W fun e w'=>e = .returned (.bool y) ∧ W = w'):=Lib.hid (fun W=>by rw [hy,← g2 g1];exact HL W)
 have HY:=Lib.hid hy
 clear HL g2 hy hg
 obtain ⟨z,hz⟩ : ∃ z,z = words.contains l:=⟨_,rfl⟩
 rw [← hz] at HW
 have HZ:=Lib.hid hz
 have H1:=Lib.hid h1
 have H2:=Lib.hid h2
 clear hz h2
 cases y with
 | false =>
  have HE : Hid (nam l = false):=Lib.hid (name_at hp HY.out.symm (.inl rfl))
  go_enter Tryz.func42,Tryz.ntmps42
  go_wp2_with fail
  refine (HLT.out _).mono ?_
  rintro _ _ ⟨rfl,rfl⟩
  go_wp2_with fail
  go_ret
  exact ⟨ret_bool HE.out.symm,rfl⟩
 | true =>
  cases z with
  | true =>
   have HE:=Lib.hid (name_bad (.inr (.inr HZ.out.symm)))
   go_enter Tryz.func42,Tryz.ntmps42
   go_wp2_with fail
   refine (HLT.out _).mono ?_
   rintro _ _ ⟨rfl,rfl⟩
   go_wp2_with fail
   refine HW.out.mono ?_
   rintro _ _ ⟨rfl,rfl⟩
   go_wp2_with fail
   go_ret
   exact ⟨ret_bool HE.out.symm,rfl⟩
  | false =>
   go_enter Tryz.func42,Tryz.ntmps42
   go_wp2_with fail
   refine (HLT.out _).mono ?_
   rintro _ _ ⟨rfl,rfl⟩
   go_wp2_with fail
   refine HW.out.mono ?_
   rintro _ _ ⟨rfl,rfl⟩
   go_wp2_with fail
   go_loopg [3] (l.length - 1) (fun k i wr=>∃ t : Nat,k + t = l.length ∧ 1 ≤ t ∧ i = .int .i64 t ∧ Hid (∀ k,k < t → ltr (l.getD k 0) = true ∨ (k ≠ 0 ∧ dgt (l.getD k 0) = true)) ∧ w = wr)
   case atStart =>
    refine ⟨1,by omega,by omega,rfl,Lib.hid (fun k hk=>?_),rfl⟩
    obtain rfl : k = 0:=by omega
    exact .inl HY.out.symm
   case round =>
    obtain ⟨t,hk,ht1,rfl,HA,rfl⟩:=hrel
    have HK:=Lib.hid hk
    have htn : t ≤ l.length:=by omega
    clear hk
    by_cases hlt : t < l.length
    ·obtain ⟨g3,g4⟩:=bytes_at hlt
     have hg : l[t]'hlt = l.getD t 0:=by rw [List.getD_eq_getElem?_getD,List.getElem?_eq_getElem hlt];rfl
     obtain ⟨c,hc⟩ : ∃ c,c = l.getD t 0:=⟨_,rfl⟩
     have HL1:=Lib.hid (letter_any c w)
     have HD1:=Lib.hid (digit_any c w)
     obtain ⟨yl,hyl⟩ : ∃ y,y = ltr c:=⟨_,rfl⟩
     obtain ⟨yd,hyd⟩ : ∃ y,y = dgt c:=⟨_,rfl⟩
     rw [← hyl] at HL1
     rw [← hyd] at HD1
     have HYL : Hid (ltr (l.getD t 0) = yl):=Lib.hid (by rw [← hc,hyl])
     have HYD : Hid (dgt (l.getD t 0) = yd):=Lib.hid (by rw [← hc,hyd])
     have hcc : (⟨l.toArray⟩ : ByteArray)[t] = c:=by rw [hc];exact g4 g3
     clear g4 hg hyl hyd hc
     cases yl with
     | true =>
      go_wp2_with fail
      refine HL1.out.mono ?_
      rintro _ _ ⟨rfl,rfl⟩
      go_wp2_with fail
      go_roundg (gk - 1)
      case measure=>have:=HK.out;omega
      case rel=>exact ⟨t + 1,by have:=HK.out;omega,by omega,by go_num,Lib.hid (fun k hk=>by
       by_cases e : k = t
       ·subst e;exact .inl HYL.out
       ·exact HA.out k (by omega)),rfl⟩
     | false =>
      cases yd with
      | true =>
       go_wp2_with fail
       refine HL1.out.mono ?_
       rintro _ _ ⟨rfl,rfl⟩
       go_wp2_with fail
       refine HD1.out.mono ?_
       rintro _ _ ⟨rfl,rfl⟩
       go_wp2_with fail
       go_roundg (gk - 1)
       case measure=>have:=HK.out;omega
       case rel=>exact ⟨t + 1,by have:=HK.out;omega,by omega,by go_num,Lib.hid (fun k hk=>by
        by_cases e : k = t
        ·subst e;exact .inr ⟨by omega,HYD.out⟩
        ·exact HA.out k (by omega)),rfl⟩
      | false =>
       have HE : Hid (nam l = false):=Lib.hid (name_at hlt HYL.out (.inr HYD.out))
       go_wp2_with fail
       refine HL1.out.mono ?_
       rintro _ _ ⟨rfl,rfl⟩
       go_wp2_with fail
       refine HD1.out.mono ?_
       rintro _ _ ⟨rfl,rfl⟩
       go_wp2_with fail
       go_ret
       exact ⟨ret_bool HE.out.symm,rfl⟩
    ·have HE : Hid (nam l = true):=Lib.hid (name_ok H1.out (by have:=H2.out;omega) HZ.out.symm (fun k hk=>HA.out k (by omega)))
     go_wp2_with fail
     go_ret
     exact ⟨ret_bool HE.out.symm,rfl⟩
set_option maxHeartbeats 400000 in
theorem ris_any (d : Int) (w : World) : Calls Tryz.prog 103 #[.int .i64 d] w fun e w'=>e = .returned (.bool (dayB d)) ∧ w = w':=by
 go_enter Tryz.func103,Tryz.ntmps103
 go_wp2
 all_goals go_ret
 all_goals refine ⟨ret_bool ?_,rfl⟩
 all_goals rw [Bool.eq_iff_iff]
 all_goals simp [dayB]
 all_goals (first | done | omega | (simp_all;done) | (simp_all;omega))
end Go.Proofs.YtkjecoanlppeaaaGreatDoor



namespace Go.Proofs.YtkjecoanlppeaaaGreatDoor
open Go.RowKit

set_option maxHeartbeats 4000000 in
theorem rbare_any (s : VS) (l : List VD) (nm : List (List UInt8)) (A : Option Addr) (C : Nat) (A2 : Option Addr) (C2 : Nat) (hl : l.length ≤ 1048576) (hn : nm.length ≤ 1048576) (w : World) :
  Calls Tryz.prog 100 #[vagg s (.slice A l.length C) (.slice A2 nm.length C2)] w fun e w'=>e = .returned (.bool (bareQ s l.length nm.length (5 ≤ s.kind))) ∧ Below w.heap.size w w':=by
 obtain ⟨z,hz⟩ : ∃ z,z = bareQ s l.length nm.length (5 ≤ s.kind):=⟨_,rfl⟩
 have hz2:=bareQ_iff (s:=s) (ll:=l.length) (nl:=nm.length) (q:=5 ≤ s.kind)
 rw [← hz] at hz2
 rw [← hz]
 obtain ⟨zb,hzb⟩ : ∃ zb,zb = zn s:=⟨_,rfl⟩
 rw [← hzb] at hz2
 obtain ⟨kind,yes,neg,coef,sc,text,day⟩:=s
 unfold vagg
 dsimp only at hz2 ⊢
 have r1 : ∀ W,(binOp .eql 32 (.agg #[.bool neg,.int .u64 (wd coef 1),.int .u64 (wd coef 0),.int .i64 sc]) (.agg #[.bool false,.int .u64 0,.int .u64 0,.int .i64 0])).run Tryz.prog W = .ok (.bool zb) W:=fun W=>by rw [veq_dec,hzb];rfl
 have r2 : ∀ W,(binOp .neq 32 (.agg #[.bool neg,.int .u64 (wd coef 1),.int .u64 (wd coef 0),.int .i64 sc]) (.agg #[.bool false,.int .u64 0,.int .u64 0,.int .i64 0])).run Tryz.prog W = .ok (.bool (!zb)) W:=fun W=>by rw [vneq_dec,hzb];rfl
 obtain ⟨x1,hx1⟩ : ∃ x1,x1 = wd coef 1:=⟨_,rfl⟩
 obtain ⟨x0,hx0⟩ : ∃ x0,x0 = wd coef 0:=⟨_,rfl⟩
 rw [← hx1,← hx0] at r1 r2
 rw [← hx1,← hx0]
 obtain ⟨ll,hll⟩ : ∃ ll,ll = l.length:=⟨_,rfl⟩
 obtain ⟨nl,hnl⟩ : ∃ nl,nl = nm.length:=⟨_,rfl⟩
 rw [← hll] at hl hz2
 rw [← hnl] at hn hz2
 rw [← hll,← hnl]
 have HZ:=Lib.hid hz2
 clear hz hz2 hzb hx1 hx0 hll hnl
 have hk : kind = 1 ∨ kind = 2 ∨ kind = 3 ∨ kind = 4 ∨ kind = 5 ∨ kind = 6 ∨ kind ≤ 0 ∨ 7 ≤ kind:=by omega
 rcases hk with rfl | rfl | rfl | rfl | rfl | rfl | hk | hk
 ·have tokc : (0 : Int) = 0:=rfl
  clear tokc
  cases zb with
  | false =>
   have hzz : z = false:=by
    cases z with
    | false=>rfl
    | true=>obtain ⟨g1,g2,g3,g4,g5,g6⟩:=HZ.out.1 rfl;exfalso;rcases g2 with g | g <;> first | omega | exact Bool.noConfusion g
   subst hzz
   clear HZ
   go_enter Tryz.func100,Tryz.ntmps100
   go_wp2_with fail
   all_goals (go_ret;exact ⟨rfl,by (repeat' first|(with_reducible first|exact blR _ _|assumption|refine blD ?_|refine blN ?_ _)|((with_reducible first|refine blA ?_ ?_ _|refine blS ?_ ?_ _|refine blT (by assumption) ?_ ?_);focus (go_size;done)))⟩)
  | true =>
   by_cases ht : text = []
   rotate_left
   ·have t1 : text.isEmpty = false:=by simpa using ht
    have hzz : z = false:=by
     cases z with
     | false=>rfl
     | true=>obtain ⟨g1,g2,g3,g4,g5,g6⟩:=HZ.out.1 rfl;exfalso;rcases g3 with g | g <;> first | omega | exact ht g
    subst hzz
    clear HZ
    go_enter Tryz.func100,Tryz.ntmps100
    go_wp2_with fail
    all_goals (go_ret;exact ⟨rfl,by (repeat' first|(with_reducible first|exact blR _ _|assumption|refine blD ?_|refine blN ?_ _)|((with_reducible first|refine blA ?_ ?_ _|refine blS ?_ ?_ _|refine blT (by assumption) ?_ ?_);focus (go_size;done)))⟩)
   subst ht
   by_cases hd : day = 0
   rotate_left
   ·have d1 : (day == 0) = false:=by rw [beq_eq_false_iff_ne];exact hd
    have d2 : (day != 0) = true:=by rw [bne_iff_ne];exact hd
    have hzz : z = false:=by
     cases z with
     | false=>rfl
     | true=>obtain ⟨g1,g2,g3,g4,g5,g6⟩:=HZ.out.1 rfl;exfalso;rcases g4 with g | g <;> first | omega | exact hd g
    subst hzz
    clear HZ
    go_enter Tryz.func100,Tryz.ntmps100
    go_wp2_with fail
    all_goals (go_ret;exact ⟨rfl,by (repeat' first|(with_reducible first|exact blR _ _|assumption|refine blD ?_|refine blN ?_ _)|((with_reducible first|refine blA ?_ ?_ _|refine blS ?_ ?_ _|refine blT (by assumption) ?_ ?_);focus (go_size;done)))⟩)
   subst hd
   by_cases hl0 : ll = 0
   rotate_left
   ·have l1 : ((ll : Int) == 0) = false:=by rw [beq_eq_false_iff_ne];omega
    have hzz : z = false:=by
     cases z with
     | false=>rfl
     | true=>obtain ⟨g1,g2,g3,g4,g5,g6⟩:=HZ.out.1 rfl;exfalso;rcases g5 with g | g <;> omega
    subst hzz
    clear HZ
    go_enter Tryz.func100,Tryz.ntmps100
    go_wp2_with fail
    all_goals (go_ret;exact ⟨rfl,by (repeat' first|(with_reducible first|exact blR _ _|assumption|refine blD ?_|refine blN ?_ _)|((with_reducible first|refine blA ?_ ?_ _|refine blS ?_ ?_ _|refine blT (by assumption) ?_ ?_);focus (go_size;done)))⟩)
   subst hl0
   by_cases hn0 : nl = 0
   rotate_left
   ·have l1 : ((nl : Int) == 0) = false:=by rw [beq_eq_false_iff_ne];omega
    have l2 : (0 : Int) < (nl : Int):=by omega
    have hzz : z = false:=by
     cases z with
     | false=>rfl
     | true=>obtain ⟨g1,g2,g3,g4,g5,g6⟩:=HZ.out.1 rfl;exfalso;rcases g6 with g | g <;> omega
    subst hzz
    clear HZ
    go_enter Tryz.func100,Tryz.ntmps100
    go_wp2_with fail
    all_goals (go_ret;exact ⟨rfl,by (repeat' first|(with_reducible first|exact blR _ _|assumption|refine blD ?_|refine blN ?_ _)|((with_reducible first|refine blA ?_ ?_ _|refine blS ?_ ?_ _|refine blT (by assumption) ?_ ?_);focus (go_size;done)))⟩)
   subst hn0
   have hzz : z = true:=by
    refine HZ.out.2 ⟨?_, ?_, ?_, ?_, ?_, ?_⟩ <;> first | (left;omega) | (right;first | rfl | assumption | omega)
   subst hzz
   clear HZ
   go_enter Tryz.func100,Tryz.ntmps100
   go_wp2_with fail
   all_goals (go_ret;exact ⟨rfl,by (repeat' first|(with_reducible first|exact blR _ _|assumption|refine blD ?_|refine blN ?_ _)|((with_reducible first|refine blA ?_ ?_ _|refine blS ?_ ?_ _|refine blT (by assumption) ?_ ?_);focus (go_size;done)))⟩)
 ·have tokc : (0 : Int) = 0:=rfl
  clear tokc
  cases yes with
  | true =>
   have hzz : z = false:=by
    cases z with
    | false=>rfl
    | true=>obtain ⟨g1,g2,g3,g4,g5,g6⟩:=HZ.out.1 rfl;exfalso;rcases g1 with g | g <;> first | omega | exact Bool.noConfusion g
   subst hzz
   clear HZ
   go_enter Tryz.func100,Tryz.ntmps100
   go_wp2_with fail
   all_goals (go_ret;exact ⟨rfl,by (repeat' first|(with_reducible first|exact blR _ _|assumption|refine blD ?_|refine blN ?_ _)|((with_reducible first|refine blA ?_ ?_ _|refine blS ?_ ?_ _|refine blT (by assumption) ?_ ?_);focus (go_size;done)))⟩)
  | false =>
   by_cases ht : text = []
   rotate_left
   ·have t1 : text.isEmpty = false:=by simpa using ht
    have hzz : z = false:=by
     cases z with
     | false=>rfl
     | true=>obtain ⟨g1,g2,g3,g4,g5,g6⟩:=HZ.out.1 rfl;exfalso;rcases g3 with g | g <;> first | omega | exact ht g
    subst hzz
    clear HZ
    go_enter Tryz.func100,Tryz.ntmps100
    go_wp2_with fail
    all_goals (go_ret;exact ⟨rfl,by (repeat' first|(with_reducible first|exact blR _ _|assumption|refine blD ?_|refine blN ?_ _)|((with_reducible first|refine blA ?_ ?_ _|refine blS ?_ ?_ _|refine blT (by assumption) ?_ ?_);focus (go_size;done)))⟩)
   subst ht
   by_cases hd : day = 0
   rotate_left
   ·have d1 : (day == 0) = false:=by rw [beq_eq_false_iff_ne];exact hd
    have d2 : (day != 0) = true:=by rw [bne_iff_ne];exact hd
    have hzz : z = false:=by
     cases z with
     | false=>rfl
     | true=>obtain ⟨g1,g2,g3,g4,g5,g6⟩:=HZ.out.1 rfl;exfalso;rcases g4 with g | g <;> first | omega | exact hd g
    subst hzz
    clear HZ
    go_enter Tryz.func100,Tryz.ntmps100
    go_wp2_with fail
    all_goals (go_ret;exact ⟨rfl,by (repeat' first|(with_reducible first|exact blR _ _|assumption|refine blD ?_|refine blN ?_ _)|((with_reducible first|refine blA ?_ ?_ _|refine blS ?_ ?_ _|refine blT (by assumption) ?_ ?_);focus (go_size;done)))⟩)
   subst hd
   by_cases hl0 : ll = 0
   rotate_left
   ·have l1 : ((ll : Int) == 0) = false:=by rw [beq_eq_false_iff_ne];omega
    have hzz : z = false:=by
     cases z with
     | false=>rfl
     | true=>obtain ⟨g1,g2,g3,g4,g5,g6⟩:=HZ.out.1 rfl;exfalso;rcases g5 with g | g <;> omega
    subst hzz
    clear HZ
    go_enter Tryz.func100,Tryz.ntmps100
    go_wp2_with fail
    all_goals (go_ret;exact ⟨rfl,by (repeat' first|(with_reducible first|exact blR _ _|assumption|refine blD ?_|refine blN ?_ _)|((with_reducible first|refine blA ?_ ?_ _|refine blS ?_ ?_ _|refine blT (by assumption) ?_ ?_);focus (go_size;done)))⟩)
   subst hl0
   by_cases hn0 : nl = 0
   rotate_left
   ·have l1 : ((nl : Int) == 0) = false:=by rw [beq_eq_false_iff_ne];omega
    have l2 : (0 : Int) < (nl : Int):=by omega
    have hzz : z = false:=by
     cases z with
     | false=>rfl
     | true=>obtain ⟨g1,g2,g3,g4,g5,g6⟩:=HZ.out.1 rfl;exfalso;rcases g6 with g | g <;> omega
    subst hzz
    clear HZ
    go_enter Tryz.func100,Tryz.ntmps100
    go_wp2_with fail
    all_goals (go_ret;exact ⟨rfl,by (repeat' first|(with_reducible first|exact blR _ _|assumption|refine blD ?_|refine blN ?_ _)|((with_reducible first|refine blA ?_ ?_ _|refine blS ?_ ?_ _|refine blT (by assumption) ?_ ?_);focus (go_size;done)))⟩)
   subst hn0
   have hzz : z = true:=by
    refine HZ.out.2 ⟨?_, ?_, ?_, ?_, ?_, ?_⟩ <;> first | (left;omega) | (right;first | rfl | assumption | omega)
   subst hzz
   clear HZ
   go_enter Tryz.func100,Tryz.ntmps100
   go_wp2_with fail
   all_goals (go_ret;exact ⟨rfl,by (repeat' first|(with_reducible first|exact blR _ _|assumption|refine blD ?_|refine blN ?_ _)|((with_reducible first|refine blA ?_ ?_ _|refine blS ?_ ?_ _|refine blT (by assumption) ?_ ?_);focus (go_size;done)))⟩)
 ·have tokc : (0 : Int) = 0:=rfl
  clear tokc
  cases yes with
  | true =>
   have hzz : z = false:=by
    cases z with
    | false=>rfl
    | true=>obtain ⟨g1,g2,g3,g4,g5,g6⟩:=HZ.out.1 rfl;exfalso;rcases g1 with g | g <;> first | omega | exact Bool.noConfusion g
   subst hzz
   clear HZ
   go_enter Tryz.func100,Tryz.ntmps100
   go_wp2_with fail
   all_goals (go_ret;exact ⟨rfl,by (repeat' first|(with_reducible first|exact blR _ _|assumption|refine blD ?_|refine blN ?_ _)|((with_reducible first|refine blA ?_ ?_ _|refine blS ?_ ?_ _|refine blT (by assumption) ?_ ?_);focus (go_size;done)))⟩)
  | false =>
   cases zb with
   | false =>
    have hzz : z = false:=by
     cases z with
     | false=>rfl
     | true=>obtain ⟨g1,g2,g3,g4,g5,g6⟩:=HZ.out.1 rfl;exfalso;rcases g2 with g | g <;> first | omega | exact Bool.noConfusion g
    subst hzz
    clear HZ
    go_enter Tryz.func100,Tryz.ntmps100
    go_wp2_with fail
    all_goals (go_ret;exact ⟨rfl,by (repeat' first|(with_reducible first|exact blR _ _|assumption|refine blD ?_|refine blN ?_ _)|((with_reducible first|refine blA ?_ ?_ _|refine blS ?_ ?_ _|refine blT (by assumption) ?_ ?_);focus (go_size;done)))⟩)
   | true =>
    by_cases hd : day = 0
    rotate_left
    ·have d1 : (day == 0) = false:=by rw [beq_eq_false_iff_ne];exact hd
     have d2 : (day != 0) = true:=by rw [bne_iff_ne];exact hd
     have hzz : z = false:=by
      cases z with
      | false=>rfl
      | true=>obtain ⟨g1,g2,g3,g4,g5,g6⟩:=HZ.out.1 rfl;exfalso;rcases g4 with g | g <;> first | omega | exact hd g
     subst hzz
     clear HZ
     go_enter Tryz.func100,Tryz.ntmps100
     go_wp2_with fail
     all_goals (go_ret;exact ⟨rfl,by (repeat' first|(with_reducible first|exact blR _ _|assumption|refine blD ?_|refine blN ?_ _)|((with_reducible first|refine blA ?_ ?_ _|refine blS ?_ ?_ _|refine blT (by assumption) ?_ ?_);focus (go_size;done)))⟩)
    subst hd
    by_cases hl0 : ll = 0
    rotate_left
    ·have l1 : ((ll : Int) == 0) = false:=by rw [beq_eq_false_iff_ne];omega
     have hzz : z = false:=by
      cases z with
      | false=>rfl
      | true=>obtain ⟨g1,g2,g3,g4,g5,g6⟩:=HZ.out.1 rfl;exfalso;rcases g5 with g | g <;> omega
     subst hzz
     clear HZ
     go_enter Tryz.func100,Tryz.ntmps100
     go_wp2_with fail
     all_goals (go_ret;exact ⟨rfl,by (repeat' first|(with_reducible first|exact blR _ _|assumption|refine blD ?_|refine blN ?_ _)|((with_reducible first|refine blA ?_ ?_ _|refine blS ?_ ?_ _|refine blT (by assumption) ?_ ?_);focus (go_size;done)))⟩)
    subst hl0
    by_cases hn0 : nl = 0
    rotate_left
    ·have l1 : ((nl : Int) == 0) = false:=by rw [beq_eq_false_iff_ne];omega
     have l2 : (0 : Int) < (nl : Int):=by omega
     have hzz : z = false:=by
      cases z with
      | false=>rfl
      | true=>obtain ⟨g1,g2,g3,g4,g5,g6⟩:=HZ.out.1 rfl;exfalso;rcases g6 with g | g <;> omega
     subst hzz
     clear HZ
     go_enter Tryz.func100,Tryz.ntmps100
     go_wp2_with fail
     all_goals (go_ret;exact ⟨rfl,by (repeat' first|(with_reducible first|exact blR _ _|assumption|refine blD ?_|refine blN ?_ _)|((with_reducible first|refine blA ?_ ?_ _|refine blS ?_ ?_ _|refine blT (by assumption) ?_ ?_);focus (go_size;done)))⟩)
    subst hn0
    have hzz : z = true:=by
     refine HZ.out.2 ⟨?_, ?_, ?_, ?_, ?_, ?_⟩ <;> first | (left;omega) | (right;first | rfl | assumption | omega)
    subst hzz
    clear HZ
    go_enter Tryz.func100,Tryz.ntmps100
    go_wp2_with fail
    all_goals (go_ret;exact ⟨rfl,by (repeat' first|(with_reducible first|exact blR _ _|assumption|refine blD ?_|refine blN ?_ _)|((with_reducible first|refine blA ?_ ?_ _|refine blS ?_ ?_ _|refine blT (by assumption) ?_ ?_);focus (go_size;done)))⟩)
 ·have tokc : (0 : Int) = 0:=rfl
  clear tokc
  cases yes with
  | true =>
   have hzz : z = false:=by
    cases z with
    | false=>rfl
    | true=>obtain ⟨g1,g2,g3,g4,g5,g6⟩:=HZ.out.1 rfl;exfalso;rcases g1 with g | g <;> first | omega | exact Bool.noConfusion g
   subst hzz
   clear HZ
   go_enter Tryz.func100,Tryz.ntmps100
   go_wp2_with fail
   all_goals (go_ret;exact ⟨rfl,by (repeat' first|(with_reducible first|exact blR _ _|assumption|refine blD ?_|refine blN ?_ _)|((with_reducible first|refine blA ?_ ?_ _|refine blS ?_ ?_ _|refine blT (by assumption) ?_ ?_);focus (go_size;done)))⟩)
  | false =>
   cases zb with
   | false =>
    have hzz : z = false:=by
     cases z with
     | false=>rfl
     | true=>obtain ⟨g1,g2,g3,g4,g5,g6⟩:=HZ.out.1 rfl;exfalso;rcases g2 with g | g <;> first | omega | exact Bool.noConfusion g
    subst hzz
    clear HZ
    go_enter Tryz.func100,Tryz.ntmps100
    go_wp2_with fail
    all_goals (go_ret;exact ⟨rfl,by (repeat' first|(with_reducible first|exact blR _ _|assumption|refine blD ?_|refine blN ?_ _)|((with_reducible first|refine blA ?_ ?_ _|refine blS ?_ ?_ _|refine blT (by assumption) ?_ ?_);focus (go_size;done)))⟩)
   | true =>
    by_cases ht : text = []
    rotate_left
    ·have t1 : text.isEmpty = false:=by simpa using ht
     have hzz : z = false:=by
      cases z with
      | false=>rfl
      | true=>obtain ⟨g1,g2,g3,g4,g5,g6⟩:=HZ.out.1 rfl;exfalso;rcases g3 with g | g <;> first | omega | exact ht g
     subst hzz
     clear HZ
     go_enter Tryz.func100,Tryz.ntmps100
     go_wp2_with fail
     all_goals (go_ret;exact ⟨rfl,by (repeat' first|(with_reducible first|exact blR _ _|assumption|refine blD ?_|refine blN ?_ _)|((with_reducible first|refine blA ?_ ?_ _|refine blS ?_ ?_ _|refine blT (by assumption) ?_ ?_);focus (go_size;done)))⟩)
    subst ht
    by_cases hl0 : ll = 0
    rotate_left
    ·have l1 : ((ll : Int) == 0) = false:=by rw [beq_eq_false_iff_ne];omega
     have hzz : z = false:=by
      cases z with
      | false=>rfl
      | true=>obtain ⟨g1,g2,g3,g4,g5,g6⟩:=HZ.out.1 rfl;exfalso;rcases g5 with g | g <;> omega
     subst hzz
     clear HZ
     go_enter Tryz.func100,Tryz.ntmps100
     go_wp2_with fail
     all_goals (go_ret;exact ⟨rfl,by (repeat' first|(with_reducible first|exact blR _ _|assumption|refine blD ?_|refine blN ?_ _)|((with_reducible first|refine blA ?_ ?_ _|refine blS ?_ ?_ _|refine blT (by assumption) ?_ ?_);focus (go_size;done)))⟩)
    subst hl0
    by_cases hn0 : nl = 0
    rotate_left
    ·have l1 : ((nl : Int) == 0) = false:=by rw [beq_eq_false_iff_ne];omega
     have l2 : (0 : Int) < (nl : Int):=by omega
     have hzz : z = false:=by
      cases z with
      | false=>rfl
      | true=>obtain ⟨g1,g2,g3,g4,g5,g6⟩:=HZ.out.1 rfl;exfalso;rcases g6 with g | g <;> omega
     subst hzz
     clear HZ
     go_enter Tryz.func100,Tryz.ntmps100
     go_wp2_with fail
     all_goals (go_ret;exact ⟨rfl,by (repeat' first|(with_reducible first|exact blR _ _|assumption|refine blD ?_|refine blN ?_ _)|((with_reducible first|refine blA ?_ ?_ _|refine blS ?_ ?_ _|refine blT (by assumption) ?_ ?_);focus (go_size;done)))⟩)
    subst hn0
    have hzz : z = true:=by
     refine HZ.out.2 ⟨?_, ?_, ?_, ?_, ?_, ?_⟩ <;> first | (left;omega) | (right;first | rfl | assumption | omega)
    subst hzz
    clear HZ
    go_enter Tryz.func100,Tryz.ntmps100
    go_wp2_with fail
    all_goals (go_ret;exact ⟨rfl,by (repeat' first|(with_reducible first|exact blR _ _|assumption|refine blD ?_|refine blN ?_ _)|((with_reducible first|refine blA ?_ ?_ _|refine blS ?_ ?_ _|refine blT (by assumption) ?_ ?_);focus (go_size;done)))⟩)
 ·have tokc : (0 : Int) = 0:=rfl
  clear tokc
  cases yes with
  | true =>
   have hzz : z = false:=by
    cases z with
    | false=>rfl
    | true=>obtain ⟨g1,g2,g3,g4,g5,g6⟩:=HZ.out.1 rfl;exfalso;rcases g1 with g | g <;> first | omega | exact Bool.noConfusion g
   subst hzz
   clear HZ
   go_enter Tryz.func100,Tryz.ntmps100
   go_wp2_with fail
   all_goals (go_ret;exact ⟨rfl,by (repeat' first|(with_reducible first|exact blR _ _|assumption|refine blD ?_|refine blN ?_ _)|((with_reducible first|refine blA ?_ ?_ _|refine blS ?_ ?_ _|refine blT (by assumption) ?_ ?_);focus (go_size;done)))⟩)
  | false =>
   cases zb with
   | false =>
    have hzz : z = false:=by
     cases z with
     | false=>rfl
     | true=>obtain ⟨g1,g2,g3,g4,g5,g6⟩:=HZ.out.1 rfl;exfalso;rcases g2 with g | g <;> first | omega | exact Bool.noConfusion g
    subst hzz
    clear HZ
    go_enter Tryz.func100,Tryz.ntmps100
    go_wp2_with fail
    all_goals (go_ret;exact ⟨rfl,by (repeat' first|(with_reducible first|exact blR _ _|assumption|refine blD ?_|refine blN ?_ _)|((with_reducible first|refine blA ?_ ?_ _|refine blS ?_ ?_ _|refine blT (by assumption) ?_ ?_);focus (go_size;done)))⟩)
   | true =>
    by_cases ht : text = []
    rotate_left
    ·have t1 : text.isEmpty = false:=by simpa using ht
     have hzz : z = false:=by
      cases z with
      | false=>rfl
      | true=>obtain ⟨g1,g2,g3,g4,g5,g6⟩:=HZ.out.1 rfl;exfalso;rcases g3 with g | g <;> first | omega | exact ht g
     subst hzz
     clear HZ
     go_enter Tryz.func100,Tryz.ntmps100
     go_wp2_with fail
     all_goals (go_ret;exact ⟨rfl,by (repeat' first|(with_reducible first|exact blR _ _|assumption|refine blD ?_|refine blN ?_ _)|((with_reducible first|refine blA ?_ ?_ _|refine blS ?_ ?_ _|refine blT (by assumption) ?_ ?_);focus (go_size;done)))⟩)
    subst ht
    by_cases hd : day = 0
    rotate_left
    ·have d1 : (day == 0) = false:=by rw [beq_eq_false_iff_ne];exact hd
     have d2 : (day != 0) = true:=by rw [bne_iff_ne];exact hd
     have hzz : z = false:=by
      cases z with
      | false=>rfl
      | true=>obtain ⟨g1,g2,g3,g4,g5,g6⟩:=HZ.out.1 rfl;exfalso;rcases g4 with g | g <;> first | omega | exact hd g
     subst hzz
     clear HZ
     go_enter Tryz.func100,Tryz.ntmps100
     go_wp2_with fail
     all_goals (go_ret;exact ⟨rfl,by (repeat' first|(with_reducible first|exact blR _ _|assumption|refine blD ?_|refine blN ?_ _)|((with_reducible first|refine blA ?_ ?_ _|refine blS ?_ ?_ _|refine blT (by assumption) ?_ ?_);focus (go_size;done)))⟩)
    subst hd
    by_cases hn0 : nl = 0
    rotate_left
    ·have l1 : ((nl : Int) == 0) = false:=by rw [beq_eq_false_iff_ne];omega
     have l2 : (0 : Int) < (nl : Int):=by omega
     have hzz : z = false:=by
      cases z with
      | false=>rfl
      | true=>obtain ⟨g1,g2,g3,g4,g5,g6⟩:=HZ.out.1 rfl;exfalso;rcases g6 with g | g <;> omega
     subst hzz
     clear HZ
     go_enter Tryz.func100,Tryz.ntmps100
     go_wp2_with fail
     all_goals (go_ret;exact ⟨rfl,by (repeat' first|(with_reducible first|exact blR _ _|assumption|refine blD ?_|refine blN ?_ _)|((with_reducible first|refine blA ?_ ?_ _|refine blS ?_ ?_ _|refine blT (by assumption) ?_ ?_);focus (go_size;done)))⟩)
    subst hn0
    have hzz : z = true:=by
     refine HZ.out.2 ⟨?_, ?_, ?_, ?_, ?_, ?_⟩ <;> first | (left;omega) | (right;first | rfl | assumption | omega)
    subst hzz
    clear HZ
    go_enter Tryz.func100,Tryz.ntmps100
    go_wp2_with fail
    all_goals (go_ret;exact ⟨rfl,by (repeat' first|(with_reducible first|exact blR _ _|assumption|refine blD ?_|refine blN ?_ _)|((with_reducible first|refine blA ?_ ?_ _|refine blS ?_ ?_ _|refine blT (by assumption) ?_ ?_);focus (go_size;done)))⟩)
 ·have tokc : (0 : Int) = 0:=rfl
  clear tokc
  cases yes with
  | true =>
   have hzz : z = false:=by
    cases z with
    | false=>rfl
    | true=>obtain ⟨g1,g2,g3,g4,g5,g6⟩:=HZ.out.1 rfl;exfalso;rcases g1 with g | g <;> first | omega | exact Bool.noConfusion g
   subst hzz
   clear HZ
   go_enter Tryz.func100,Tryz.ntmps100
   go_wp2_with fail
   all_goals (go_ret;exact ⟨rfl,by (repeat' first|(with_reducible first|exact blR _ _|assumption|refine blD ?_|refine blN ?_ _)|((with_reducible first|refine blA ?_ ?_ _|refine blS ?_ ?_ _|refine blT (by assumption) ?_ ?_);focus (go_size;done)))⟩)
  | false =>
   cases zb with
   | false =>
    have hzz : z = false:=by
     cases z with
     | false=>rfl
     | true=>obtain ⟨g1,g2,g3,g4,g5,g6⟩:=HZ.out.1 rfl;exfalso;rcases g2 with g | g <;> first | omega | exact Bool.noConfusion g
    subst hzz
    clear HZ
    go_enter Tryz.func100,Tryz.ntmps100
    go_wp2_with fail
    all_goals (go_ret;exact ⟨rfl,by (repeat' first|(with_reducible first|exact blR _ _|assumption|refine blD ?_|refine blN ?_ _)|((with_reducible first|refine blA ?_ ?_ _|refine blS ?_ ?_ _|refine blT (by assumption) ?_ ?_);focus (go_size;done)))⟩)
   | true =>
    by_cases ht : text = []
    rotate_left
    ·have t1 : text.isEmpty = false:=by simpa using ht
     have hzz : z = false:=by
      cases z with
      | false=>rfl
      | true=>obtain ⟨g1,g2,g3,g4,g5,g6⟩:=HZ.out.1 rfl;exfalso;rcases g3 with g | g <;> first | omega | exact ht g
     subst hzz
     clear HZ
     go_enter Tryz.func100,Tryz.ntmps100
     go_wp2_with fail
     all_goals (go_ret;exact ⟨rfl,by (repeat' first|(with_reducible first|exact blR _ _|assumption|refine blD ?_|refine blN ?_ _)|((with_reducible first|refine blA ?_ ?_ _|refine blS ?_ ?_ _|refine blT (by assumption) ?_ ?_);focus (go_size;done)))⟩)
    subst ht
    by_cases hd : day = 0
    rotate_left
    ·have d1 : (day == 0) = false:=by rw [beq_eq_false_iff_ne];exact hd
     have d2 : (day != 0) = true:=by rw [bne_iff_ne];exact hd
     have hzz : z = false:=by
      cases z with
      | false=>rfl
      | true=>obtain ⟨g1,g2,g3,g4,g5,g6⟩:=HZ.out.1 rfl;exfalso;rcases g4 with g | g <;> first | omega | exact hd g
     subst hzz
     clear HZ
     go_enter Tryz.func100,Tryz.ntmps100
     go_wp2_with fail
     all_goals (go_ret;exact ⟨rfl,by (repeat' first|(with_reducible first|exact blR _ _|assumption|refine blD ?_|refine blN ?_ _)|((with_reducible first|refine blA ?_ ?_ _|refine blS ?_ ?_ _|refine blT (by assumption) ?_ ?_);focus (go_size;done)))⟩)
    subst hd
    have hzz : z = true:=by
     refine HZ.out.2 ⟨?_, ?_, ?_, ?_, ?_, ?_⟩ <;> first | (left;omega) | (right;first | rfl | assumption | omega)
    subst hzz
    clear HZ
    go_enter Tryz.func100,Tryz.ntmps100
    go_wp2_with fail
    all_goals (go_ret;exact ⟨rfl,by (repeat' first|(with_reducible first|exact blR _ _|assumption|refine blD ?_|refine blN ?_ _)|((with_reducible first|refine blA ?_ ?_ _|refine blS ?_ ?_ _|refine blT (by assumption) ?_ ?_);focus (go_size;done)))⟩)
 ·have tokc : (0 : Int) = 0:=rfl
  clear tokc
  have e1 : (kind == 1) = false:=by rw [beq_eq_false_iff_ne];omega
  have f1 : (kind != 1) = true:=by rw [bne_iff_ne];omega
  have e2 : (kind == 2) = false:=by rw [beq_eq_false_iff_ne];omega
  have f2 : (kind != 2) = true:=by rw [bne_iff_ne];omega
  have e3 : (kind == 3) = false:=by rw [beq_eq_false_iff_ne];omega
  have f3 : (kind != 3) = true:=by rw [bne_iff_ne];omega
  have e4 : (kind == 4) = false:=by rw [beq_eq_false_iff_ne];omega
  have f4 : (kind != 4) = true:=by rw [bne_iff_ne];omega
  have e5 : (kind == 5) = false:=by rw [beq_eq_false_iff_ne];omega
  have f5 : (kind != 5) = true:=by rw [bne_iff_ne];omega
  have e6 : (kind == 6) = false:=by rw [beq_eq_false_iff_ne];omega
  have f6 : (kind != 6) = true:=by rw [bne_iff_ne];omega
  have k5 : decide (5 ≤ kind) = false:=decide_eq_false (by omega)
  cases yes with
  | true =>
   have hzz : z = false:=by
    cases z with
    | false=>rfl
    | true=>obtain ⟨g1,g2,g3,g4,g5,g6⟩:=HZ.out.1 rfl;exfalso;rcases g1 with g | g <;> first | omega | exact Bool.noConfusion g
   subst hzz
   clear HZ
   go_enter Tryz.func100,Tryz.ntmps100
   go_wp2_with fail
   all_goals (go_ret;exact ⟨rfl,by (repeat' first|(with_reducible first|exact blR _ _|assumption|refine blD ?_|refine blN ?_ _)|((with_reducible first|refine blA ?_ ?_ _|refine blS ?_ ?_ _|refine blT (by assumption) ?_ ?_);focus (go_size;done)))⟩)
  | false =>
   cases zb with
   | false =>
    have hzz : z = false:=by
     cases z with
     | false=>rfl
     | true=>obtain ⟨g1,g2,g3,g4,g5,g6⟩:=HZ.out.1 rfl;exfalso;rcases g2 with g | g <;> first | omega | exact Bool.noConfusion g
    subst hzz
    clear HZ
    go_enter Tryz.func100,Tryz.ntmps100
    go_wp2_with fail
    all_goals (go_ret;exact ⟨rfl,by (repeat' first|(with_reducible first|exact blR _ _|assumption|refine blD ?_|refine blN ?_ _)|((with_reducible first|refine blA ?_ ?_ _|refine blS ?_ ?_ _|refine blT (by assumption) ?_ ?_);focus (go_size;done)))⟩)
   | true =>
    by_cases ht : text = []
    rotate_left
    ·have t1 : text.isEmpty = false:=by simpa using ht
     have hzz : z = false:=by
      cases z with
      | false=>rfl
      | true=>obtain ⟨g1,g2,g3,g4,g5,g6⟩:=HZ.out.1 rfl;exfalso;rcases g3 with g | g <;> first | omega | exact ht g
     subst hzz
     clear HZ
     go_enter Tryz.func100,Tryz.ntmps100
     go_wp2_with fail
     all_goals (go_ret;exact ⟨rfl,by (repeat' first|(with_reducible first|exact blR _ _|assumption|refine blD ?_|refine blN ?_ _)|((with_reducible first|refine blA ?_ ?_ _|refine blS ?_ ?_ _|refine blT (by assumption) ?_ ?_);focus (go_size;done)))⟩)
    subst ht
    by_cases hd : day = 0
    rotate_left
    ·have d1 : (day == 0) = false:=by rw [beq_eq_false_iff_ne];exact hd
     have d2 : (day != 0) = true:=by rw [bne_iff_ne];exact hd
     have hzz : z = false:=by
      cases z with
      | false=>rfl
      | true=>obtain ⟨g1,g2,g3,g4,g5,g6⟩:=HZ.out.1 rfl;exfalso;rcases g4 with g | g <;> first | omega | exact hd g
     subst hzz
     clear HZ
     go_enter Tryz.func100,Tryz.ntmps100
     go_wp2_with fail
     all_goals (go_ret;exact ⟨rfl,by (repeat' first|(with_reducible first|exact blR _ _|assumption|refine blD ?_|refine blN ?_ _)|((with_reducible first|refine blA ?_ ?_ _|refine blS ?_ ?_ _|refine blT (by assumption) ?_ ?_);focus (go_size;done)))⟩)
    subst hd
    by_cases hl0 : ll = 0
    rotate_left
    ·have l1 : ((ll : Int) == 0) = false:=by rw [beq_eq_false_iff_ne];omega
     have hzz : z = false:=by
      cases z with
      | false=>rfl
      | true=>obtain ⟨g1,g2,g3,g4,g5,g6⟩:=HZ.out.1 rfl;exfalso;rcases g5 with g | g <;> omega
     subst hzz
     clear HZ
     go_enter Tryz.func100,Tryz.ntmps100
     go_wp2_with fail
     all_goals (go_ret;exact ⟨rfl,by (repeat' first|(with_reducible first|exact blR _ _|assumption|refine blD ?_|refine blN ?_ _)|((with_reducible first|refine blA ?_ ?_ _|refine blS ?_ ?_ _|refine blT (by assumption) ?_ ?_);focus (go_size;done)))⟩)
    subst hl0
    by_cases hn0 : nl = 0
    rotate_left
    ·have l1 : ((nl : Int) == 0) = false:=by rw [beq_eq_false_iff_ne];omega
     have l2 : (0 : Int) < (nl : Int):=by omega
     have hzz : z = false:=by
      cases z with
      | false=>rfl
      | true=>obtain ⟨g1,g2,g3,g4,g5,g6⟩:=HZ.out.1 rfl;exfalso;rcases g6 with g | g <;> omega
     subst hzz
     clear HZ
     go_enter Tryz.func100,Tryz.ntmps100
     go_wp2_with fail
     all_goals (go_ret;exact ⟨rfl,by (repeat' first|(with_reducible first|exact blR _ _|assumption|refine blD ?_|refine blN ?_ _)|((with_reducible first|refine blA ?_ ?_ _|refine blS ?_ ?_ _|refine blT (by assumption) ?_ ?_);focus (go_size;done)))⟩)
    subst hn0
    have hzz : z = true:=by
     refine HZ.out.2 ⟨?_, ?_, ?_, ?_, ?_, ?_⟩ <;> first | (left;omega) | (right;first | rfl | assumption | omega)
    subst hzz
    clear HZ
    go_enter Tryz.func100,Tryz.ntmps100
    go_wp2_with fail
    all_goals (go_ret;exact ⟨rfl,by (repeat' first|(with_reducible first|exact blR _ _|assumption|refine blD ?_|refine blN ?_ _)|((with_reducible first|refine blA ?_ ?_ _|refine blS ?_ ?_ _|refine blT (by assumption) ?_ ?_);focus (go_size;done)))⟩)
 ·have tokc : (0 : Int) = 0:=rfl
  clear tokc
  have e1 : (kind == 1) = false:=by rw [beq_eq_false_iff_ne];omega
  have f1 : (kind != 1) = true:=by rw [bne_iff_ne];omega
  have e2 : (kind == 2) = false:=by rw [beq_eq_false_iff_ne];omega
  have f2 : (kind != 2) = true:=by rw [bne_iff_ne];omega
  have e3 : (kind == 3) = false:=by rw [beq_eq_false_iff_ne];omega
  have f3 : (kind != 3) = true:=by rw [bne_iff_ne];omega
  have e4 : (kind == 4) = false:=by rw [beq_eq_false_iff_ne];omega
  have f4 : (kind != 4) = true:=by rw [bne_iff_ne];omega
  have e5 : (kind == 5) = false:=by rw [beq_eq_false_iff_ne];omega
  have f5 : (kind != 5) = true:=by rw [bne_iff_ne];omega
  have e6 : (kind == 6) = false:=by rw [beq_eq_false_iff_ne];omega
  have f6 : (kind != 6) = true:=by rw [bne_iff_ne];omega
  have k5 : decide (5 ≤ kind) = true:=decide_eq_true (by omega)
  cases yes with
  | true =>
   have hzz : z = false:=by
    cases z with
    | false=>rfl
    | true=>obtain ⟨g1,g2,g3,g4,g5,g6⟩:=HZ.out.1 rfl;exfalso;rcases g1 with g | g <;> first | omega | exact Bool.noConfusion g
   subst hzz
   clear HZ
   go_enter Tryz.func100,Tryz.ntmps100
   go_wp2_with fail
   all_goals (go_ret;exact ⟨rfl,by (repeat' first|(with_reducible first|exact blR _ _|assumption|refine blD ?_|refine blN ?_ _)|((with_reducible first|refine blA ?_ ?_ _|refine blS ?_ ?_ _|refine blT (by assumption) ?_ ?_);focus (go_size;done)))⟩)
  | false =>
   cases zb with
   | false =>
    have hzz : z = false:=by
     cases z with
     | false=>rfl
     | true=>obtain ⟨g1,g2,g3,g4,g5,g6⟩:=HZ.out.1 rfl;exfalso;rcases g2 with g | g <;> first | omega | exact Bool.noConfusion g
    subst hzz
    clear HZ
    go_enter Tryz.func100,Tryz.ntmps100
    go_wp2_with fail
    all_goals (go_ret;exact ⟨rfl,by (repeat' first|(with_reducible first|exact blR _ _|assumption|refine blD ?_|refine blN ?_ _)|((with_reducible first|refine blA ?_ ?_ _|refine blS ?_ ?_ _|refine blT (by assumption) ?_ ?_);focus (go_size;done)))⟩)
   | true =>
    by_cases ht : text = []
    rotate_left
    ·have t1 : text.isEmpty = false:=by simpa using ht
     have hzz : z = false:=by
      cases z with
      | false=>rfl
      | true=>obtain ⟨g1,g2,g3,g4,g5,g6⟩:=HZ.out.1 rfl;exfalso;rcases g3 with g | g <;> first | omega | exact ht g
     subst hzz
     clear HZ
     go_enter Tryz.func100,Tryz.ntmps100
     go_wp2_with fail
     all_goals (go_ret;exact ⟨rfl,by (repeat' first|(with_reducible first|exact blR _ _|assumption|refine blD ?_|refine blN ?_ _)|((with_reducible first|refine blA ?_ ?_ _|refine blS ?_ ?_ _|refine blT (by assumption) ?_ ?_);focus (go_size;done)))⟩)
    subst ht
    by_cases hd : day = 0
    rotate_left
    ·have d1 : (day == 0) = false:=by rw [beq_eq_false_iff_ne];exact hd
     have d2 : (day != 0) = true:=by rw [bne_iff_ne];exact hd
     have hzz : z = false:=by
      cases z with
      | false=>rfl
      | true=>obtain ⟨g1,g2,g3,g4,g5,g6⟩:=HZ.out.1 rfl;exfalso;rcases g4 with g | g <;> first | omega | exact hd g
     subst hzz
     clear HZ
     go_enter Tryz.func100,Tryz.ntmps100
     go_wp2_with fail
     all_goals (go_ret;exact ⟨rfl,by (repeat' first|(with_reducible first|exact blR _ _|assumption|refine blD ?_|refine blN ?_ _)|((with_reducible first|refine blA ?_ ?_ _|refine blS ?_ ?_ _|refine blT (by assumption) ?_ ?_);focus (go_size;done)))⟩)
    subst hd
    by_cases hn0 : nl = 0
    rotate_left
    ·have l1 : ((nl : Int) == 0) = false:=by rw [beq_eq_false_iff_ne];omega
     have l2 : (0 : Int) < (nl : Int):=by omega
     have hzz : z = false:=by
      cases z with
      | false=>rfl
      | true=>obtain ⟨g1,g2,g3,g4,g5,g6⟩:=HZ.out.1 rfl;exfalso;rcases g6 with g | g <;> omega
     subst hzz
     clear HZ
     go_enter Tryz.func100,Tryz.ntmps100
     go_wp2_with fail
     all_goals (go_ret;exact ⟨rfl,by (repeat' first|(with_reducible first|exact blR _ _|assumption|refine blD ?_|refine blN ?_ _)|((with_reducible first|refine blA ?_ ?_ _|refine blS ?_ ?_ _|refine blT (by assumption) ?_ ?_);focus (go_size;done)))⟩)
    subst hn0
    have hzz : z = true:=by
     refine HZ.out.2 ⟨?_, ?_, ?_, ?_, ?_, ?_⟩ <;> first | (left;omega) | (right;first | rfl | assumption | omega)
    subst hzz
    clear HZ
    go_enter Tryz.func100,Tryz.ntmps100
    go_wp2_with fail
    all_goals (go_ret;exact ⟨rfl,by (repeat' first|(with_reducible first|exact blR _ _|assumption|refine blD ?_|refine blN ?_ _)|((with_reducible first|refine blA ?_ ?_ _|refine blS ?_ ?_ _|refine blT (by assumption) ?_ ?_);focus (go_size;done)))⟩)
end Go.Proofs.YtkjecoanlppeaaaGreatDoor



namespace Go.Proofs.YtkjecoanlppeaaaGreatDoor
open Go.RowKit

def RetDg (n : Nat) (w : World) (e : Ending) (w' : World) : Prop:=∃ v,e = .returned v ∧ Dg w' v n ∧ Below w.heap.size w w'

section
variable {w w' : World} {A : Option Addr} {xs : List Int} {v : Value} {n B : Nat}
theorem IsSl.of_own {base : Nat} (h : w.ownsRow base 3 1 v xs.length (xs.map (Value.int .i64))) : IsSl w v xs:=by
 rcases h.2 with ⟨rfl,hn⟩ | ⟨g,cap,cur,rfl,hg,hh,r1,r2,r3,r4⟩
 ·have : xs = []:=List.length_eq_zero_iff.1 hn
  subst this
  exact ⟨none,0,rfl,Nat.le_refl _,fun hne=>absurd rfl hne⟩
 ·refine ⟨some ⟨g,0,none⟩,cap,rfl,r1,fun hne=>⟨g,0,cur.toList,rfl,by unfold Bk;simpa using hh,fun j hj=>?_⟩⟩
  have hu : (xs.map (Value.int .i64))[j]? = some (.int .i64 (xs.getD j 0)):=by
   rw [List.getElem?_map,List.getElem?_eq_getElem hj,getD_lt _ _ hj];rfl
  rw [← r4,List.getElem?_take_of_lt (by omega)] at hu
  rw [Nat.zero_add];exact hu
end

theorem info_int : (Tryz.prog.info? 3).map (fun i=>(i.zero,i.size,i.bytes)) = some (some (.int .i64 0),1,8):=by kernel_rfl
theorem wpList_push {w : World} {ops : Array Oper} {rest : List Oper} {o : Oper} {a : Act} {Q : Exit → Act → World → Prop} (hgd : o.guard = none) (s x : Operand)
  (ho : o.op = .call { callee:=.builtin .append,args:=#[s,x],argTypes:=#[43,43] })
  (base : Nat) (v : Value) (ds : List Int) (hs : a.eval s = v) (hown : w.ownsRow base 3 1 v ds.length (ds.map (Value.int .i64)))
  (b : Nat) (d : Int) (hx : a.eval x = .slice (some ⟨b,0,none⟩) 1 1) (hd : w.cell? ⟨b,0,none⟩ = some (.int .i64 d)) (hlen : ds.length ≤ 2000000) (hbase : base ≤ w.heap.size)
  (h : ∀ v' w',w'.ownsRow base 3 1 v' (ds ++ [d]).length ((ds ++ [d]).map (Value.int .i64)) → w.grownBy w' v.ownBlock → wpList Tryz.prog ops Q rest (a.put o.dst v') w') : wpList Tryz.prog ops Q (o :: rest) a w:=by
 obtain ⟨i0,hi0,hz0,hz1,hz2⟩:=info_parts info_int
 refine wpList_append_own w hgd s x 43 ho base 3 i0 (.int .i64 0) 1 8 Tryz.underlying43 hi0 hz0 hz1 hz2 rfl (by decide) v ds.length _ hs hown ⟨b,0,none⟩ 1 1 [.int .i64 d] hx rfl ?_ ?_ (by unfold maxLen;omega) (by omega) hbase ?_
 ·intro j u hj
  match j with
  | 0=>simp at hj;subst hj;exact hd
  | j + 1=>simp at hj
 ·intro u hu
  rw [List.mem_singleton.1 hu];rfl
 ·intro v' w' h1 h2 _
  refine h v' w' ?_ h2
  rw [List.length_append,List.map_append]
  exact h1
theorem below_push {a w w' : World} {B : Nat} {E : TypeId} {v : Value} {n : Nat} {xs : List Value} (h : Below B a w) (hown : w.ownsRow B E 1 v n xs) (hg : w.grownBy w' v.ownBlock) (hB : B ≤ w.heap.size) : Below B a w' :=
 h.grown hg hB fun k hk=>(hown.lt k hk).1
end Go.Proofs.YtkjecoanlppeaaaGreatDoor



namespace Go.Proofs.YtkjecoanlppeaaaGreatDoor
open Go.RowKit

theorem pow_big {n : Nat} (h : Small n) {l : List Int} (hl : IsDg l n) : l.length ≤ 1000:=hl.len_le (h trivial)
set_option maxHeartbeats 1000000 in
theorem twice_any (N : Nat) (b0 : Int) (hb0 : 0 ≤ b0) (hb1 : b0 ≤ 1) (v : Value) (w : World) (hv : Dg w v N) (hN : Small N) :
  Calls Tryz.prog 149 #[v,.int .i64 b0] w (RetDg (2 * N + b0.toNat) w):=by
 obtain ⟨xs,⟨A,c,rfl,hc,hs⟩,hd⟩:=hv
 have hlen:=pow_big hN hd
 have HD:=Lib.hid hd
 have HS:=Lib.hid hs
 clear hd hs hN
 go_enter Tryz.func149,Tryz.ntmps149
 go_wp2_with fail
 go_loopg [1,5,6] xs.length (fun k b out i wr=>∃ (n : Nat) (bb : Int) (ds : List Int),k + n = xs.length ∧ i = .int .i64 n ∧ b = .int .i64 bb ∧ 0 ≤ bb ∧ bb ≤ 1 ∧
  wr.ownsRow w.heap.size 3 1 out ds.length (ds.map (Value.int .i64)) ∧ ds.length = n ∧ Digs ds ∧ dval ds + 10 ^ n * bb = 2 * dval (xs.take n) + b0 ∧ Below w.heap.size w wr)
 case atStart =>
  exact ⟨0,b0,[],by omega,rfl,rfl,hb0,hb1,World.ownsRow_nil _ _ _ _,rfl,Digs.nil,by simp [dval],Below.refl _ _⟩
 case round =>
  obtain ⟨n,bb,ds,hk,rfl,rfl,hbb0,hbb1,hown,hdl,hdd,hval,hbel⟩:=hrel
  have HK:=Lib.hid hk
  have HL:=Lib.hid hdl
  have HDD:=Lib.hid hdd
  have HV:=Lib.hid hval
  have hn : n ≤ xs.length:=by omega
  have hwr:=hbel.size
  clear hk hdl hdd hval
  by_cases hlt : n < xs.length
  ·obtain ⟨g,o,rfl,hg,hcell⟩:=HS.out.at_ hlt
   have hx:=HD.out.get n
   have hcell2:=(hbel.cell (p:=⟨g,o + n,none⟩) hg).trans hcell
   obtain ⟨d,hd⟩ : ∃ d,d = xs.getD n 0:=⟨_,rfl⟩
   rw [← hd] at hcell2 hx
   obtain ⟨hx0,hx9⟩:=hx
   have HE:=Lib.hid hd
   clear hd hcell
   go_wp2_with (at_builtin;refine wpList_push rfl (.tmp 21) (.tmp 24) rfl w.heap.size u5 ds rfl (hown.alloc _) wr.heap.size ((2 * d + bb) % 10) rfl ?hc ?hl ?hb ?_;rotate_left 3;intro v1 w1 hown1 hg1)
   case hc=>simp [go_sem]
   case hl=>have:=HL.out;omega
   case hb=>go_size
   go_roundg (gk - 1)
   case measure=>have:=HK.out;omega
   case rel =>
    refine ⟨n + 1,(2 * d + bb) / 10,ds ++ [(2 * d + bb) % 10],by have:=HK.out;omega,by go_num,rfl,by omega,by omega,hown1,by rw [List.length_append,HL.out];rfl,HDD.out.snoc (by omega) (by omega), ?_,below_push (hbel.alloc (by go_size) _) (hown.alloc _) hg1 (by go_size)⟩
    rw [dval_snoc,HL.out,dval_take_succ xs n hlt,← HE.out,Int.pow_succ]
    have e1:=carry_step (10 ^ n) (2 * d + bb)
    have e2 : (10 : Int) ^ n * (2 * d + bb) = 2 * (10 ^ n * d) + 10 ^ n * bb:=by rw [Int.mul_add,Int.mul_left_comm]
    have e3:=HV.out
    omega
  ·obtain rfl : n = xs.length:=by omega
   have hbz : bb = 0 ∨ bb = 1:=by omega
   have hv : dval ds + 10 ^ ds.length * bb = 2 * N + b0.toNat:=by
    have:=HV.out
    rw [List.take_length,HD.out.2.2,← HL.out] at this
    omega
   have HW:=Lib.hid hv
   clear hv
   rcases hbz with rfl | rfl
   ·go_wp2_with fail
    go_ret
    refine ⟨u5,rfl,⟨ds,IsSl.of_own hown,HDD.out, ?_, ?_⟩,hbel⟩
    ·refine top_of_val HDD.out ?_
     by_cases hne : xs = []
     ·left
      have:=HL.out
      subst hne
      exact List.length_eq_zero_iff.1 this
     ·right
      have h1:=HD.out.le_of_ne hne
      have h2:=HW.out
      rw [Int.mul_zero,Int.add_zero] at h2
      rw [HL.out,h2]
      have h3 : ((10 ^ (xs.length - 1) : Nat) : Int) ≤ (N : Int):=by exact_mod_cast h1
      rw [Int.natCast_pow] at h3
      have h4 : ((10 : Nat) : Int) = 10:=rfl
      rw [h4] at h3
      omega
    ·have h2:=HW.out
     rw [Int.mul_zero,Int.add_zero] at h2
     rw [h2];omega
   ·go_wp2_with (at_builtin;refine wpList_push rfl (.tmp 30) (.tmp 32) rfl w.heap.size u5 ds rfl (hown.alloc _) wr.heap.size 1 rfl ?hc ?hl ?hb ?_;rotate_left 3;intro v1 w1 hown1 hg1)
    case hc=>simp [go_sem]
    case hl=>have:=HL.out;omega
    case hb=>go_size
    go_ret
    have h2:=HW.out
    have h0:=(dval_bd HDD.out).1
    refine ⟨v1,rfl,⟨ds ++ [1],IsSl.of_own hown1,HDD.out.snoc (by decide) (by decide), ?_, ?_⟩,below_push (hbel.alloc (by go_size) _) (hown.alloc _) hg1 (by go_size)⟩
    ·simp [Top]
    ·rw [dval_snoc,h2];omega
end Go.Proofs.YtkjecoanlppeaaaGreatDoor



namespace Go.Proofs.YtkjecoanlppeaaaGreatDoor
open Go.RowKit

theorem bit_step (n m j : Nat) (hj : j < 64) : 2 * (n / 2 ^ (64 * m + (j + 1))) + (n / 2 ^ (64 * m) % 2 ^ 64 / 2 ^ j % 2) = n / 2 ^ (64 * m + j):=by
 have e1 : 2 ^ 64 = 2 ^ j * 2 ^ (64 - j):=by rw [← Nat.pow_add];congr 1;omega
 have e2 : n / 2 ^ (64 * m) % 2 ^ 64 / 2 ^ j % 2 = n / 2 ^ (64 * m + j) % 2:=by
  rw [e1,Nat.mod_mul_right_div_self,Nat.div_div_eq_div_mul,← Nat.pow_add]
  have hd : 2 ^ 1 ∣ 2 ^ (64 - j):=Nat.pow_dvd_pow 2 (by omega)
  exact Nat.mod_mod_of_dvd _ hd
 rw [e2,← Nat.add_assoc,Nat.pow_succ,← Nat.div_div_eq_div_mul]
 omega
theorem pow_le_gen (a b : Nat) (h : a ≤ b) : 2 ^ a ≤ 10 ^ b:=Nat.le_trans (Nat.pow_le_pow_left (by decide) a) (Nat.pow_le_pow_right (by decide) h)
theorem lt_ten_1000 {n : Nat} (h : n < 2 ^ 256) : Small n:=fun _=>Nat.lt_of_lt_of_le h (pow_le_gen 256 1000 (by decide))
theorem div_lt_1000 {n : Nat} (h : n < 2 ^ 256) (d : Nat) : Small (n / d):=lt_ten_1000 (Nat.lt_of_le_of_lt (Nat.div_le_self _ _) h)

theorem bit_val (n m j : Nat) : wrap64 (bits .and .u64 (wd n m / 2 ^ j) 1) = ((n / 2 ^ (64 * m) % 2 ^ 64 / 2 ^ j % 2 : Nat) : Int):=by
 unfold wd
 have hx : n / 2 ^ (64 * m) % 2 ^ 64 < 18446744073709551616:=Nat.mod_lt _ (by decide)
 generalize n / 2 ^ (64 * m) % 2 ^ 64 = x at *
 have e : ((x : Nat) : Int) / 2 ^ j = ((x / 2 ^ j : Nat) : Int):=by
  rw [Int.natCast_ediv,Int.natCast_pow];rfl
 have hy : x / 2 ^ j ≤ x:=Nat.div_le_self _ _
 rw [e]
 generalize x / 2 ^ j = y at *
 have h:=bits_and_u64_nat y 1 (by omega) (by decide)
 rw [Nat.and_one_is_mod] at h
 have e1 : ((1 : Nat) : Int) = 1:=rfl
 rw [e1] at h
 rw [h]
 exact IntWalk.wrap64_in _ (by omega)

set_option maxHeartbeats 1000000 in
theorem words_any (n b L c : Nat) (w : World) (hn : n < 2 ^ 256) (hL : n < 2 ^ (64 * L)) (hL4 : L ≤ 4) (hb : b < w.heap.size) (hc : L ≤ c) (hw : ∀ i,i < L → w.cell? ⟨b,i,none⟩ = some (.int .u64 (wd n i))) :
  Calls Tryz.prog 129 #[.slice (some ⟨b,0,none⟩) L c] w (RetDg n w):=by
 have HW:=Lib.hid hw
 have HN:=Lib.hid hn
 have HL:=Lib.hid hL
 clear hw hn hL
 go_enter Tryz.func129,Tryz.ntmps129
 go_wp2_with fail
 go_loopg [3,4] L (fun k v i wr=>k ≤ L ∧ i = .int .i64 ((k : Int) - 1) ∧ Dg wr v (n / 2 ^ (64 * k)) ∧ Below w.heap.size w wr)
 case atStart =>
  refine ⟨Nat.le_refl _,rfl,⟨[],⟨none,0,rfl,Nat.le_refl _,fun h=>absurd rfl h⟩, ?_⟩,by (repeat' first|(with_reducible first|exact blR _ _|assumption|refine blD ?_|refine blN ?_ _)|((with_reducible first|refine blA ?_ ?_ _|refine blS ?_ ?_ _|refine blT (by assumption) ?_ ?_);focus (go_size;done)))⟩
  rw [Nat.div_eq_of_lt HL.out]
  exact IsDg.nil
 case round =>
  obtain ⟨hk,rfl,hdg,hbel⟩:=hrel
  have HD:=Lib.hid hdg
  clear hdg
  by_cases h0 : gk = 0
  ·subst h0
   have hm : ¬ (0 : Int) ≤ ((0 : Nat) : Int) - 1:=by omega
   go_wp2_with fail
   go_ret
   refine ⟨u3,rfl, ?_,hbel⟩
   have:=HD.out
   rwa [Nat.mul_zero,Nat.pow_zero,Nat.div_one] at this
  ·obtain ⟨m,rfl⟩ : ∃ m,gk = m + 1:=⟨gk - 1,by omega⟩
   have hp : (0 : Int) < ((m + 1 : Nat) : Int):=by omega
   have hx : ((m + 1 : Nat) : Int) - 1 = (m : Int):=by omega
   have hcw:=HW.out m (by omega)
   clear h0
   go_wp2_with fail
   simp only [hx]
   clear hx hp
   obtain ⟨wo,rfl⟩ : ∃ wo : World,wo = wr:=⟨_,rfl⟩
   go_loopg [3,5] 64 (fun k v i wr=>k ≤ 64 ∧ i = .int .i64 ((k : Int) - 1) ∧ Dg wr v (n / 2 ^ (64 * m + k)) ∧ Below w.heap.size w wr)
   case atStart =>
    refine ⟨by decide,rfl, ?_,hbel⟩
    have:=HD.out
    rwa [Nat.mul_add] at this
   case round =>
    obtain ⟨hk2,rfl,hdg2,hbel2⟩:=hrel
    have HD2:=Lib.hid hdg2
    clear hdg2
    by_cases h0 : gk = 0
    ·subst h0
     have hm : ¬ (0 : Int) ≤ ((0 : Nat) : Int) - 1:=by omega
     go_wp2_with fail
     go_roundg m
     case measure=>omega
     case rel =>
      refine ⟨by omega,rfl, ?_,hbel2⟩
      have:=HD2.out
      rwa [Nat.add_zero] at this
    ·obtain ⟨j,rfl⟩ : ∃ j,gk = j + 1:=⟨gk - 1,by omega⟩
     have hp2 : (0 : Int) < ((j + 1 : Nat) : Int):=by omega
     have hx2 : ((j + 1 : Nat) : Int) - 1 = (j : Int):=by omega
     have hcw2:=(hbel2.cell (p:=⟨b,m,none⟩) hb).trans hcw
     go_wp2_with fail
     have hbv:=bit_val n m j
     have hb2 : n / 2 ^ (64 * m) % 2 ^ 64 / 2 ^ j % 2 < 2:=Nat.mod_lt _ (by decide)
     have hst:=bit_step n m j (by omega)
     obtain ⟨t,ht⟩ : ∃ t,t = n / 2 ^ (64 * m) % 2 ^ 64 / 2 ^ j % 2:=⟨_,rfl⟩
     rw [← ht] at hbv hb2 hst
     rw [hbv]
     have HS:=Lib.hid hst
     clear hbv hst ht
     refine (twice_any (n / 2 ^ (64 * m + (j + 1))) (t : Int) (by omega) (by omega) u3 _ HD2.out (div_lt_1000 HN.out _)).mono ?_
     rintro _ w2 ⟨v2,rfl,hdg3,hb3⟩
     have hb3s:=hb3.size
     have hb2s:=hbel2.size
     rw [Int.toNat_natCast,HS.out] at hdg3
     have HD3:=Lib.hid hdg3
     clear hdg3
     go_wp2_with fail
     go_roundg j
     case measure=>omega
     case rel=>exact ⟨by omega,rfl,HD3.out,by (repeat' first|(with_reducible first|exact blR _ _|assumption|refine blD ?_|refine blN ?_ _)|((with_reducible first|refine blA ?_ ?_ _|refine blS ?_ ?_ _|refine blT (by assumption) ?_ ?_);focus (go_size;done)))⟩
end Go.Proofs.YtkjecoanlppeaaaGreatDoor



namespace Go.Proofs.YtkjecoanlppeaaaGreatDoor
open Go.RowKit

set_option maxHeartbeats 1000000 in
theorem of_any (n : Nat) (hn : n < 2 ^ 128) (w : World) : Calls Tryz.prog 96 #[.agg #[.int .u64 (wd n 1),.int .u64 (wd n 0)]] w (RetDg n w):=by
 have HN:=Lib.hid hn
 clear hn
 have H:=Lib.hid (fun (W : World) (b : Nat) (hb : b < W.heap.size) (hw : ∀ i,i < 2 → W.cell? ⟨b,i,none⟩ = some (.int .u64 (wd n i))) =>
  words_any n b 2 2 W (Nat.lt_of_lt_of_le HN.out (Nat.pow_le_pow_right (by decide) (by decide))) HN.out (by decide) hb (Nat.le_refl _) hw)
 go_enter Tryz.func96,Tryz.ntmps96
 go_wp2_with fail
 refine (H.out _ _ (by go_size) ?_).mono ?_
 ·intro i hi
  match i,hi with
  | 0,_=>simp [go_sem]
  | 1,_=>simp [go_sem]
 rintro _ w1 ⟨v,rfl,hdg,hb⟩
 have HD:=Lib.hid hdg
 clear hdg
 go_wp2_with fail
 go_ret
 exact ⟨v,rfl,HD.out,by (repeat' first|(with_reducible first|exact blR _ _|assumption|refine blD ?_|refine blN ?_ _)|((with_reducible first|refine blA ?_ ?_ _|refine blS ?_ ?_ _|refine blT (by assumption) ?_ ?_);focus (go_size;done)))⟩
end Go.Proofs.YtkjecoanlppeaaaGreatDoor



namespace Go.Proofs.YtkjecoanlppeaaaGreatDoor
open Go.RowKit

def DepthOf (R : World → Value → Value → VD → Prop) : Prop:=∀ (x : VD) (L N : Value) (w : World),x.size ≤ 1000000 → R w L N x →
 Calls Tryz.prog 77 #[vagg x.s L N] w fun e w'=>e = .returned (.int .i64 x.deep) ∧ Below w.heap.size w w'
theorem deeps_take_le {l : List VD} (t : Nat) : deeps (l.take t) ≤ sizes l:=Nat.le_trans (deeps_sizes _) (sizes_le t)
set_option maxHeartbeats 1000000 in
theorem depth_step (R : World → Value → Value → VD → Prop) (hR : ∀ w w' L N x,R w L N x → Below w.heap.size w w' → R w' L N x) (H : DepthOf R)
  (s : VS) (l : List VD) (L N : Value) (w : World) (h1 : sizes l ≤ 999999) (hv : Vls (R w) w L l) :
  Calls Tryz.prog 77 #[vagg s L N] w fun e w'=>e = .returned (.int .i64 ((deeps l + 1 : Nat) : Int)) ∧ Below w.heap.size w w':=by
 have HV:=Lib.hid hv
 have HH:=Lib.hid H
 have HR:=Lib.hid hR
 obtain ⟨A,C,rfl,hl⟩:=hv.is
 clear hv H hR
 go_enter Tryz.func77,Tryz.ntmps77
 go_wp2_with fail
 go_loopg [3,4] l.length (fun k s3 s4 wr=>∃ (t n : Nat),k + t = l.length ∧ s4 = .int .i64 t ∧ s3 = .int .i64 n ∧ Hid (n = deeps (l.take t)) ∧ n ≤ 1000000 ∧ wr.cell? ⟨w.heap.size,8,none⟩ = some (.slice A l.length C) ∧ w.heap.size < wr.heap.size ∧ Below w.heap.size w wr)
 case atStart=>exact ⟨0,0,by omega,rfl,rfl,Lib.hid (by rw [List.take_zero];rfl),by omega,by go_simp,by go_size,by (repeat' first|(with_reducible first|exact blR _ _|assumption|refine blD ?_|refine blN ?_ _)|((with_reducible first|refine blA ?_ ?_ _|refine blS ?_ ?_ _|refine blT (by assumption) ?_ ?_);focus (go_size;done)))⟩
 case round =>
  obtain ⟨t,n,hk,rfl,rfl,HN,n2,c8,hsz,hbel⟩:=hrel
  have HK:=Lib.hid hk
  have htn : t ≤ l.length:=by omega
  clear hk
  by_cases hlt : t < l.length
  ·obtain ⟨b,o,A1,C1,A2,C2,rfl,hat,hx⟩:=(HV.out.below hbel (fun _ _ _ h=>HR.out _ _ _ _ _ h hbel)).at hlt
   obtain ⟨a0,a1,a2,a3,a4,a5,a6,a7,a8,a9⟩:=hat.val
   have lb:=vcell_lt a0
   have hst:=deeps_take hlt
   have hs2:=vg_size hlt
   have hd:=deep_size (vg l t)
   have hle:=deeps_take_le (l:=l) (t + 1)
   obtain ⟨x,hxx⟩ : ∃ x,x = vg l t:=⟨_,rfl⟩
   rw [← hxx] at hx a0 a1 a2 a3 a4 a5 a6 a7 a8 a9 hst hs2 hd
   obtain ⟨n1',hn1⟩ : ∃ n1',n1' = x.list.length:=⟨_,rfl⟩
   obtain ⟨n2',hn2⟩ : ∃ n2',n2' = x.names.length:=⟨_,rfl⟩
   rw [← hn1] at a8 hx
   rw [← hn2] at a9 hx
   have HC:=Lib.hid (HH.out x (.slice A1 n1' C1) (.slice A2 n2' C2) wr (by omega) hx)
   obtain ⟨q,hq⟩ : ∃ q,q = x.deep:=⟨_,rfl⟩
   rw [← hq] at HC hst hd
   have hq2 : q ≤ 1000000:=by omega
   rw [hst,← HN.out] at hle
   have HQ:=Lib.hid hst
   clear hat hx hxx hn1 hn2 hst hd hs2 hq hle
   rcases Int.lt_or_le (n : Int) (q : Int) with hm | hm
   ·go_wp2_with fail
    refine HC.out.mono ?_
    rintro _ w2 ⟨rfl,hb2⟩;have hb2s:=hb2.size;(try simp only [wsA,wsS,wsD,wsN] at hb2s);obtain ⟨hb2c,hb2f⟩:=bcell hb2;(try have : w.heap.size < w2.heap.size:=by omega);(try have : w.heap.size + 1 < w2.heap.size:=by omega);(try have : w.heap.size + 1 + 1 < w2.heap.size:=by omega);(try have : w.heap.size + 1 + 1 + 1 < w2.heap.size:=by omega)
    go_wp2_with fail
    go_roundg (gk - 1)
    case measure=>have:=HK.out;omega
    case rel=>exact ⟨t + 1,q,by have:=HK.out;omega,by go_num,by (first | rfl | (congr 1;omega)),Lib.hid (by rw [HQ.out,← HN.out];omega),hq2,(hb2.cell (p:=⟨w.heap.size,8,none⟩) (by omega)).trans c8,by omega,by (repeat' first|(with_reducible first|exact blR _ _|assumption|refine blD ?_|refine blN ?_ _)|((with_reducible first|refine blA ?_ ?_ _|refine blS ?_ ?_ _|refine blT (by assumption) ?_ ?_);focus (go_size;done)))⟩
   ·go_wp2_with fail
    refine HC.out.mono ?_
    rintro _ w2 ⟨rfl,hb2⟩;have hb2s:=hb2.size;(try simp only [wsA,wsS,wsD,wsN] at hb2s);obtain ⟨hb2c,hb2f⟩:=bcell hb2;(try have : w.heap.size < w2.heap.size:=by omega);(try have : w.heap.size + 1 < w2.heap.size:=by omega);(try have : w.heap.size + 1 + 1 < w2.heap.size:=by omega);(try have : w.heap.size + 1 + 1 + 1 < w2.heap.size:=by omega)
    go_wp2_with fail
    go_roundg (gk - 1)
    case measure=>have:=HK.out;omega
    case rel=>exact ⟨t + 1,n,by have:=HK.out;omega,by go_num,by (first | rfl | (congr 1;omega)),Lib.hid (by rw [HQ.out,← HN.out];omega),n2,(hb2.cell (p:=⟨w.heap.size,8,none⟩) (by omega)).trans c8,by omega,by (repeat' first|(with_reducible first|exact blR _ _|assumption|refine blD ?_|refine blN ?_ _)|((with_reducible first|refine blA ?_ ?_ _|refine blS ?_ ?_ _|refine blT (by assumption) ?_ ?_);focus (go_size;done)))⟩
  ·obtain rfl : t = l.length:=by omega
   have hz : n = deeps l:=by have:=HN.out;rwa [List.take_length] at this
   clear HN
   subst hz
   go_wp2_with fail
   go_ret
   exact ⟨by go_num,by (repeat' first|(with_reducible first|exact blR _ _|assumption|refine blD ?_|refine blN ?_ _)|((with_reducible first|refine blA ?_ ?_ _|refine blS ?_ ?_ _|refine blT (by assumption) ?_ ?_);focus (go_size;done)))⟩
theorem depth_any : ∀ n,DepthOf (VR n)
 | 0,_,_,_,_,_,h=>h.elim
 | n + 1,x,L,N,w,h1,h=>by
  rw [VD.deep_eq]
  exact depth_step (VR n) (fun _ _ _ _ _ h hb=>h.below hb) (depth_any n) x.s x.list L N w (by rw [VD.size_eq] at h1;omega) h.2.1
end Go.Proofs.YtkjecoanlppeaaaGreatDoor



namespace Go.Proofs.YtkjecoanlppeaaaGreatDoor
open Go.RowKit

variable {rk : Nat → List Nat} {n k i : Nat} {z : Int}
theorem SelB.better {b : Nat} (h : SelB rk n k i (b : Int)) (ht : i ∉ (srt rk n).take k) (hc : cmpL (rk i) (rk b) < 0) : SelB rk n k (i + 1) (i : Int):=by
 rcases h with ⟨e,_⟩ | ⟨b',e,h1,h2,h3⟩
 ·omega
 ·obtain rfl : b = b':=by omega
  have hib : cfR rk i b < 0:=by unfold cfR;rw [if_pos (by omega)];exact hc
  refine .inr ⟨i,rfl,by omega,ht,fun j hj hn=>?_⟩
  by_cases e : j = i
  ·exact .inl e
  ·right
   rcases h3 j (by omega) hn with rfl | h
   ·exact hib
   ·exact cfR_trans hib h
theorem SelB.worse {b : Nat} (h : SelB rk n k i (b : Int)) (hc : ¬ cmpL (rk i) (rk b) < 0) : SelB rk n k (i + 1) (b : Int):=by
 rcases h with ⟨e,_⟩ | ⟨b',e,h1,h2,h3⟩
 ·omega
 ·obtain rfl : b = b':=by omega
  refine .inr ⟨b,rfl,by omega,h2,fun j hj hn=>?_⟩
  by_cases e : j = i
  ·right
   subst e
   unfold cfR
   have hneg:=cmpL_neg (rk b) (rk j)
   by_cases c : cmpL (rk b) (rk j) ≠ 0
   ·rw [if_pos c];omega
   ·rw [if_neg c,if_pos h1];decide
  ·exact h3 j (by omega) hn
theorem SelB.found (h : SelB rk n k n z) (hk : k < n) : z = (sgR rk n k : Int):=by
 have h0:=srt_free (rk:=rk) hk
 have h1:=sg_lt (rk:=rk) hk
 rcases h with ⟨_,h⟩ | ⟨b,rfl,hb,hf,hall⟩
 ·exact absurd (h _ h1) h0
 ·congr 1
  rcases srt_min (rk:=rk) hk hb hf with e | h2
  ·exact e
  ·rcases hall _ h1 h0 with e | h3
   ·exact e.symm
   ·rw [cfR_neg] at h3;omega
def tkn (rk : Nat → List Nat) (n k : Nat) : List Value:=(List.range n).map fun i=>.bool (decide (i ∈ (srt rk n).take k))
theorem tkn_len : (tkn rk n k).length = n:=by unfold tkn;simp
theorem tkn_at (h : i < n) : (tkn rk n k)[i]? = some (.bool (decide (i ∈ (srt rk n).take k))):=by
 unfold tkn
 rw [List.getElem?_map,List.getElem?_range h];rfl
theorem tkn_zero : tkn rk n 0 = List.replicate n (.bool false):=by
 unfold tkn
 rw [List.eq_replicate_iff]
 refine ⟨by simp,fun b hb=>?_⟩
 obtain ⟨j,_,rfl⟩:=List.mem_map.1 hb
 simp
theorem tkn_succ (h : k < n) : (tkn rk n k).set (sgR rk n k) (.bool true) = tkn rk n (k + 1):=by
 refine List.ext_getElem? fun j=>?_
 by_cases hj : j < n
 ·rw [tkn_at hj,srt_take h]
  by_cases e : sgR rk n k = j
  ·subst e
   rw [List.getElem?_set_self (by rw [tkn_len];exact hj)]
   simp
  ·rw [List.getElem?_set_ne e,tkn_at hj]
   have : (j ∈ (srt rk n).take k ++ [sgR rk n k]) ↔ (j ∈ (srt rk n).take k):=by
    rw [List.mem_append,List.mem_singleton]
    exact ⟨fun q=>q.resolve_right (fun q=>e q.symm),Or.inl⟩
   simp only [this]
 ·rw [List.getElem?_eq_none (by rw [List.length_set,tkn_len];omega),List.getElem?_eq_none (by rw [tkn_len];omega)]
end Go.Proofs.YtkjecoanlppeaaaGreatDoor

