/- The contracts of the functions that the laws reach, part 11: what each returns and what becomes of memory. -/
import Derived.Test.YtbnadlpkbbdgjaaGreatDoorSs
import Derived.LoopIn
import Derived.LoopNIn
import Derived.OwnWalkIn
import Derived.TacticsInMore
import Derived.RangeFuncBound
import Derived.RangeFuncCalls
import Derived.RangeFuncLeaves
import Derived.RangeFuncNested
import Derived.Shelf.RegionOpen
import Derived.Shelf.Abstract
import Derived.Shelf.SlSortCmp.WholeK
import Derived.Shelf.SlSortCmp.NoneTotal
import Derived.Test.YtbnadlpkbbdgjaaGreatDoorM10
set_option linter.unusedSimpArgs false
set_option linter.unusedVariables false


namespace Go.Proofs.YtbnadlpkbbdgjaaGreatDoor
open Go.RowKit

/-- a value without items, as it stands in memory: its two slices are empty -/
structure Pv where
 s : VS
 A : Option Addr
 C : Nat
 B : Option Addr
 D : Nat
@[reducible] def Pv.d (p : Pv) : VD:=.mk p.s [] []
@[reducible] def Pv.val (p : Pv) : Value:=vagg p.s (.slice p.A 0 p.C) (.slice p.B 0 p.D)
def Pv.cs (p : Pv) : List Value:=p.s.cs ++ [.slice p.A 0 p.C,.slice p.B 0 p.D]
def Pv.ok (p : Pv) : Prop:=p.s.ok ∧ p.C ≤ maxLen ∧ p.D ≤ maxLen
theorem Pv.va {p : Pv} (h : p.ok) (w : World) : VA w p.d p.A p.C p.B p.D :=
 ⟨1,h.1,⟨_,_,rfl,⟨Nat.zero_le _,Nat.zero_le _,h.2.1⟩,fun r hr => absurd hr (Nat.not_lt_zero _)⟩,⟨_,_,rfl,⟨Nat.zero_le _,Nat.zero_le _,h.2.2⟩,fun r hr => absurd hr (Nat.not_lt_zero _)⟩⟩
/-- a value of kind k, in form, without items -/
def Sc (k : Int) (s : VS) : Prop:=s.kind = k ∧ chkV (.mk s [] []) = 0 ∧ s.ok
/-- texts compared -/
def cmpT (a b : List UInt8) : Int:=if Op.bytesLess a b = true then -1 else if a = b then 0 else 1
def cmpi (a b : Int) : Int:=if a < b then -1 else if b < a then 1 else 0
/-- the number's units, with its sign -/
def numZ (s : VS) : Int:=sval s.neg (unit s.coef s.sc.toNat)
/-- the order of two values of one kind -/
def cmpS (a b : VS) : Int:=if a.kind = 2 then ordS (numZ a) (numZ b) else if a.kind = 4 then cmpi a.day b.day else cmpT a.text b.text
theorem bl_irrefl : ∀ a : List UInt8,Op.bytesLess a a = false
 | [] => rfl
 | x :: r => by
  rw [Op.bytesLess]
  simp [bl_irrefl r]
theorem bl_tri : ∀ a b : List UInt8,Op.bytesLess a b = true ∨ a = b ∨ Op.bytesLess b a = true
 | [],[] => .inr (.inl rfl)
 | [],_ :: _ => .inl rfl
 | _ :: _,[] => .inr (.inr rfl)
 | x :: a,y :: b => by
  rw [Op.bytesLess,Op.bytesLess]
  rcases Nat.lt_trichotomy x.toNat y.toNat with h | h | h
  ·left;simp [UInt8.lt_iff_toNat_lt,h]
  ·have e : x = y:=UInt8.toNat_inj.1 h
   subst e
   rcases bl_tri a b with h | rfl | h
   ·left;simp [h]
   ·exact .inr (.inl rfl)
   ·right;right;simp [h]
  ·right;right;simp [UInt8.lt_iff_toNat_lt,h]
theorem bl_trans : ∀ {a b c : List UInt8},Op.bytesLess a b = true → Op.bytesLess b c = true → Op.bytesLess a c = true
 | [],[],_,h,_ => by cases h
 | [],_ :: _,[],_,h => by cases h
 | [],_ :: _,_ :: _,_,_ => rfl
 | _ :: _,[],_,h,_ => by cases h
 | _ :: _,_ :: _,[],_,h => by cases h
 | x :: a,y :: b,z :: c,h1,h2 => by
  rw [Op.bytesLess] at h1 h2 ⊢
  simp only [Bool.or_eq_true,Bool.and_eq_true,decide_eq_true_eq,beq_iff_eq,UInt8.lt_iff_toNat_lt] at h1 h2 ⊢
  rcases h1 with h1 | ⟨rfl,h1⟩
  ·rcases h2 with h2 | ⟨rfl,h2⟩
   ·left;omega
   ·left;exact h1
  ·rcases h2 with h2 | ⟨rfl,h2⟩
   ·left;exact h2
   ·right;exact ⟨rfl,bl_trans h1 h2⟩
theorem bl_asymm {a b : List UInt8} (h : Op.bytesLess a b = true) : Op.bytesLess b a = false:=by
 cases e : Op.bytesLess b a with
 | false => rfl
 | true => have:=bl_trans h e;rw [bl_irrefl] at this;cases this
theorem cmpT_neg {a b : List UInt8} : cmpT a b < 0 ↔ Op.bytesLess a b = true:=by
 unfold cmpT
 split
 ·rename_i h;exact ⟨fun _ => h,fun _ => by decide⟩
 ·rename_i h;split <;> exact ⟨fun hh => absurd hh (by decide),fun hh => absurd hh h⟩
theorem cmpT_zero {a b : List UInt8} : cmpT a b = 0 ↔ a = b:=by
 unfold cmpT
 split
 ·rename_i h
  exact ⟨fun hh => absurd hh (by decide),fun e => by subst e;rw [bl_irrefl] at h;cases h⟩
 ·split
  ·rename_i h;exact ⟨fun _ => h,fun _ => rfl⟩
  ·rename_i h;exact ⟨fun hh => absurd hh (by decide),fun e => absurd e h⟩
theorem cmpT_swap (a b : List UInt8) : cmpT b a = -cmpT a b:=by
 unfold cmpT
 rcases bl_tri a b with h | rfl | h
 ·rw [if_pos h,if_neg (by rw [bl_asymm h];decide),if_neg (fun e => by subst e;rw [bl_irrefl] at h;cases h)];rfl
 ·rw [if_neg (by rw [bl_irrefl];decide),if_pos rfl];rfl
 ·rw [if_pos h,if_neg (by rw [bl_asymm h];decide),if_neg (fun e => by subst e;rw [bl_irrefl] at h;cases h)]
/-- in form: what the kind does not use is nought -/
theorem Sc.form {k : Int} {s : VS} (h : Sc k s) : (s.kind = 1 ∨ s.yes = false) ∧ (s.kind = 2 ∨ zn s = true) ∧ (s.kind = 3 ∨ s.text = []) ∧ (s.kind = 4 ∨ s.day = 0) ∧ kindB s 0 [] = true:=by
 obtain ⟨_,h2,_⟩:=h
 have hk : okV (.mk s [] []) = true:=by
  unfold chkV at h2
  have e1 : (VD.mk s [] []).size = 1:=rfl
  have e2 : (VD.mk s [] []).deep = 1:=rfl
  rw [e1,e2,if_neg (by decide),if_neg (by decide)] at h2
  by_cases e : okV (.mk s [] []) = true
  ·exact e
  ·rw [if_neg e] at h2;cases h2
 rw [okV_eq] at hk
 have h3:=(Bool.and_eq_true _ _ ▸ hk).1
 unfold ownB at h3
 have h4:=(Bool.and_eq_true _ _ ▸ h3)
 have h5:=bareQ_iff.1 h4.1
 exact ⟨h5.1,h5.2.1,h5.2.2.1,h5.2.2.2.1,h4.2⟩
theorem Sc.num {s : VS} (h : Sc 2 s) : ∃ t : Nat,s.sc = (t : Int) ∧ DForm s.neg s.coef t ∧ dform s.neg s.coef s.sc = true:=by
 have h5:=h.form.2.2.2.2
 unfold kindB at h5
 rw [if_neg (by rw [h.1];decide),if_pos h.1] at h5
 obtain ⟨t,e,hf⟩:=(dform_iff _ _ _).1 h5
 exact ⟨t,e,hf,h5⟩
theorem zn_iff {s : VS} (hs : s.ok) : zn s = true ↔ s.neg = false ∧ s.coef = 0 ∧ s.sc = 0:=by
 unfold zn
 simp only [Bool.and_eq_true,beq_iff_eq]
 constructor
 ·rintro ⟨h1,h2,h3,h4⟩
  refine ⟨h1, ?_,h4⟩
  have:=wd_two hs.1
  omega
 ·rintro ⟨h1,h2,h3⟩
  refine ⟨h1, ?_, ?_,h3⟩ <;> rw [h2] <;> exact wd_zero _
theorem Sc.ext1 {s : VS} (h : Sc 1 s) : s = ⟨1,s.yes,false,0,0,[],0⟩:=by
 obtain ⟨h1,h2,h3,h4,-⟩:=h.form
 have hk:=h.1
 have hz:=(zn_iff h.2.2).1 (h2.resolve_left (by omega))
 have ht:=h3.resolve_left (by omega)
 have hd:=h4.resolve_left (by omega)
 obtain ⟨kind,yes,neg,coef,sc,text,day⟩:=s
 dsimp only at hk hz ht hd ⊢
 rw [hk,hz.1,hz.2.1,hz.2.2,ht,hd]
theorem Sc.ext2 {s : VS} (h : Sc 2 s) : s = ⟨2,false,s.neg,s.coef,s.sc,[],0⟩:=by
 obtain ⟨h1,h2,h3,h4,-⟩:=h.form
 have hk:=h.1
 have hy:=h1.resolve_left (by omega)
 have ht:=h3.resolve_left (by omega)
 have hd:=h4.resolve_left (by omega)
 obtain ⟨kind,yes,neg,coef,sc,text,day⟩:=s
 dsimp only at hk hy ht hd ⊢
 rw [hk,hy,ht,hd]
theorem Sc.ext3 {s : VS} (h : Sc 3 s) : s = ⟨3,false,false,0,0,s.text,0⟩:=by
 obtain ⟨h1,h2,h3,h4,-⟩:=h.form
 have hk:=h.1
 have hy:=h1.resolve_left (by omega)
 have hz:=(zn_iff h.2.2).1 (h2.resolve_left (by omega))
 have hd:=h4.resolve_left (by omega)
 obtain ⟨kind,yes,neg,coef,sc,text,day⟩:=s
 dsimp only at hk hy hz hd ⊢
 rw [hk,hy,hz.1,hz.2.1,hz.2.2,hd]
theorem Sc.ext4 {s : VS} (h : Sc 4 s) : s = ⟨4,false,false,0,0,[],s.day⟩:=by
 obtain ⟨h1,h2,h3,h4,-⟩:=h.form
 have hk:=h.1
 have hy:=h1.resolve_left (by omega)
 have hz:=(zn_iff h.2.2).1 (h2.resolve_left (by omega))
 have ht:=h3.resolve_left (by omega)
 obtain ⟨kind,yes,neg,coef,sc,text,day⟩:=s
 dsimp only at hk hy hz ht ⊢
 rw [hk,hy,hz.1,hz.2.1,hz.2.2,ht]
theorem Sc.day {s : VS} (h : Sc 4 s) : 1 ≤ s.day ∧ s.day ≤ 3652059:=by
 have h5:=h.form.2.2.2.2
 unfold kindB at h5
 rw [if_neg (by rw [h.1];decide),if_neg (by rw [h.1];decide),if_neg (by rw [h.1];decide),if_pos h.1] at h5
 exact of_decide_eq_true h5
theorem Sc.txt {s : VS} (h : Sc 3 s) : s.text.length ≤ 1000 ∧ ztxt s.text = true:=by
 have h5:=h.form.2.2.2.2
 unfold kindB at h5
 rw [if_neg (by rw [h.1];decide),if_neg (by rw [h.1];decide),if_pos h.1] at h5
 have h6:=Bool.and_eq_true _ _ ▸ h5
 exact ⟨of_decide_eq_true h6.1,h6.2⟩
/-- the kinds that have an order -/
def Kd (k : Int) : Prop:=k = 2 ∨ k = 3 ∨ k = 4
theorem cmpi_zero {a b : Int} : cmpi a b = 0 ↔ a = b:=by unfold cmpi;split <;> (try split) <;> omega
theorem cmpi_neg {a b : Int} : cmpi a b < 0 ↔ a < b:=by unfold cmpi;split <;> (try split) <;> omega
theorem cmpi_swap (a b : Int) : cmpi b a = -cmpi a b:=by unfold cmpi;split <;> (try split) <;> (try split) <;> omega
theorem ordS_neg' {a b : Int} : ordS a b < 0 ↔ a < b:=by unfold ordS;split <;> (try split) <;> omega
theorem cmpS_two {a b : VS} (h : Sc 2 a) : cmpS a b = ordS (numZ a) (numZ b):=if_pos h.1
theorem cmpS_day {a b : VS} (h : Sc 4 a) : cmpS a b = cmpi a.day b.day:=(if_neg (by rw [h.1];decide)).trans (if_pos h.1)
theorem cmpS_txt {a b : VS} (h : Sc 3 a) : cmpS a b = cmpT a.text b.text:=(if_neg (by rw [h.1];decide)).trans (if_neg (by rw [h.1];decide))
theorem numZ_inj {a b : VS} (ha : Sc 2 a) (hb : Sc 2 b) (h : numZ a = numZ b) : a = b:=by
 obtain ⟨t,e1,f1,-⟩:=ha.num
 obtain ⟨u,e2,f2,-⟩:=hb.num
 unfold numZ at h
 rw [e1,e2,Int.toNat_natCast,Int.toNat_natCast] at h
 obtain ⟨h1,h2⟩:=sval_inj h (fun h0 => (f1.2.2.1 (unit_nil.1 h0)).1) (fun h0 => (f2.2.2.1 (unit_nil.1 h0)).1)
 obtain ⟨h3,h4⟩:=unit_inj f1.2.1 f2.2.1 h2 (fun h0 => (f1.2.2.1 h0).2) f1.2.2.2 (fun h0 => (f2.2.2.1 h0).2) f2.2.2.2
 rw [ha.ext2,hb.ext2,h1,h3,e1,e2,h4]
theorem cmpS_zero {k : Int} (hk : Kd k) {a b : VS} (ha : Sc k a) (hb : Sc k b) : cmpS a b = 0 ↔ a = b:=by
 rcases hk with rfl | rfl | rfl
 ·rw [cmpS_two ha,ordS_zero]
  exact ⟨numZ_inj ha hb,fun e => by rw [e]⟩
 ·rw [cmpS_txt ha,cmpT_zero]
  exact ⟨fun e => by rw [ha.ext3,hb.ext3,e],fun e => by rw [e]⟩
 ·rw [cmpS_day ha,cmpi_zero]
  exact ⟨fun e => by rw [ha.ext4,hb.ext4,e],fun e => by rw [e]⟩
theorem cmpS_swap {k : Int} (hk : Kd k) {a b : VS} (ha : Sc k a) (hb : Sc k b) : cmpS b a = -cmpS a b:=by
 rcases hk with rfl | rfl | rfl
 ·rw [cmpS_two ha,cmpS_two hb,ordS_swap]
 ·rw [cmpS_txt ha,cmpS_txt hb,cmpT_swap]
 ·rw [cmpS_day ha,cmpS_day hb,cmpi_swap]
theorem cmpS_trans {k : Int} (hk : Kd k) {a b c : VS} (ha : Sc k a) (hb : Sc k b) (h1 : cmpS a b < 0) (h2 : cmpS b c < 0) : cmpS a c < 0:=by
 rcases hk with rfl | rfl | rfl
 ·rw [cmpS_two ha,ordS_neg'] at *
  rw [cmpS_two hb,ordS_neg'] at h2
  omega
 ·rw [cmpS_txt ha,cmpT_neg] at *
  rw [cmpS_txt hb,cmpT_neg] at h2
  exact bl_trans h1 h2
 ·rw [cmpS_day ha,cmpi_neg] at *
  rw [cmpS_day hb,cmpi_neg] at h2
  omega
theorem cmpS_self {k : Int} (hk : Kd k) {a : VS} (ha : Sc k a) : cmpS a a = 0:=(cmpS_zero hk ha ha).2 rfl
end Go.Proofs.YtbnadlpkbbdgjaaGreatDoor



namespace Go.Proofs.YtbnadlpkbbdgjaaGreatDoor.B
open Go.RowKit

theorem isnan_any (a : Int) (w : World) : Calls Tryz.prog 68 #[.int .i64 a] w fun e w' => e = .returned (.bool false) ∧ w' = w:=by
 go_enter Tryz.func68,Tryz.ntmps68
 go_wp2_with fail
 go_ret
 exact ⟨ret_bool (by simp),rfl⟩
theorem ccmp_any (a b : Int) (w : World) : Calls Tryz.prog 45 #[.int .i64 a,.int .i64 b] w fun e w' => e = .returned (.int .i64 (cmpi a b)) ∧ w' = w:=by
 have HN:=Lib.hid (fun (x : Int) (W : World) => isnan_any x W)
 unfold cmpi
 by_cases h1 : a < b
 ·rw [if_pos h1]
  go_enter Tryz.func45,Tryz.ntmps45
  go_wp2_with (go_at_call 68;(with_reducible refine (HN.out _ _).mono ?_);rintro _ _ ⟨rfl,rfl⟩)
  go_ret
  exact ⟨rfl,rfl⟩
 ·rw [if_neg h1]
  by_cases h2 : b < a
  ·rw [if_pos h2]
   go_enter Tryz.func45,Tryz.ntmps45
   go_wp2_with (go_at_call 68;(with_reducible refine (HN.out _ _).mono ?_);rintro _ _ ⟨rfl,rfl⟩)
   go_ret
   exact ⟨rfl,rfl⟩
  ·rw [if_neg h2]
   go_enter Tryz.func45,Tryz.ntmps45
   go_wp2_with (go_at_call 68;(with_reducible refine (HN.out _ _).mono ?_);rintro _ _ ⟨rfl,rfl⟩)
   go_ret
   exact ⟨rfl,rfl⟩
theorem nans_any (a : ByteArray) (w : World) : Calls Tryz.prog 69 #[.string a] w fun e w' => e = .returned (.bool false) ∧ w' = w:=by
 go_enter Tryz.func69,Tryz.ntmps69
 go_wp2_with fail
 go_ret
 exact ⟨ret_bool (by simp),rfl⟩
theorem ccmps_any (a b : List UInt8) (w : World) : Calls Tryz.prog 46 #[.string ⟨a.toArray⟩,.string ⟨b.toArray⟩] w fun e w' => e = .returned (.int .i64 (cmpT a b)) ∧ w' = w:=by
 have H:=Lib.hid (fun a W => nans_any a W)
 obtain ⟨x,hx⟩ : ∃ x,x = (⟨a.toArray⟩ : ByteArray):=⟨_,rfl⟩
 obtain ⟨y,hy⟩ : ∃ x,x = (⟨b.toArray⟩ : ByteArray):=⟨_,rfl⟩
 have ex : x.toList = a:=by rw [hx,ByteArray.toList_eq]
 have ey : y.toList = b:=by rw [hy,ByteArray.toList_eq]
 rw [← hx,← hy]
 clear hx hy
 unfold cmpT
 rcases bl_tri a b with h | h | h
 ·rw [if_pos h]
  rw [← ex,← ey] at h
  clear ex ey
  go_enter Tryz.func46,Tryz.ntmps46
  go_wp2_with (go_at_call 69;(with_reducible refine (H.out _ _).mono ?_);rintro _ _ ⟨rfl,rfl⟩)
  go_ret
  exact ⟨rfl,rfl⟩
 ·rw [if_neg (by rw [h,bl_irrefl];decide),if_pos h]
  have h1 : Op.bytesLess x.toList y.toList = false:=by rw [ex,ey,h,bl_irrefl]
  have h2 : Op.bytesLess y.toList x.toList = false:=by rw [ex,ey,h,bl_irrefl]
  have h3 : (x.toList == y.toList) = true:=by rw [ex,ey,h];exact beq_self_eq_true _
  have h4 : (y.toList == x.toList) = true:=by rw [ex,ey,h];exact beq_self_eq_true _
  clear ex ey h
  go_enter Tryz.func46,Tryz.ntmps46
  go_wp2_with (go_at_call 69;(with_reducible refine (H.out _ _).mono ?_);rintro _ _ ⟨rfl,rfl⟩)
  go_ret
  exact ⟨rfl,rfl⟩
 ·have hne : a ≠ b:=fun e => by subst e;rw [bl_irrefl] at h;cases h
  rw [if_neg (by rw [bl_asymm h];decide),if_neg hne]
  have h1 : Op.bytesLess x.toList y.toList = false:=by rw [ex,ey];exact bl_asymm h
  have h2 : Op.bytesLess y.toList x.toList = true:=by rw [ex,ey];exact h
  have h3 : (x.toList == y.toList) = false:=by rw [ex,ey];exact beq_eq_false_iff_ne.2 hne
  clear ex ey h hne
  go_enter Tryz.func46,Tryz.ntmps46
  go_wp2_with (go_at_call 69;(with_reducible refine (H.out _ _).mono ?_);rintro _ _ ⟨rfl,rfl⟩)
  go_ret
  exact ⟨rfl,rfl⟩
set_option maxRecDepth 100000 in
set_option maxHeartbeats 2000000 in
theorem order_vals {k : Int} (hk : Kd k) (p q : Pv) (hp : Sc k p.s) (hq : Sc k q.s) (w : World) :
  Calls Tryz.prog 24 #[p.val,q.val] w fun e w' => e = .returned (.int .i64 (cmpS p.s q.s)) ∧ Below w.heap.size w w':=by
 obtain ⟨s,A,C,B0,D⟩:=p
 obtain ⟨s',A',C',B',D'⟩:=q
 dsimp only at hp hq ⊢
 unfold Pv.val vagg
 rcases hk with rfl | rfl | rfl
 ·rw [cmpS_two hp]
  obtain ⟨t,e1,f1,g1⟩:=hp.num
  obtain ⟨u,e2,f2,g2⟩:=hq.num
  have ho:=ord_dec (b:=s.neg) (b':=s'.neg) (c:=s.coef) (s:=t) (c':=s'.coef) (s':=u) (fun h0 => (f1.2.2.1 h0).1) (fun h0 => (f2.2.2.1 h0).1)
  have hz1 : numZ s = sval s.neg (unit s.coef t):=by unfold numZ;rw [e1,Int.toNat_natCast]
  have hz2 : numZ s' = sval s'.neg (unit s'.coef u):=by unfold numZ;rw [e2,Int.toNat_natCast]
  rw [hz1,hz2,← ho]
  rw [e1] at g1
  rw [e2] at g2
  have HC:=Lib.hid (fun W => dcmp_ok s.neg s.coef t s'.neg s'.coef u g1 g2 f1.1 f2.1 f1.2.1 f2.2.1 W)
  have hk1:=hp.1
  have hk2:=hq.1
  obtain ⟨kind,yes,neg,coef,sc,text,day⟩:=s
  obtain ⟨kind',yes',neg',coef',sc',text',day'⟩:=s'
  dsimp only at hk1 hk2 e1 e2 HC ⊢
  subst hk1 hk2 e1 e2
  generalize ordD neg (unit coef t) neg' (unit coef' u) = o at *
  generalize wd coef 1 = x1 at *
  generalize wd coef 0 = x0 at *
  generalize wd coef' 1 = y1 at *
  generalize wd coef' 0 = y0 at *
  clear hp hq ho hz1 hz2 f1 f2 g1 g2
  go_enter Tryz.func24,Tryz.ntmps24
  go_wp2_with ((go_at_call 28;with_reducible refine (HC.out _).mono ?_);rintro _ w3 ⟨rfl,hb3⟩;have hb3s:=hb3.size;(try simp only [wsA,wsS,wsD,wsN] at hb3s);obtain ⟨hb3c,hb3f⟩:=bcell hb3;(try have : w.heap.size < w3.heap.size:=by omega);(try have : w.heap.size + 1 < w3.heap.size:=by omega);(try have : w.heap.size + 1 + 1 < w3.heap.size:=by omega);(try have : w.heap.size + 1 + 1 + 1 < w3.heap.size:=by omega))
  go_ret
  exact ⟨rfl,by exact bel⟩
 ·rw [cmpS_txt hp]
  have HC:=Lib.hid (fun W => ccmps_any s.text s'.text W)
  have hk1:=hp.1
  have hk2:=hq.1
  obtain ⟨kind,yes,neg,coef,sc,text,day⟩:=s
  obtain ⟨kind',yes',neg',coef',sc',text',day'⟩:=s'
  dsimp only at hk1 hk2 HC ⊢
  subst hk1 hk2
  generalize cmpT text text' = o at *
  generalize wd coef 1 = x1 at *
  generalize wd coef 0 = x0 at *
  generalize wd coef' 1 = y1 at *
  generalize wd coef' 0 = y0 at *
  clear hp hq
  go_enter Tryz.func24,Tryz.ntmps24
  go_wp2_with (go_at_call 46;(with_reducible refine (HC.out _).mono ?_);rintro _ _ ⟨rfl,rfl⟩)
  go_ret
  exact ⟨rfl,by exact bel⟩
 ·rw [cmpS_day hp]
  have HC:=Lib.hid (fun W => ccmp_any s.day s'.day W)
  have hk1:=hp.1
  have hk2:=hq.1
  obtain ⟨kind,yes,neg,coef,sc,text,day⟩:=s
  obtain ⟨kind',yes',neg',coef',sc',text',day'⟩:=s'
  dsimp only at hk1 hk2 HC ⊢
  subst hk1 hk2
  generalize cmpi day day' = o at *
  generalize wd coef 1 = x1 at *
  generalize wd coef 0 = x0 at *
  generalize wd coef' 1 = y1 at *
  generalize wd coef' 0 = y0 at *
  clear hp hq
  go_enter Tryz.func24,Tryz.ntmps24
  go_wp2_with (go_at_call 45;(with_reducible refine (HC.out _).mono ?_);rintro _ _ ⟨rfl,rfl⟩)
  go_ret
  exact ⟨rfl,by exact bel⟩
/-- as the library's sort wants it -/
theorem order_grow {k : Int} (hk : Kd k) (p q : Pv) (hp : Sc k p.s) (hq : Sc k q.s) (w : World) :
  Calls Tryz.prog 24 #[p.val,q.val] w fun e w' => e = .returned (.int .i64 (cmpS p.s q.s)) ∧ ∃ n os',w' = Go.Sort.grow (w.drewN n) os' :=
 (order_vals hk p q hp hq w).mono fun _ _ ⟨he,hb⟩ => ⟨he,hb.grow⟩
set_option maxRecDepth 100000 in
/-- the closure of points: are two values of one kind the same? -/
theorem same_vals {k : Int} (hk : Kd k) (p q : Pv) (hp : Sc k p.s) (hq : Sc k q.s) (w : World) :
  Calls Tryz.prog 64 #[p.val,q.val] w fun e w' => e = .returned (.bool (decide (cmpS p.s q.s = 0))) ∧ Below w.heap.size w w':=by
 have HO:=Lib.hid (fun W => order_vals hk p q hp hq W)
 obtain ⟨s,A,C,B0,D⟩:=p
 obtain ⟨s',A',C',B',D'⟩:=q
 dsimp only at hp hq HO ⊢
 unfold Pv.val vagg at HO ⊢
 dsimp only at HO ⊢
 obtain ⟨o,ho⟩ : ∃ o,o = cmpS s s':=⟨_,rfl⟩
 rw [← ho] at HO ⊢
 obtain ⟨kind,yes,neg,coef,sc,text,day⟩:=s
 obtain ⟨kind',yes',neg',coef',sc',text',day'⟩:=s'
 dsimp only at HO ⊢
 generalize wd coef 1 = x1 at *
 generalize wd coef 0 = x0 at *
 generalize wd coef' 1 = y1 at *
 generalize wd coef' 0 = y0 at *
 clear hp hq ho
 go_enter Tryz.func64,Tryz.ntmps64
 go_wp2_with ((go_at_call 24;with_reducible refine (HO.out _).mono ?_);rintro _ w3 ⟨rfl,hb3⟩;have hb3s:=hb3.size;(try simp only [wsA,wsS,wsD,wsN] at hb3s);obtain ⟨hb3c,hb3f⟩:=bcell hb3;(try have : w.heap.size < w3.heap.size:=by omega);(try have : w.heap.size + 1 < w3.heap.size:=by omega);(try have : w.heap.size + 1 + 1 < w3.heap.size:=by omega);(try have : w.heap.size + 1 + 1 + 1 < w3.heap.size:=by omega))
 go_ret
 exact ⟨ret_bool rfl,by exact bel⟩
end Go.Proofs.YtbnadlpkbbdgjaaGreatDoor.B



namespace Go.Proofs.YtbnadlpkbbdgjaaGreatDoor
open Go.RowKit
attribute [local go_sem] Oper.semAt_some

theorem frame16 (arr : Array Value) (h : arr.size = 16) : ∃ u : Nat → Value,arr = #[u 0,u 1,u 2,u 3,u 4,u 5,u 6,u 7,u 8,u 9,u 10,u 11,u 12,u 13,u 14,u 15]:=by
 refine ⟨fun k => arr.getD k undef, ?_⟩
 have e : arr = ((List.range 16).map fun k => arr.getD k undef).toArray:=by
  apply Array.ext
  ·simp [h]
  ·intro i h1 h2
   simp [h1]
 exact e.trans rfl
def valT (l B n : Nat) (v : Value) (t : Nat) (u : Nat → Value) : Array Value:=#[.func (.yield l) #[] #[],.pointer (some ⟨B,0,none⟩),u 2,u 3,u 4,v,.int .i64 n,.int .i64 t,u 8,u 9,u 10,u 11,u 12,u 13,u 14,u 15]
theorem valT_of {l B n t : Nat} {v : Value} (T : Array Value) (h : T.size = 16) (h0 : T.getD 0 undef = .func (.yield l) #[] #[]) (h1 : T.getD 1 undef = .pointer (some ⟨B,0,none⟩)) (h5 : T.getD 5 undef = v) (h6 : T.getD 6 undef = .int .i64 n) (h7 : T.getD 7 undef = .int .i64 t) : ∃ u,({ tmps:=T,defers:=[] } : Act) = { tmps:=valT l B n v t u,defers:=[] }:=by
 obtain ⟨u,rfl⟩:=frame16 T h
 have h0' : u 0 = _:=h0
 have h1' : u 1 = _:=h1
 have h5' : u 5 = _:=h5
 have h6' : u 6 = _:=h6
 have h7' : u 7 = _:=h7
 refine ⟨u, ?_⟩
 rw [h0',h1',h5',h6',h7']
 rfl
def at7 (a : Act) : Nat:=match a.tmps.getD 7 undef with
 | .int _ i => i.toNat
 | _ => 0
theorem val_next {l B n t : Nat} {v : Value} {T T0 : Array Value} {Q : Nat → Prop} (h : T.size = 16) (h0 : T.getD 0 undef = .func (.yield l) #[] #[]) (h1 : T.getD 1 undef = .pointer (some ⟨B,0,none⟩)) (h5 : T.getD 5 undef = v) (h6 : T.getD 6 undef = .int .i64 n) (h7 : T.getD 7 undef = .int .i64 ((t : Int) + 1)) (h8 : T0.getD 7 undef = .int .i64 (t : Int)) (ht : t < n) (hQ : Q (t + 1)) :
  (∃ (u : Nat → Value) (t : Nat),({ tmps:=T,defers:=[] } : Act) = { tmps:=valT l B n v t u,defers:=[] } ∧ Q t) ∧ n - at7 { tmps:=T,defers:=[] } < n - at7 { tmps:=T0,defers:=[] }:=by
 have h9 : T.getD 7 undef = .int .i64 ((t + 1 : Nat) : Int):=by rw [h7,Int.natCast_add];rfl
 obtain ⟨u,hu⟩:=valT_of T h h0 h1 h5 h6 h9
 refine ⟨⟨u,t + 1,hu,hQ⟩, ?_⟩
 have e1 : at7 { tmps:=T,defers:=[] } = t + 1:=by
  unfold at7
  rw [show ({ tmps:=T,defers:=[] } : Act).tmps = T from rfl,h9]
  exact Int.toNat_natCast _
 have e2 : at7 { tmps:=T0,defers:=[] } = t:=by
  unfold at7
  rw [show ({ tmps:=T0,defers:=[] } : Act).tmps = T0 from rfl,h8]
  exact Int.toNat_natCast _
 rw [e1,e2]
 omega
def pz : Pv:=⟨VS.zero,none,0,none,0⟩
def pg (l : List Pv) (r : Nat) : Pv:=l.getD r pz
/-- v reads as a row of values without items -/
def Pvs (w : World) (v : Value) (ps : List Pv) : Prop:=∃ A C,v = .slice A ps.length C ∧ ps.length ≤ 1048576 ∧ ∀ r,r < ps.length → ∃ b o,A = some ⟨b,o,none⟩ ∧ At w b (o + r * 10) (pg ps r).cs
theorem Pvs.at {w : World} {A : Option Addr} {n C : Nat} {ps : List Pv} (h : Pvs w (.slice A n C) ps) {r : Nat} (hr : r < ps.length) : ∃ b o,A = some ⟨b,o,none⟩ ∧ At w b (o + r * 10) (pg ps r).cs:=by
 obtain ⟨A',C',h1,_,h3⟩:=h
 injection h1 with e1 e2 e3
 subst e1
 exact h3 r hr
theorem Pvs.below {w w' : World} {v : Value} {ps : List Pv} (h : Pvs w v ps) (hb : Below w.heap.size w w') : Pvs w' v ps:=by
 obtain ⟨A,C,h1,h2,h3⟩:=h
 refine ⟨A,C,h1,h2,fun r hr => ?_⟩
 obtain ⟨b,o,h4,h5⟩:=h3 r hr
 exact ⟨b,o,h4,h5.below hb⟩
theorem values_any (A : Option Addr) (m C : Nat) (w : World) : Calls Tryz.prog 62 #[.slice A m C] w fun e w' => e = .returned (.func (.func 88) #[] #[.pointer (some ⟨w.heap.size,0,none⟩)]) ∧ w' = w.alloc (.cells #[.slice A m C] 22):=by
 go_enter Tryz.func62,Tryz.ntmps62
 go_wp2_with fail
 go_ret
 exact ⟨rfl,rfl⟩
set_option maxRecDepth 100000 in
set_option maxHeartbeats 2000000 in
theorem values1_any (n B : Nat) (ps : List Pv) (v : Value) (w : World) (hn : 1 ≤ n) (hB : B < w.heap.size) (hbox : Bk w B 22 [v]) (h : ∀ W,Below (B + 1) w W → Pvs W v ps) :
  SeqC Fence.wide n Tryz.prog 88 #[.pointer (some ⟨B,0,none⟩)] (fun p : Pv => #[p.val]) (Below (B + 1)) (· = ps) (· <+: ps) ps.length w:=by
 intro l J Jx W hW hJ hJx hY h0
 refine callsIn_of_wp Tryz.func88 rfl trivial ?_ rfl
 simp only [Tryz.ntmps88,List.size_toArray,List.length_cons,List.length_nil,Nat.reduceAdd,Nat.reduceSub,Array.replicate_succ,Array.replicate_zero,List.push_toArray,List.append_toArray,List.nil_append,List.cons_append]
 have hW1 : Below (B + 1) w W:=hW.mono (by omega)
 have H:=Lib.hid h
 have HBX:=Lib.hid hbox
 have hb1:=hbox.below hW1 (by omega)
 have c1:=hb1.cell 0 rfl
 obtain ⟨A,C,rfl,hm,-⟩:=h w (Below.refl _ _)
 gi_wp2
 refine wpIn_loop (fun a wr => ∃ (u : Nat → Value) (t : Nat),a = { tmps:=valT l B ps.length (.slice A ps.length C) t u,defers:=[] } ∧ t ≤ ps.length ∧ J (ps.take t) wr ∧ Below (B + 1) w wr ∧ W.heap.size ≤ wr.heap.size) (fun a _ => ps.length - at7 a) ?start ?round
 case start =>
  obtain ⟨u,hu⟩:=valT_of (l:=l) (B:=B) (n:=ps.length) (t:=0) (v:=.slice A ps.length C) #[.func (.yield l) #[] #[],.pointer (some ⟨B,0,none⟩),undef,undef,undef,.slice A ps.length C,.int .i64 ps.length,.int .i64 0,undef,undef,undef,undef,undef,undef,undef,undef] rfl rfl rfl rfl rfl rfl
  exact ⟨u,0,hu,Nat.zero_le _,h0,hW1,Nat.le_refl _⟩
 case round =>
  rintro a wr ⟨u,t,rfl,ht,hj,hb,hsz⟩
  have HSZ:=Lib.hid hsz
  have HJ:=Lib.hid hj
  have HB:=Lib.hid hb
  have c2:=(hbox.below hb (by omega)).cell 0 rfl
  clear c1 hb1 hW1
  by_cases hlt : t < ps.length
  ·obtain ⟨b1,p1,rfl,a1⟩:=(H.out wr hb).at hlt
   obtain ⟨p,hp⟩ : ∃ p,p = pg ps t:=⟨_,rfl⟩
   rw [← hp] at a1
   have HP:=Lib.hid hp
   obtain ⟨z0,z1,z2,z3,z4,z5,z6,z7,z8,z9⟩:=At.val (s:=p.s) (L:=.slice p.A 0 p.C) (N:=.slice p.B 0 p.D) a1
   obtain ⟨s,Ap,Cp,Bp,Dp⟩:=p
   obtain ⟨kind,yes,neg,coef,sc,text,day⟩:=s
   dsimp only at z0 z1 z2 z3 z4 z5 z6 z7 z8 z9
   have htk : ps.take (t + 1) = ps.take t ++ [⟨⟨kind,yes,neg,coef,sc,text,day⟩,Ap,Cp,Bp,Dp⟩]:=by
    rw [List.take_add_one,List.getElem?_eq_getElem hlt,hp]
    unfold pg
    rw [List.getD_eq_getElem?_getD,List.getElem?_eq_getElem hlt]
    rfl
   have hpre : ps.take t ++ [⟨⟨kind,yes,neg,coef,sc,text,day⟩,Ap,Cp,Bp,Dp⟩] <+: ps:=by rw [← htk];exact List.take_prefix _ _
   have HTK:=Lib.hid htk
   have hwsz : W.heap.size ≤ wr.heap.size:=HSZ.out
   obtain ⟨w2,hw2⟩ : ∃ W2,W2 = wr.alloc (.cells #[.int .i64 kind,.bool yes,.bool neg,.int .u64 (wd coef 1),.int .u64 (wd coef 0),.int .i64 sc,.string ⟨text.toArray⟩,.int .i64 day,.slice Ap 0 Cp,.slice Bp 0 Dp] 30):=⟨_,rfl⟩
   have hba : Below wr.heap.size wr w2:=by rw [hw2];exact (Below.refl _ _).alloc (Nat.le_refl _) _
   obtain ⟨fn,tmps,assign,body,hy,hR⟩:=hY (ps.take t) ⟨⟨kind,yes,neg,coef,sc,text,day⟩,Ap,Cp,Bp,Dp⟩ w2 (hJ _ _ _ hj hba) hpre
   rw [hw2] at hy
   clear a1 hj hp htk hpre
   unfold valT
   gi_wp2
   rw [← hw2]
   refine hR.mono ?_
   rintro e w3 (⟨rfl,hJ3,hk3⟩ | ⟨rfl,hJx3⟩)
   ·rw [← HTK.out] at hJ3
    have hb4:=(hb.trans (hba.mono (by have:=hb.size;omega))).trans hk3
    have hs3:=hk3.size
    have hs2:=hba.size
    gi_wp2
    exact val_next (Q:=fun t => t ≤ ps.length ∧ J (ps.take t) w3 ∧ Below (B + 1) w w3 ∧ W.heap.size ≤ w3.heap.size) rfl rfl rfl rfl rfl rfl rfl hlt ⟨hlt,hJ3,hb4,by omega⟩
   ·have hpre2 : ps.take (t + 1) <+: ps:=List.take_prefix _ _
    rw [HTK.out] at hpre2
    gi_wp2
    refine bodyPost_ret (by simp [results,Tryz.results88,go_sem, *];try rfl) rfl ?_
    exact ⟨⟨_,rfl⟩,.inr ⟨_,hpre2,hJx3⟩⟩
  ·have hte : t = ps.length:=by omega
   subst hte
   unfold valT
   gi_wp2
   rw [List.take_length] at hj
   go_end0
   exact ⟨⟨_,rfl⟩,.inl ⟨_,rfl,hj⟩⟩
end Go.Proofs.YtbnadlpkbbdgjaaGreatDoor



namespace Go.Proofs.YtbnadlpkbbdgjaaGreatDoor
open Go.RowKit
attribute [local go_sem] Oper.semAt_some

def flat (ps : List Pv) : List Value:=ps.flatMap Pv.cs
theorem Pv.cs_len (p : Pv) : p.cs.length = 10:=rfl
theorem flat_len : ∀ ps : List Pv,(flat ps).length = ps.length * 10
 | [] => rfl
 | p :: ps => by
  show (p.cs ++ flat ps).length = _
  rw [List.length_append,flat_len ps,Pv.cs_len,List.length_cons]
  omega
theorem flat_app (a b : List Pv) : flat (a ++ b) = flat a ++ flat b:=List.flatMap_append
theorem flat_at : ∀ {ps : List Pv} {r : Nat},r < ps.length → ∀ {j : Nat},j < 10 → (flat ps)[r * 10 + j]? = (pg ps r).cs[j]?
 | p :: ps,0,_,j,hj => by
  show (p.cs ++ flat ps)[0 * 10 + j]? = _
  rw [List.getElem?_append_left (by rw [Pv.cs_len];omega),Nat.zero_mul,Nat.zero_add]
  rfl
 | p :: ps,r + 1,hr,j,hj => by
  show (p.cs ++ flat ps)[(r + 1) * 10 + j]? = _
  rw [List.getElem?_append_right (by rw [Pv.cs_len];omega),Pv.cs_len,show (r + 1) * 10 + j - 10 = r * 10 + j by omega]
  exact flat_at (ps:=ps) (by simpa using hr) hj
theorem flat_cells (ps : List Pv) : ∀ u ∈ flat ps,u.oneCell' = true:=fun u hu => by
 obtain ⟨p,_,hp⟩:=List.mem_flatMap.1 hu
 unfold Pv.cs VS.cs at hp
 simp only [List.cons_append,List.nil_append,List.mem_cons,List.not_mem_nil,or_false] at hp
 rcases hp with rfl | rfl | rfl | rfl | rfl | rfl | rfl | rfl | rfl | rfl <;> rfl
theorem Pvs.of_ro {w : World} {o : Nat → Nat} {l n : Nat} {t : TypeId} {v : Value} {ps : List Pv} (h : Ro w o l t 10 v n (flat ps)) (hn : n = ps.length) (hm : n ≤ 1048576) : Pvs w v ps:=by
 subst hn
 obtain ⟨A,C,rfl,-⟩:=h.sl.is
 refine ⟨A,C,rfl,hm,fun r hr => ?_⟩
 obtain ⟨b,q,e,-⟩:=h.sl.at (j:=r * 10) (by omega)
 refine ⟨b,q,e,fun j hj => ?_⟩
 rw [Pv.cs_len] at hj
 obtain ⟨b',q',e',hc⟩:=h.sl.at (j:=r * 10 + j) (by omega)
 rw [e] at e'
 injection e' with e'
 injection e' with e1 e2
 subst e1 e2
 rw [Nat.add_assoc,hc,flat_at hr hj]
theorem Turn.putObj {S : Nat → Prop} (A : World) (o : Nat → Nat) (l : Nat) (x : Obj) (h : S (o l)) : Turn S A o (A.putObj l x) o:=by
 have hb:=below_putObj (B:=0) A l x (Nat.zero_le _) (Nat.zero_le _)
 exact ⟨hb.os,hb.tape,hb.output,hb.size,fun _ _ => rfl,fun k _ hs => World.putObj_heap_other (fun e => hs (by rw [e];exact h))⟩
/-- a function leaves, its marks are taken: what bears another number stays -/
theorem leaves_markT {F : Fence} {n : Nat} {P : Program} {fn : Func} {tmps : Array Value} {R : Ending → World → Prop} {u : FrameMode} {o : Nat → Nat} {l : Nat} (hu : u ≠ .run) (D : Nat) (w : World) (h1 : w.heap[D]? = some (.deferred (some []))) (h2 : o D = l) (h : ∀ W',Turn (· = l) w o W' o → LeavesIn F n P fn tmps R [] u W') : LeavesInM F n P fn tmps R [{ target:=.collected D,args:=#[] }] u w :=
 ⟨hu,.inl ⟨D,_,rfl,run_takeDeferred h1,h _ (Turn.putObj w o D _ h2)⟩⟩
theorem info_val10 : (Tryz.prog.info? 30).map (fun i => (i.zero,i.size,i.bytes)) = some (some (.agg #[.int .i64 0,.bool false,.bool false,.int .u64 0,.int .u64 0,.int .i64 0,.string ⟨#[]⟩,.int .i64 0,.slice none 0 0,.slice none 0 0]),10,120):=by kernel_rfl
def zc10 : List Value:=[.int .i64 0,.bool false,.bool false,.int .u64 0,.int .u64 0,.int .i64 0,.string ⟨#[]⟩,.int .i64 0,.slice none 0 0,.slice none 0 0]
set_option maxRecDepth 100000 in
theorem stepIn_pushR {Fe : Fence} {nn : Nat} {w : World} {ops : Array Oper} {o : Oper} {a : Act} {K : Act → World → Prop} {Q : Exit → Act → World → Prop} {E : Prop} (hgd : o.guard = none) (s x : Operand) (t e : TypeId) (k : Nat) (bytes : Nat) (z : Value)
  (ho : o.op = .call { callee:=.builtin .append,args:=#[s,x],argTypes:=#[t,t] }) (ht : Tryz.prog.underlying t = some (.slice e))
  (hi : (Tryz.prog.info? e).map (fun i => (i.zero,i.size,i.bytes)) = some (some z,k,bytes)) (hzk : z.cells.size = k) (hk : 0 < k)
  (own : Nat → Nat) (l : Nat) (v : Value) (n : Nat) (ds : List Value) (hs : a.eval s = v) (hrow : Ro w own l e k v n ds)
  (ad : Addr) (m c : Nat) (news : List Value) (hx : a.eval x = .slice (some ad) m c) (hl : news.length = m * k) (hnews : ∀ j u,news[j]? = some u → w.cell? (ad.add j) = some u) (h1 : ∀ u ∈ news,u.oneCell' = true) (hm : 0 < m) (hlen : (n + m) * bytes ≤ 140737488355328) (h63 : n + m ≤ maxLen)
  (h : ∀ g cap w',Ro w' (relabel own w.heap.size l) l e k (.slice (some ⟨g,0,none⟩) (n + m) cap) (n + m) (ds ++ news) → Turn (· = l) w own w' (relabel own w.heap.size l) → KeepsOthers w w' → K (a.put o.dst (.slice (some ⟨g,0,none⟩) (n + m) cap)) w') :
  if Region.wanted o (yielded ops a.tmps) = true then Oper.wpIn Fe nn Tryz.prog o a w K Q else E:=by
 rw [if_pos (by simp [Region.wanted,hgd])]
 obtain ⟨i0,hi0,hz0,hz1,hz2⟩:=info_parts hi
 obtain ⟨g,cap,w',hrun,r1,r2,r3,r4⟩:=run_append_lies (P:=Tryz.prog) (w:=w) t o.type 0 e i0 z k bytes ht hi0 hz0 hz1 hz2 hzk hk v n ds hrow.1 ad m c news hl hnews h1 hm h63 hlen (Nat.zero_le _) w.heap.size rfl
 obtain ⟨k1,k2⟩:=hrow.push r1 r2 r3
 unfold Oper.wpIn
 refine ⟨?_, ?_⟩
 ·simp [Oper.about,ho,resolve,Target.leads,Sem.run_pure]
 ·rw [Oper.semAt_plain Fe _ _ (by rw [ho];intro c hc';cases hc')]
  simp [execOp,ho,resolve,invoke,builtin,hs,hx,hrun,Result.andThen]
  exact h g cap w' k1 k2 (KeepsOthers.of_grownBy r2 (fun j ob hj hb => by
   rcases hrow.1.2 with ⟨hv,_⟩ | ⟨g',cap',cur,hv,_,hg',_⟩
   ·rw [hv] at hj;cases hj
   ·rw [hv] at hj
    injection hj with hj
    subst hj
    rw [hg'] at hb
    injection hb with hb
    subst hb
    rfl))
set_option maxRecDepth 100000 in
theorem set10 (a : List Value) (z0 z1 z2 z3 z4 z5 z6 z7 z8 z9 c0 c1 c2 c3 c4 c5 c6 c7 c8 c9 : Value) : ((((((((((a ++ [z0,z1,z2,z3,z4,z5,z6,z7,z8,z9]).set a.length c0).set (a.length + 1) c1).set (a.length + 2) c2).set (a.length + 3) c3).set (a.length + 4) c4).set (a.length + 5) c5).set (a.length + 6) c6).set (a.length + 7) c7).set (a.length + 8) c8).set (a.length + 9) c9 = a ++ [c0,c1,c2,c3,c4,c5,c6,c7,c8,c9]:=by
 simp [List.set_append]
/-- ten cells in a row written -/
def put10 (w : World) (g q : Nat) (c0 c1 c2 c3 c4 c5 c6 c7 c8 c9 : Value) : World:=(((((((((w.setCell ⟨g,q,none⟩ c0).setCell ⟨g,q + 1,none⟩ c1).setCell ⟨g,q + 2,none⟩ c2).setCell ⟨g,q + 3,none⟩ c3).setCell ⟨g,q + 4,none⟩ c4).setCell ⟨g,q + 5,none⟩ c5).setCell ⟨g,q + 6,none⟩ c6).setCell ⟨g,q + 7,none⟩ c7).setCell ⟨g,q + 8,none⟩ c8).setCell ⟨g,q + 9,none⟩ c9
theorem put10_ko (w : World) (g q : Nat) (c0 c1 c2 c3 c4 c5 c6 c7 c8 c9 : Value) : KeepsOthers w (put10 w g q c0 c1 c2 c3 c4 c5 c6 c7 c8 c9) :=
 (((((((((KeepsOthers.setCell _ _ _).trans (KeepsOthers.setCell _ _ _)).trans (KeepsOthers.setCell _ _ _)).trans (KeepsOthers.setCell _ _ _)).trans (KeepsOthers.setCell _ _ _)).trans (KeepsOthers.setCell _ _ _)).trans (KeepsOthers.setCell _ _ _)).trans (KeepsOthers.setCell _ _ _)).trans (KeepsOthers.setCell _ _ _)).trans (KeepsOthers.setCell _ _ _)
theorem put10_far {w : World} {g q h : Nat} {t : TypeId} {cs : List Value} (c0 c1 c2 c3 c4 c5 c6 c7 c8 c9 : Value) (hk : Bk w h t cs) (hne : h ≠ g) : Bk (put10 w g q c0 c1 c2 c3 c4 c5 c6 c7 c8 c9) h t cs :=
 (((((((((hk.far hne _).far hne _).far hne _).far hne _).far hne _).far hne _).far hne _).far hne _).far hne _).far hne _
theorem put10_below {B : Nat} {a w : World} {g q : Nat} (c0 c1 c2 c3 c4 c5 c6 c7 c8 c9 : Value) (h : Below B a w) (hg : B ≤ g) : Below B a (put10 w g q c0 c1 c2 c3 c4 c5 c6 c7 c8 c9) :=
 (((((((((h.setCell hg _).setCell hg _).setCell hg _).setCell hg _).setCell hg _).setCell hg _).setCell hg _).setCell hg _).setCell hg _).setCell hg _
set_option maxRecDepth 100000 in
theorem put10_ro {w : World} {o : Nat → Nat} {l n C g : Nat} {t : TypeId} {cs : List Value} (c0 c1 c2 c3 c4 c5 c6 c7 c8 c9 z0 z1 z2 z3 z4 z5 z6 z7 z8 z9 : Value) (h : Ro w o l t 10 (.slice (some ⟨g,0,none⟩) (n + 1) C) (n + 1) (cs ++ [z0,z1,z2,z3,z4,z5,z6,z7,z8,z9])) (hn : cs.length = n * 10) :
  Ro (put10 w g (n * 10) c0 c1 c2 c3 c4 c5 c6 c7 c8 c9) o l t 10 (.slice (some ⟨g,0,none⟩) (n + 1) C) (n + 1) (cs ++ [c0,c1,c2,c3,c4,c5,c6,c7,c8,c9]):=by
 have h1:=(((((((((h.store (j:=n * 10) (by omega) c0).store (j:=n * 10 + 1) (by omega) c1).store (j:=n * 10 + 2) (by omega) c2).store (j:=n * 10 + 3) (by omega) c3).store (j:=n * 10 + 4) (by omega) c4).store (j:=n * 10 + 5) (by omega) c5).store (j:=n * 10 + 6) (by omega) c6).store (j:=n * 10 + 7) (by omega) c7).store (j:=n * 10 + 8) (by omega) c8).store (j:=n * 10 + 9) (by omega) c9
 rw [← hn,set10] at h1
 rw [← hn]
 exact h1
theorem row_cell {w : World} {o : Nat → Nat} {l n C g : Nat} {t : TypeId} {cs : List Value} (h : Ro w o l t 10 (.slice (some ⟨g,0,none⟩) (n + 1) C) (n + 1) (cs ++ zc10)) (hn : cs.length = n * 10) (i : Nat) {u : Value} (hi : zc10[i]? = some u) : w.cell? ⟨g,n * 10 + i,none⟩ = some u ∧ w.frozen? ⟨g,n * 10 + i,none⟩ = false:=by
 have hlt : i < 10:=(List.getElem?_eq_some_iff.1 hi).1
 obtain ⟨g',cap,cur,e,h1,h2,h3,h4,h5⟩:=h.form (by omega)
 injection e with e1 e2 e3
 injection e1 with e1
 injection e1 with e1
 subst e1
 refine ⟨h4.1.cell _ ?_,h4.1.frozen _⟩
 rw [← List.getElem?_take_of_lt (show n * 10 + i < (n + 1) * 10 by omega),h5,List.getElem?_append_right (by omega),hn,Nat.add_sub_cancel_left]
 exact hi
theorem coll_fin {S0 B g cap : Nat} {W w9 W' w1 : World} {pre : List Pv} {vo v : Value} {zo : Obj} (s : VS) (A : Option Addr) (C : Nat) (A2 : Option Addr) (D : Nat)
  (h1 : Bk W S0 22 [vo]) (h3 : Below S0 w1 W) (hsz : S0 + 3 ≤ W.heap.size) (hBS : B + 1 ≤ S0) (hko : KeepsOthers (W.alloc zo).drew w9) (ht9 : Turn (· = 1) (W.alloc zo).drew (ob (S0 + 3)) w9 (ob (S0 + 3))) (hr9 : Ro w9 (ob (S0 + 3)) 1 30 10 (.slice (some ⟨g,0,none⟩) (pre.length + 1) cap) (pre.length + 1) (flat pre ++ zc10))
  (hv : v = .slice (some ⟨g,0,none⟩) (pre.length + 1) cap)
  (hW : W' = (put10 w9 g (pre.length * 10) (.int .i64 s.kind) (.bool s.yes) (.bool s.neg) (.int .u64 (wd s.coef 1)) (.int .u64 (wd s.coef 0)) (.int .i64 s.sc) (.string ⟨s.text.toArray⟩) (.int .i64 s.day) (.slice A 0 C) (.slice A2 0 D)).setCell ⟨S0,0,none⟩ v ∨
   W' = put10 (w9.setCell ⟨S0,0,none⟩ v) g (pre.length * 10) (.int .i64 s.kind) (.bool s.yes) (.bool s.neg) (.int .u64 (wd s.coef 1)) (.int .u64 (wd s.coef 0)) (.int .i64 s.sc) (.string ⟨s.text.toArray⟩) (.int .i64 s.day) (.slice A 0 C) (.slice A2 0 D)) :
  KeepsOthers W W' ∧ Below (B + 1) W W' ∧ ∃ vo,Bk W' S0 22 [vo] ∧ Ro W' (ob (S0 + 3)) 1 30 10 vo (pre ++ [(⟨s,A,C,A2,D⟩ : Pv)]).length (flat (pre ++ [(⟨s,A,C,A2,D⟩ : Pv)])) ∧ Below S0 w1 W':=by
 subst hv
 have hg : S0 + 3 ≤ g:=by
  have h5:=hr9.2 g rfl
  rcases Nat.lt_or_ge g (S0 + 3) with h' | h'
  ·rw [ob_low h'] at h5;cases h5
  ·exact h'
 have ko9 : KeepsOthers W w9:=(KeepsOthers.alloc W zo).trans ((KeepsOthers.drew _).trans hko)
 have hb9 : Below S0 W w9:=((((Below.refl S0 W).alloc (by omega) zo).drew)).trans (ht9.below (fun k hk => by rw [ob_low (by omega)];decide) (by show S0 ≤ (W.alloc zo).heap.size;rw [World.size_alloc];omega))
 have k9 : Bk w9 S0 22 [vo]:=(Lb.turn (w:=(W.alloc zo).drew) (o:=ob (S0 + 3)) (l:=0) (g:=S0) (t:=22) (cs:=[vo]) (And.intro ((h1.alloc zo).drew) (ob_low (by omega))) ht9 (by decide)).1
 have hne : S0 ≠ g:=by omega
 have hfl : flat (pre ++ [(⟨s,A,C,A2,D⟩ : Pv)]) = flat pre ++ [.int .i64 s.kind,.bool s.yes,.bool s.neg,.int .u64 (wd s.coef 1),.int .u64 (wd s.coef 0),.int .i64 s.sc,.string ⟨s.text.toArray⟩,.int .i64 s.day,.slice A 0 C,.slice A2 0 D]:=by
  rw [flat_app]
  rfl
 have hln : (pre ++ [(⟨s,A,C,A2,D⟩ : Pv)]).length = pre.length + 1:=by rw [List.length_append];rfl
 rw [hfl,hln]
 have hoS : ob (S0 + 3) S0 ≠ 1:=by rw [ob_low (by omega)];decide
 rcases hW with rfl | rfl
 ·refine ⟨(ko9.trans (put10_ko ..)).trans (KeepsOthers.setCell _ _ _),((put10_below _ _ _ _ _ _ _ _ _ _ hb9 (by omega)).setCell (p:=⟨S0,0,none⟩) (Nat.le_refl S0) _).mono hBS,_,(put10_far _ _ _ _ _ _ _ _ _ _ k9 hne).set_ 0 _, ?_,h3.trans ((put10_below _ _ _ _ _ _ _ _ _ _ hb9 (by omega)).setCell (p:=⟨S0,0,none⟩) (Nat.le_refl S0) _)⟩
  exact (put10_ro _ _ _ _ _ _ _ _ _ _ _ _ _ _ _ _ _ _ _ _ hr9 (flat_len pre)).set (p:=⟨S0,0,none⟩) hoS _
 ·refine ⟨(ko9.trans (KeepsOthers.setCell _ _ _)).trans (put10_ko ..),(put10_below _ _ _ _ _ _ _ _ _ _ (hb9.setCell (p:=⟨S0,0,none⟩) (Nat.le_refl S0) _) (by omega)).mono hBS,_,put10_far _ _ _ _ _ _ _ _ _ _ (k9.set_ 0 _) hne, ?_,h3.trans (put10_below _ _ _ _ _ _ _ _ _ _ (hb9.setCell (p:=⟨S0,0,none⟩) (Nat.le_refl S0) _) (by omega))⟩
  exact put10_ro _ _ _ _ _ _ _ _ _ _ _ _ _ _ _ _ _ _ _ _ (hr9.set (p:=⟨S0,0,none⟩) hoS _) (flat_len pre)
def CollPost (ps : List Pv) (w : World) (e : Ending) (w' : World) : Prop:=∃ r,e = .returned r ∧ Below w.heap.size w w' ∧ Ro w' (ob w.heap.size) 1 30 10 r ps.length (flat ps)
set_option maxRecDepth 100000 in
set_option maxHeartbeats 2000000 in
theorem appendseq_any (B : Nat) (ps : List Pv) (v : Value) (w : World) (hm : ps.length ≤ 1048576) (hB : B < w.heap.size) (hbox : Bk w B 22 [v]) (h : ∀ W,Below (B + 1) w W → Pvs W v ps) :
  Calls Tryz.prog 130 #[.slice none 0 0,.func (.func 88) #[] #[.pointer (some ⟨B,0,none⟩)]] w (CollPost ps w):=by
 have HH:=Lib.hid h
 have HBX:=Lib.hid hbox
 unfold CollPost
 refine (callsIn_wide (n:=3)).1 ?_
 refine callsIn_of_wp_marks Tryz.func130 rfl trivial ?_ rfl
 simp only [Tryz.ntmps130,List.size_toArray,List.length_cons,List.length_nil,Nat.reduceAdd,Nat.reduceSub,Array.replicate_succ,Array.replicate_zero,List.push_toArray,List.append_toArray,List.nil_append,List.cons_append]
 gi_wp2
 obtain ⟨S0,hS⟩ : ∃ S,S = w.heap.size:=⟨_,rfl⟩
 obtain ⟨w1,hw1⟩ : ∃ W,W = w.alloc (.cells #[.slice none 0 0] 22):=⟨_,rfl⟩
 have hs1 : w1.heap.size = S0 + 1:=by rw [hw1,hS,World.size_alloc]
 have hb1 : Below S0 w w1:=by rw [hw1,hS];exact (Below.refl _ _).alloc (Nat.le_refl _) _
 have k1 : Bk w1 S0 22 [.slice none 0 0]:=by rw [hw1,hS];exact Bk.new_ rfl
 rw [← hw1,← hS]
 have hbox1:=hbox.below hb1 (by omega)
 have hh1 : ∀ W,Below (B + 1) w1 W → Pvs W v ps:=fun W hW => h W ((hb1.mono (by omega)).trans hW)
 have HS0:=Lib.hid hS
 have hBS : B + 1 ≤ S0:=by omega
 clear hw1 hS
 refine wpIn_rangeC rfl (by omega) (gf:=88) (lb:=#[.pointer (some ⟨B,0,none⟩)]) rfl trivial (enters_of Tryz.func88 (by kernel_rfl) rfl)
  (values1_any 2 B ps v w1 (by omega) (by omega) hbox1 hh1)
  Below.trans (fun W l o o' hl h2 _ => below_putObj W l o' (by rw [hs1] at hl;omega) (by have:=(Array.getElem?_eq_some_iff.1 h2).1;rw [hs1] at hl;omega)) (Below.refl _ _) (fun _ => rfl)
  (fun pre W => ∃ vo,Bk W S0 22 [vo] ∧ Ro W (ob (S0 + 3)) 1 30 10 vo pre.length (flat pre) ∧ Below S0 w1 W)
  (fun c pre W => False)
  ?hI (fun c s A D h hb => h) ?hIp (fun c s A o h => h) ?h0
  (fun p W => { tmps:=#[.slice none 0 0,.func (.func 88) #[] #[.pointer (some ⟨B,0,none⟩)],.pointer (some ⟨S0,0,none⟩),undef,.slice none 0 0,.pointer (some ⟨W.heap.size,0,none⟩),.func (.func 88) #[] #[.pointer (some ⟨B,0,none⟩)],p.val,undef,undef,undef,undef,undef,undef,undef],defers:=[] })
  (fun p W => W.alloc (.cells #[.int .i64 p.s.kind,.bool p.s.yes,.bool p.s.neg,.int .u64 (wd p.s.coef 1),.int .u64 (wd p.s.coef 0),.int .i64 p.s.sc,.string ⟨p.s.text.toArray⟩,.int .i64 p.s.day,.slice p.A 0 p.C,.slice p.B 0 p.D] 30)) (fun p W => (Below.refl _ _).alloc (Nat.le_refl _) _) (fun p W hW => (Below.refl _ _).alloc (by omega) _) ?assign ?body ?done ?stop
 case stop =>
  rintro c pre W hpx hF hK
  exact hF.elim
 case hI =>
  rintro s A D ⟨vo,h1,h2,h3⟩ hb
  exact ⟨vo,h1.below hb h1.lt,ob_kept h2 hb,h3.trans (hb.mono (Nat.le_of_lt h1.lt))⟩
 case hIp =>
  rintro s A x ⟨vo,h1,h2,h3⟩
  rw [hs1]
  refine ⟨vo,(World.putObj_heap_other (by omega)).trans h1,h2.turn (S:=(· = 0)) (Turn.putObj A _ _ x (ob_low (by omega))) (by decide),h3.trans (below_putObj A _ x (by omega) (Nat.le_of_lt h1.lt))⟩
 case h0 => exact ⟨_,k1,Ro.nil _ _ _ _ _,Below.refl _ _⟩
 case assign =>
  intro l x W K hK
  gi_wp2
  exact hK
 case body =>
  rintro l pre x W0 - hpre hsz W ⟨ox,hW⟩ ⟨vo,h1,h2,h3⟩
  have hpl:=hpre.length_le
  rw [List.length_append,List.length_cons,List.length_nil] at hpl
  obtain ⟨A9,C9,rfl,-⟩:=h2.sl.is
  obtain ⟨bv,hbv⟩ : ∃ b,b = W0.heap.size:=⟨_,rfl⟩
  have kv : Bk W bv 30 x.cs:=by
   rw [hW,hbv]
   exact (World.putObj_heap_other (by omega)).trans (Bk.new_ rfl)
  have hbS : S0 + 3 ≤ bv:=by omega
  rw [← hbv]
  obtain ⟨s,Ap,Cp,Bp,Dp⟩:=x
  obtain ⟨kind,yes,neg,coef,sc,text,day⟩:=s
  have c0:=h1.cell 0 rfl
  have f0:=h1.frozen 0
  have v0:=kv.cell 0 rfl
  have v1:=kv.cell 1 rfl
  have v2:=kv.cell 2 rfl
  have v3:=kv.cell 3 rfl
  have v4:=kv.cell 4 rfl
  have v5:=kv.cell 5 rfl
  have v6:=kv.cell 6 rfl
  have v7:=kv.cell 7 rfl
  have v8:=kv.cell 8 rfl
  have v9:=kv.cell 9 rfl
  dsimp only at v0 v1 v2 v3 v4 v5 v6 v7 v8 v9
  have hl1:=h1.lt
  have hsz3 : S0 + 3 ≤ W.heap.size:=by have:=kv.lt;omega
  have hl2:=kv.lt
  have H1:=Lib.hid h1
  have H2:=Lib.hid h2
  have H3:=Lib.hid h3
  have HV:=Lib.hid kv
  clear h1 h2 h3 kv hW hsz hbv h hh1 hbox hbox1 k1
  gi_wp2
  refine wpIn_region_any (by kernel_rfl) ?_
  (try (change wpAnyIn _ _ _ _ _ _ _ _ _ (World.drew _)))
  (refine wpAnyIn_ready (rs:=[0,1,3]) ?hr (by simp) ?_;(case hr => decide +kernel);refine AllReadyIn.cons rfl (fun K hK => ?_) (AllReadyIn.cons rfl (fun K hK => ?_) (AllReadyIn.cons rfl (fun K hK => ?_) AllReadyIn.nil)) <;> (go_simp;refine hK _ _ ?_;clear hK K))
  all_goals (first | (refine wpAnyIn_ready (rs:=[1,2,3]) ?hr (by simp) ?_;(case hr => decide +kernel);refine AllReadyIn.cons rfl (fun K hK => ?_) (AllReadyIn.cons rfl (fun K hK => ?_) (AllReadyIn.cons rfl (fun K hK => ?_) AllReadyIn.nil)) <;> (go_simp;refine hK _ _ ?_;clear hK K)) | (refine wpAnyIn_ready (rs:=[0,3]) ?hr (by simp) ?_;(case hr => decide +kernel);refine AllReadyIn.cons rfl (fun K hK => ?_) (AllReadyIn.cons rfl (fun K hK => ?_) AllReadyIn.nil) <;> (go_simp;refine hK _ _ ?_;clear hK K)) | (refine wpAnyIn_ready (rs:=[0,1]) ?hr (by simp) ?_;(case hr => decide +kernel);refine AllReadyIn.cons rfl (fun K hK => ?_) (AllReadyIn.cons rfl (fun K hK => ?_) AllReadyIn.nil) <;> (go_simp;refine hK _ _ ?_;clear hK K)))
  all_goals (first | (refine wpAnyIn_ready (rs:=[2,3]) ?hr (by simp) ?_;(case hr => decide +kernel);refine AllReadyIn.cons rfl (fun K hK => ?_) (AllReadyIn.cons rfl (fun K hK => ?_) AllReadyIn.nil) <;> (go_simp;refine hK _ _ ?_;clear hK K)) | (refine wpAnyIn_ready (rs:=[1,3]) ?hr (by simp) ?_;(case hr => decide +kernel);refine AllReadyIn.cons rfl (fun K hK => ?_) (AllReadyIn.cons rfl (fun K hK => ?_) AllReadyIn.nil) <;> (go_simp;refine hK _ _ ?_;clear hK K)) | (refine wpAnyIn_ready (rs:=[1,2]) ?hr (by simp) ?_;(case hr => decide +kernel);refine AllReadyIn.cons rfl (fun K hK => ?_) (AllReadyIn.cons rfl (fun K hK => ?_) AllReadyIn.nil) <;> (go_simp;refine hK _ _ ?_;clear hK K)) | (refine wpAnyIn_ready (rs:=[0]) ?hr (by simp) ?_;(case hr => decide +kernel);refine AllReadyIn.cons rfl (fun K hK => ?_) AllReadyIn.nil;go_simp;refine hK _ _ ?_;clear hK K))
  all_goals (first | (refine wpAnyIn_ready (rs:=[3]) ?hr (by simp) ?_;(case hr => decide +kernel);refine AllReadyIn.cons rfl (fun K hK => ?_) AllReadyIn.nil;go_simp;refine hK _ _ ?_;clear hK K) | (refine wpAnyIn_ready (rs:=[2]) ?hr (by simp) ?_;(case hr => decide +kernel);refine AllReadyIn.cons rfl (fun K hK => ?_) AllReadyIn.nil;go_simp;refine hK _ _ ?_;clear hK K) | (refine wpAnyIn_ready (rs:=[1]) ?hr (by simp) ?_;(case hr => decide +kernel);refine AllReadyIn.cons rfl (fun K hK => ?_) AllReadyIn.nil;go_simp;refine hK _ _ ?_;clear hK K))
  all_goals
   (refine wpAnyIn_ready (rs:=[4]) ?hr (by simp) ?_;(case hr => decide +kernel))
   refine AllReadyIn.cons rfl (fun K hK => ?_) AllReadyIn.nil
   refine stepIn_pushR rfl _ _ 22 30 10 120 (.agg #[.int .i64 0,.bool false,.bool false,.int .u64 0,.int .u64 0,.int .i64 0,.string ⟨#[]⟩,.int .i64 0,.slice none 0 0,.slice none 0 0]) rfl Tryz.underlying22 info_val10 rfl (by decide) (ob (S0 + 3)) 1 _ pre.length (flat pre) rfl ((H2.out.alloc _).drew) ⟨W.heap.size,0,none⟩ 1 1 zc10 rfl rfl (fun j u hj => by rw [add_nought];exact (Bk.new W 30 zc10).drew.cell j hj) (fun u hu => by unfold zc10 at hu;simp only [List.mem_cons,List.not_mem_nil,or_false] at hu;rcases hu with rfl | rfl | rfl | rfl | rfl | rfl | rfl | rfl | rfl | rfl <;> rfl) (by decide) (by omega) (by unfold maxLen;omega) ?_
   intro g cap w9 hr9 ht9 hko
   refine hK _ _ ?_
   clear hK K
   rw [ob_re (by show S0 + 3 ≤ (W.alloc _).heap.size;rw [World.size_alloc];omega)] at hr9 ht9
   have k9:=(Lb.turn (w:=(W.alloc (.cells zc10.toArray 30)).drew) (o:=ob (S0 + 3)) (l:=0) (g:=S0) (t:=22) (cs:=[.slice A9 pre.length C9]) (And.intro ((H1.out.alloc _).drew) (ob_low (by omega))) ht9 (by decide)).1
   have cS:=k9.cell 0 rfl
   have fS:=k9.frozen 0
   have hne : S0 ≠ g:=by
    have h5:=hr9.2 g rfl
    rcases Nat.lt_or_ge g (S0 + 3) with h' | h'
    ·rw [ob_low h'] at h5;cases h5
    ·omega
   obtain ⟨r0,q0⟩:=row_cell hr9 (flat_len pre) 0 rfl
   obtain ⟨r1,q1⟩:=row_cell hr9 (flat_len pre) 1 rfl
   obtain ⟨r2,q2⟩:=row_cell hr9 (flat_len pre) 2 rfl
   obtain ⟨r3,q3⟩:=row_cell hr9 (flat_len pre) 3 rfl
   obtain ⟨r4,q4⟩:=row_cell hr9 (flat_len pre) 4 rfl
   obtain ⟨r5,q5⟩:=row_cell hr9 (flat_len pre) 5 rfl
   obtain ⟨r6,q6⟩:=row_cell hr9 (flat_len pre) 6 rfl
   obtain ⟨r7,q7⟩:=row_cell hr9 (flat_len pre) 7 rfl
   obtain ⟨r8,q8⟩:=row_cell hr9 (flat_len pre) 8 rfl
   obtain ⟨r9,q9⟩:=row_cell hr9 (flat_len pre) 9 rfl
   rw [Nat.add_zero] at r0 q0
   have hfa:=coll_fin ⟨kind,yes,neg,coef,sc,text,day⟩ Ap Cp Bp Dp H1.out H3.out hsz3 hBS hko ht9 hr9 rfl (.inl rfl)
   have hfb:=coll_fin ⟨kind,yes,neg,coef,sc,text,day⟩ Ap Cp Bp Dp H1.out H3.out hsz3 hBS hko ht9 hr9 rfl (.inr rfl)
   unfold put10 at hfa hfb
   dsimp only at hfa hfb
   have HFA:=Lib.hid hfa
   have HFB:=Lib.hid hfb
   clear hfa hfb
   have hix : ((pre.length : Nat) : Int) < ((pre.length : Nat) : Int) + 1:=by omega
   clear hr9 ht9 hko k9
   (refine wpAnyIn_ready (rs:=[5,7]) ?hr (by simp) ?_;(case hr => decide +kernel);refine AllReadyIn.cons rfl (fun K hK => ?_) (AllReadyIn.cons rfl (fun K hK => ?_) AllReadyIn.nil) <;> (go_simp;refine hK _ _ ?_;clear hK K))
   all_goals (first | (refine wpAnyIn_ready (rs:=[6,7]) ?hr (by simp) ?_;(case hr => decide +kernel);refine AllReadyIn.cons rfl (fun K hK => ?_) (AllReadyIn.cons rfl (fun K hK => ?_) AllReadyIn.nil) <;> (go_simp;refine hK _ _ ?_;clear hK K)) | (refine wpAnyIn_ready (rs:=[5]) ?hr (by simp) ?_;(case hr => decide +kernel);refine AllReadyIn.cons rfl (fun K hK => ?_) AllReadyIn.nil;go_simp;refine hK _ _ ?_;clear hK K))
   all_goals (first | (refine wpAnyIn_ready (rs:=[6]) ?hr (by simp) ?_;(case hr => decide +kernel);refine AllReadyIn.cons rfl (fun K hK => ?_) AllReadyIn.nil;go_simp;refine hK _ _ ?_;clear hK K) | (refine wpAnyIn_ready (rs:=[7]) ?hr (by simp) ?_;(case hr => decide +kernel);refine AllReadyIn.cons rfl (fun K hK => ?_) AllReadyIn.nil;go_simp;refine hK _ _ ?_;clear hK K))
   all_goals (refine wpAnyIn_done (by kernel_rfl) ?_ _)
   all_goals
    gi_wp2
    clear c0 f0 v0 v1 v2 v3 v4 v5 v6 v7 v8 v9 cS fS r0 r1 r2 r3 r4 r5 r6 r7 r8 r9 q0 q1 q2 q3 q4 q5 q6 q7 q8 q9
    simp only [ownPostK]
    (first | with_reducible exact HFA.out | with_reducible exact HFB.out)
 case done =>
  rintro xs W rfl ⟨vo,h1,h2,h3⟩ hD
  obtain ⟨A9,C9,rfl,-⟩:=h2.sl.is
  have c0:=h1.cell 0 rfl
  rw [hs1] at hD ⊢
  obtain ⟨o4,ho4⟩ : ∃ f : Nat → Nat,f = fun k => if k = S0 + 1 then 4 else ob (S0 + 3) k:=⟨_,rfl⟩
  have hro : Ro W o4 1 30 10 (.slice A9 xs.length C9) xs.length (flat xs):=⟨h2.1,fun g hg => by
   have h5:=h2.2 g hg
   have h6 : S0 + 3 ≤ g:=by
    rcases Nat.lt_or_ge g (S0 + 3) with h' | h'
    ·rw [ob_low h'] at h5;cases h5
    ·exact h'
   rw [ho4]
   exact (if_neg (by omega)).trans h5⟩
  have HRO:=Lib.hid hro
  have H3:=Lib.hid (hb1.trans h3)
  have HO4:=Lib.hid ho4
  have HD:=Lib.hid hD
  have h1l:=h1.lt
  clear hro h2 h3 ho4 hD h h1 hbox hh1 hbox1
  gi_wp2
  refine leaves_markT (o:=o4) (l:=4) (u:=.returning) (by simp) (S0 + 1) _ HD.out (by rw [HO4.out];exact if_pos rfl) fun W' hW => ?_
  have hr2:=HRO.out.turn hW (by decide)
  have hb2 : Below S0 W W':=hW.below (fun k hk => by rw [HO4.out];exact fun e => by have e2:=(if_neg (show ¬ k = S0 + 1 by omega)).symm.trans e;rw [ob_low (by omega)] at e2;cases e2) (by omega)
  have HR2:=Lib.hid (hr2.renum (B:=S0) (fun g hg => by
   rcases Nat.lt_or_ge g S0 with h' | h'
   ·rw [HO4.out] at hg
    have e2:=(if_neg (show ¬ g = S0 + 1 by omega)).symm.trans hg
    rw [ob_low (by omega)] at e2
    cases e2
   ·exact h') (fun _ => 0) 1)
  have HB2:=Lib.hid (H3.out.trans hb2)
  clear hr2 hb2
  exact ⟨.slice A9 xs.length C9,by simp [results,Tryz.results130,go_sem, *];try rfl,.slice A9 xs.length C9,rfl,by rw [← HS0.out];exact HB2.out,by rw [← HS0.out];exact (by rw [HS0.out] at *;exact HR2.out)⟩
end Go.Proofs.YtbnadlpkbbdgjaaGreatDoor



namespace Go.Proofs.YtbnadlpkbbdgjaaGreatDoor
open Go.RowKit

structure SV (k : Int) where
 p : Pv
 h : Sc k p.s
def encV {k : Int} (x : SV k) : List Value:=x.p.cs
def cfV {k : Int} (x y : SV k) : Int:=cmpS x.p.s y.p.s
theorem swoV {k : Int} (hk : Kd k) : Go.Sort.SWO (ltOf (cfV (k:=k))) where
 irrefl x:=by
  unfold ltOf cfV
  rw [cmpS_self hk x.h]
  rfl
 trans x y z h1 h2:=by
  unfold ltOf cfV at *
  exact decide_eq_true (cmpS_trans hk x.h y.h (of_decide_eq_true h1) (of_decide_eq_true h2))
 ntrans x y z h1 h2:=by
  unfold ltOf cfV at *
  refine decide_eq_false fun h3 => ?_
  have n1:=of_decide_eq_false h1
  have n2:=of_decide_eq_false h2
  have e1:=cmpS_swap hk x.h y.h
  have e2:=cmpS_swap hk y.h z.h
  by_cases hz : cmpS y.p.s z.p.s = 0
  ·have:=(cmpS_zero hk y.h z.h).1 hz
   rw [← this] at h3
   exact n1 h3
  ·have h4 : cmpS z.p.s y.p.s < 0:=by omega
   exact n1 (cmpS_trans hk x.h z.h h3 h4)
/-- rising, as the library's sort leaves them -/
def Ups (qs : List Pv) : Prop:=∀ i j,i < j → j < qs.length → ¬ cmpS (pg qs j).s (pg qs i).s < 0
theorem flat_take {qs : List Pv} {cur : List Value} {n : Nat} (hn : qs.length = n) (hl : n * 10 ≤ cur.length) (h : ∀ r i,r < n → i < 10 → cur[r * 10 + i]? = (pg qs r).cs[i]?) : cur.take (n * 10) = flat qs:=by
 apply List.ext_getElem?
 intro j
 by_cases hj : j < n * 10
 ·rw [List.getElem?_take_of_lt hj]
  have e : j = j / 10 * 10 + j % 10:=by omega
  rw [e,h (j / 10) (j % 10) (by omega) (by omega),flat_at (by omega) (by omega)]
 ·rw [List.getElem?_eq_none (by rw [List.length_take];omega),List.getElem?_eq_none (by rw [flat_len];omega)]
def SortPost (ps : List Pv) (blk C : Nat) (w : World) (e : Ending) (w' : World) : Prop:=e = .returned (.tuple #[]) ∧ ∃ qs,qs.Perm ps ∧ Ups qs ∧ w'.ownsRow 0 30 10 (.slice (some ⟨blk,0,none⟩) ps.length C) ps.length (flat qs) ∧ Below blk w w'
theorem pg_mem {qs : List Pv} {r : Nat} (h : r < qs.length) : pg qs r ∈ qs:=by
 unfold pg
 rw [List.getD_eq_getElem?_getD,List.getElem?_eq_getElem h]
 exact List.getElem_mem _
set_option maxRecDepth 100000 in
theorem sort_vals {k : Int} (hk : Kd k) (ps : List Pv) (hps : ∀ p ∈ ps,Sc k p.s) (hne : 0 < ps.length) (hm : ps.length ≤ 1048576) (blk C : Nat) (cur : List Value) (w : World) (hb : Bk w blk 30 cur) (hC : ps.length ≤ C ∧ C ≤ maxLen) (hl : cur.length = C * 10) (ht : cur.take (ps.length * 10) = flat ps) :
  Calls Tryz.prog 87 #[.slice (some ⟨blk,0,none⟩) ps.length C,.func (.func 24) #[] #[]] w (SortPost ps blk C w):=by
 have hin : ∀ i,i < ps.length → Sc k (pg ps i).s:=fun i hi => hps _ (pg_mem hi)
 haveI : Inhabited (SV k):=⟨⟨pg ps 0,hin 0 hne⟩⟩
 obtain ⟨d,hd⟩ : ∃ d : Array (SV k),d = (ps.attach.map fun p => (⟨p.1,hps p.1 p.2⟩ : SV k)).toArray:=⟨_,rfl⟩
 have hds : d.size = ps.length:=by rw [hd];simp
 have hdl : d.toList.map SV.p = ps:=by rw [hd];simp [List.map_map,Function.comp_def]
 have hdg : ∀ i,i < ps.length → (d[i]!).p = pg ps i:=fun i hi => by
  have h1 : i < d.size:=by omega
  rw [getElem!_pos d i h1]
  have h2 : (d.toList.map SV.p)[i]? = ps[i]?:=by rw [hdl]
  rw [List.getElem?_map,List.getElem?_eq_getElem (by simpa using h1),List.getElem?_eq_getElem hi] at h2
  unfold pg
  rw [List.getD_eq_getElem?_getD,List.getElem?_eq_getElem hi]
  simpa using h2
 have hH : Go.Sort.HoldsK encV 10 w blk 0 d:=fun j hj => by
  rw [Go.Sort.size_flatK] at hj
  rw [Nat.zero_add]
  refine ⟨?_,hb.frozen _⟩
  rw [Go.Sort.get_flatK _ _ _ _ hj]
  have hr : j / 10 < ps.length:=by omega
  have hc : (encV d[j / 10]!)[j % 10]? = cur[j]?:=by
   unfold encV
   rw [hdg _ hr,← flat_at hr (by omega : j % 10 < 10),← ht,show j / 10 * 10 + j % 10 = j by omega,List.getElem?_take_of_lt (by omega)]
  have hlt : j % 10 < (encV d[j / 10]!).length:=by show j % 10 < 10;omega
  rw [List.getElem?_eq_getElem hlt] at hc
  rw [getElem!_pos (encV d[j / 10]!) (j % 10) hlt]
  exact hb.cell j hc.symm
 have hcmp : CmpLays Tryz.prog 24 #[] (encV (k:=k)) 10 cfV blk 0 d.size w:=fun m os dk _ x y =>
  B.order_grow hk x.1 y.1 x.h y.h _
 have hone : ∀ x : SV k,∀ v ∈ encV x,v.oneCell' = true:=fun x v hv => flat_cells [x.p] v (by
  show v ∈ x.p.cs ++ []
  rw [List.append_nil]
  exact hv)
 have h:=Tryz.slices_SortFunc_V (encV (k:=k)) (fun _ => rfl) hone cfV (swoV hk) 24 #[] blk 0 C d w (enters_of Tryz.func24 (by kernel_rfl) rfl) hcmp hH hb.lt (by omega)
 rw [hds] at h
 refine h.mono ?_
 rintro _ w' ⟨he,d',n,os,hp,hs,rfl⟩
 obtain ⟨hp1,-,hp3⟩:=hp
 rw [hds] at hp1
 have hpl : d'.toList.Perm d.toList:=by
  have e1 : (d'.extract 0 ps.length).toList = d'.toList:=by rw [← hp1];simp
  have e2 : (d.extract 0 ps.length).toList = d.toList:=by rw [← hds];simp
  rwa [e1,e2] at hp3
 have hqg : ∀ i,i < ps.length → (d'[i]!).p = pg (d'.toList.map SV.p) i:=fun i hi => by
  have h1 : i < d'.size:=by omega
  rw [getElem!_pos d' i h1]
  unfold pg
  rw [List.getD_eq_getElem?_getD,List.getElem?_map,List.getElem?_eq_getElem (by simpa using h1)]
  simp
 have hql : (d'.toList.map SV.p).length = ps.length:=by simp [hp1]
 refine ⟨he,d'.toList.map SV.p, ?_, ?_, ?_, ?_⟩
 ·have:=hpl.map SV.p
  rwa [hdl] at this
 ·intro i j hij hj
  rw [hql] at hj
  have:=hs i j (Nat.zero_le _) hij hj
  rw [← hqg i (by omega),← hqg j hj]
  exact of_decide_eq_false this
 ·have hb' : (Go.Sort.grow (Go.Sort.putRowK encV 10 (Go.Sort.ahead w n) blk 0 d') os).heap[blk]? = some (.cells (Go.Sort.putCells id 0 (Go.Sort.flatK encV 10 d') cur.toArray) 30 (0,0)):=by
   unfold Go.Sort.grow Go.Sort.putRowK Go.Sort.putRow Go.Sort.mapBlock Go.Sort.ahead
   dsimp only
   rw [Array.getElem?_append_left (by rw [Array.size_modify];exact hb.lt),Array.getElem?_modify,if_pos rfl]
   unfold Bk at hb
   rw [hb]
   rfl
  have hcl : (Go.Sort.putCells id 0 (Go.Sort.flatK encV 10 d') cur.toArray).size = C * 10:=by
   unfold Go.Sort.putCells
   rw [Array.size_mapIdx,List.size_toArray,hl]
  refine ⟨by rw [flat_len,hql],.inr ⟨blk,C,_,rfl,Nat.zero_le _,hb',hC.1,hC.2,hcl, ?_⟩⟩
  have hcl2 : (Go.Sort.putCells id 0 (Go.Sort.flatK encV 10 d') cur.toArray).toList.length = C * 10:=Array.length_toList.trans hcl
  refine flat_take hql (by omega) fun r i hr hi => ?_
  rw [Array.getElem?_toList]
  unfold Go.Sort.putCells
  have hlt : r * 10 + i < cur.length:=by rw [hl];omega
  rw [Array.getElem?_mapIdx,List.getElem?_toArray,List.getElem?_eq_getElem hlt]
  rw [Option.map_some,if_pos ⟨Nat.zero_le _,by rw [Go.Sort.size_flatK,hp1];omega⟩,Nat.sub_zero,Go.Sort.get_flatK _ _ _ _ (by rw [hp1];omega)]
  have e1 : (r * 10 + i) / 10 = r:=by omega
  have e2 : (r * 10 + i) % 10 = i:=by omega
  rw [e1,e2]
  show some ((encV d'[r]!)[i]!) = _
  unfold encV
  rw [hqg r hr,getElem!_pos (pg (d'.toList.map SV.p) r).cs i (by rw [Pv.cs_len];exact hi),List.getElem?_eq_getElem (by rw [Pv.cs_len];exact hi)]
 ·refine ⟨rfl,rfl,rfl, ?_,fun j hj => ?_⟩
  ·unfold sortWorldK Go.Sort.grow Go.Sort.putRowK Go.Sort.putRow Go.Sort.mapBlock Go.Sort.ahead
   dsimp only
   rw [Array.size_append,Array.size_modify]
   omega
  ·unfold sortWorldK Go.Sort.grow Go.Sort.putRowK Go.Sort.putRow Go.Sort.mapBlock Go.Sort.ahead
   dsimp only
   have:=hb.lt
   rw [Array.getElem?_append_left (by rw [Array.size_modify];omega),Array.getElem?_modify,if_neg (by omega)]
end Go.Proofs.YtbnadlpkbbdgjaaGreatDoor



namespace Go.Proofs.YtbnadlpkbbdgjaaGreatDoor
open Go.RowKit

theorem collect_any (B : Nat) (ps : List Pv) (v : Value) (w : World) (hm : ps.length ≤ 1048576) (hB : B < w.heap.size) (hbox : Bk w B 22 [v]) (h : ∀ W,Below (B + 1) w W → Pvs W v ps) :
  Calls Tryz.prog 86 #[.func (.func 88) #[] #[.pointer (some ⟨B,0,none⟩)]] w (CollPost ps w):=by
 have HC:=Lib.hid (appendseq_any B ps v w hm hB hbox h)
 unfold CollPost at HC ⊢
 clear hbox h
 go_enter Tryz.func86,Tryz.ntmps86
 go_wp2_with (go_at_call 130;(with_reducible refine HC.out.mono ?_);rintro _ w1 ⟨r,rfl,hb1,hr1⟩)
 go_ret
 exact ⟨_,rfl,hb1,hr1⟩
def SortedPost (ps : List Pv) (w : World) (e : Ending) (w' : World) : Prop:=∃ r qs,e = .returned r ∧ qs.Perm ps ∧ Ups qs ∧ Ro w' (ob w.heap.size) 1 30 10 r ps.length (flat qs) ∧ Below w.heap.size w w'
set_option maxRecDepth 100000 in
theorem sorted_vals {k : Int} (hk : Kd k) (B : Nat) (ps : List Pv) (hps : ∀ p ∈ ps,Sc k p.s) (v : Value) (w : World) (hm : ps.length ≤ 1048576) (hB : B < w.heap.size) (hbox : Bk w B 22 [v]) (h : ∀ W,Below (B + 1) w W → Pvs W v ps) :
  Calls Tryz.prog 61 #[.func (.func 88) #[] #[.pointer (some ⟨B,0,none⟩)],.func (.func 24) #[] #[]] w (SortedPost ps w):=by
 have HC:=Lib.hid (collect_any B ps v w hm hB hbox h)
 unfold CollPost at HC
 have HP:=Lib.hid hps
 unfold SortedPost
 clear hbox h hps
 go_enter Tryz.func61,Tryz.ntmps61
 go_upto_region 2 with (go_at_call 86;(with_reducible refine HC.out.mono ?_);rintro _ w1 ⟨r,rfl,hb1,hr1⟩)
 have HB1:=Lib.hid hb1
 have HR1:=Lib.hid hr1
 rcases Nat.eq_zero_or_pos ps.length with h0 | h0
 ·have hnil : ps = []:=List.eq_nil_of_length_eq_zero h0
  subst hnil
  obtain ⟨A,C,rfl,-⟩:=hr1.sl.is
  have HS : Hid (Calls Tryz.prog 87 #[.slice A 0 C,.func (.func 24) #[] #[]] w1 fun e w' => e = .returned (.tuple #[]) ∧ w' = w1):=Lib.hid (AnyF.slices_SortFunc_none Tryz.sortV A C (.func (.func 24) #[] #[]) w1)
  rw [show ([] : List Pv).length = 0 from rfl]
  clear hb1 hr1
  go_wp2_with (go_at_call 87;(with_reducible refine HS.out.mono ?_);rintro _ _ ⟨rfl,rfl⟩)
  go_ret
  exact ⟨_,[],rfl,List.Perm.refl _,fun i j _ hj => absurd hj (Nat.not_lt_zero _),HR1.out,HB1.out⟩
 ·obtain ⟨g,C,cur,rfl,h1,h2,h3,h4,h5⟩:=hr1.form h0
  have HS:=Lib.hid (sort_vals hk ps HP.out h0 hm g C cur w1 h4.1 ⟨h1,h2⟩ h3 h5)
  unfold SortPost at HS
  have hgB : w.heap.size ≤ g:=by
   rcases Nat.lt_or_ge g w.heap.size with h' | h'
   ·have e:=h4.2
    rw [ob_low h'] at e
    cases e
   ·exact h'
  clear hb1 hr1 h1 h2 h3 h4 h5
  go_wp2_with (go_at_call 87;(with_reducible refine HS.out.mono ?_);rintro _ w2 ⟨rfl,qs,hq1,hq2,hq3,hb2⟩)
  go_ret
  exact ⟨_,qs,rfl,hq1,hq2,⟨hq3,fun g' hg' => by cases hg';exact ob_up hgB⟩,HB1.out.trans (hb2.mono hgB)⟩
end Go.Proofs.YtbnadlpkbbdgjaaGreatDoor

