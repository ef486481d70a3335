/- The contracts of the functions that the laws reach, part 2: what each returns and what becomes of memory. -/
import Derived.Test.YtkjecoanlppeaaaGreatDoorSh
import Derived.Shelf.Spec.BitsCarry
import Derived.Lib.Hide
import Derived.Deep.DeepCutAuto
import Derived.BigQuiet
import Derived.StillTailTactics
import Derived.Deep.AppendLies
import Derived.Deep.RegionLaw
import Derived.Laws.OwnMore
import Derived.Test.YtkjecoanlppeaaaGreatDoorM1
set_option linter.unusedSimpArgs false
set_option linter.unusedVariables false


namespace Go.Proofs.YtkjecoanlppeaaaGreatDoor
open Go.RowKit

def bs (x : List UInt8) : ByteArray:=⟨x.toArray⟩
theorem bs_inj {x y : List UInt8} (h : bs x = bs y) : x = y:=by
 have:=congrArg (fun z : ByteArray => z.data.toList) h
 simpa [bs] using this
/-- names, none twice -/
def namesB (l : List (List UInt8)) : Bool:=decide (∀ i,i < l.length → nam (ng l i) = true ∧ ∀ k,k < i → ng l k ≠ ng l i)
theorem ng_bs {l : List (List UInt8)} {j : Nat} (h : j < l.length) : (l.map bs).getD j ByteArray.empty = bs (ng l j):=by
 unfold ng
 rw [List.getD_eq_getElem?_getD,List.getElem?_map,List.getD_eq_getElem?_getD,List.getElem?_eq_getElem h];rfl
def twiceB (l : List (List UInt8)) (i : Nat) : Bool:=decide (∃ k,k < i ∧ ng l k = ng l i)
theorem contains_is {l : List (List UInt8)} {i : Nat} (hi : i < l.length) : Lib.containsS ((l.map bs).take i) (bs (ng l i)) = twiceB l i:=by
 rw [Bool.eq_iff_iff,Lib.containsS_iff,twiceB,decide_eq_true_eq]
 constructor
 ·intro h
  obtain ⟨k,hk,e⟩:=List.mem_iff_getElem.1 h
  rw [List.length_take,List.length_map] at hk
  rw [List.getElem_take,List.getElem_map] at e
  refine ⟨k,by omega, ?_⟩
  have : ng l k = l[k]'(by omega):=by unfold ng;rw [List.getD_eq_getElem?_getD,List.getElem?_eq_getElem (by omega)];rfl
  rw [this]
  exact bs_inj e
 ·rintro ⟨k,hk,e⟩
  refine List.mem_iff_getElem.2 ⟨k,by rw [List.length_take,List.length_map];omega, ?_⟩
  rw [List.getElem_take,List.getElem_map,← e]
  unfold ng
  rw [List.getD_eq_getElem?_getD,List.getElem?_eq_getElem (by omega)];rfl
set_option maxHeartbeats 1000000 in
theorem vnames_any (l : List (List UInt8)) (N : Value) (w : World) (h : Nms w N l) :
  Calls Tryz.prog 94 #[N] w fun e w' => e = .returned (.bool (namesB l)) ∧ w = w':=by
 have HN:=Lib.hid h
 obtain ⟨A,C,rfl,hl⟩:=h.is
 obtain ⟨hc1,hc2⟩:=h.caps
 clear h
 obtain ⟨z,hz⟩ : ∃ z,z = namesB l:=⟨_,rfl⟩
 rw [← hz]
 have HZ : Hid (z = true ↔ ∀ i,i < l.length → nam (ng l i) = true ∧ ∀ k,k < i → ng l k ≠ ng l i):=Lib.hid (by rw [hz,namesB,decide_eq_true_eq])
 clear hz
 go_enter Tryz.func94,Tryz.ntmps94
 go_wp2_with fail
 go_loopg [7] l.length (fun k i wr => ∃ t : Nat,k + t = l.length ∧ i = .int .i64 t ∧ Hid (∀ i,i < t → nam (ng l i) = true ∧ ∀ k,k < i → ng l k ≠ ng l i) ∧ w = wr)
 case atStart => exact ⟨0,by omega,rfl,Lib.hid (fun i hi => absurd hi (Nat.not_lt_zero _)),rfl⟩
 case round =>
  obtain ⟨t,hk,rfl,HA,rfl⟩:=hrel
  have HK:=Lib.hid hk
  have htn : t ≤ l.length:=by omega
  clear hk
  by_cases hlt : t < l.length
  ·obtain ⟨b,o,rfl,hcell,hlen⟩:=HN.out.at hlt
   have HNM:=Lib.hid (name_any (ng l t) (by omega) w)
   have hcon:=Tryz.slices_Contains_string b o t C (l.map bs) (bs (ng l t)) w (by rw [List.length_map];omega) (by omega) (fun j hj => by
    rw [List.length_map] at hj
    obtain ⟨b',o',e,hc,_⟩:=HN.out.at hj
    injection e with e
    injection e with e1 e2
    subst e1 e2
    rw [ng_bs hj];exact hc)
   rw [contains_is hlt] at hcon
   have htc : (t : Int) ≤ (C : Int):=by omega
   obtain ⟨y,hy⟩ : ∃ y,y = nam (ng l t):=⟨_,rfl⟩
   obtain ⟨d,hd⟩ : ∃ d,d = twiceB l t:=⟨_,rfl⟩
   rw [← hy] at HNM
   rw [← hd] at hcon
   have HCN : Hid (Calls Tryz.prog 63 #[.slice (some ⟨b,o,none⟩) t C,.string ⟨(ng l t).toArray⟩] w fun e w' => e = .returned (.bool d) ∧ w' = w):=Lib.hid hcon
   have HY:=Lib.hid hy
   have HD : Hid (d = true ↔ ∃ k,k < t ∧ ng l k = ng l t):=Lib.hid (by rw [hd,twiceB,decide_eq_true_eq])
   obtain ⟨x,hx⟩ : ∃ x,x = ng l t:=⟨_,rfl⟩
   rw [← hx] at hcell HNM HCN
   have HX:=Lib.hid hx
   clear hcon hy hd hx hlen
   cases y with
   | false =>
    have hz : z = false:=by
     cases z with
     | false => rfl
     | true =>
      have:=(HZ.out.1 rfl t hlt).1
      rw [← HY.out] at this;exact Bool.noConfusion this
    subst hz
    go_wp2_with fail
    refine HNM.out.mono ?_
    rintro _ _ ⟨rfl,rfl⟩
    go_wp2_with fail
    go_ret
    exact ⟨rfl,rfl⟩
   | true =>
    cases d with
    | true =>
     have hz : z = false:=by
      cases z with
      | false => rfl
      | true =>
       obtain ⟨k,hk,e⟩:=HD.out.1 rfl
       exact absurd e ((HZ.out.1 rfl t hlt).2 k hk)
     subst hz
     go_wp2_with fail
     refine HNM.out.mono ?_
     rintro _ _ ⟨rfl,rfl⟩
     go_wp2_with fail
     refine HCN.out.mono ?_
     rintro _ _ ⟨rfl,rfl⟩
     go_wp2_with fail
     go_ret
     exact ⟨rfl,rfl⟩
    | false =>
     go_wp2_with fail
     refine HNM.out.mono ?_
     rintro _ _ ⟨rfl,rfl⟩
     go_wp2_with fail
     refine HCN.out.mono ?_
     rintro _ _ ⟨rfl,rfl⟩
     go_wp2_with fail
     go_roundg (gk - 1)
     case measure => have:=HK.out;omega
     case rel => exact ⟨t + 1,by have:=HK.out;omega,by go_num,Lib.hid (fun i hi => by
      by_cases e : i = t
      ·subst e
       refine ⟨HY.out.symm,fun k hk e => ?_⟩
       exact Bool.noConfusion (HD.out.2 ⟨k,hk,e⟩)
      ·exact HA.out i (by omega)),rfl⟩
  ·obtain rfl : t = l.length:=by omega
   have hz : z = true:=HZ.out.2 HA.out
   subst hz
   go_wp2_with fail
   go_ret
   exact ⟨rfl,rfl⟩
end Go.Proofs.YtkjecoanlppeaaaGreatDoor



namespace Go.Proofs.YtkjecoanlppeaaaGreatDoor
open Go.RowKit

/-- the library's two tables lie as its text lays them -/
abbrev Tabs (w : World) : Prop:=Lib.Utf8Tabs 0 1 w
theorem tabs_below {w w' : World} (h : Tabs w) (hb : Below w.heap.size w w') : Tabs w':=by
 have key : ∀ (a : Addr) v,w.cell? a = some v → w'.cell? a = some v:=fun a v hv => by
  have hlt : a.block < w.heap.size:=by
   rcases Nat.lt_or_ge a.block w.heap.size with h1 | h1
   ·exact h1
   ·simp [World.cell?,Array.getElem?_eq_none h1] at hv
  rw [hb.cell hlt];exact hv
 exact ⟨fun c hc => key _ _ (h.1 c hc),fun i hi => ⟨key _ _ (h.2 i hi).1,key _ _ (h.2 i hi).2⟩⟩
set_option maxHeartbeats 1000000 in
theorem valid_any (l : List UInt8) (hl : l.length ≤ 9223372036854775807) (w : World) (hT : Tabs w) :
  Calls Tryz.prog 93 #[.string ⟨l.toArray⟩] w fun e w' => e = .returned (.bool (ztxt l)) ∧ Below w.heap.size w w':=by
 have HV:=Lib.hid (Tryz.utf8_ValidString ⟨l.toArray⟩ w (by show l.toArray.size ≤ _;simpa using hl) hT)
 have HI:=Lib.hid (fun W => Tryz.strings_IndexFunc 126 #[] (enters_of Tryz.func126 (by kernel_rfl) rfl) (fun r => !chr r) ⟨l.toArray⟩ W (closure_chr W))
 have he:=ztxt_is ⟨l.toArray⟩
 obtain ⟨a,ha⟩ : ∃ a,a = Lib.validD l:=⟨_,rfl⟩
 obtain ⟨i,hi⟩ : ∃ i,i = Lib.idxFunc (fun r => !chr r) true ⟨l.toArray⟩:=⟨_,rfl⟩
 have he2 : ztxt l = (a && decide (i < 0)):=by rw [ha,hi];exact he.symm
 have HE:=Lib.hid he2
 rw [← hi] at HI
 have ha2 : ∀ x,Lib.validD (⟨l.toArray⟩ : ByteArray).data.toList = x → Lib.validD l = x:=fun _ h => h
 have HV2 : Hid (Calls Tryz.prog 124 #[.string ⟨l.toArray⟩] w fun e w' => e = .returned (.bool a) ∧ Below w.heap.size w w'):=Lib.hid (by rw [ha];exact HV.out)
 clear he he2 hT ha hi ha2 HV
 cases a with
 | false =>
  go_enter Tryz.func93,Tryz.ntmps93
  go_wp2_with fail
  refine HV2.out.mono ?_
  rintro _ w1 ⟨rfl,hb1⟩
  go_wp2_with fail
  go_ret
  exact ⟨ret_bool (by rw [HE.out];rfl),hb1⟩
 | true =>
  go_enter Tryz.func93,Tryz.ntmps93
  go_wp2_with fail
  refine HV2.out.mono ?_
  rintro _ w1 ⟨rfl,hb1⟩
  go_wp2_with fail
  refine (HI.out _).mono ?_
  rintro _ w2 ⟨rfl,hb2⟩
  go_wp2_with fail
  go_ret
  exact ⟨ret_bool (by rw [HE.out];simp),hb1.trans (hb2.mono hb1.size)⟩
end Go.Proofs.YtkjecoanlppeaaaGreatDoor



namespace Go.Proofs.YtkjecoanlppeaaaGreatDoor
open Go.RowKit

/-- a word and a carry: s + 2^64 k is t -/
def Carry (s k t : Int) : Prop:=s + 18446744073709551616 * k = t ∧ 0 ≤ s ∧ s < 18446744073709551616 ∧ 0 ≤ k ∧ k ≤ 1
theorem add64_ex (x y c : Int) (hx0 : 0 ≤ x) (hx : x < 18446744073709551616) (hy0 : 0 ≤ y) (hy : y < 18446744073709551616) (hc0 : 0 ≤ c) (hc : c ≤ 1) :
  ∃ s k : Int,(∀ W : World,(callFunc 120 #[.int .u64 x,.int .u64 y,.int .u64 c]).run Tryz.prog W = .ok (.value (.tuple #[.int .u64 s,.int .u64 k])) W) ∧ Carry s k (x + y + c):=by
 refine ⟨(x + y + c) % 18446744073709551616,(x + y + c) / 18446744073709551616,fun W => ?_, ?_⟩
 ·rw [run_callFunc_extern Tryz.func120 (by kernel_rfl) (by kernel_rfl) (by kernel_rfl) (e:=add64Entry) (by kernel_rfl),run_add64 x y c hx0 hy0 hc0 hc]
  rfl
 ·unfold Carry;omega
/-- a difference and a borrow: s - 2^64 k is t -/
def Borrow (s k t : Int) : Prop:=s - 18446744073709551616 * k = t ∧ 0 ≤ s ∧ s < 18446744073709551616 ∧ 0 ≤ k ∧ k ≤ 1
theorem sub64_ex (x y c : Int) (hx0 : 0 ≤ x) (hx : x < 18446744073709551616) (hy0 : 0 ≤ y) (hy : y < 18446744073709551616) (hc0 : 0 ≤ c) (hc : c ≤ 1) :
  ∃ s k : Int,(∀ W : World,(callFunc 145 #[.int .u64 x,.int .u64 y,.int .u64 c]).run Tryz.prog W = .ok (.value (.tuple #[.int .u64 s,.int .u64 k])) W) ∧ Borrow s k (x - y - c):=by
 obtain ⟨x,rfl⟩:=Int.eq_ofNat_of_zero_le hx0
 obtain ⟨y,rfl⟩:=Int.eq_ofNat_of_zero_le hy0
 obtain ⟨c,rfl⟩:=Int.eq_ofNat_of_zero_le hc0
 refine ⟨(((x + 18446744073709551616 - y - c) % 18446744073709551616 : Nat) : Int),((if x < y + c then 1 else 0 : Nat) : Int),fun W => ?_, ?_⟩
 ·rw [run_callFunc_extern Tryz.func145 (by kernel_rfl) (by kernel_rfl) (by kernel_rfl) (e:=sub64Entry) (by kernel_rfl),run_sub64 x y c (by omega)]
  rfl
 ·unfold Borrow;split <;> omega
/-- a product's two words -/
def Two (h l t : Int) : Prop:=h * 18446744073709551616 + l = t ∧ 0 ≤ h ∧ h < 18446744073709551616 ∧ 0 ≤ l ∧ l < 18446744073709551616
theorem mul64_ex (x y : Int) (hx0 : 0 ≤ x) (hx : x < 18446744073709551616) (hy0 : 0 ≤ y) (hy : y < 18446744073709551616) :
  ∃ h l : Int,(∀ w : World,Calls Tryz.prog 119 #[.int .u64 x,.int .u64 y] w fun e w' => e = .returned (.tuple #[.int .u64 h,.int .u64 l]) ∧ ∃ nn,w' = w.drewN nn) ∧ Two h l (x * y):=by
 obtain ⟨x,rfl⟩:=Int.eq_ofNat_of_zero_le hx0
 obtain ⟨y,rfl⟩:=Int.eq_ofNat_of_zero_le hy0
 refine ⟨((x * y / 18446744073709551616 : Nat) : Int),((x * y % 18446744073709551616 : Nat) : Int),fun w => (Tryz.bits_Mul64 x y (by omega) (by omega) w).mono fun e w' h => ⟨h.1,0,h.2⟩, ?_⟩
 have hlt : x * y < 340282366920938463463374607431768211456:=by
  have h1 : x * y ≤ 18446744073709551615 * 18446744073709551615:=Nat.mul_le_mul (by omega) (by omega)
  omega
 unfold Two
 rw [← Int.natCast_mul]
 generalize x * y = p at *
 omega
end Go.Proofs.YtkjecoanlppeaaaGreatDoor



namespace Go.Proofs.YtkjecoanlppeaaaGreatDoor
open Go.RowKit

theorem lz10 (w : World) : Calls Tryz.prog 167 #[.int .u64 10] w fun e w' => e = .returned (.int .i64 60) ∧ ∃ nn,w' = w.drewN nn :=
 (Tryz.bits_LeadingZeros64 10 w (by decide) (by decide)).mono fun e w' h => ⟨by rw [h.1];rfl,0,h.2⟩

theorem or_gen (i a b : Nat) (hb : b < 2 ^ i) : a * 2 ^ i ||| b = a * 2 ^ i + b:=by
 rw [Nat.mul_comm];exact (Nat.two_pow_add_eq_or_of_lt hb a).symm
theorem or_sum (x b : Nat) (hx : x < 18446744073709551616) (hb : b < 18446744073709551616) (h : x ||| b = x + b) : bits .or .u64 (x : Int) (b : Int) = (x : Int) + b:=by
 rw [bits_or_u64_nat x b hx hb,h];omega
theorem or_top (h l : Int) (h0 : 0 ≤ h) (h9 : h ≤ 9) (l0 : 0 ≤ l) (l1 : l < 18446744073709551616) : bits .or .u64 (h * 1152921504606846976) (l / 16) = h * 1152921504606846976 + l / 16:=by
 obtain ⟨a,rfl⟩:=Int.eq_ofNat_of_zero_le h0
 obtain ⟨b,rfl⟩:=Int.eq_ofNat_of_zero_le l0
 obtain ⟨x,hx⟩ : ∃ x : Nat,(x : Int) = (a : Int) * 1152921504606846976:=⟨((a : Int) * 1152921504606846976).toNat,by omega⟩
 have e : ((b / 16 : Nat) : Int) = (b : Int) / 16:=by omega
 have h2 : x ||| b / 16 = x + b / 16:=by
  have h3:=or_gen 60 a (b / 16) (by omega)
  have h4 : a * 2 ^ 60 = x:=by omega
  rw [h4] at h3;exact h3
 rw [← hx,← e]
 exact or_sum x (b / 16) (by omega) (by omega) h2
theorem and_low (z : Int) (k : Int) (hz : z = k * 1152921504606846976) (h0 : 0 ≤ k) (h1 : k < 16) : bits .and .u64 z 4294967295 = 0:=by
 rw [and_low32 z (by omega) (by omega)];omega
/-- a number of two words by ten -/
def Ten (q r t : Int) : Prop:=10 * q + r = t ∧ 0 ≤ q ∧ q < 18446744073709551616 ∧ 0 ≤ r ∧ r ≤ 9
theorem ten_last (h l u q r s p t : Int) (hu : u = h * 1152921504606846976 + l / 16) (hq : u = q * 2684354560 + r) (hr0 : 0 ≤ r) (hr : r < 2684354560)
  (hs : s = r * 4294967296 + l % 16 * 268435456) (hp : s = p * 2684354560 + t) (ht0 : 0 ≤ t) (ht : t < 2684354560) (h9 : h ≤ 9) (h0 : 0 ≤ h) (l0 : 0 ≤ l) (l1 : l < 18446744073709551616) :
  Ten (q * 4294967296 + p) (t / 268435456) (h * 18446744073709551616 + l):=by
 unfold Ten;omega

set_option maxHeartbeats 1000000 in
theorem div10_big (h l : Int) (h0 : 1 ≤ h) (h9 : h ≤ 9) (l0 : 0 ≤ l) (l1 : l < 18446744073709551616) :
  ∃ q r : Int,(∀ w : World,Calls Tryz.prog 159 #[.int .u64 h,.int .u64 l,.int .u64 10] w fun e w' => e = .returned (.tuple #[.int .u64 q,.int .u64 r]) ∧ ∃ nn,w' = w.drewN nn) ∧ Ten q r (h * 18446744073709551616 + l):=by
 have g1 : (h == 0) = false:=by simp;omega
 obtain ⟨u,hu⟩ : ∃ u,u = h * 1152921504606846976 + l / 16:=⟨_,rfl⟩
 obtain ⟨q,hq⟩ : ∃ q,q = u / 2684354560:=⟨_,rfl⟩
 obtain ⟨r,hr⟩ : ∃ r,r = u % 2684354560:=⟨_,rfl⟩
 obtain ⟨s,hs⟩ : ∃ s,s = r * 4294967296 + l % 16 * 268435456:=⟨_,rfl⟩
 obtain ⟨p,hp⟩ : ∃ p,p = s / 2684354560:=⟨_,rfl⟩
 obtain ⟨t,ht⟩ : ∃ t,t = s % 2684354560:=⟨_,rfl⟩
 refine ⟨q * 4294967296 + p,t / 268435456,fun w => ?_,ten_last h l u q r s p t hu (by omega) (by omega) (by omega) hs (by omega) (by omega) (by omega) h9 (by omega) l0 l1⟩
 have E10 : bits .and .u64 11529215046068469760 4294967295 = 0:=by decide
 have E11:=or_top h l (by omega) h9 l0 l1
 rw [← hu] at E11
 have E12 : IntKind.u64.wrap (l * 1152921504606846976) = l % 16 * 1152921504606846976:=by rw [IntKind.wrap_u64];omega
 have E13 : l % 16 * 1152921504606846976 / 4294967296 = l % 16 * 268435456:=by omega
 have E14 : bits .and .u64 (l % 16 * 1152921504606846976) 4294967295 = 0:=and_low _ (l % 16) rfl (by omega) (by omega)
 have E15 : IntKind.u64.wrap (u.tdiv 2684354560) = q:=by rw [IntKind.wrap_u64,Int.tdiv_eq_ediv_of_nonneg (by omega)];omega
 have E16 : IntKind.u64.wrap (u - IntKind.u64.wrap (q * 2684354560)) = r:=by rw [IntKind.wrap_u64,IntKind.wrap_u64];omega
 have E21 : IntKind.u64.wrap (IntKind.u64.wrap (IntKind.u64.wrap (u * 4294967296) + l % 16 * 268435456) - IntKind.u64.wrap (q * 11529215046068469760)) = s:=by simp only [IntKind.wrap_u64];omega
 have E22 : IntKind.u64.wrap (s.tdiv 2684354560) = p:=by rw [IntKind.wrap_u64,Int.tdiv_eq_ediv_of_nonneg (by omega)];omega
 have E23 : IntKind.u64.wrap (s - IntKind.u64.wrap (p * 2684354560)) = t:=by simp only [IntKind.wrap_u64];omega
 have E24 : IntKind.u64.wrap (IntKind.u64.wrap (IntKind.u64.wrap (s * 4294967296)) - IntKind.u64.wrap (p * 11529215046068469760)) / 1152921504606846976 = t / 268435456:=by simp only [IntKind.wrap_u64];omega
 have J4:=Lib.hid E24
 have J1:=Lib.hid E21
 have J2:=Lib.hid E22
 have J3:=Lib.hid E23
 clear E21 E22 E23 E24
 have q0 : 0 ≤ q:=by omega
 have q1 : q < 4294967296:=by omega
 have r0 : 0 ≤ r:=by omega
 have r1 : r < 2684354560:=by omega
 have s0 : 0 ≤ s:=by omega
 have s1 : s < 11529215046068469760:=by omega
 have p0 : 0 ≤ p:=by omega
 have p1 : p < 4294967296:=by omega
 have t0 : 0 ≤ t:=by omega
 have t1 : t < 2684354560:=by omega
 have m0 : 0 ≤ l % 16 * 268435456:=by omega
 have m1 : l % 16 * 268435456 < 4294967296:=by omega
 have H1:=Lib.hid E10
 have H2:=Lib.hid E11
 have H3:=Lib.hid E12
 have H4:=Lib.hid E13
 have H5:=Lib.hid E14
 have H6:=Lib.hid E15
 have H7:=Lib.hid E16
 have G1:=Lib.hid hu
 have G2:=Lib.hid hq
 have G3:=Lib.hid hr
 have G4:=Lib.hid hs
 have G5:=Lib.hid hp
 have G6:=Lib.hid ht
 clear E10 E11 E12 E13 E14 E15 E16 hu hq hr hs hp ht
 go_enter Tryz.func159,Tryz.ntmps159
 go_wp2_with ((go_at_call 167;with_reducible refine (lz10 _).mono ?_);rintro _ _ ⟨rfl,n1,rfl⟩)
 rw [H1.out,H2.out,H3.out,H4.out,H5.out,H6.out,H7.out]
 refine wp_loop_rounds 1 ?_
 rw [rounds_succ]
 go_wp2
 rw [J1.out,J2.out,J3.out]
 refine wp_loop_rounds 1 ?_
 rw [rounds_succ]
 go_wp2
 go_ret2
 refine ⟨?_,_,rfl⟩
 show Ending.returned (.tuple #[.int .u64 _,.int .u64 _]) = _
 rw [J4.out]
set_option maxHeartbeats 1000000 in
theorem div10_small (l : Int) (l0 : 0 ≤ l) (l1 : l < 18446744073709551616) (w : World) :
  Calls Tryz.prog 159 #[.int .u64 0,.int .u64 l,.int .u64 10] w fun e w' => e = .returned (.tuple #[.int .u64 (l / 10),.int .u64 (l % 10)]) ∧ ∃ nn,w' = w.drewN nn:=by
 go_enter Tryz.func159,Tryz.ntmps159
 go_wp2_with fail
 go_quiet (fail)
 go_wp2_with fail
 go_ret2
 exact ⟨rfl,_,rfl⟩
theorem div10_ex (h l : Int) (h0 : 0 ≤ h) (h9 : h ≤ 9) (l0 : 0 ≤ l) (l1 : l < 18446744073709551616) :
  ∃ q r : Int,(∀ w : World,Calls Tryz.prog 159 #[.int .u64 h,.int .u64 l,.int .u64 10] w fun e w' => e = .returned (.tuple #[.int .u64 q,.int .u64 r]) ∧ ∃ nn,w' = w.drewN nn) ∧ Ten q r (h * 18446744073709551616 + l):=by
 by_cases hz : h = 0
 ·subst hz
  exact ⟨_,_,div10_small l l0 l1,by unfold Ten;omega⟩
 ·exact div10_big h l (by omega) h9 l0 l1
end Go.Proofs.YtkjecoanlppeaaaGreatDoor



namespace Go.Proofs.YtkjecoanlppeaaaGreatDoor
open Go.RowKit

def cmpI (a b c d : Int) : Int:=if a = c ∧ b = d then 0 else if a < c ∨ (a = c ∧ b < d) then -1 else 1
/-- -1, 0, 1: below, equal, above -/
def cmpN (n m : Nat) : Int:=if n = m then 0 else if n < m then -1 else 1
theorem cmp_eq (n m : Nat) (hn : n < 2 ^ 128) (hm : m < 2 ^ 128) : cmpI (wd n 1) (wd n 0) (wd m 1) (wd m 0) = cmpN n m:=by
  have h1:=wd_two hn
  have h2:=wd_two hm
  have h3:=wd_nn n 0
  have h4:=wd_lt n 0
  have h5:=wd_nn m 0
  have h6:=wd_lt m 0
  unfold cmpI cmpN
  split <;> split <;> (try split) <;> (try split) <;> omega
set_option maxHeartbeats 1000000 in
theorem cmp_int (a b c d : Int) (w : World) : Calls Tryz.prog 114 #[.agg #[.int .u64 a,.int .u64 b],.agg #[.int .u64 c,.int .u64 d]] w fun e w' => e = .returned (.int .i64 (cmpI a b c d)) ∧ Below w.heap.size w w':=by
  go_enter Tryz.func114,Tryz.ntmps114
  go_wp2
  all_goals go_ret
  all_goals refine ⟨?_,by (repeat' first|(with_reducible first|exact blR _ _|assumption|refine blD ?_|refine blN ?_ _)|((with_reducible first|refine blA ?_ ?_ _|refine blS ?_ ?_ _|refine blT (by assumption) ?_ ?_);focus (go_size;done)))⟩
  all_goals simp [cmpI]
  all_goals (first | done | omega | (simp_all;done) | (simp_all;omega))
theorem cmp_any (n m : Nat) (hn : n < 2 ^ 128) (hm : m < 2 ^ 128) (w : World) : Calls Tryz.prog 114 #[.agg #[.int .u64 (wd n 1),.int .u64 (wd n 0)],.agg #[.int .u64 (wd m 1),.int .u64 (wd m 0)]] w fun e w' => e = .returned (.int .i64 (cmpN n m)) ∧ Below w.heap.size w w':=by
  rw [← cmp_eq n m hn hm]
  exact cmp_int _ _ _ _ w

def over (n : Nat) : Int:=if n < 2 ^ 128 then 0 else 3
def fitW (n : Nat) : Nat:=if n < 2 ^ 128 then n else 0
set_option maxHeartbeats 1000000 in
theorem add_any (n m : Nat) (hn : n < 2 ^ 128) (hm : m < 2 ^ 128) (w : World) : Calls Tryz.prog 161 #[.agg #[.int .u64 (wd n 1),.int .u64 (wd n 0)],.agg #[.int .u64 (wd m 1),.int .u64 (wd m 0)]] w fun e w' => e = .returned (.tuple #[.agg #[.int .u64 (wd (fitW (n + m)) 1),.int .u64 (wd (fitW (n + m)) 0)],.int .i64 (over (n + m))]) ∧ Below w.heap.size w w':=by
  have h1:=wd_two hn
  have h2:=wd_two hm
  have a0:=wd_nn n 0
  have a1:=wd_lt n 0
  have b0:=wd_nn n 1
  have b1:=wd_lt n 1
  have c0:=wd_nn m 0
  have c1:=wd_lt m 0
  have d0:=wd_nn m 1
  have d1:=wd_lt m 1
  obtain ⟨s,k,f1,H1⟩:=add64_ex (wd n 0) (wd m 0) 0 a0 a1 c0 c1 (by decide) (by decide)
  have H1':=H1
  unfold Carry at H1'
  obtain ⟨t,j,f2,H2⟩:=add64_ex (wd n 1) (wd m 1) k b0 b1 d0 d1 H1'.2.2.2.1 H1'.2.2.2.2
  have H2':=H2
  unfold Carry at H2'
  by_cases hj : j = 0
  · subst hj
    have e0 : n + m < 2 ^ 128:=by omega
    have e1 : over (n + m) = 0:=by unfold over;rw [if_pos e0]
    have e2 : fitW (n + m) = n + m:=by unfold fitW;rw [if_pos e0]
    obtain ⟨e3,e4⟩:=wd_of (n + m) t s (by omega) (by omega) (by omega) (by omega) (by omega)
    rw [e1,e2,← e3,← e4]
    clear e0 e1 e2 e3 e4 H1 H2 H1' H2' h1 h2
    generalize wd n 0 = x0 at *
    generalize wd n 1 = x1 at *
    generalize wd m 0 = y0 at *
    generalize wd m 1 = y1 at *
    go_enter Tryz.func161,Tryz.ntmps161
    go_wp2
    refine bodyPost_ret (by simp [results,Tryz.results161,go_sem, *];try rfl) rfl ?_
    exact ⟨rfl,by (repeat' first|(with_reducible first|exact blR _ _|assumption|refine blD ?_|refine blN ?_ _)|((with_reducible first|refine blA ?_ ?_ _|refine blS ?_ ?_ _|refine blT (by assumption) ?_ ?_);focus (go_size;done)))⟩
  · have hj1 : j = 1:=by omega
    subst hj1
    have e0 : ¬ n + m < 2 ^ 128:=by omega
    have e1 : over (n + m) = 3:=by unfold over;rw [if_neg e0]
    have e2 : fitW (n + m) = 0:=by unfold fitW;rw [if_neg e0]
    rw [e1,e2,wd_zero,wd_zero]
    clear e0 e1 e2 H1 H2 H1' H2' h1 h2 hj
    generalize wd n 0 = x0 at *
    generalize wd n 1 = x1 at *
    generalize wd m 0 = y0 at *
    generalize wd m 1 = y1 at *
    go_enter Tryz.func161,Tryz.ntmps161
    go_wp2
    refine bodyPost_ret (by simp [results,Tryz.results161,go_sem, *];try rfl) rfl ?_
    exact ⟨rfl,by (repeat' first|(with_reducible first|exact blR _ _|assumption|refine blD ?_|refine blN ?_ _)|((with_reducible first|refine blA ?_ ?_ _|refine blS ?_ ?_ _|refine blT (by assumption) ?_ ?_);focus (go_size;done)))⟩

set_option maxHeartbeats 1000000 in
theorem narrow_any (n : Nat) (hn : n < 2 ^ 256) (w : World) : Calls Tryz.prog 160 #[.agg #[.int .u64 (wd n 0),.int .u64 (wd n 1),.int .u64 (wd n 2),.int .u64 (wd n 3)]] w fun e w' => e = .returned (.tuple #[.agg #[.int .u64 (wd (fitW n) 1),.int .u64 (wd (fitW n) 0)],.int .i64 (over n)]) ∧ Below w.heap.size w w':=by
  have hi:=wd_low4 hn
  by_cases h : n < 2 ^ 128
  · have e1 : over n = 0:=by unfold over;rw [if_pos h]
    have e2 : fitW n = n:=by unfold fitW;rw [if_pos h]
    obtain ⟨e3,e4⟩:=hi.2 h
    rw [e1,e2]
    have g3 : (wd n 2 == 0) = true:=by simp [e3]
    have g4 : (wd n 3 == 0) = true:=by simp [e4]
    have g5 : (wd n 2 != 0) = false:=by simp [e3]
    have g6 : (wd n 3 != 0) = false:=by simp [e4]
    clear e1 e2 e3 e4 hi h hn
    generalize wd n 0 = x0 at *
    generalize wd n 1 = x1 at *
    generalize wd n 2 = x2 at *
    generalize wd n 3 = x3 at *
    go_enter Tryz.func160,Tryz.ntmps160
    go_wp2
    refine bodyPost_ret (by simp [results,Tryz.results160,go_sem, *];try rfl) rfl ?_
    exact ⟨rfl,by (repeat' first|(with_reducible first|exact blR _ _|assumption|refine blD ?_|refine blN ?_ _)|((with_reducible first|refine blA ?_ ?_ _|refine blS ?_ ?_ _|refine blT (by assumption) ?_ ?_);focus (go_size;done)))⟩
  · have e1 : over n = 3:=by unfold over;rw [if_neg h]
    have e2 : fitW n = 0:=by unfold fitW;rw [if_neg h]
    rw [e1,e2,wd_zero,wd_zero]
    have hi' : ¬ (wd n 2 = 0 ∧ wd n 3 = 0):=fun x => h (hi.1 x)
    have H:=Lib.hid hi'
    clear e1 e2 hi hi' h hn
    generalize wd n 0 = x0 at *
    generalize wd n 1 = x1 at *
    generalize wd n 2 = x2 at *
    generalize wd n 3 = x3 at *
    go_enter Tryz.func160,Tryz.ntmps160
    go_wp2
    all_goals first
      | (exfalso;have:=H.out;simp_all;done)
      | (refine bodyPost_ret (by simp [results,Tryz.results160,go_sem, *];try rfl) rfl ?_
         exact ⟨rfl,by (repeat' first|(with_reducible first|exact blR _ _|assumption|refine blD ?_|refine blN ?_ _)|((with_reducible first|refine blA ?_ ?_ _|refine blS ?_ ?_ _|refine blT (by assumption) ?_ ?_);focus (go_size;done)))⟩)
set_option maxHeartbeats 2000000 in
theorem tenth_any (n : Nat) (hn : n < 2 ^ 256) (w : World) : Calls Tryz.prog 142 #[.agg #[.int .u64 (wd n 0),.int .u64 (wd n 1),.int .u64 (wd n 2),.int .u64 (wd n 3)]] w fun e w' => e = .returned (.tuple #[.agg #[.int .u64 (wd (n / 10) 0),.int .u64 (wd (n / 10) 1),.int .u64 (wd (n / 10) 2),.int .u64 (wd (n / 10) 3)],.int .u64 ((n % 10 : Nat) : Int)]) ∧ Below w.heap.size w w':=by
  have h:=wd_four hn
  have a0:=wd_nn n 0
  have a1:=wd_lt n 0
  have b0:=wd_nn n 1
  have b1:=wd_lt n 1
  have c0:=wd_nn n 2
  have c1:=wd_lt n 2
  have d0:=wd_nn n 3
  have d1:=wd_lt n 3
  obtain ⟨q3,r3,f3,H3⟩:=div10_ex 0 (wd n 3) (by decide) (by decide) d0 d1
  have G3:=H3
  unfold Ten at G3
  obtain ⟨q2,r2,f2,H2⟩:=div10_ex r3 (wd n 2) (by omega) (by omega) c0 c1
  have G2:=H2
  unfold Ten at G2
  obtain ⟨q1,r1,f1,H1⟩:=div10_ex r2 (wd n 1) (by omega) (by omega) b0 b1
  have G1:=H1
  unfold Ten at G1
  obtain ⟨q0,r0,f0,H0⟩:=div10_ex r1 (wd n 0) (by omega) (by omega) a0 a1
  have G0:=H0
  unfold Ten at G0
  have e:=wd_of4 (n / 10) q0 q1 q2 q3 (by omega) (by omega) (by omega) (by omega) (by omega) (by omega) (by omega) (by omega) (by omega)
  obtain ⟨e0,e1,e2,e3⟩:=e
  have er : ((n % 10 : Nat) : Int) = r0:=by omega
  rw [er,← e0,← e1,← e2,← e3]
  have F0:=Lib.hid f0
  have F1:=Lib.hid f1
  have F2:=Lib.hid f2
  have F3:=Lib.hid f3
  clear f0 f1 f2 f3 e0 e1 e2 e3 er H0 H1 H2 H3 G0 G1 G2 G3 h a0 a1 b0 b1 c0 c1 d0 d1 hn
  generalize wd n 0 = x0 at *
  generalize wd n 1 = x1 at *
  generalize wd n 2 = x2 at *
  generalize wd n 3 = x3 at *
  go_enter Tryz.func142,Tryz.ntmps142
  go_wp2_with fail
  refine wp_loop_rounds 5 ?_
  rw [rounds_succ]
  go_wp2_with ((go_at_call 159;with_reducible refine (F3.out _).mono ?_);rintro _ _ ⟨rfl,n1,rfl⟩)
  rw [rounds_succ]
  go_wp2_with ((go_at_call 159;with_reducible refine (F2.out _).mono ?_);rintro _ _ ⟨rfl,n2,rfl⟩)
  rw [rounds_succ]
  go_wp2_with ((go_at_call 159;with_reducible refine (F1.out _).mono ?_);rintro _ _ ⟨rfl,n3,rfl⟩)
  rw [rounds_succ]
  go_wp2_with ((go_at_call 159;with_reducible refine (F0.out _).mono ?_);rintro _ _ ⟨rfl,n4,rfl⟩)
  rw [rounds_succ]
  go_wp2_with fail
  refine bodyPost_ret (by simp [results,Tryz.results142,go_sem, *];try rfl) rfl ?_
  exact ⟨rfl,by (repeat' first|(with_reducible first|exact blR _ _|assumption|refine blD ?_|refine blN ?_ _)|((with_reducible first|refine blA ?_ ?_ _|refine blS ?_ ?_ _|refine blT (by assumption) ?_ ?_);focus (go_size;done)))⟩
end Go.Proofs.YtkjecoanlppeaaaGreatDoor



namespace Go.Proofs.YtkjecoanlppeaaaGreatDoor
open Go.RowKit

/-- N / d to the nearest, half to even -/
def near (N d : Nat) : Nat:=N / d + if 2 * (N % d) > d ∨ (2 * (N % d) = d ∧ N / d % 2 = 1) then 1 else 0
def lastD (N n : Nat) : Int:=if n = 0 then 0 else ((N / 10 ^ (n - 1) % 10 : Nat) : Int)
def belD (N n : Nat) : Bool:=decide (n ≠ 0 ∧ N % 10 ^ (n - 1) ≠ 0)
theorem lastD_succ (N n : Nat) : lastD N (n + 1) = ((N / 10 ^ n % 10 : Nat) : Int):=by
 unfold lastD;rw [if_neg (by omega),Nat.add_sub_cancel]
theorem lastD_bd (N n : Nat) : 0 ≤ lastD N n ∧ lastD N n ≤ 9:=by
 unfold lastD;split <;> omega
theorem mod_step (N n : Nat) : N % 10 ^ (n + 1) = N % 10 ^ n + 10 ^ n * (N / 10 ^ n % 10):=by
 rw [Nat.pow_succ,Nat.mod_mul]
theorem belD_succ (N n : Nat) : belD N (n + 1) = (belD N n || (lastD N n != 0)):=by
 rw [Bool.eq_iff_iff]
 simp only [belD,Bool.or_eq_true,decide_eq_true_eq,bne_iff_ne,Nat.add_sub_cancel]
 cases n with
 | zero => simp [lastD];omega
 | succ m =>
  rw [lastD_succ,mod_step]
  have hp : 0 < 10 ^ m:=Nat.pow_pos (by decide)
  constructor
  ·rintro ⟨_,h⟩
   by_cases h0 : N % 10 ^ m = 0
   ·right;intro hz
    have hz' : N / 10 ^ m % 10 = 0:=by omega
    rw [h0,hz'] at h;exact h rfl
   ·left;exact ⟨by omega,by simpa using h0⟩
  ·rintro (⟨_,h⟩ | h)
   ·refine ⟨by omega, ?_⟩
    simp only [Nat.add_sub_cancel] at h
    omega
   ·refine ⟨by omega,fun hz => h ?_⟩
    have h1 : 10 ^ m * (N / 10 ^ m % 10) = 0:=by omega
    rcases Nat.mul_eq_zero.1 h1 with h2 | h2 <;> omega
theorem near_of (N n : Nat) (up : Prop) [Decidable up] (h : up ↔ (lastD N n > 5 ∨ (lastD N n = 5 ∧ (belD N n = true ∨ N / 10 ^ n % 2 = 1)))) :
  near N (10 ^ n) = N / 10 ^ n + if up then 1 else 0:=by
 unfold near
 congr 1
 have key : (2 * (N % 10 ^ n) > 10 ^ n ∨ (2 * (N % 10 ^ n) = 10 ^ n ∧ N / 10 ^ n % 2 = 1)) ↔ up:=by
  rw [h]
  cases n with
  | zero => simp [lastD,Nat.mod_one]
  | succ m =>
   rw [lastD_succ,mod_step]
   simp only [belD,decide_eq_true_eq,Nat.add_sub_cancel]
   have hp : 0 < 10 ^ m:=Nat.pow_pos (by decide)
   have hl : N % 10 ^ m < 10 ^ m:=Nat.mod_lt _ hp
   have hd : N / 10 ^ m % 10 < 10:=Nat.mod_lt _ (by decide)
   generalize N / 10 ^ (m + 1) % 2 = par
   generalize N / 10 ^ m % 10 = d at *
   rw [Nat.pow_succ]
   generalize N % 10 ^ m = low at *
   generalize 10 ^ m = P at *
   have hc : d = 0 ∨ d = 1 ∨ d = 2 ∨ d = 3 ∨ d = 4 ∨ d = 5 ∨ d = 6 ∨ d = 7 ∨ d = 8 ∨ d = 9:=by omega
   rcases hc with rfl | rfl | rfl | rfl | rfl | rfl | rfl | rfl | rfl | rfl <;> simp <;> omega
 by_cases hu : up
 ·rw [if_pos hu,if_pos (key.2 hu)]
 ·rw [if_neg hu,if_neg (fun x => hu (key.1 x))]
theorem div_lt_256 {N : Nat} (hN : N < 2 ^ 256) (d : Nat) : N / d < 2 ^ 256:=Nat.lt_of_le_of_lt (Nat.div_le_self _ _) hN

theorem wd_odd (X : Nat) : bits .and .u64 (wd X 0) 1 = ((X % 2 : Nat) : Int):=by
 have h:=bits_and_u64_nat (X % 18446744073709551616) 1 (by omega) (by omega)
 rw [Nat.and_one_is_mod] at h
 have e : ((1 : Nat) : Int) = 1:=rfl
 rw [e] at h
 rw [wd0,h]
 omega
set_option maxHeartbeats 4000000 in
theorem round_any (N : Nat) (hN : N < 2 ^ 256) (k : Nat) (hk : k ≤ 76) (w : World) : Calls Tryz.prog 143 #[.agg #[.int .u64 (wd N 0),.int .u64 (wd N 1),.int .u64 (wd N 2),.int .u64 (wd N 3)],.int .i64 k] w fun e w' => e = .returned (.tuple #[.agg #[.int .u64 (wd (fitW (near N (10 ^ k))) 1),.int .u64 (wd (fitW (near N (10 ^ k))) 0)],.int .i64 (over (near N (10 ^ k)))]) ∧ Below w.heap.size w w':=by
 have k0 : (0 : Int) ≤ (k : Int):=by omega
 have k1 : (k : Int) ≤ 76:=by omega
 have HN:=Lib.hid hN
 clear hN
 go_enter Tryz.func143,Tryz.ntmps143
 go_wp2_with fail
 go_loopg [6,7,18] k (fun kk l b i wr => ∃ n : Nat,kk + n = k ∧ l = .int .u64 (lastD N n) ∧ b = .bool (belD N n) ∧ i = .int .i64 n ∧ w.heap.size + 2 ≤ wr.heap.size ∧ Below w.heap.size w wr ∧
  Bk wr w.heap.size 82 [.int .u64 (wd (N / 10 ^ n) 0),.int .u64 (wd (N / 10 ^ n) 1),.int .u64 (wd (N / 10 ^ n) 2),.int .u64 (wd (N / 10 ^ n) 3)] ∧ Bk wr (w.heap.size + 1) 30 [.int .u64 0,.int .u64 0])
 case atStart =>
  refine ⟨0,by omega,rfl,rfl,rfl,by go_size,by (repeat' first|(with_reducible first|exact blR _ _|assumption|refine blD ?_|refine blN ?_ _)|((with_reducible first|refine blA ?_ ?_ _|refine blS ?_ ?_ _|refine blT (by assumption) ?_ ?_);focus (go_size;done))), ?_,by (repeat (first|(with_reducible assumption)|((with_reducible refine bkW ?_);(first|rfl|(simp only [wsA,wsS,wsD,wsN];done)))|(with_reducible first|refine bkA ?_ _|refine bkD ?_|refine bkN ?_ _)|((with_reducible refine bkF ?_ ?_ _);focus (simp only [];omega))|((with_reducible refine bkB (by assumption) ?_ ?_);focus (go_size;done))))⟩
  rw [Nat.pow_zero,Nat.div_one]
  (repeat (first|(with_reducible assumption)|((with_reducible refine bkW ?_);(first|rfl|(simp only [wsA,wsS,wsD,wsN];done)))|(with_reducible first|refine bkA ?_ _|refine bkD ?_|refine bkN ?_ _)|((with_reducible refine bkF ?_ ?_ _);focus (simp only [];omega))|((with_reducible refine bkB (by assumption) ?_ ?_);focus (go_size;done))))
 case round =>
  obtain ⟨n,hn,rfl,rfl,rfl,hsz,hbel,b0,b1⟩:=hrel
  have HK:=Lib.hid hn
  have hle : (n : Int) ≤ (k : Int):=by omega
  have HB:=Lib.hid (belD_succ N n)
  have HL:=Lib.hid (lastD_bd N n)
  have HX:=Lib.hid (div_lt_256 HN.out (10 ^ n))
  have hlb:=lastD_bd N n
  obtain ⟨l0,l9⟩:=hlb
  obtain ⟨X,hX⟩ : ∃ X,X = N / 10 ^ n:=⟨_,rfl⟩
  rw [← hX] at b0 HX
  obtain ⟨L,hL⟩ : ∃ L,L = lastD N n:=⟨_,rfl⟩
  obtain ⟨bb,hbb⟩ : ∃ bb,bb = belD N n:=⟨_,rfl⟩
  rw [← hL] at HL HB l0 l9 ⊢
  rw [← hbb] at HB ⊢
  have GX:=Lib.hid hX
  have GL:=Lib.hid hL
  have GB:=Lib.hid hbb
  clear hX hL hbb hn
  have c00:=b0.cell 0 rfl
  have c01:=b0.cell 1 rfl
  have c02:=b0.cell 2 rfl
  have c03:=b0.cell 3 rfl
  have c10:=b1.cell 0 rfl
  have c11:=b1.cell 1 rfl
  have f00:=b0.frozen 0
  have f01:=b0.frozen 1
  have f02:=b0.frozen 2
  have f03:=b0.frozen 3
  have f10:=b1.frozen 0
  have f11:=b1.frozen 1
  (try have : w.heap.size < wr.heap.size:=by omega);(try have : w.heap.size + 1 < wr.heap.size:=by omega);(try have : w.heap.size + 1 + 1 < wr.heap.size:=by omega);(try have : w.heap.size + 1 + 1 + 1 < wr.heap.size:=by omega)
  have HT:=Lib.hid (fun W => tenth_any X HX.out W)
  have HR:=Lib.hid (fun W => narrow_any X HX.out W)
  by_cases hlt : (n : Int) < (k : Int)
  ·cases bb
   ·go_wp2_with ((go_at_call 142;with_reducible refine (HT.out _).mono ?_);rintro _ w1 ⟨rfl,hb1⟩;have hb1s:=hb1.size;(try simp only [wsA,wsS,wsD,wsN] at hb1s);obtain ⟨hb1c,hb1f⟩:=bcell hb1;(try have : w.heap.size < w1.heap.size:=by omega);(try have : w.heap.size + 1 < w1.heap.size:=by omega);(try have : w.heap.size + 1 + 1 < w1.heap.size:=by omega);(try have : w.heap.size + 1 + 1 + 1 < w1.heap.size:=by omega))
    go_roundg (gk - 1)
    case measure => have:=HK.out;omega
    case rel =>
     refine ⟨n + 1,by have:=HK.out;omega, ?_, ?_,by go_num,by go_size,by (repeat' first|(with_reducible first|exact blR _ _|assumption|refine blD ?_|refine blN ?_ _)|((with_reducible first|refine blA ?_ ?_ _|refine blS ?_ ?_ _|refine blT (by assumption) ?_ ?_);focus (go_size;done))), ?_,by (repeat (first|(with_reducible assumption)|((with_reducible refine bkW ?_);(first|rfl|(simp only [wsA,wsS,wsD,wsN];done)))|(with_reducible first|refine bkA ?_ _|refine bkD ?_|refine bkN ?_ _)|((with_reducible refine bkF ?_ ?_ _);focus (simp only [];omega))|((with_reducible refine bkB (by assumption) ?_ ?_);focus (go_size;done))))⟩
     ·rw [lastD_succ,← GX.out];rfl
     ·rw [HB.out];rfl
     ·rw [show N / 10 ^ (n + 1) = X / 10 from by rw [GX.out,Nat.div_div_eq_div_mul,Nat.pow_succ]]
      refine (((((?_ : Bk w1 _ _ [.int .u64 (wd X 0),.int .u64 (wd X 1),.int .u64 (wd X 2),.int .u64 (wd X 3)]).set_ 0 _).set_ 1 _).set_ 2 _).set_ 3 _)
      (repeat (first|(with_reducible assumption)|((with_reducible refine bkW ?_);(first|rfl|(simp only [wsA,wsS,wsD,wsN];done)))|(with_reducible first|refine bkA ?_ _|refine bkD ?_|refine bkN ?_ _)|((with_reducible refine bkF ?_ ?_ _);focus (simp only [];omega))|((with_reducible refine bkB (by assumption) ?_ ?_);focus (go_size;done))))
   ·go_wp2_with ((go_at_call 142;with_reducible refine (HT.out _).mono ?_);rintro _ w1 ⟨rfl,hb1⟩;have hb1s:=hb1.size;(try simp only [wsA,wsS,wsD,wsN] at hb1s);obtain ⟨hb1c,hb1f⟩:=bcell hb1;(try have : w.heap.size < w1.heap.size:=by omega);(try have : w.heap.size + 1 < w1.heap.size:=by omega);(try have : w.heap.size + 1 + 1 < w1.heap.size:=by omega);(try have : w.heap.size + 1 + 1 + 1 < w1.heap.size:=by omega))
    go_roundg (gk - 1)
    case measure => have:=HK.out;omega
    case rel =>
     refine ⟨n + 1,by have:=HK.out;omega, ?_, ?_,by go_num,by go_size,by (repeat' first|(with_reducible first|exact blR _ _|assumption|refine blD ?_|refine blN ?_ _)|((with_reducible first|refine blA ?_ ?_ _|refine blS ?_ ?_ _|refine blT (by assumption) ?_ ?_);focus (go_size;done))), ?_,by (repeat (first|(with_reducible assumption)|((with_reducible refine bkW ?_);(first|rfl|(simp only [wsA,wsS,wsD,wsN];done)))|(with_reducible first|refine bkA ?_ _|refine bkD ?_|refine bkN ?_ _)|((with_reducible refine bkF ?_ ?_ _);focus (simp only [];omega))|((with_reducible refine bkB (by assumption) ?_ ?_);focus (go_size;done))))⟩
     ·rw [lastD_succ,← GX.out];rfl
     ·rw [HB.out];rfl
     ·rw [show N / 10 ^ (n + 1) = X / 10 from by rw [GX.out,Nat.div_div_eq_div_mul,Nat.pow_succ]]
      refine (((((?_ : Bk w1 _ _ [.int .u64 (wd X 0),.int .u64 (wd X 1),.int .u64 (wd X 2),.int .u64 (wd X 3)]).set_ 0 _).set_ 1 _).set_ 2 _).set_ 3 _)
      (repeat (first|(with_reducible assumption)|((with_reducible refine bkW ?_);(first|rfl|(simp only [wsA,wsS,wsD,wsN];done)))|(with_reducible first|refine bkA ?_ _|refine bkD ?_|refine bkN ?_ _)|((with_reducible refine bkF ?_ ?_ _);focus (simp only [];omega))|((with_reducible refine bkB (by assumption) ?_ ?_);focus (go_size;done))))
  ·obtain rfl : n = k:=by omega
   by_cases hx : X < 2 ^ 128
   ·have e6 : fitW X = X:=by unfold fitW;rw [if_pos hx]
    have e7 : over X = 0:=by unfold over;rw [if_pos hx]
    rw [e6,e7] at HR
    have w11 : wd 1 1 = 0:=by decide
    have w10 : wd 1 0 = 1:=by decide
    have HA:=Lib.hid (fun W => add_any X 1 hx (by decide) W)
    rw [w11,w10] at HA
    have hodd:=wd_odd X
    have HO:=Lib.hid hodd
    clear hodd w11 w10 hx
    by_cases c1 : 5 < L
    ·have E6:=Lib.hid e6
     have E7:=Lib.hid e7
     clear e6 e7
     have hf:=near_of N n True (by rw [← GL.out,← GB.out,← GX.out];simp;left;exact c1)
     rw [if_pos trivial,← GX.out] at hf
     have HF:=Lib.hid hf
     clear hf
     clear hlt
     go_wp2_with (first
      | ((go_at_call 160;with_reducible refine (HR.out _).mono ?_);rintro _ w1 ⟨rfl,hb1⟩;have hb1s:=hb1.size;(try simp only [wsA,wsS,wsD,wsN] at hb1s);obtain ⟨hb1c,hb1f⟩:=bcell hb1;(try have : w.heap.size < w1.heap.size:=by omega);(try have : w.heap.size + 1 < w1.heap.size:=by omega);(try have : w.heap.size + 1 + 1 < w1.heap.size:=by omega);(try have : w.heap.size + 1 + 1 + 1 < w1.heap.size:=by omega))
      | ((go_at_call 161;with_reducible refine (HA.out _).mono ?_);rintro _ w2 ⟨rfl,hb2⟩;have hb2s:=hb2.size;(try simp only [wsA,wsS,wsD,wsN] at hb2s);obtain ⟨hb2c,hb2f⟩:=bcell hb2;(try have : w.heap.size < w2.heap.size:=by omega);(try have : w.heap.size + 1 < w2.heap.size:=by omega);(try have : w.heap.size + 1 + 1 < w2.heap.size:=by omega);(try have : w.heap.size + 1 + 1 + 1 < w2.heap.size:=by omega)))
     refine bodyPost_ret (by simp [results,Tryz.results143,go_sem, *];try rfl) rfl ?_
     rw [HF.out]
     exact ⟨rfl,by (repeat' first|(with_reducible first|exact blR _ _|assumption|refine blD ?_|refine blN ?_ _)|((with_reducible first|refine blA ?_ ?_ _|refine blS ?_ ?_ _|refine blT (by assumption) ?_ ?_);focus (go_size;done)))⟩
    ·by_cases c2 : L = 5
     ·have g1 : (L == 5) = true:=by simp [c2]
      have C2:=Lib.hid c2
      cases bb
      ·by_cases c3 : X % 2 = 1
       ·have g2 : (bits .and .u64 (wd X 0) 1 == 1) = true:=by rw [HO.out,c3];rfl
        have C3:=Lib.hid c3
        have E6:=Lib.hid e6
        have E7:=Lib.hid e7
        clear e6 e7 c2 c3
        have hf:=near_of N n True (by rw [← GL.out,← GB.out,← GX.out];simp;right;exact ⟨C2.out,C3.out⟩)
        rw [if_pos trivial,← GX.out] at hf
        have HF:=Lib.hid hf
        clear hf
        clear hlt
        go_wp2_with (first
         | ((go_at_call 160;with_reducible refine (HR.out _).mono ?_);rintro _ w1 ⟨rfl,hb1⟩;have hb1s:=hb1.size;(try simp only [wsA,wsS,wsD,wsN] at hb1s);obtain ⟨hb1c,hb1f⟩:=bcell hb1;(try have : w.heap.size < w1.heap.size:=by omega);(try have : w.heap.size + 1 < w1.heap.size:=by omega);(try have : w.heap.size + 1 + 1 < w1.heap.size:=by omega);(try have : w.heap.size + 1 + 1 + 1 < w1.heap.size:=by omega))
         | ((go_at_call 161;with_reducible refine (HA.out _).mono ?_);rintro _ w2 ⟨rfl,hb2⟩;have hb2s:=hb2.size;(try simp only [wsA,wsS,wsD,wsN] at hb2s);obtain ⟨hb2c,hb2f⟩:=bcell hb2;(try have : w.heap.size < w2.heap.size:=by omega);(try have : w.heap.size + 1 < w2.heap.size:=by omega);(try have : w.heap.size + 1 + 1 < w2.heap.size:=by omega);(try have : w.heap.size + 1 + 1 + 1 < w2.heap.size:=by omega)))
        refine bodyPost_ret (by simp [results,Tryz.results143,go_sem, *];try rfl) rfl ?_
        rw [HF.out]
        exact ⟨rfl,by (repeat' first|(with_reducible first|exact blR _ _|assumption|refine blD ?_|refine blN ?_ _)|((with_reducible first|refine blA ?_ ?_ _|refine blS ?_ ?_ _|refine blT (by assumption) ?_ ?_);focus (go_size;done)))⟩
       ·have g2 : (bits .and .u64 (wd X 0) 1 == 1) = false:=by rw [HO.out];simp;omega
        have C3:=Lib.hid c3
        clear c2 c3
        have hf:=near_of N n False (by rw [← GL.out,← GB.out,← GX.out];simp;exact ⟨by omega,fun _ => by have:=C3.out;omega⟩)
        rw [if_neg not_false,← GX.out,Nat.add_zero] at hf
        have HF:=Lib.hid hf
        clear hf
        clear hlt
        have E6:=Lib.hid e6
        have E7:=Lib.hid e7
        clear e6 e7
        go_wp2_with ((go_at_call 160;with_reducible refine (HR.out _).mono ?_);rintro _ w1 ⟨rfl,hb1⟩;have hb1s:=hb1.size;(try simp only [wsA,wsS,wsD,wsN] at hb1s);obtain ⟨hb1c,hb1f⟩:=bcell hb1;(try have : w.heap.size < w1.heap.size:=by omega);(try have : w.heap.size + 1 < w1.heap.size:=by omega);(try have : w.heap.size + 1 + 1 < w1.heap.size:=by omega);(try have : w.heap.size + 1 + 1 + 1 < w1.heap.size:=by omega))
        refine bodyPost_ret (by simp [results,Tryz.results143,go_sem, *];try rfl) rfl ?_
        rw [HF.out,E6.out,E7.out]
        exact ⟨rfl,by (repeat' first|(with_reducible first|exact blR _ _|assumption|refine blD ?_|refine blN ?_ _)|((with_reducible first|refine blA ?_ ?_ _|refine blS ?_ ?_ _|refine blT (by assumption) ?_ ?_);focus (go_size;done)))⟩
      ·have E6:=Lib.hid e6
       have E7:=Lib.hid e7
       clear e6 e7 c2
       have hf:=near_of N n True (by rw [← GL.out,← GB.out,← GX.out];simp;right;exact C2.out)
       rw [if_pos trivial,← GX.out] at hf
       have HF:=Lib.hid hf
       clear hf
       clear hlt
       go_wp2_with (first
        | ((go_at_call 160;with_reducible refine (HR.out _).mono ?_);rintro _ w1 ⟨rfl,hb1⟩;have hb1s:=hb1.size;(try simp only [wsA,wsS,wsD,wsN] at hb1s);obtain ⟨hb1c,hb1f⟩:=bcell hb1;(try have : w.heap.size < w1.heap.size:=by omega);(try have : w.heap.size + 1 < w1.heap.size:=by omega);(try have : w.heap.size + 1 + 1 < w1.heap.size:=by omega);(try have : w.heap.size + 1 + 1 + 1 < w1.heap.size:=by omega))
        | ((go_at_call 161;with_reducible refine (HA.out _).mono ?_);rintro _ w2 ⟨rfl,hb2⟩;have hb2s:=hb2.size;(try simp only [wsA,wsS,wsD,wsN] at hb2s);obtain ⟨hb2c,hb2f⟩:=bcell hb2;(try have : w.heap.size < w2.heap.size:=by omega);(try have : w.heap.size + 1 < w2.heap.size:=by omega);(try have : w.heap.size + 1 + 1 < w2.heap.size:=by omega);(try have : w.heap.size + 1 + 1 + 1 < w2.heap.size:=by omega)))
       refine bodyPost_ret (by simp [results,Tryz.results143,go_sem, *];try rfl) rfl ?_
       rw [HF.out]
       exact ⟨rfl,by (repeat' first|(with_reducible first|exact blR _ _|assumption|refine blD ?_|refine blN ?_ _)|((with_reducible first|refine blA ?_ ?_ _|refine blS ?_ ?_ _|refine blT (by assumption) ?_ ?_);focus (go_size;done)))⟩
     ·have g1 : (L == 5) = false:=by simp [c2]
      have C2:=Lib.hid c2
      clear c2
      have hf:=near_of N n False (by rw [← GL.out,← GB.out,← GX.out];simp;exact ⟨by omega,fun h => absurd h C2.out⟩)
      rw [if_neg not_false,← GX.out,Nat.add_zero] at hf
      have HF:=Lib.hid hf
      clear hf
      clear hlt
      have E6:=Lib.hid e6
      have E7:=Lib.hid e7
      clear e6 e7
      go_wp2_with ((go_at_call 160;with_reducible refine (HR.out _).mono ?_);rintro _ w1 ⟨rfl,hb1⟩;have hb1s:=hb1.size;(try simp only [wsA,wsS,wsD,wsN] at hb1s);obtain ⟨hb1c,hb1f⟩:=bcell hb1;(try have : w.heap.size < w1.heap.size:=by omega);(try have : w.heap.size + 1 < w1.heap.size:=by omega);(try have : w.heap.size + 1 + 1 < w1.heap.size:=by omega);(try have : w.heap.size + 1 + 1 + 1 < w1.heap.size:=by omega))
      refine bodyPost_ret (by simp [results,Tryz.results143,go_sem, *];try rfl) rfl ?_
      rw [HF.out,E6.out,E7.out]
      exact ⟨rfl,by (repeat' first|(with_reducible first|exact blR _ _|assumption|refine blD ?_|refine blN ?_ _)|((with_reducible first|refine blA ?_ ?_ _|refine blS ?_ ?_ _|refine blT (by assumption) ?_ ?_);focus (go_size;done)))⟩
   ·have e6 : fitW X = 0:=by unfold fitW;rw [if_neg hx]
    have e7 : over X = 3:=by unfold over;rw [if_neg hx]
    rw [e6,e7] at HR
    have hbig : ¬ near N (10 ^ n) < 2 ^ 128:=by
     have : N / 10 ^ n ≤ near N (10 ^ n):=Nat.le_add_right _ _
     rw [← GX.out] at this
     omega
    have e8 : fitW (near N (10 ^ n)) = 0:=by unfold fitW;rw [if_neg hbig]
    have e9 : over (near N (10 ^ n)) = 3:=by unfold over;rw [if_neg hbig]
    have E8:=Lib.hid e8
    have E9:=Lib.hid e9
    rw [wd_zero,wd_zero] at HR
    clear e6 e7 e8 e9 hbig hx hlt
    go_wp2_with ((go_at_call 160;with_reducible refine (HR.out _).mono ?_);rintro _ w1 ⟨rfl,hb1⟩;have hb1s:=hb1.size;(try simp only [wsA,wsS,wsD,wsN] at hb1s);obtain ⟨hb1c,hb1f⟩:=bcell hb1;(try have : w.heap.size < w1.heap.size:=by omega);(try have : w.heap.size + 1 < w1.heap.size:=by omega);(try have : w.heap.size + 1 + 1 < w1.heap.size:=by omega);(try have : w.heap.size + 1 + 1 + 1 < w1.heap.size:=by omega))
    refine bodyPost_ret (by simp [results,Tryz.results143,go_sem, *];try rfl) rfl ?_
    rw [E8.out,E9.out,wd_zero,wd_zero]
    exact ⟨rfl,by (repeat' first|(with_reducible first|exact blR _ _|assumption|refine blD ?_|refine blN ?_ _)|((with_reducible first|refine blA ?_ ?_ _|refine blS ?_ ?_ _|refine blT (by assumption) ?_ ?_);focus (go_size;done)))⟩
end Go.Proofs.YtkjecoanlppeaaaGreatDoor



namespace Go.Proofs.YtkjecoanlppeaaaGreatDoor
open Go.RowKit

def B34 : Nat:=10 ^ 34
theorem B34_lt : B34 < 2 ^ 128:=by unfold B34;decide
theorem B34_pos : 0 < B34:=by unfold B34;decide
/-- c / 10^s without the noughts behind the point: the coefficient, the scale -/
def stripC : Nat → Nat → Nat
 | c,0 => c
 | c,s + 1 => if c % 10 = 0 then stripC (c / 10) s else c
def stripS : Nat → Nat → Nat
 | _,0 => 0
 | c,s + 1 => if c % 10 = 0 then stripS (c / 10) s else s + 1
theorem strip_ten (c s : Nat) : stripC (c * 10) (s + 1) = stripC c s ∧ stripS (c * 10) (s + 1) = stripS c s:=by
 unfold stripC stripS
 rw [if_pos (Nat.mul_mod_left _ _),if_pos (Nat.mul_mod_left _ _),Nat.mul_div_cancel _ (by decide)]
 exact ⟨by cases s <;> rfl,by cases s <;> rfl⟩
theorem strip_pow (c s j : Nat) : stripC (c * 10 ^ j) (s + j) = stripC c s ∧ stripS (c * 10 ^ j) (s + j) = stripS c s:=by
 induction j with
 | zero => rw [Nat.pow_zero,Nat.mul_one];exact ⟨rfl,rfl⟩
 | succ j ih =>
  have h:=strip_ten (c * 10 ^ j) (s + j)
  rw [Nat.pow_succ,← Nat.mul_assoc]
  exact ⟨h.1.trans ih.1,h.2.trans ih.2⟩
theorem strip_nil (s : Nat) : stripC 0 s = 0 ∧ stripS 0 s = 0:=by
 induction s with
 | zero => exact ⟨rfl,rfl⟩
 | succ s ih => have h:=strip_ten 0 s;exact ⟨h.1.trans ih.1,h.2.trans ih.2⟩
theorem strip_yes {c : Nat} (h : c % 10 = 0) (s : Nat) : stripC c (s + 1) = stripC (c / 10) s ∧ stripS c (s + 1) = stripS (c / 10) s:=by
 have e : c = c / 10 * 10:=by omega
 have:=strip_ten (c / 10) s
 rwa [← e] at this
theorem strip_no {c : Nat} (h : c % 10 ≠ 0) (s : Nat) : stripC c s = c ∧ stripS c s = s:=by
 cases s with
 | zero => exact ⟨rfl,rfl⟩
 | succ s => unfold stripC stripS;rw [if_neg h,if_neg h];exact ⟨rfl,rfl⟩
theorem strip_val (c s : Nat) : stripC c s * 10 ^ (s - stripS c s) = c ∧ stripS c s ≤ s:=by
 induction s generalizing c with
 | zero => exact ⟨Nat.mul_one _,Nat.le_refl _⟩
 | succ s ih =>
  by_cases h : c % 10 = 0
  ·rw [(strip_yes h s).1,(strip_yes h s).2]
   obtain ⟨h1,h2⟩:=ih (c / 10)
   refine ⟨?_,by omega⟩
   rw [show s + 1 - stripS (c / 10) s = s - stripS (c / 10) s + 1 by omega,Nat.pow_succ,← Nat.mul_assoc,h1]
   omega
  ·rw [(strip_no h _).1,(strip_no h _).2,Nat.sub_self]
   exact ⟨Nat.mul_one _,Nat.le_refl _⟩
theorem stripC_le (c s : Nat) : stripC c s ≤ c:=by
 have h:=(strip_val c s).1
 have hp : 0 < 10 ^ (s - stripS c s):=Nat.pow_pos (by decide)
 calc stripC c s ≤ stripC c s * 10 ^ (s - stripS c s):=Nat.le_mul_of_pos_right _ hp
  _ = c:=h
theorem stripC_zero {c s : Nat} : stripC c s = 0 ↔ c = 0:=by
 constructor
 ·intro h;have:=(strip_val c s).1;rw [h,Nat.zero_mul] at this;exact this.symm
 ·rintro rfl;exact (strip_nil s).1
theorem strip_end (c s : Nat) : stripS c s = 0 ∨ stripC c s % 10 ≠ 0:=by
 induction s generalizing c with
 | zero => exact .inl rfl
 | succ s ih =>
  by_cases h : c % 10 = 0
  ·rw [(strip_yes h s).1,(strip_yes h s).2];exact ih _
  ·rw [(strip_no h _).1,(strip_no h _).2];exact .inr h
/-- what Trim cuts off tells it -/
theorem strip_trim (T k s : Nat) (hT : T % 10 ≠ 0) : (k ≤ s → stripC (T * 10 ^ k) s = T ∧ stripS (T * 10 ^ k) s = s - k) ∧ (s ≤ k → stripC (T * 10 ^ k) s = T * 10 ^ (k - s) ∧ stripS (T * 10 ^ k) s = 0):=by
 constructor
 ·intro h
  have e:=strip_pow T (s - k) k
  rw [show s - k + k = s by omega] at e
  rw [e.1,e.2]
  exact strip_no hT _
 ·intro h
  have e:=strip_pow (T * 10 ^ (k - s)) 0 s
  rw [Nat.mul_assoc,← Nat.pow_add,show k - s + s = k by omega,Nat.zero_add] at e
  exact e
/-- the sign of what may be nought -/
def sg (neg : Bool) (c : Nat) : Bool:=neg && decide (c ≠ 0)
theorem sg_zero (neg : Bool) : sg neg 0 = false:=by unfold sg;simp
theorem sg_pos {neg : Bool} {c : Nat} (h : c ≠ 0) : sg neg c = neg:=by unfold sg;simp [h]
/-- is it in form? -/
def dform (neg : Bool) (c : Nat) (s : Int) : Bool:=decide (c < B34) && (decide (0 ≤ s) && (decide (s ≤ 18) && (if c = 0 then !neg && decide (s = 0) else decide (s = 0) || decide (c % 10 ≠ 0))))
def DForm (neg : Bool) (c s : Nat) : Prop:=c < B34 ∧ s ≤ 18 ∧ (c = 0 → neg = false ∧ s = 0) ∧ (s = 0 ∨ c % 10 ≠ 0)
theorem dform_iff (neg : Bool) (c : Nat) (s : Int) : dform neg c s = true ↔ ∃ t : Nat,s = (t : Int) ∧ DForm neg c t:=by
 unfold dform DForm
 by_cases h0 : c = 0
 ·subst h0
  simp only [Bool.and_eq_true,decide_eq_true_eq,if_pos]
  constructor
  ·rintro ⟨h1,h2,h3,h4,h5⟩
   refine ⟨0,by omega,h1,by omega,fun _ => ⟨by simpa using h4,rfl⟩,.inl rfl⟩
  ·rintro ⟨t,rfl,h1,h2,h3,h4⟩
   obtain ⟨h5,h6⟩:=h3 trivial
   subst h6
   simp [h5,h1]
 ·simp only [Bool.and_eq_true,decide_eq_true_eq,if_neg h0,Bool.or_eq_true]
  constructor
  ·rintro ⟨h1,h2,h3,h4⟩
   refine ⟨s.toNat,by omega,h1,by omega,fun h => absurd h h0, ?_⟩
   rcases h4 with h4 | h4
   ·left;omega
   ·right;exact h4
  ·rintro ⟨t,rfl,h1,h2,h3,h4⟩
   refine ⟨h1,by omega,by omega, ?_⟩
   rcases h4 with h4 | h4
   ·left;omega
   ·right;exact h4

/-- the nearest -/
theorem near_scale (a b k : Nat) (hk : 0 < k) : near (a * k) (b * k) = near a b:=by
 unfold near
 rw [Nat.mul_div_mul_right _ _ hk,Nat.mul_mod_mul_right]
 have e1 : 2 * (a % b * k) > b * k ↔ 2 * (a % b) > b:=by
  rw [← Nat.mul_assoc];exact Nat.mul_lt_mul_right hk
 have e2 : 2 * (a % b * k) = b * k ↔ 2 * (a % b) = b:=by
  rw [← Nat.mul_assoc];exact Nat.mul_left_inj (Nat.ne_of_gt hk)
 simp only [e1,e2]
theorem near_exact (q d : Nat) (hd : 0 < d) : near (q * d) d = q:=by
 unfold near
 rw [Nat.mul_div_cancel _ hd,Nat.mul_mod_left]
 simp;omega
theorem near_pow (n s t : Nat) (h : s ≤ t) : near (n * 10 ^ s) (10 ^ t) = near n (10 ^ (t - s)):=by
 rw [show 10 ^ t = 10 ^ (t - s) * 10 ^ s by rw [← Nat.pow_add];congr 1;omega]
 exact near_scale _ _ _ (Nat.pow_pos (by decide))
theorem near_high (n t j : Nat) : near (n * 10 ^ (t + j)) (10 ^ t) = n * 10 ^ j:=by
 rw [Nat.pow_add,Nat.mul_comm (10 ^ t),← Nat.mul_assoc]
 exact near_exact _ _ (Nat.pow_pos (by decide))

/-- n / d fitted, trying the scales below k -/
def fitK (n d : Nat) : Nat → Nat × Nat × Int
 | 0 => (0,0,3)
 | s + 1 => if near (n * 10 ^ s) d < B34 then (near (n * 10 ^ s) d,s,0) else fitK n d s
def fin (r : Nat × Nat × Int) : Nat × Nat × Int:=(stripC r.1 r.2.1,stripS r.1 r.2.1,r.2.2)
/-- nineteen, and nothing that the kernel counts out -/
def K19 (n : Nat) : Nat:=19 + 0 * n
theorem K19_eq (n : Nat) : K19 n = 19:=by unfold K19;omega
def FitC (n d : Nat) : Nat:=(fin (fitK n d (K19 n))).1
def FitS (n d : Nat) : Nat:=(fin (fitK n d (K19 n))).2.1
def FitE (n d : Nat) : Int:=(fin (fitK n d (K19 n))).2.2
theorem fitK_yes {n d s : Nat} (h : near (n * 10 ^ s) d < B34) : fitK n d (s + 1) = (near (n * 10 ^ s) d,s,0):=by rw [fitK,if_pos h]
theorem fitK_no {n d s : Nat} (h : ¬ near (n * 10 ^ s) d < B34) : fitK n d (s + 1) = fitK n d s:=by rw [fitK,if_neg h]
theorem fitK_up (n t j : Nat) : fin (fitK n (10 ^ t) (t + j + 1)) = fin (fitK n (10 ^ t) (t + 1)):=by
 induction j with
 | zero => rfl
 | succ j ih =>
  have e:=near_high n t (j + 1)
  have e0:=near_high n t 0
  rw [Nat.pow_zero,Nat.mul_one,Nat.add_zero] at e0
  by_cases h : near (n * 10 ^ (t + (j + 1))) (10 ^ t) < B34
  ·have h0 : near (n * 10 ^ t) (10 ^ t) < B34:=by
    rw [e0];rw [e] at h
    exact Nat.lt_of_le_of_lt (Nat.le_mul_of_pos_right _ (Nat.pow_pos (by decide))) h
   rw [fitK_yes h,fitK_yes h0,e,e0]
   have hs:=strip_pow n t (j + 1)
   unfold fin
   simp only [hs.1,hs.2]
  ·rw [fitK_no h];exact ih
theorem fit_top (n t : Nat) (h : t ≤ 18) : fin (fitK n (10 ^ t) (K19 n)) = fin (fitK n (10 ^ t) (t + 1)):=by
 have e:=fitK_up n t (18 - t)
 rwa [show t + (18 - t) + 1 = K19 n by rw [K19_eq];omega] at e
theorem fitK_scale (n d k : Nat) (hk : 0 < k) (s : Nat) : fitK (n * k) (d * k) s = fitK n d s:=by
 induction s with
 | zero => rfl
 | succ s ih =>
  have e : near (n * k * 10 ^ s) (d * k) = near (n * 10 ^ s) d:=by
   rw [Nat.mul_right_comm];exact near_scale _ _ _ hk
  rw [fitK,fitK,e,ih]
theorem fit_scale (n d k : Nat) (hk : 0 < k) : FitC (n * k) (d * k) = FitC n d ∧ FitS (n * k) (d * k) = FitS n d ∧ FitE (n * k) (d * k) = FitE n d:=by
 unfold FitC FitS FitE
 rw [fitK_scale n d k hk,show K19 (n * k) = K19 n by rw [K19_eq,K19_eq]]
 exact ⟨rfl,rfl,rfl⟩
theorem fitK_lt (n d k : Nat) : (fitK n d k).1 < B34 ∧ ((fitK n d k).2.1 < k ∨ (fitK n d k).2.1 = 0) ∧ ((fitK n d k).2.2 = 0 ∨ ((fitK n d k).2.2 = 3 ∧ (fitK n d k).1 = 0)):=by
 induction k with
 | zero => exact ⟨B34_pos,.inr rfl,.inr ⟨rfl,rfl⟩⟩
 | succ s ih =>
  by_cases h : near (n * 10 ^ s) d < B34
  ·rw [fitK_yes h];exact ⟨h,.inl (Nat.lt_succ_self _),.inl rfl⟩
  ·rw [fitK_no h];exact ⟨ih.1,by omega,ih.2.2⟩
theorem fit_form (neg : Bool) (n d : Nat) : DForm (sg neg (FitC n d)) (FitC n d) (FitS n d):=by
 obtain ⟨h1,h2,_⟩:=fitK_lt n d (K19 n)
 have h19:=K19_eq n
 refine ⟨Nat.lt_of_le_of_lt (stripC_le _ _) h1,Nat.le_trans (strip_val _ _).2 (by omega), ?_,strip_end _ _⟩
 intro h0
 refine ⟨by rw [h0];exact sg_zero neg, ?_⟩
 have hz : (fitK n d (K19 n)).1 = 0:=stripC_zero.1 h0
 show stripS (fitK n d (K19 n)).1 _ = 0
 rw [hz];exact (strip_nil _).2
theorem fit_err (n d : Nat) : FitE n d = 0 ∨ (FitE n d = 3 ∧ FitC n d = 0 ∧ FitS n d = 0):=by
 obtain ⟨h1,h2,h3⟩:=fitK_lt n d (K19 n)
 rcases h3 with h3 | ⟨h3,h4⟩
 ·exact .inl h3
 ·refine .inr ⟨h3, ?_, ?_⟩
  ·show stripC (fitK n d (K19 n)).1 _ = 0;rw [h4];exact (strip_nil _).1
  ·show stripS (fitK n d (K19 n)).1 _ = 0;rw [h4];exact (strip_nil _).2
end Go.Proofs.YtkjecoanlppeaaaGreatDoor



namespace Go.Proofs.YtkjecoanlppeaaaGreatDoor
open Go.RowKit

/-- one step of the product: a product of words, a word that is there, a carry -/
theorem mul_step (x y o c : Int) (hx0 : 0 ≤ x) (hx : x < 18446744073709551616) (hy0 : 0 ≤ y) (hy : y < 18446744073709551616) (ho0 : 0 ≤ o) (ho : o < 18446744073709551616) (hc0 : 0 ≤ c) (hc : c < 18446744073709551616) :
  ∃ h l s k t j : Int,Hid (∀ w : World,Calls Tryz.prog 119 #[.int .u64 x,.int .u64 y] w fun e w' => e = .returned (.tuple #[.int .u64 h,.int .u64 l]) ∧ ∃ nn,w' = w.drewN nn) ∧
   (∀ W : World,(callFunc 120 #[.int .u64 l,.int .u64 o,.int .u64 0]).run Tryz.prog W = .ok (.value (.tuple #[.int .u64 s,.int .u64 k])) W) ∧
   (∀ W : World,(callFunc 120 #[.int .u64 s,.int .u64 c,.int .u64 0]).run Tryz.prog W = .ok (.value (.tuple #[.int .u64 t,.int .u64 j])) W) ∧
   Hid (t + 18446744073709551616 * (h + k + j) = x * y + o + c) ∧ 0 ≤ h ∧ h + k < 18446744073709551616 ∧ 0 ≤ k ∧ 0 ≤ j ∧ 0 ≤ t ∧ t < 18446744073709551616 ∧ h + k + j < 18446744073709551616:=by
 obtain ⟨h,l,f,H⟩:=mul64_ex x y hx0 hx hy0 hy
 unfold Two at H
 obtain ⟨s,k,g,K⟩:=add64_ex l o 0 (by omega) (by omega) ho0 ho (by decide) (by decide)
 unfold Carry at K
 obtain ⟨t,j,e,J⟩:=add64_ex s c 0 (by omega) (by omega) hc0 hc (by decide) (by decide)
 unfold Carry at J
 have hm : x * y ≤ 18446744073709551615 * 18446744073709551615:=Int.mul_le_mul (by omega) (by omega) hy0 (by decide)
 have hn : 0 ≤ x * y:=Int.mul_nonneg hx0 hy0
 generalize x * y = p at *
 exact ⟨h,l,s,k,t,j,f,g,e,by show t + 18446744073709551616 * (h + k + j) = p + o + c;omega,by omega,by omega,by omega,by omega,by omega,by omega,by omega⟩

theorem two_at (n t : Nat) (h : t < 2) : [Value.int .u64 (wd n 0),.int .u64 (wd n 1)][t]? = some (.int .u64 (wd n t)):=by
 have hc : t = 0 ∨ t = 1:=by omega
 rcases hc with rfl | rfl <;> rfl
theorem mul_low {n m t : Nat} (hm : m < 2 ^ 128) : n % 2 ^ (64 * t) * m < 2 ^ (64 * (t + 2)):=by
 rw [show 64 * (t + 2) = 64 * t + 128 by omega,Nat.pow_add]
 have h1 : n % 2 ^ (64 * t) < 2 ^ (64 * t):=Nat.mod_lt _ (Nat.two_pow_pos _)
 exact Nat.mul_lt_mul'' h1 hm
theorem mul_inv {V V' O t s : Nat} {cc X Y Z h k1 k3 s3 M M' : Int}
  (i1 : (V : Int) + cc * ((2 ^ (64 * (t + s)) : Nat) : Int) = O + X * M * ((2 ^ (64 * t) : Nat) : Int))
  (i2 : (V' : Int) = V + (s3 - Z) * ((2 ^ (64 * (t + s)) : Nat) : Int))
  (i3 : s3 + 18446744073709551616 * (h + k1 + k3) = X * Y + Z + cc)
  (i4 : M' = M + Y * ((2 ^ (64 * s) : Nat) : Int)) :
  (V' : Int) + (h + k1 + k3) * ((2 ^ (64 * (t + (s + 1))) : Nat) : Int) = O + X * M' * ((2 ^ (64 * t) : Nat) : Int):=by
 have e1 : ((2 ^ (64 * (t + (s + 1))) : Nat) : Int) = ((2 ^ (64 * (t + s)) : Nat) : Int) * 18446744073709551616:=by
  rw [show 64 * (t + (s + 1)) = 64 * (t + s) + 64 by omega,Nat.pow_add,Int.natCast_mul];rfl
 have e2 : ((2 ^ (64 * (t + s)) : Nat) : Int) = ((2 ^ (64 * t) : Nat) : Int) * ((2 ^ (64 * s) : Nat) : Int):=by
  rw [show 64 * (t + s) = 64 * t + 64 * s by omega,Nat.pow_add,Int.natCast_mul]
 rw [e1,i2,i4]
 rw [e2] at i1 ⊢
 generalize ((2 ^ (64 * t) : Nat) : Int) = P at *
 generalize ((2 ^ (64 * s) : Nat) : Int) = Q at *
 grind
theorem mul_end {n m t V V' O : Nat} {cc : Int} (hm : m < 2 ^ 128) (eO : O = n % 2 ^ (64 * t) * m)
  (i1 : (V : Int) + cc * ((2 ^ (64 * (t + 2)) : Nat) : Int) = O + wd n t * ((m % 2 ^ (64 * 2) : Nat) : Int) * ((2 ^ (64 * t) : Nat) : Int))
  (i2 : (V' : Int) = V + (cc - wd V (t + 2)) * ((2 ^ (64 * (t + 2)) : Nat) : Int)) (i3 : wd V (t + 2) = 0) : n % 2 ^ (64 * (t + 1)) * m = V':=by
 rw [i3,Int.sub_zero,i1,Nat.mod_eq_of_lt hm,eO] at i2
 have e:=wd_mod_succ n t
 have : ((n % 2 ^ (64 * (t + 1)) * m : Nat) : Int) = (V' : Int):=by
  rw [i2,Int.natCast_mul,e,Int.natCast_mul]
  generalize ((2 ^ (64 * t) : Nat) : Int) = P
  generalize ((n % 2 ^ (64 * t) : Nat) : Int) = Q
  grind
 exact_mod_cast this
set_option maxHeartbeats 4000000 in
theorem mul_any (n m : Nat) (hn : n < 2 ^ 128) (hm : m < 2 ^ 128) (w : World) : Calls Tryz.prog 162 #[.agg #[.int .u64 (wd n 1),.int .u64 (wd n 0)],.agg #[.int .u64 (wd m 1),.int .u64 (wd m 0)]] w fun e w' => e = .returned (.agg #[.int .u64 (wd (n * m) 0),.int .u64 (wd (n * m) 1),.int .u64 (wd (n * m) 2),.int .u64 (wd (n * m) 3)]) ∧ Below w.heap.size w w':=by
 have HN:=Far.mk hn
 have HM:=Far.mk hm
 have a0:=wd_nn n 0
 have a1:=wd_lt n 0
 have b0:=wd_nn n 1
 have b1:=wd_lt n 1
 have c0:=wd_nn m 0
 have c1:=wd_lt m 0
 have d0:=wd_nn m 1
 have d1:=wd_lt m 1
 clear hn hm
 go_enter Tryz.func162,Tryz.ntmps162
 go_wp2_with fail
 go_region_held3 (fun w' => w'.cell? ⟨w.heap.size,0,none⟩ = some (.int .u64 (wd n 1)) ∧ w'.cell? ⟨w.heap.size,1,none⟩ = some (.int .u64 (wd n 0)) ∧ w'.cell? ⟨w.heap.size + 1,0,none⟩ = some (.int .u64 (wd m 1)) ∧ w'.cell? ⟨w.heap.size + 1,1,none⟩ = some (.int .u64 (wd m 0))) (first | (go_keep;done) | (simp [go_sem];done) | ((try dsimp only);(repeat' apply And.intro) <;> (first | (with_reducible assumption) | ((rw [World.cell?_alloc_lt _ _ _ (by show _ < _;omega)]);go_split_ands;(first | with_reducible assumption | (refine (World.cell?_alloc_lt _ _ _ (by show _ < _;omega)).symm.trans ?_;with_reducible assumption))) | ((rw [World.cell?_setCell_other _ _ _ _ (by intro e;injection e;omega)]);with_reducible assumption) | (go_keep;done) | (simp [go_sem];done) | (simp (disch:=go_size) [*,World.cell?_alloc_some,World.cell?_setCell_far];done)))) (fail)
 ·go_wp2_with fail
  clear a0 a1 b0 b1 c0 c1 d0 d1
  go_loopg [24] 2 (fun k i wr => ∃ t : Nat,k + t = 2 ∧ i = .int .i64 t ∧ Bk wr (w.heap.size + 1 + 1 + 1) 82 (lcells (n % 2 ^ (64 * t) * m)) ∧ Bk wr (w.heap.size + 1 + 1 + 1 + 1) 185 [.int .u64 (wd n 0),.int .u64 (wd n 1)] ∧ Bk wr (w.heap.size + 1 + 1 + 1 + 1 + 1) 185 [.int .u64 (wd m 0),.int .u64 (wd m 1)] ∧
   Bk wr (w.heap.size + 1 + 1) 82 [.int .u64 0,.int .u64 0,.int .u64 0,.int .u64 0] ∧ w.heap.size + 6 ≤ wr.heap.size ∧ Below w.heap.size w wr)
  case atStart =>
   refine ⟨0,rfl,rfl, ?_,by (repeat (first|(with_reducible assumption)|((with_reducible refine bkW ?_);(first|rfl|(simp only [wsA,wsS,wsD,wsN];done)))|(with_reducible first|refine bkA ?_ _|refine bkD ?_|refine bkN ?_ _)|((with_reducible refine bkF ?_ ?_ _);focus (simp only [];omega))|((with_reducible refine bkB (by assumption) ?_ ?_);focus (go_size;done)))),by (repeat (first|(with_reducible assumption)|((with_reducible refine bkW ?_);(first|rfl|(simp only [wsA,wsS,wsD,wsN];done)))|(with_reducible first|refine bkA ?_ _|refine bkD ?_|refine bkN ?_ _)|((with_reducible refine bkF ?_ ?_ _);focus (simp only [];omega))|((with_reducible refine bkB (by assumption) ?_ ?_);focus (go_size;done)))),by (repeat (first|(with_reducible assumption)|((with_reducible refine bkW ?_);(first|rfl|(simp only [wsA,wsS,wsD,wsN];done)))|(with_reducible first|refine bkA ?_ _|refine bkD ?_|refine bkN ?_ _)|((with_reducible refine bkF ?_ ?_ _);focus (simp only [];omega))|((with_reducible refine bkB (by assumption) ?_ ?_);focus (go_size;done)))),by go_size,by (repeat' first|(with_reducible first|exact blR _ _|assumption|refine blD ?_|refine blN ?_ _)|((with_reducible first|refine blA ?_ ?_ _|refine blS ?_ ?_ _|refine blT (by assumption) ?_ ?_);focus (go_size;done)))⟩
   rw [Nat.mul_zero,Nat.pow_zero,Nat.mod_one,Nat.zero_mul]
   show Bk _ _ _ [.int .u64 0,.int .u64 0,.int .u64 0,.int .u64 0]
   (repeat (first|(with_reducible assumption)|((with_reducible refine bkW ?_);(first|rfl|(simp only [wsA,wsS,wsD,wsN];done)))|(with_reducible first|refine bkA ?_ _|refine bkD ?_|refine bkN ?_ _)|((with_reducible refine bkF ?_ ?_ _);focus (simp only [];omega))|((with_reducible refine bkB (by assumption) ?_ ?_);focus (go_size;done))))
  case round =>
   obtain ⟨t,hk,rfl,bo,bx,by_,b4,hsz,hbel⟩:=hrel
   have HK:=Lib.hid hk
   have BO:=Lib.hid bo
   have BX:=Lib.hid bx
   have BY:=Lib.hid by_
   have B4:=Lib.hid b4
   have t2 : t ≤ 2:=by omega
   clear hk bo bx by_ b4
   (try have : w.heap.size < wr.heap.size:=by omega);(try have : w.heap.size + 1 < wr.heap.size:=by omega);(try have : w.heap.size + 1 + 1 < wr.heap.size:=by omega);(try have : w.heap.size + 1 + 1 + 1 < wr.heap.size:=by omega)
   by_cases hlt : t < 2
   ·go_wp2_with fail
    obtain ⟨wo,hwo⟩ : ∃ wo : World,wo = wr:=⟨_,rfl⟩
    clear hwo
    obtain ⟨go,hgo⟩ : ∃ go : Nat,go = gk:=⟨_,rfl⟩
    rw [← hgo] at HK
    have HGO:=Lib.hid hgo
    clear hgo
    have hO : n % 2 ^ (64 * t) * m < 2 ^ (64 * (t + 2)):=mul_low HM.out
    have hO2 : n % 2 ^ (64 * t) * m < 2 ^ 256:=Nat.lt_of_lt_of_le hO (Nat.pow_le_pow_right (by decide) (by omega))
    obtain ⟨O,eO⟩ : ∃ O,O = n % 2 ^ (64 * t) * m:=⟨_,rfl⟩
    rw [← eO] at hO hO2 BO
    have EO:=Far.mk eO
    have H1:=Far.mk hO
    have H2:=Far.mk hO2
    clear eO hO hO2
    go_loopg [9,27] 2 (fun k c j wr => ∃ (s : Nat) (cc : Int) (V : Nat),k + s = 2 ∧ j = .int .i64 s ∧ c = .int .u64 cc ∧ 0 ≤ cc ∧ cc < 18446744073709551616 ∧ V < 2 ^ 256 ∧
     (V : Int) + cc * ((2 ^ (64 * (t + s)) : Nat) : Int) = O + wd n t * ((m % 2 ^ (64 * s) : Nat) : Int) * ((2 ^ (64 * t) : Nat) : Int) ∧ (∀ j,t + 2 ≤ j → j < 4 → wd V j = 0) ∧
     Bk wr (w.heap.size + 1 + 1 + 1) 82 (lcells V) ∧ Bk wr (w.heap.size + 1 + 1 + 1 + 1) 185 [.int .u64 (wd n 0),.int .u64 (wd n 1)] ∧ Bk wr (w.heap.size + 1 + 1 + 1 + 1 + 1) 185 [.int .u64 (wd m 0),.int .u64 (wd m 1)] ∧
     Bk wr (w.heap.size + 1 + 1) 82 [.int .u64 0,.int .u64 0,.int .u64 0,.int .u64 0] ∧ w.heap.size + 6 ≤ wr.heap.size ∧ Below w.heap.size w wr)
    case atStart =>
     refine ⟨0,0,O,rfl,rfl,rfl,by omega,by omega,H2.out, ?_, ?_,BO.out,BX.out,BY.out,B4.out,hsz,hbel⟩
     ·rw [Nat.mul_zero,Nat.pow_zero,Nat.mod_one,Int.zero_mul,Int.natCast_zero,Int.mul_zero,Int.zero_mul]
     ·intro j hj _
      exact wd_past H1.out hj
    case round =>
     obtain ⟨s,cc,V,hk,rfl,rfl,hc0,hc1,hV,heq,hz,bo,bx,by_,b4,hsz,hbel⟩:=hrel
     have HK2:=Lib.hid hk
     have HV:=Far.mk hV
     have HE:=Far.mk heq
     have HZ:=Lib.hid hz
     have BO:=Lib.hid bo
     have BX:=Lib.hid bx
     have BY:=Lib.hid by_
     have B4:=Lib.hid b4
     have s2 : s ≤ 2:=by omega
     clear hk hV heq hz bo bx by_ b4
     (try have : w.heap.size < wr.heap.size:=by omega);(try have : w.heap.size + 1 < wr.heap.size:=by omega);(try have : w.heap.size + 1 + 1 < wr.heap.size:=by omega);(try have : w.heap.size + 1 + 1 + 1 < wr.heap.size:=by omega)
     by_cases hls : s < 2
     ·have cx : wr.cell? ⟨(w.heap.size + 1 + 1 + 1 + 1),t,none⟩ = some (.int .u64 (wd n t)):=BX.out.cell t (two_at n t hlt)
      have cy : wr.cell? ⟨(w.heap.size + 1 + 1 + 1 + 1 + 1),s,none⟩ = some (.int .u64 (wd m s)):=BY.out.cell s (two_at m s hls)
      have co : wr.cell? ⟨w.heap.size + 1 + 1 + 1,t + s,none⟩ = some (.int .u64 (wd V (t + s))):=BO.out.cell _ (lcells_at V _ (by omega))
      have fo:=BO.out.frozen (t + s)
      obtain ⟨h,l,s1,k1,s3,k3,f,g,e,HS,p1,p2,p3,p4,p5,p6,p7⟩:=mul_step (wd n t) (wd m s) (wd V (t + s)) cc (wd_nn n t) (wd_lt n t) (wd_nn m s) (wd_lt m s) (wd_nn V _) (wd_lt V _) hc0 hc1
      obtain ⟨V',v1,v2,v3,v4,v5⟩:=lcells_set V (t + s) (by omega) HV.out s3 p5 p6
      have L1:=Far.mk v1
      have L2:=Far.mk v2
      have L3:=Lib.hid v3
      have L4:=Lib.hid v4
      clear v1 v2 v3 v4 v5
      obtain ⟨X,hX⟩ : ∃ X,X = wd n t:=⟨_,rfl⟩
      obtain ⟨Y,hY⟩ : ∃ Y,Y = wd m s:=⟨_,rfl⟩
      obtain ⟨Z,hZ⟩ : ∃ Z,Z = wd V (t + s):=⟨_,rfl⟩
      rw [← hX] at cx f HS HE
      rw [← hY] at cy f HS
      rw [← hZ] at co g HS L2
      have EX:=Lib.hid hX
      have EY:=Lib.hid hY
      clear hX hY hZ
      go_wp2_with fail
      go_quiet ((go_at_call 119;(first | exact Calls.quiet_of (f.out _) | exact quiet_add (f.out _))))
      go_wp2_with fail
      go_roundg (gk - 1)
      case measure => have:=HK2.out;omega
      case rel =>
       have bx:=BX.out
       have by_:=BY.out
       have b4:=B4.out
       refine ⟨s + 1,h + k1 + k3,V',by have:=HK2.out;omega,by go_num,rfl,by omega,p7,L1.out, ?_, ?_, ?_,by (repeat (first|(with_reducible assumption)|((with_reducible refine bkW ?_);(first|rfl|(simp only [wsA,wsS,wsD,wsN];done)))|(with_reducible first|refine bkA ?_ _|refine bkD ?_|refine bkN ?_ _)|((with_reducible refine bkF ?_ ?_ _);focus (simp only [];omega))|((with_reducible refine bkB (by assumption) ?_ ?_);focus (go_size;done)))),by (repeat (first|(with_reducible assumption)|((with_reducible refine bkW ?_);(first|rfl|(simp only [wsA,wsS,wsD,wsN];done)))|(with_reducible first|refine bkA ?_ _|refine bkD ?_|refine bkN ?_ _)|((with_reducible refine bkF ?_ ?_ _);focus (simp only [];omega))|((with_reducible refine bkB (by assumption) ?_ ?_);focus (go_size;done)))),by (repeat (first|(with_reducible assumption)|((with_reducible refine bkW ?_);(first|rfl|(simp only [wsA,wsS,wsD,wsN];done)))|(with_reducible first|refine bkA ?_ _|refine bkD ?_|refine bkN ?_ _)|((with_reducible refine bkF ?_ ?_ _);focus (simp only [];omega))|((with_reducible refine bkB (by assumption) ?_ ?_);focus (go_size;done)))),by go_size,by (repeat' first|(with_reducible first|exact blR _ _|assumption|refine blD ?_|refine blN ?_ _)|((with_reducible first|refine blA ?_ ?_ _|refine blS ?_ ?_ _|refine blT (by assumption) ?_ ?_);focus (go_size;done)))⟩
       ·have i1:=HE.out
        have i2:=L2.out
        have i3:=HS.out
        have i4:=wd_mod_succ m s
        rw [← EY.out] at i4
        rw [← EX.out]
        exact mul_inv i1 i2 i3 i4
       ·intro j hj h4
        rw [L4.out j h4 (by omega)]
        exact HZ.out j hj h4
       ·rw [← L3.out]
        exact (BO.out.drewN _).set_ _ _
     ·obtain rfl : s = 2:=by omega
      have co : wr.cell? ⟨w.heap.size + 1 + 1 + 1,t + 2,none⟩ = some (.int .u64 (wd V (t + 2))):=BO.out.cell _ (lcells_at V _ (by omega))
      have fo:=BO.out.frozen (t + 2)
      obtain ⟨V',v1,v2,v3,v4,v5⟩:=lcells_set V (t + 2) (by omega) HV.out cc hc0 hc1
      have L2:=Far.mk v2
      have L3:=Lib.hid v3
      clear v1 v2 v3 v4 v5
      go_wp2_with fail
      go_roundg (go - 1)
      case measure => have:=HK.out;have:=HGO.out;omega
      case rel =>
       have bx:=BX.out
       have by_:=BY.out
       have b4:=B4.out
       refine ⟨t + 1,by have:=HK.out;omega,by go_num, ?_,by (repeat (first|(with_reducible assumption)|((with_reducible refine bkW ?_);(first|rfl|(simp only [wsA,wsS,wsD,wsN];done)))|(with_reducible first|refine bkA ?_ _|refine bkD ?_|refine bkN ?_ _)|((with_reducible refine bkF ?_ ?_ _);focus (simp only [];omega))|((with_reducible refine bkB (by assumption) ?_ ?_);focus (go_size;done)))),by (repeat (first|(with_reducible assumption)|((with_reducible refine bkW ?_);(first|rfl|(simp only [wsA,wsS,wsD,wsN];done)))|(with_reducible first|refine bkA ?_ _|refine bkD ?_|refine bkN ?_ _)|((with_reducible refine bkF ?_ ?_ _);focus (simp only [];omega))|((with_reducible refine bkB (by assumption) ?_ ?_);focus (go_size;done)))),by (repeat (first|(with_reducible assumption)|((with_reducible refine bkW ?_);(first|rfl|(simp only [wsA,wsS,wsD,wsN];done)))|(with_reducible first|refine bkA ?_ _|refine bkD ?_|refine bkN ?_ _)|((with_reducible refine bkF ?_ ?_ _);focus (simp only [];omega))|((with_reducible refine bkB (by assumption) ?_ ?_);focus (go_size;done)))),by go_size,by (repeat' first|(with_reducible first|exact blR _ _|assumption|refine blD ?_|refine blN ?_ _)|((with_reducible first|refine blA ?_ ?_ _|refine blS ?_ ?_ _|refine blT (by assumption) ?_ ?_);focus (go_size;done)))⟩
       have i1:=HE.out
       have i2:=L2.out
       have i3:=HZ.out (t + 2) (Nat.le_refl _) (by omega)
       have e : n % 2 ^ (64 * (t + 1)) * m = V':=mul_end HM.out EO.out i1 i2 i3
       rw [e,← L3.out]
       exact BO.out.set_ _ _
   ·obtain rfl : t = 2:=by omega
    have e : n % 2 ^ (64 * 2) * m = n * m:=by rw [Nat.mod_eq_of_lt HN.out]
    rw [e] at BO
    obtain ⟨z,hz⟩ : ∃ z,z = n * m:=⟨_,rfl⟩
    rw [← hz] at BO
    have EZ:=Lib.hid hz
    clear hz
    have bo:=BO.out
    rw [lcells_eq] at bo
    have c0:=bo.cell 0 rfl
    have c1:=bo.cell 1 rfl
    have c2:=bo.cell 2 rfl
    have c3:=bo.cell 3 rfl
    have d0:=B4.out.cell 0 rfl
    have d1:=B4.out.cell 1 rfl
    have d2:=B4.out.cell 2 rfl
    have d3:=B4.out.cell 3 rfl
    have f0:=B4.out.frozen 0
    have f1:=B4.out.frozen 1
    have f2:=B4.out.frozen 2
    have f3:=B4.out.frozen 3
    clear bo e
    go_wp2_with fail
    refine bodyPost_ret (by simp [results,Tryz.results162,go_sem, *];try rfl) rfl ?_
    exact ⟨by rw [EZ.out],by (repeat' first|(with_reducible first|exact blR _ _|assumption|refine blD ?_|refine blN ?_ _)|((with_reducible first|refine blA ?_ ?_ _|refine blS ?_ ?_ _|refine blT (by assumption) ?_ ?_);focus (go_size;done)))⟩
 ·go_wp2_with fail
  clear a0 a1 b0 b1 c0 c1 d0 d1
  go_loopg [24] 2 (fun k i wr => ∃ t : Nat,k + t = 2 ∧ i = .int .i64 t ∧ Bk wr (w.heap.size + 1 + 1 + 1) 82 (lcells (n % 2 ^ (64 * t) * m)) ∧ Bk wr (w.heap.size + 1 + 1 + 1 + 1 + 1) 185 [.int .u64 (wd n 0),.int .u64 (wd n 1)] ∧ Bk wr (w.heap.size + 1 + 1 + 1 + 1) 185 [.int .u64 (wd m 0),.int .u64 (wd m 1)] ∧
   Bk wr (w.heap.size + 1 + 1) 82 [.int .u64 0,.int .u64 0,.int .u64 0,.int .u64 0] ∧ w.heap.size + 6 ≤ wr.heap.size ∧ Below w.heap.size w wr)
  case atStart =>
   refine ⟨0,rfl,rfl, ?_,by (repeat (first|(with_reducible assumption)|((with_reducible refine bkW ?_);(first|rfl|(simp only [wsA,wsS,wsD,wsN];done)))|(with_reducible first|refine bkA ?_ _|refine bkD ?_|refine bkN ?_ _)|((with_reducible refine bkF ?_ ?_ _);focus (simp only [];omega))|((with_reducible refine bkB (by assumption) ?_ ?_);focus (go_size;done)))),by (repeat (first|(with_reducible assumption)|((with_reducible refine bkW ?_);(first|rfl|(simp only [wsA,wsS,wsD,wsN];done)))|(with_reducible first|refine bkA ?_ _|refine bkD ?_|refine bkN ?_ _)|((with_reducible refine bkF ?_ ?_ _);focus (simp only [];omega))|((with_reducible refine bkB (by assumption) ?_ ?_);focus (go_size;done)))),by (repeat (first|(with_reducible assumption)|((with_reducible refine bkW ?_);(first|rfl|(simp only [wsA,wsS,wsD,wsN];done)))|(with_reducible first|refine bkA ?_ _|refine bkD ?_|refine bkN ?_ _)|((with_reducible refine bkF ?_ ?_ _);focus (simp only [];omega))|((with_reducible refine bkB (by assumption) ?_ ?_);focus (go_size;done)))),by go_size,by (repeat' first|(with_reducible first|exact blR _ _|assumption|refine blD ?_|refine blN ?_ _)|((with_reducible first|refine blA ?_ ?_ _|refine blS ?_ ?_ _|refine blT (by assumption) ?_ ?_);focus (go_size;done)))⟩
   rw [Nat.mul_zero,Nat.pow_zero,Nat.mod_one,Nat.zero_mul]
   show Bk _ _ _ [.int .u64 0,.int .u64 0,.int .u64 0,.int .u64 0]
   (repeat (first|(with_reducible assumption)|((with_reducible refine bkW ?_);(first|rfl|(simp only [wsA,wsS,wsD,wsN];done)))|(with_reducible first|refine bkA ?_ _|refine bkD ?_|refine bkN ?_ _)|((with_reducible refine bkF ?_ ?_ _);focus (simp only [];omega))|((with_reducible refine bkB (by assumption) ?_ ?_);focus (go_size;done))))
  case round =>
   obtain ⟨t,hk,rfl,bo,bx,by_,b4,hsz,hbel⟩:=hrel
   have HK:=Lib.hid hk
   have BO:=Lib.hid bo
   have BX:=Lib.hid bx
   have BY:=Lib.hid by_
   have B4:=Lib.hid b4
   have t2 : t ≤ 2:=by omega
   clear hk bo bx by_ b4
   (try have : w.heap.size < wr.heap.size:=by omega);(try have : w.heap.size + 1 < wr.heap.size:=by omega);(try have : w.heap.size + 1 + 1 < wr.heap.size:=by omega);(try have : w.heap.size + 1 + 1 + 1 < wr.heap.size:=by omega)
   by_cases hlt : t < 2
   ·go_wp2_with fail
    obtain ⟨wo,hwo⟩ : ∃ wo : World,wo = wr:=⟨_,rfl⟩
    clear hwo
    obtain ⟨go,hgo⟩ : ∃ go : Nat,go = gk:=⟨_,rfl⟩
    rw [← hgo] at HK
    have HGO:=Lib.hid hgo
    clear hgo
    have hO : n % 2 ^ (64 * t) * m < 2 ^ (64 * (t + 2)):=mul_low HM.out
    have hO2 : n % 2 ^ (64 * t) * m < 2 ^ 256:=Nat.lt_of_lt_of_le hO (Nat.pow_le_pow_right (by decide) (by omega))
    obtain ⟨O,eO⟩ : ∃ O,O = n % 2 ^ (64 * t) * m:=⟨_,rfl⟩
    rw [← eO] at hO hO2 BO
    have EO:=Far.mk eO
    have H1:=Far.mk hO
    have H2:=Far.mk hO2
    clear eO hO hO2
    go_loopg [9,27] 2 (fun k c j wr => ∃ (s : Nat) (cc : Int) (V : Nat),k + s = 2 ∧ j = .int .i64 s ∧ c = .int .u64 cc ∧ 0 ≤ cc ∧ cc < 18446744073709551616 ∧ V < 2 ^ 256 ∧
     (V : Int) + cc * ((2 ^ (64 * (t + s)) : Nat) : Int) = O + wd n t * ((m % 2 ^ (64 * s) : Nat) : Int) * ((2 ^ (64 * t) : Nat) : Int) ∧ (∀ j,t + 2 ≤ j → j < 4 → wd V j = 0) ∧
     Bk wr (w.heap.size + 1 + 1 + 1) 82 (lcells V) ∧ Bk wr (w.heap.size + 1 + 1 + 1 + 1 + 1) 185 [.int .u64 (wd n 0),.int .u64 (wd n 1)] ∧ Bk wr (w.heap.size + 1 + 1 + 1 + 1) 185 [.int .u64 (wd m 0),.int .u64 (wd m 1)] ∧
     Bk wr (w.heap.size + 1 + 1) 82 [.int .u64 0,.int .u64 0,.int .u64 0,.int .u64 0] ∧ w.heap.size + 6 ≤ wr.heap.size ∧ Below w.heap.size w wr)
    case atStart =>
     refine ⟨0,0,O,rfl,rfl,rfl,by omega,by omega,H2.out, ?_, ?_,BO.out,BX.out,BY.out,B4.out,hsz,hbel⟩
     ·rw [Nat.mul_zero,Nat.pow_zero,Nat.mod_one,Int.zero_mul,Int.natCast_zero,Int.mul_zero,Int.zero_mul]
     ·intro j hj _
      exact wd_past H1.out hj
    case round =>
     obtain ⟨s,cc,V,hk,rfl,rfl,hc0,hc1,hV,heq,hz,bo,bx,by_,b4,hsz,hbel⟩:=hrel
     have HK2:=Lib.hid hk
     have HV:=Far.mk hV
     have HE:=Far.mk heq
     have HZ:=Lib.hid hz
     have BO:=Lib.hid bo
     have BX:=Lib.hid bx
     have BY:=Lib.hid by_
     have B4:=Lib.hid b4
     have s2 : s ≤ 2:=by omega
     clear hk hV heq hz bo bx by_ b4
     (try have : w.heap.size < wr.heap.size:=by omega);(try have : w.heap.size + 1 < wr.heap.size:=by omega);(try have : w.heap.size + 1 + 1 < wr.heap.size:=by omega);(try have : w.heap.size + 1 + 1 + 1 < wr.heap.size:=by omega)
     by_cases hls : s < 2
     ·have cx : wr.cell? ⟨(w.heap.size + 1 + 1 + 1 + 1 + 1),t,none⟩ = some (.int .u64 (wd n t)):=BX.out.cell t (two_at n t hlt)
      have cy : wr.cell? ⟨(w.heap.size + 1 + 1 + 1 + 1),s,none⟩ = some (.int .u64 (wd m s)):=BY.out.cell s (two_at m s hls)
      have co : wr.cell? ⟨w.heap.size + 1 + 1 + 1,t + s,none⟩ = some (.int .u64 (wd V (t + s))):=BO.out.cell _ (lcells_at V _ (by omega))
      have fo:=BO.out.frozen (t + s)
      obtain ⟨h,l,s1,k1,s3,k3,f,g,e,HS,p1,p2,p3,p4,p5,p6,p7⟩:=mul_step (wd n t) (wd m s) (wd V (t + s)) cc (wd_nn n t) (wd_lt n t) (wd_nn m s) (wd_lt m s) (wd_nn V _) (wd_lt V _) hc0 hc1
      obtain ⟨V',v1,v2,v3,v4,v5⟩:=lcells_set V (t + s) (by omega) HV.out s3 p5 p6
      have L1:=Far.mk v1
      have L2:=Far.mk v2
      have L3:=Lib.hid v3
      have L4:=Lib.hid v4
      clear v1 v2 v3 v4 v5
      obtain ⟨X,hX⟩ : ∃ X,X = wd n t:=⟨_,rfl⟩
      obtain ⟨Y,hY⟩ : ∃ Y,Y = wd m s:=⟨_,rfl⟩
      obtain ⟨Z,hZ⟩ : ∃ Z,Z = wd V (t + s):=⟨_,rfl⟩
      rw [← hX] at cx f HS HE
      rw [← hY] at cy f HS
      rw [← hZ] at co g HS L2
      have EX:=Lib.hid hX
      have EY:=Lib.hid hY
      clear hX hY hZ
      go_wp2_with fail
      go_quiet ((go_at_call 119;(first | exact Calls.quiet_of (f.out _) | exact quiet_add (f.out _))))
      go_wp2_with fail
      go_roundg (gk - 1)
      case measure => have:=HK2.out;omega
      case rel =>
       have bx:=BX.out
       have by_:=BY.out
       have b4:=B4.out
       refine ⟨s + 1,h + k1 + k3,V',by have:=HK2.out;omega,by go_num,rfl,by omega,p7,L1.out, ?_, ?_, ?_,by (repeat (first|(with_reducible assumption)|((with_reducible refine bkW ?_);(first|rfl|(simp only [wsA,wsS,wsD,wsN];done)))|(with_reducible first|refine bkA ?_ _|refine bkD ?_|refine bkN ?_ _)|((with_reducible refine bkF ?_ ?_ _);focus (simp only [];omega))|((with_reducible refine bkB (by assumption) ?_ ?_);focus (go_size;done)))),by (repeat (first|(with_reducible assumption)|((with_reducible refine bkW ?_);(first|rfl|(simp only [wsA,wsS,wsD,wsN];done)))|(with_reducible first|refine bkA ?_ _|refine bkD ?_|refine bkN ?_ _)|((with_reducible refine bkF ?_ ?_ _);focus (simp only [];omega))|((with_reducible refine bkB (by assumption) ?_ ?_);focus (go_size;done)))),by (repeat (first|(with_reducible assumption)|((with_reducible refine bkW ?_);(first|rfl|(simp only [wsA,wsS,wsD,wsN];done)))|(with_reducible first|refine bkA ?_ _|refine bkD ?_|refine bkN ?_ _)|((with_reducible refine bkF ?_ ?_ _);focus (simp only [];omega))|((with_reducible refine bkB (by assumption) ?_ ?_);focus (go_size;done)))),by go_size,by (repeat' first|(with_reducible first|exact blR _ _|assumption|refine blD ?_|refine blN ?_ _)|((with_reducible first|refine blA ?_ ?_ _|refine blS ?_ ?_ _|refine blT (by assumption) ?_ ?_);focus (go_size;done)))⟩
       ·have i1:=HE.out
        have i2:=L2.out
        have i3:=HS.out
        have i4:=wd_mod_succ m s
        rw [← EY.out] at i4
        rw [← EX.out]
        exact mul_inv i1 i2 i3 i4
       ·intro j hj h4
        rw [L4.out j h4 (by omega)]
        exact HZ.out j hj h4
       ·rw [← L3.out]
        exact (BO.out.drewN _).set_ _ _
     ·obtain rfl : s = 2:=by omega
      have co : wr.cell? ⟨w.heap.size + 1 + 1 + 1,t + 2,none⟩ = some (.int .u64 (wd V (t + 2))):=BO.out.cell _ (lcells_at V _ (by omega))
      have fo:=BO.out.frozen (t + 2)
      obtain ⟨V',v1,v2,v3,v4,v5⟩:=lcells_set V (t + 2) (by omega) HV.out cc hc0 hc1
      have L2:=Far.mk v2
      have L3:=Lib.hid v3
      clear v1 v2 v3 v4 v5
      go_wp2_with fail
      go_roundg (go - 1)
      case measure => have:=HK.out;have:=HGO.out;omega
      case rel =>
       have bx:=BX.out
       have by_:=BY.out
       have b4:=B4.out
       refine ⟨t + 1,by have:=HK.out;omega,by go_num, ?_,by (repeat (first|(with_reducible assumption)|((with_reducible refine bkW ?_);(first|rfl|(simp only [wsA,wsS,wsD,wsN];done)))|(with_reducible first|refine bkA ?_ _|refine bkD ?_|refine bkN ?_ _)|((with_reducible refine bkF ?_ ?_ _);focus (simp only [];omega))|((with_reducible refine bkB (by assumption) ?_ ?_);focus (go_size;done)))),by (repeat (first|(with_reducible assumption)|((with_reducible refine bkW ?_);(first|rfl|(simp only [wsA,wsS,wsD,wsN];done)))|(with_reducible first|refine bkA ?_ _|refine bkD ?_|refine bkN ?_ _)|((with_reducible refine bkF ?_ ?_ _);focus (simp only [];omega))|((with_reducible refine bkB (by assumption) ?_ ?_);focus (go_size;done)))),by (repeat (first|(with_reducible assumption)|((with_reducible refine bkW ?_);(first|rfl|(simp only [wsA,wsS,wsD,wsN];done)))|(with_reducible first|refine bkA ?_ _|refine bkD ?_|refine bkN ?_ _)|((with_reducible refine bkF ?_ ?_ _);focus (simp only [];omega))|((with_reducible refine bkB (by assumption) ?_ ?_);focus (go_size;done)))),by go_size,by (repeat' first|(with_reducible first|exact blR _ _|assumption|refine blD ?_|refine blN ?_ _)|((with_reducible first|refine blA ?_ ?_ _|refine blS ?_ ?_ _|refine blT (by assumption) ?_ ?_);focus (go_size;done)))⟩
       have i1:=HE.out
       have i2:=L2.out
       have i3:=HZ.out (t + 2) (Nat.le_refl _) (by omega)
       have e : n % 2 ^ (64 * (t + 1)) * m = V':=mul_end HM.out EO.out i1 i2 i3
       rw [e,← L3.out]
       exact BO.out.set_ _ _
   ·obtain rfl : t = 2:=by omega
    have e : n % 2 ^ (64 * 2) * m = n * m:=by rw [Nat.mod_eq_of_lt HN.out]
    rw [e] at BO
    obtain ⟨z,hz⟩ : ∃ z,z = n * m:=⟨_,rfl⟩
    rw [← hz] at BO
    have EZ:=Lib.hid hz
    clear hz
    have bo:=BO.out
    rw [lcells_eq] at bo
    have c0:=bo.cell 0 rfl
    have c1:=bo.cell 1 rfl
    have c2:=bo.cell 2 rfl
    have c3:=bo.cell 3 rfl
    have d0:=B4.out.cell 0 rfl
    have d1:=B4.out.cell 1 rfl
    have d2:=B4.out.cell 2 rfl
    have d3:=B4.out.cell 3 rfl
    have f0:=B4.out.frozen 0
    have f1:=B4.out.frozen 1
    have f2:=B4.out.frozen 2
    have f3:=B4.out.frozen 3
    clear bo e
    go_wp2_with fail
    refine bodyPost_ret (by simp [results,Tryz.results162,go_sem, *];try rfl) rfl ?_
    exact ⟨by rw [EZ.out],by (repeat' first|(with_reducible first|exact blR _ _|assumption|refine blD ?_|refine blN ?_ _)|((with_reducible first|refine blA ?_ ?_ _|refine blS ?_ ?_ _|refine blT (by assumption) ?_ ?_);focus (go_size;done)))⟩
end Go.Proofs.YtkjecoanlppeaaaGreatDoor



namespace Go.Proofs.YtkjecoanlppeaaaGreatDoor
open Go.RowKit

theorem ten_38 {k : Nat} (h : k ≤ 38) : 10 ^ k < 2 ^ 128:=Nat.lt_of_le_of_lt (Nat.pow_le_pow_right (by decide) h) (by decide)
theorem mul_ten (X : Nat) (hX : X < 2 ^ 128) (W : World) : Calls Tryz.prog 162 #[.agg #[.int .u64 (wd X 1),.int .u64 (wd X 0)],.agg #[.int .u64 0,.int .u64 10]] W fun e w' => e = .returned (.agg #[.int .u64 (wd (X * 10) 0),.int .u64 (wd (X * 10) 1),.int .u64 (wd (X * 10) 2),.int .u64 (wd (X * 10) 3)]) ∧ Below W.heap.size W w':=by
 have h:=mul_any X 10 hX (by decide) W
 have b0 : wd 10 0 = 10:=by rw [wd0];rfl
 have b1 : wd 10 1 = 0:=by rw [wd1];rfl
 rw [b0,b1] at h
 exact h
theorem fit_id {X : Nat} (h : X < 2 ^ 128) : fitW X = X:=by unfold fitW;rw [if_pos h]
theorem over_id {X : Nat} (h : X < 2 ^ 128) : over X = 0:=by unfold over;rw [if_pos h]
set_option maxHeartbeats 4000000 in
theorem ten_any (k : Nat) (hk : k ≤ 38) (w : World) : Calls Tryz.prog 158 #[.int .i64 k] w fun e w' => e = .returned (.tuple #[.agg #[.int .u64 (wd (10 ^ k) 1),.int .u64 (wd (10 ^ k) 0)],.int .i64 0]) ∧ Below w.heap.size w w':=by
 have k0 : (0 : Int) ≤ (k : Int):=by omega
 have k1 : (k : Int) ≤ 38:=by omega
 go_enter Tryz.func158,Tryz.ntmps158
 go_wp2_with fail
 go_loopg [14] k (fun kk i wr => ∃ t : Nat,kk + t = k ∧ i = .int .i64 t ∧ Bk wr (w.heap.size + 1) 30 [.int .u64 (wd (10 ^ t) 1),.int .u64 (wd (10 ^ t) 0)] ∧ Bk wr w.heap.size 30 [.int .u64 0,.int .u64 0] ∧ w.heap.size + 2 ≤ wr.heap.size ∧ Below w.heap.size w wr)
 case atStart =>
  refine ⟨0,by omega,rfl, ?_,by (repeat (first|(with_reducible assumption)|((with_reducible refine bkW ?_);(first|rfl|(simp only [wsA,wsS,wsD,wsN];done)))|(with_reducible first|refine bkA ?_ _|refine bkD ?_|refine bkN ?_ _)|((with_reducible refine bkF ?_ ?_ _);focus (simp only [];omega))|((with_reducible refine bkB (by assumption) ?_ ?_);focus (go_size;done)))),by go_size,by (repeat' first|(with_reducible first|exact blR _ _|assumption|refine blD ?_|refine blN ?_ _)|((with_reducible first|refine blA ?_ ?_ _|refine blS ?_ ?_ _|refine blT (by assumption) ?_ ?_);focus (go_size;done)))⟩
  have b0 : wd (10 ^ 0) 0 = 1:=by rw [wd0];rfl
  have b1 : wd (10 ^ 0) 1 = 0:=by rw [wd1];rfl
  rw [b0,b1]
  (repeat (first|(with_reducible assumption)|((with_reducible refine bkW ?_);(first|rfl|(simp only [wsA,wsS,wsD,wsN];done)))|(with_reducible first|refine bkA ?_ _|refine bkD ?_|refine bkN ?_ _)|((with_reducible refine bkF ?_ ?_ _);focus (simp only [];omega))|((with_reducible refine bkB (by assumption) ?_ ?_);focus (go_size;done))))
 case round =>
  obtain ⟨t,hn,rfl,b1,b0,hsz,hbel⟩:=hrel
  have HK:=Lib.hid hn
  have ht : t ≤ k:=by omega
  have c0:=b1.cell 0 rfl
  have c1:=b1.cell 1 rfl
  have f0:=b1.frozen 0
  have f1:=b1.frozen 1
  have d0:=b0.cell 0 rfl
  have d1:=b0.cell 1 rfl
  have e0:=b0.frozen 0
  have e1:=b0.frozen 1
  have B0:=Lib.hid b0
  have B1:=Lib.hid b1
  (try have : w.heap.size < wr.heap.size:=by omega);(try have : w.heap.size + 1 < wr.heap.size:=by omega);(try have : w.heap.size + 1 + 1 < wr.heap.size:=by omega);(try have : w.heap.size + 1 + 1 + 1 < wr.heap.size:=by omega)
  clear hn b0 b1
  by_cases hlt : t < k
  ·have hx : 10 ^ t < 2 ^ 128:=ten_38 (by omega)
   have hy : 10 ^ t * 10 < 2 ^ 128:=by rw [← Nat.pow_succ];exact ten_38 (by omega)
   have HM:=Lib.hid (fun W => mul_ten (10 ^ t) hx W)
   have HN:=Lib.hid (fun W => narrow_any (10 ^ t * 10) (Nat.lt_trans hy (by decide)) W)
   rw [fit_id hy,over_id hy] at HN
   obtain ⟨X,hX⟩ : ∃ X,X = 10 ^ t:=⟨_,rfl⟩
   obtain ⟨Y,hY⟩ : ∃ Y,Y = X * 10:=⟨_,rfl⟩
   rw [← hX] at c0 c1 HM HN
   rw [← hY] at HM HN
   have EX:=Far.mk hX
   have EY:=Far.mk hY
   clear hX hY hx hy
   go_wp2_with (first
    | ((go_at_call 162;with_reducible refine (HM.out _).mono ?_);rintro _ w1 ⟨rfl,hb1⟩;have hb1s:=hb1.size;(try simp only [wsA,wsS,wsD,wsN] at hb1s);obtain ⟨hb1c,hb1f⟩:=bcell hb1;(try have : w.heap.size < w1.heap.size:=by omega);(try have : w.heap.size + 1 < w1.heap.size:=by omega);(try have : w.heap.size + 1 + 1 < w1.heap.size:=by omega);(try have : w.heap.size + 1 + 1 + 1 < w1.heap.size:=by omega))
    | ((go_at_call 160;with_reducible refine (HN.out _).mono ?_);rintro _ w2 ⟨rfl,hb2⟩;have hb2s:=hb2.size;(try simp only [wsA,wsS,wsD,wsN] at hb2s);obtain ⟨hb2c,hb2f⟩:=bcell hb2;(try have : w.heap.size < w2.heap.size:=by omega);(try have : w.heap.size + 1 < w2.heap.size:=by omega);(try have : w.heap.size + 1 + 1 < w2.heap.size:=by omega);(try have : w.heap.size + 1 + 1 + 1 < w2.heap.size:=by omega);(try have : w1.heap.size < w2.heap.size:=by omega);(try have : w1.heap.size + 1 < w2.heap.size:=by omega);(try have : w1.heap.size + 1 + 1 < w2.heap.size:=by omega);(try have : w1.heap.size + 1 + 1 + 1 < w2.heap.size:=by omega)))
   go_roundg (gk - 1)
   case measure => have:=HK.out;omega
   case rel =>
    have b0:=B0.out
    have b1:=B1.out
    refine ⟨t + 1,by have:=HK.out;omega,by go_num, ?_,by (repeat (first|(with_reducible assumption)|((with_reducible refine bkW ?_);(first|rfl|(simp only [wsA,wsS,wsD,wsN];done)))|(with_reducible first|refine bkA ?_ _|refine bkD ?_|refine bkN ?_ _)|((with_reducible refine bkF ?_ ?_ _);focus (simp only [];omega))|((with_reducible refine bkB (by assumption) ?_ ?_);focus (go_size;done)))),by go_size,by (repeat' first|(with_reducible first|exact blR _ _|assumption|refine blD ?_|refine blN ?_ _)|((with_reducible first|refine blA ?_ ?_ _|refine blS ?_ ?_ _|refine blT (by assumption) ?_ ?_);focus (go_size;done)))⟩
    have e : 10 ^ (t + 1) = Y:=by rw [EY.out,EX.out,Nat.pow_succ]
    rw [e]
    refine ((?_ : Bk w2 _ _ [.int .u64 (wd (10 ^ t) 1),.int .u64 (wd (10 ^ t) 0)]).set_ 0 _).set_ 1 _
    (repeat (first|(with_reducible assumption)|((with_reducible refine bkW ?_);(first|rfl|(simp only [wsA,wsS,wsD,wsN];done)))|(with_reducible first|refine bkA ?_ _|refine bkD ?_|refine bkN ?_ _)|((with_reducible refine bkF ?_ ?_ _);focus (simp only [];omega))|((with_reducible refine bkB (by assumption) ?_ ?_);focus (go_size;done))))
  ·obtain rfl : t = k:=by omega
   obtain ⟨X,hX⟩ : ∃ X,X = 10 ^ t:=⟨_,rfl⟩
   rw [← hX] at c0 c1
   have EX:=Far.mk hX
   clear hX
   go_wp2_with fail
   refine bodyPost_ret (by simp [results,Tryz.results158,go_sem, *];try rfl) rfl ?_
   exact ⟨by rw [EX.out],by (repeat' first|(with_reducible first|exact blR _ _|assumption|refine blD ?_|refine blN ?_ _)|((with_reducible first|refine blA ?_ ?_ _|refine blS ?_ ?_ _|refine blT (by assumption) ?_ ?_);focus (go_size;done)))⟩
end Go.Proofs.YtkjecoanlppeaaaGreatDoor



namespace Go.Proofs.YtkjecoanlppeaaaGreatDoor
open Go.RowKit

/-- N is T and k noughts behind it -/
def IsTz (N T k : Nat) : Prop:=N = T * 10 ^ k ∧ T % 10 ≠ 0
theorem tz_upto (N b : Nat) (h0 : N ≠ 0) (h : N < 10 ^ b) : ∃ T k,IsTz N T k:=by
 induction b generalizing N with
 | zero => simp at h;omega
 | succ b ih =>
  by_cases hd : N % 10 = 0
  ·obtain ⟨T,k,e,ht⟩:=ih (N / 10) (by omega) (by rw [Nat.pow_succ] at h;omega)
   refine ⟨T,k + 1, ?_,ht⟩
   rw [Nat.pow_succ,← Nat.mul_assoc,← e];omega
  ·exact ⟨N,0,by simp,hd⟩
theorem IsTz.k_le {N T k : Nat} (h : IsTz N T k) (hN : N < 2 ^ 128) : k ≤ 38:=by
 obtain ⟨e,ht⟩:=h
 have h1 : 1 ≤ T:=by
  rcases Nat.eq_zero_or_pos T with h0 | h0
  ·subst h0;exact absurd rfl ht
  ·exact h0
 have h2 : 10 ^ k ≤ N:=by rw [e];exact Nat.le_mul_of_pos_left _ h1
 have h3 : (10 : Nat) ^ k < 10 ^ 39:=Nat.lt_of_le_of_lt h2 (Nat.lt_trans hN (by decide))
 have:=pow_lt10 h3
 omega
theorem IsTz.at_ {N T k t : Nat} (h : IsTz N T k) (ht : t ≤ k) : N / 10 ^ t = T * 10 ^ (k - t):=by
 have e : 10 ^ k = 10 ^ (k - t) * 10 ^ t:=by rw [← Nat.pow_add];congr 1;omega
 rw [h.1,e,← Nat.mul_assoc,Nat.mul_div_cancel _ (Nat.pow_pos (by decide))]
theorem IsTz.mod_lt {N T k t : Nat} (h : IsTz N T k) (ht : t < k) : N / 10 ^ t % 10 = 0:=by
 rw [h.at_ (by omega),show k - t = k - t - 1 + 1 by omega,Nat.pow_succ,← Nat.mul_assoc,Nat.mul_mod_left]
theorem IsTz.mod_eq {N T k : Nat} (h : IsTz N T k) : N / 10 ^ k = T:=by
 rw [h.at_ (Nat.le_refl _),Nat.sub_self,Nat.pow_zero,Nat.mul_one]
set_option maxHeartbeats 1000000 in
theorem trim_any (N T k : Nat) (hN : N < 2 ^ 128) (h : IsTz N T k) (w : World) : Calls Tryz.prog 117 #[.agg #[.int .u64 (wd N 1),.int .u64 (wd N 0)]] w fun e w' => e = .returned (.tuple #[.agg #[.int .u64 (wd T 1),.int .u64 (wd T 0)],.int .i64 k]) ∧ Below w.heap.size w w':=by
 have hk38:=h.k_le hN
 have h0 : N ≠ 0:=by
  rintro rfl
  have h1:=h.1
  have h2:=h.2
  rcases Nat.mul_eq_zero.1 h1.symm with h3 | h3
  ·subst h3;exact h2 rfl
  ·exact absurd h3 (Nat.ne_of_gt (Nat.pow_pos (by decide)))
 have qz : ∀ W,(binOp .eql 30 (.agg #[.int .u64 (wd N 1),.int .u64 (wd N 0)]) (.agg #[.int .u64 0,.int .u64 0])).run Tryz.prog W = .ok (.bool false) W:=fun W => by
  rw [eq_wide]
  have e:=wd_eq_iff hN (show 0 < 2 ^ 128 by decide)
  rw [wd_zero,wd_zero] at e
  rw [e,decide_eq_false h0]
 have e2 : wd N 2 = 0:=wd_past (k:=2) (by simpa using hN) (Nat.le_refl _)
 have e3 : wd N 3 = 0:=wd_past (k:=3) (Nat.lt_of_lt_of_le hN (Nat.pow_le_pow_right (by decide) (by decide))) (Nat.le_refl _)
 have E2:=Lib.hid e2
 have E3:=Lib.hid e3
 have HN:=Far.mk hN
 have HZ:=Far.mk h
 clear hN h h0 e2 e3
 go_enter Tryz.func117,Tryz.ntmps117
 go_wp2_with fail
 go_loopg [5] k (fun kk c wr => ∃ t : Nat,kk + t = k ∧ c = .int .i64 t ∧ Bk wr (w.heap.size + 1 + 1) 82 (lcells (N / 10 ^ t)) ∧ Bk wr (w.heap.size + 1) 30 [.int .u64 0,.int .u64 0] ∧ w.heap.size + 3 ≤ wr.heap.size ∧ Below w.heap.size w wr)
 case atStart =>
  refine ⟨0,by omega,rfl, ?_,by (repeat (first|(with_reducible assumption)|((with_reducible refine bkW ?_);(first|rfl|(simp only [wsA,wsS,wsD,wsN];done)))|(with_reducible first|refine bkA ?_ _|refine bkD ?_|refine bkN ?_ _)|((with_reducible refine bkF ?_ ?_ _);focus (simp only [];omega))|((with_reducible refine bkB (by assumption) ?_ ?_);focus (go_size;done)))),by go_size,by (repeat' first|(with_reducible first|exact blR _ _|assumption|refine blD ?_|refine blN ?_ _)|((with_reducible first|refine blA ?_ ?_ _|refine blS ?_ ?_ _|refine blT (by assumption) ?_ ?_);focus (go_size;done)))⟩
  rw [Nat.pow_zero,Nat.div_one,lcells_eq,E2.out,E3.out]
  (repeat (first|(with_reducible assumption)|((with_reducible refine bkW ?_);(first|rfl|(simp only [wsA,wsS,wsD,wsN];done)))|(with_reducible first|refine bkA ?_ _|refine bkD ?_|refine bkN ?_ _)|((with_reducible refine bkF ?_ ?_ _);focus (simp only [];omega))|((with_reducible refine bkB (by assumption) ?_ ?_);focus (go_size;done))))
 case round =>
  obtain ⟨t,hn,rfl,b2,b1,hsz,hbel⟩:=hrel
  have HK:=Lib.hid hn
  have ht : t ≤ k:=by omega
  have B2:=Lib.hid b2
  have B1:=Lib.hid b1
  have b2':=b2
  rw [lcells_eq] at b2'
  have c0:=b2'.cell 0 rfl
  have c1:=b2'.cell 1 rfl
  have c2:=b2'.cell 2 rfl
  have c3:=b2'.cell 3 rfl
  have f0:=b2.frozen 0
  have f1:=b2.frozen 1
  have f2:=b2.frozen 2
  have f3:=b2.frozen 3
  have d0:=b1.cell 0 rfl
  have d1:=b1.cell 1 rfl
  have g0:=b1.frozen 0
  have g1:=b1.frozen 1
  (try have : w.heap.size < wr.heap.size:=by omega);(try have : w.heap.size + 1 < wr.heap.size:=by omega);(try have : w.heap.size + 1 + 1 < wr.heap.size:=by omega);(try have : w.heap.size + 1 + 1 + 1 < wr.heap.size:=by omega)
  have HT:=Lib.hid (fun W => tenth_any (N / 10 ^ t) (Nat.lt_of_le_of_lt (Nat.div_le_self _ _) (Nat.lt_trans HN.out (by decide))) W)
  clear hn b2 b1 b2'
  by_cases hlt : t < k
  ·have hm:=HZ.out.mod_lt hlt
   rw [hm] at HT
   obtain ⟨X,hX⟩ : ∃ X,X = N / 10 ^ t:=⟨_,rfl⟩
   rw [← hX] at HT c0 c1 c2 c3 B2
   have EX:=Far.mk hX
   clear hX hm
   go_wp2_with ((go_at_call 142;with_reducible refine (HT.out _).mono ?_);rintro _ w1 ⟨rfl,hb1⟩;have hb1s:=hb1.size;(try simp only [wsA,wsS,wsD,wsN] at hb1s);obtain ⟨hb1c,hb1f⟩:=bcell hb1;(try have : w.heap.size < w1.heap.size:=by omega);(try have : w.heap.size + 1 < w1.heap.size:=by omega);(try have : w.heap.size + 1 + 1 < w1.heap.size:=by omega);(try have : w.heap.size + 1 + 1 + 1 < w1.heap.size:=by omega))
   go_roundg (gk - 1)
   case measure => have:=HK.out;omega
   case rel =>
    have b1:=B1.out
    refine ⟨t + 1,by have:=HK.out;omega,by go_num, ?_,by (repeat (first|(with_reducible assumption)|((with_reducible refine bkW ?_);(first|rfl|(simp only [wsA,wsS,wsD,wsN];done)))|(with_reducible first|refine bkA ?_ _|refine bkD ?_|refine bkN ?_ _)|((with_reducible refine bkF ?_ ?_ _);focus (simp only [];omega))|((with_reducible refine bkB (by assumption) ?_ ?_);focus (go_size;done)))),by go_size,by (repeat' first|(with_reducible first|exact blR _ _|assumption|refine blD ?_|refine blN ?_ _)|((with_reducible first|refine blA ?_ ?_ _|refine blS ?_ ?_ _|refine blT (by assumption) ?_ ?_);focus (go_size;done)))⟩
    have e : N / 10 ^ (t + 1) = X / 10:=by rw [EX.out,Nat.div_div_eq_div_mul,Nat.pow_succ]
    rw [e,lcells_eq]
    refine Bk.alloc ?_ _
    refine ((((?_ : Bk w1 _ _ [.int .u64 (wd X 0),.int .u64 (wd X 1),.int .u64 (wd X 2),.int .u64 (wd X 3)]).set_ 0 _).set_ 1 _).set_ 2 _).set_ 3 _
    have b2:=B2.out
    rw [lcells_eq] at b2
    (repeat (first|(with_reducible assumption)|((with_reducible refine bkW ?_);(first|rfl|(simp only [wsA,wsS,wsD,wsN];done)))|(with_reducible first|refine bkA ?_ _|refine bkD ?_|refine bkN ?_ _)|((with_reducible refine bkF ?_ ?_ _);focus (simp only [];omega))|((with_reducible refine bkB (by assumption) ?_ ?_);focus (go_size;done))))
  ·obtain rfl : t = k:=by omega
   have hm:=HZ.out.mod_eq
   rw [hm] at HT c0 c1 c2 c3 B2
   have hne : (((T % 10 : Nat) : Int) != 0) = true:=by
    have:=HZ.out.2
    simp;omega
   obtain ⟨dd,hdd⟩ : ∃ dd : Int,dd = ((T % 10 : Nat) : Int):=⟨_,rfl⟩
   rw [← hdd] at HT hne
   clear hm hdd
   go_wp2_with ((go_at_call 142;with_reducible refine (HT.out _).mono ?_);rintro _ w1 ⟨rfl,hb1⟩;have hb1s:=hb1.size;(try simp only [wsA,wsS,wsD,wsN] at hb1s);obtain ⟨hb1c,hb1f⟩:=bcell hb1;(try have : w.heap.size < w1.heap.size:=by omega);(try have : w.heap.size + 1 < w1.heap.size:=by omega);(try have : w.heap.size + 1 + 1 < w1.heap.size:=by omega);(try have : w.heap.size + 1 + 1 + 1 < w1.heap.size:=by omega))
   refine bodyPost_ret (by simp [results,Tryz.results117,go_sem, *];try rfl) rfl ?_
   exact ⟨rfl,by (repeat' first|(with_reducible first|exact blR _ _|assumption|refine blD ?_|refine blN ?_ _)|((with_reducible first|refine blA ?_ ?_ _|refine blS ?_ ?_ _|refine blT (by assumption) ?_ ?_);focus (go_size;done)))⟩
end Go.Proofs.YtkjecoanlppeaaaGreatDoor



namespace Go.Proofs.YtkjecoanlppeaaaGreatDoor
open Go.RowKit

set_option maxHeartbeats 1000000 in
theorem power_any (k : Nat) (hk : k ≤ 38) (w : World) : Calls Tryz.prog 141 #[.int .i64 k] w fun e w' => e = .returned (.agg #[.int .u64 (wd (10 ^ k) 1),.int .u64 (wd (10 ^ k) 0)]) ∧ Below w.heap.size w w':=by
 have HT:=Lib.hid (fun W => ten_any k hk W)
 generalize wd (10 ^ k) 0 = x0 at *
 generalize wd (10 ^ k) 1 = x1 at *
 go_enter Tryz.func141,Tryz.ntmps141
 go_wp2_with ((go_at_call 158;with_reducible refine (HT.out _).mono ?_);rintro _ w1 ⟨rfl,hb1⟩;have hb1s:=hb1.size;(try simp only [wsA,wsS,wsD,wsN] at hb1s);obtain ⟨hb1c,hb1f⟩:=bcell hb1;(try have : w.heap.size < w1.heap.size:=by omega);(try have : w.heap.size + 1 < w1.heap.size:=by omega);(try have : w.heap.size + 1 + 1 < w1.heap.size:=by omega);(try have : w.heap.size + 1 + 1 + 1 < w1.heap.size:=by omega))
 refine bodyPost_ret (by simp [results,Tryz.results141,go_sem, *];try rfl) rfl ?_
 exact ⟨rfl,by (repeat' first|(with_reducible first|exact blR _ _|assumption|refine blD ?_|refine blN ?_ _)|((with_reducible first|refine blA ?_ ?_ _|refine blS ?_ ?_ _|refine blT (by assumption) ?_ ?_);focus (go_size;done)))⟩
set_option maxHeartbeats 1000000 in
theorem bound_any (w : World) : Calls Tryz.prog 115 #[] w fun e w' => e = .returned (.agg #[.int .u64 (wd B34 1),.int .u64 (wd B34 0)]) ∧ Below w.heap.size w w':=by
 have HT : Hid (∀ W,Calls Tryz.prog 141 #[.int .i64 34] W fun e w' => e = .returned (.agg #[.int .u64 (wd B34 1),.int .u64 (wd B34 0)]) ∧ Below W.heap.size W w'):=Lib.hid (fun W => power_any 34 (by decide) W)
 generalize wd B34 0 = x0 at *
 generalize wd B34 1 = x1 at *
 go_enter Tryz.func115,Tryz.ntmps115
 go_wp2_with ((go_at_call 141;with_reducible refine (HT.out _).mono ?_);rintro _ w1 ⟨rfl,hb1⟩;have hb1s:=hb1.size;(try simp only [wsA,wsS,wsD,wsN] at hb1s);obtain ⟨hb1c,hb1f⟩:=bcell hb1;(try have : w.heap.size < w1.heap.size:=by omega);(try have : w.heap.size + 1 < w1.heap.size:=by omega);(try have : w.heap.size + 1 + 1 < w1.heap.size:=by omega);(try have : w.heap.size + 1 + 1 + 1 < w1.heap.size:=by omega))
 refine bodyPost_ret (by simp [results,Tryz.results115,go_sem, *];try rfl) rfl ?_
 exact ⟨rfl,by (repeat' first|(with_reducible first|exact blR _ _|assumption|refine blD ?_|refine blN ?_ _)|((with_reducible first|refine blA ?_ ?_ _|refine blS ?_ ?_ _|refine blT (by assumption) ?_ ?_);focus (go_size;done)))⟩
theorem wd_hi2 {n : Nat} (h : n < 2 ^ 128) : wd n 2 = 0 ∧ wd n 3 = 0:=(wd_low4 (Nat.lt_trans h (by decide))).2 h
set_option maxHeartbeats 1000000 in
theorem long_any (n : Nat) (h : n < 2 ^ 128) (w : World) : Calls Tryz.prog 118 #[.agg #[.int .u64 (wd n 1),.int .u64 (wd n 0)]] w fun e w' => e = .returned (.agg #[.int .u64 (wd n 0),.int .u64 (wd n 1),.int .u64 (wd n 2),.int .u64 (wd n 3)]) ∧ Below w.heap.size w w':=by
 obtain ⟨e2,e3⟩:=wd_hi2 h
 rw [e2,e3]
 clear e2 e3 h
 generalize wd n 0 = x0 at *
 generalize wd n 1 = x1 at *
 go_enter Tryz.func118,Tryz.ntmps118
 go_wp2_with fail
 refine bodyPost_ret (by simp [results,Tryz.results118,go_sem, *];try rfl) rfl ?_
 exact ⟨rfl,by (repeat' first|(with_reducible first|exact blR _ _|assumption|refine blD ?_|refine blN ?_ _)|((with_reducible first|refine blA ?_ ?_ _|refine blS ?_ ?_ _|refine blT (by assumption) ?_ ?_);focus (go_size;done)))⟩
theorem eq_nil {n : Nat} (h : n < 2 ^ 128) : ((wd n 1 == 0) && (wd n 0 == 0)) = decide (n = 0):=by
 have e:=wd_eq_iff h (show 0 < 2 ^ 128 by decide)
 rwa [wd_zero,wd_zero] at e
set_option maxHeartbeats 1000000 in
theorem zero_any (b : Bool) (c : Nat) (s : Int) (h : c < 2 ^ 128) (w : World) : Calls Tryz.prog 116 #[.agg #[.bool b,.int .u64 (wd (c) 1),.int .u64 (wd (c) 0),.int .i64 s]] w fun e w' => e = .returned (.bool (decide (c = 0))) ∧ Below w.heap.size w w':=by
 have qz : ∀ W,(binOp .eql 30 (.agg #[.int .u64 (wd c 1),.int .u64 (wd c 0)]) (.agg #[.int .u64 0,.int .u64 0])).run Tryz.prog W = .ok (.bool (decide (c = 0))) W:=fun W => by rw [eq_wide,eq_nil h]
 clear h
 generalize decide (c = 0) = z at *
 generalize wd c 0 = x0 at *
 generalize wd c 1 = x1 at *
 go_enter Tryz.func116,Tryz.ntmps116
 go_wp2_with fail
 refine bodyPost_ret (by simp [results,Tryz.results116,go_sem, *];try rfl) rfl ?_
 exact ⟨rfl,by (repeat' first|(with_reducible first|exact blR _ _|assumption|refine blD ?_|refine blN ?_ _)|((with_reducible first|refine blA ?_ ?_ _|refine blS ?_ ?_ _|refine blT (by assumption) ?_ ?_);focus (go_size;done)))⟩
end Go.Proofs.YtkjecoanlppeaaaGreatDoor



namespace Go.Proofs.YtkjecoanlppeaaaGreatDoor
open Go.RowKit

theorem dform_hi {b : Bool} {c : Nat} {s : Int} (h : ¬ c < B34) : dform b c s = false:=by unfold dform;rw [decide_eq_false h];rfl
theorem dform_neg {b : Bool} {c : Nat} {s : Int} (h : s < 0) : dform b c s = false:=by unfold dform;rw [decide_eq_false (show ¬ 0 ≤ s by omega)];simp
theorem dform_deep {b : Bool} {c : Nat} {s : Int} (h : 18 < s) : dform b c s = false:=by unfold dform;rw [decide_eq_false (show ¬ s ≤ 18 by omega)];simp
theorem dform_in {b : Bool} {c : Nat} {s : Int} (h : c < B34) (h0 : 0 ≤ s) (h1 : s ≤ 18) : dform b c s = if c = 0 then !b && decide (s = 0) else decide (s = 0) || decide (c % 10 ≠ 0):=by
 unfold dform;rw [decide_eq_true h,decide_eq_true h0,decide_eq_true h1];rfl
theorem cmp_bound {c : Nat} (h : c < B34) : cmpN c B34 < 0:=by unfold cmpN;rw [if_neg (by omega),if_pos h];decide
theorem cmp_bound' {c : Nat} (h : ¬ c < B34) : 0 ≤ cmpN c B34:=by unfold cmpN;rw [if_neg h];split <;> decide
set_option maxHeartbeats 4000000 in
theorem form_any (b : Bool) (c : Nat) (s : Int) (hc : c < 2 ^ 128) (w : World) : Calls Tryz.prog 86 #[.agg #[.bool b,.int .u64 (wd (c) 1),.int .u64 (wd (c) 0),.int .i64 s]] w fun e w' => e = .returned (.bool (dform b c s)) ∧ Below w.heap.size w w':=by
 have HC:=Lib.hid (fun W => cmp_any c B34 hc B34_lt W)
 have HB:=Lib.hid (fun W => bound_any W)
 have HZ:=Lib.hid (fun W => zero_any b c s hc W)
 generalize wd B34 0 = p0 at *
 generalize wd B34 1 = p1 at *
 by_cases hb : c < B34
 ·have g1:=cmp_bound hb
  have g1' : decide (0 ≤ cmpN c B34) = false:=by simp;omega
  by_cases h0 : s < 0
  ·rw [dform_neg h0]
   generalize cmpN c B34 = cc at *
   generalize wd c 0 = x0 at *
   generalize wd c 1 = x1 at *
   clear hc hb
   generalize decide (c = 0) = zz at *
   go_enter Tryz.func86,Tryz.ntmps86
   go_wp2_with fail
   first | (go_region_with (first | ((go_at_call 115;with_reducible refine (HB.out _).mono ?_);rintro _ w1 ⟨rfl,hb1⟩;have hb1s:=hb1.size;(try simp only [wsA,wsS,wsD,wsN] at hb1s);obtain ⟨hb1c,hb1f⟩:=bcell hb1;(try have : w.heap.size < w1.heap.size:=by omega);(try have : w.heap.size + 1 < w1.heap.size:=by omega);(try have : w.heap.size + 1 + 1 < w1.heap.size:=by omega);(try have : w.heap.size + 1 + 1 + 1 < w1.heap.size:=by omega)) | ((go_at_call 114;with_reducible refine (HC.out _).mono ?_);rintro _ w2 ⟨rfl,hb2⟩;have hb2s:=hb2.size;(try simp only [wsA,wsS,wsD,wsN] at hb2s);obtain ⟨hb2c,hb2f⟩:=bcell hb2;(try have : w.heap.size < w2.heap.size:=by omega);(try have : w.heap.size + 1 < w2.heap.size:=by omega);(try have : w.heap.size + 1 + 1 < w2.heap.size:=by omega);(try have : w.heap.size + 1 + 1 + 1 < w2.heap.size:=by omega);(try have : w1.heap.size < w2.heap.size:=by omega);(try have : w1.heap.size + 1 < w2.heap.size:=by omega);(try have : w1.heap.size + 1 + 1 < w2.heap.size:=by omega);(try have : w1.heap.size + 1 + 1 + 1 < w2.heap.size:=by omega)))) | fail
   all_goals
    go_wp2_with fail
    go_ret
    exact ⟨rfl,by (repeat' first|(with_reducible first|exact blR _ _|assumption|refine blD ?_|refine blN ?_ _)|((with_reducible first|refine blA ?_ ?_ _|refine blS ?_ ?_ _|refine blT (by assumption) ?_ ?_);focus (go_size;done)))⟩
  ·by_cases h1 : 18 < s
   ·rw [dform_deep h1]
    have g3 : decide (s < 0) = false:=by simp;omega
    generalize cmpN c B34 = cc at *
    generalize wd c 0 = x0 at *
    generalize wd c 1 = x1 at *
    clear hc hb
    generalize decide (c = 0) = zz at *
    go_enter Tryz.func86,Tryz.ntmps86
    go_wp2_with fail
    first | (go_region_held3 (fun w' => w'.cell? ⟨w.heap.size,1,none⟩ = some (.int .u64 x1) ∧ w'.cell? ⟨w.heap.size,2,none⟩ = some (.int .u64 x0) ∧ w'.cell? ⟨w.heap.size,3,none⟩ = some (.int .i64 s)) (first | (first | (go_keep;done) | (simp [go_sem];done) | ((try dsimp only);(repeat' apply And.intro) <;> (first | (with_reducible assumption) | ((rw [World.cell?_alloc_lt _ _ _ (by show _ < _;omega)]);go_split_ands;(first | with_reducible assumption | (refine (World.cell?_alloc_lt _ _ _ (by show _ < _;omega)).symm.trans ?_;with_reducible assumption))) | ((rw [World.cell?_setCell_other _ _ _ _ (by intro e;injection e;omega)]);with_reducible assumption) | (go_keep;done) | (simp [go_sem];done) | (simp (disch:=go_size) [*,World.cell?_alloc_some,World.cell?_setCell_far];done))))) (first | ((go_at_call 115;with_reducible refine (HB.out _).mono ?_);rintro _ w1 ⟨rfl,hb1⟩;have hb1s:=hb1.size;(try simp only [wsA,wsS,wsD,wsN] at hb1s);obtain ⟨hb1c,hb1f⟩:=bcell hb1;(try have : w.heap.size < w1.heap.size:=by omega);(try have : w.heap.size + 1 < w1.heap.size:=by omega);(try have : w.heap.size + 1 + 1 < w1.heap.size:=by omega);(try have : w.heap.size + 1 + 1 + 1 < w1.heap.size:=by omega)) | ((go_at_call 114;with_reducible refine (HC.out _).mono ?_);rintro _ w2 ⟨rfl,hb2⟩;have hb2s:=hb2.size;(try simp only [wsA,wsS,wsD,wsN] at hb2s);obtain ⟨hb2c,hb2f⟩:=bcell hb2;(try have : w.heap.size < w2.heap.size:=by omega);(try have : w.heap.size + 1 < w2.heap.size:=by omega);(try have : w.heap.size + 1 + 1 < w2.heap.size:=by omega);(try have : w.heap.size + 1 + 1 + 1 < w2.heap.size:=by omega);(try have : w1.heap.size < w2.heap.size:=by omega);(try have : w1.heap.size + 1 < w2.heap.size:=by omega);(try have : w1.heap.size + 1 + 1 < w2.heap.size:=by omega);(try have : w1.heap.size + 1 + 1 + 1 < w2.heap.size:=by omega)))) | fail
    all_goals
     go_wp2_with fail
     go_ret
     exact ⟨rfl,by (repeat' first|(with_reducible first|exact blR _ _|assumption|refine blD ?_|refine blN ?_ _)|((with_reducible first|refine blA ?_ ?_ _|refine blS ?_ ?_ _|refine blT (by assumption) ?_ ?_);focus (go_size;done)))⟩
   ·rw [dform_in hb (by omega) (by omega)]
    have g3 : decide (s < 0) = false:=by simp;omega
    have g4 : decide (18 < s) = false:=by simp;omega
    by_cases hz : c = 0
    ·rw [if_pos hz]
     rw [decide_eq_true hz] at HZ
     have g2 : (s == 0) = decide (s = 0):=by rw [Bool.eq_iff_iff];simp
     generalize cmpN c B34 = cc at *
     generalize wd c 0 = x0 at *
     generalize wd c 1 = x1 at *
     clear hc hb
     generalize decide (s = 0) = sz at *
     clear hz
     cases b
     ·go_enter Tryz.func86,Tryz.ntmps86
      go_wp2_with fail
      first | (go_region_held3 (fun w' => w'.cell? ⟨w.heap.size,1,none⟩ = some (.int .u64 x1) ∧ w'.cell? ⟨w.heap.size,2,none⟩ = some (.int .u64 x0) ∧ w'.cell? ⟨w.heap.size,3,none⟩ = some (.int .i64 s)) (first | (first | (go_keep;done) | (simp [go_sem];done) | ((try dsimp only);(repeat' apply And.intro) <;> (first | (with_reducible assumption) | ((rw [World.cell?_alloc_lt _ _ _ (by show _ < _;omega)]);go_split_ands;(first | with_reducible assumption | (refine (World.cell?_alloc_lt _ _ _ (by show _ < _;omega)).symm.trans ?_;with_reducible assumption))) | ((rw [World.cell?_setCell_other _ _ _ _ (by intro e;injection e;omega)]);with_reducible assumption) | (go_keep;done) | (simp [go_sem];done) | (simp (disch:=go_size) [*,World.cell?_alloc_some,World.cell?_setCell_far];done))))) (first | ((go_at_call 115;with_reducible refine (HB.out _).mono ?_);rintro _ w1 ⟨rfl,hb1⟩;have hb1s:=hb1.size;(try simp only [wsA,wsS,wsD,wsN] at hb1s);obtain ⟨hb1c,hb1f⟩:=bcell hb1;(try have : w.heap.size < w1.heap.size:=by omega);(try have : w.heap.size + 1 < w1.heap.size:=by omega);(try have : w.heap.size + 1 + 1 < w1.heap.size:=by omega);(try have : w.heap.size + 1 + 1 + 1 < w1.heap.size:=by omega)) | ((go_at_call 114;with_reducible refine (HC.out _).mono ?_);rintro _ w2 ⟨rfl,hb2⟩;have hb2s:=hb2.size;(try simp only [wsA,wsS,wsD,wsN] at hb2s);obtain ⟨hb2c,hb2f⟩:=bcell hb2;(try have : w.heap.size < w2.heap.size:=by omega);(try have : w.heap.size + 1 < w2.heap.size:=by omega);(try have : w.heap.size + 1 + 1 < w2.heap.size:=by omega);(try have : w.heap.size + 1 + 1 + 1 < w2.heap.size:=by omega);(try have : w1.heap.size < w2.heap.size:=by omega);(try have : w1.heap.size + 1 < w2.heap.size:=by omega);(try have : w1.heap.size + 1 + 1 < w2.heap.size:=by omega);(try have : w1.heap.size + 1 + 1 + 1 < w2.heap.size:=by omega)))) | fail
      all_goals
       go_wp2_with ((go_at_call 116;with_reducible refine (HZ.out _).mono ?_);rintro _ w3 ⟨rfl,hb3⟩;have hb3s:=hb3.size;(try simp only [wsA,wsS,wsD,wsN] at hb3s);obtain ⟨hb3c,hb3f⟩:=bcell hb3;(try have : w.heap.size < w3.heap.size:=by omega);(try have : w.heap.size + 1 < w3.heap.size:=by omega);(try have : w.heap.size + 1 + 1 < w3.heap.size:=by omega);(try have : w.heap.size + 1 + 1 + 1 < w3.heap.size:=by omega);(try have : w1.heap.size < w3.heap.size:=by omega);(try have : w1.heap.size + 1 < w3.heap.size:=by omega);(try have : w1.heap.size + 1 + 1 < w3.heap.size:=by omega);(try have : w1.heap.size + 1 + 1 + 1 < w3.heap.size:=by omega);(try have : w2.heap.size < w3.heap.size:=by omega);(try have : w2.heap.size + 1 < w3.heap.size:=by omega);(try have : w2.heap.size + 1 + 1 < w3.heap.size:=by omega);(try have : w2.heap.size + 1 + 1 + 1 < w3.heap.size:=by omega))
       go_ret
       exact ⟨by simp,by (repeat' first|(with_reducible first|exact blR _ _|assumption|refine blD ?_|refine blN ?_ _)|((with_reducible first|refine blA ?_ ?_ _|refine blS ?_ ?_ _|refine blT (by assumption) ?_ ?_);focus (go_size;done)))⟩
     ·go_enter Tryz.func86,Tryz.ntmps86
      go_wp2_with fail
      first | (go_region_held3 (fun w' => w'.cell? ⟨w.heap.size,1,none⟩ = some (.int .u64 x1) ∧ w'.cell? ⟨w.heap.size,2,none⟩ = some (.int .u64 x0) ∧ w'.cell? ⟨w.heap.size,3,none⟩ = some (.int .i64 s)) (first | (first | (go_keep;done) | (simp [go_sem];done) | ((try dsimp only);(repeat' apply And.intro) <;> (first | (with_reducible assumption) | ((rw [World.cell?_alloc_lt _ _ _ (by show _ < _;omega)]);go_split_ands;(first | with_reducible assumption | (refine (World.cell?_alloc_lt _ _ _ (by show _ < _;omega)).symm.trans ?_;with_reducible assumption))) | ((rw [World.cell?_setCell_other _ _ _ _ (by intro e;injection e;omega)]);with_reducible assumption) | (go_keep;done) | (simp [go_sem];done) | (simp (disch:=go_size) [*,World.cell?_alloc_some,World.cell?_setCell_far];done))))) (first | ((go_at_call 115;with_reducible refine (HB.out _).mono ?_);rintro _ w1 ⟨rfl,hb1⟩;have hb1s:=hb1.size;(try simp only [wsA,wsS,wsD,wsN] at hb1s);obtain ⟨hb1c,hb1f⟩:=bcell hb1;(try have : w.heap.size < w1.heap.size:=by omega);(try have : w.heap.size + 1 < w1.heap.size:=by omega);(try have : w.heap.size + 1 + 1 < w1.heap.size:=by omega);(try have : w.heap.size + 1 + 1 + 1 < w1.heap.size:=by omega)) | ((go_at_call 114;with_reducible refine (HC.out _).mono ?_);rintro _ w2 ⟨rfl,hb2⟩;have hb2s:=hb2.size;(try simp only [wsA,wsS,wsD,wsN] at hb2s);obtain ⟨hb2c,hb2f⟩:=bcell hb2;(try have : w.heap.size < w2.heap.size:=by omega);(try have : w.heap.size + 1 < w2.heap.size:=by omega);(try have : w.heap.size + 1 + 1 < w2.heap.size:=by omega);(try have : w.heap.size + 1 + 1 + 1 < w2.heap.size:=by omega);(try have : w1.heap.size < w2.heap.size:=by omega);(try have : w1.heap.size + 1 < w2.heap.size:=by omega);(try have : w1.heap.size + 1 + 1 < w2.heap.size:=by omega);(try have : w1.heap.size + 1 + 1 + 1 < w2.heap.size:=by omega)))) | fail
      all_goals
       go_wp2_with ((go_at_call 116;with_reducible refine (HZ.out _).mono ?_);rintro _ w3 ⟨rfl,hb3⟩;have hb3s:=hb3.size;(try simp only [wsA,wsS,wsD,wsN] at hb3s);obtain ⟨hb3c,hb3f⟩:=bcell hb3;(try have : w.heap.size < w3.heap.size:=by omega);(try have : w.heap.size + 1 < w3.heap.size:=by omega);(try have : w.heap.size + 1 + 1 < w3.heap.size:=by omega);(try have : w.heap.size + 1 + 1 + 1 < w3.heap.size:=by omega);(try have : w1.heap.size < w3.heap.size:=by omega);(try have : w1.heap.size + 1 < w3.heap.size:=by omega);(try have : w1.heap.size + 1 + 1 < w3.heap.size:=by omega);(try have : w1.heap.size + 1 + 1 + 1 < w3.heap.size:=by omega);(try have : w2.heap.size < w3.heap.size:=by omega);(try have : w2.heap.size + 1 < w3.heap.size:=by omega);(try have : w2.heap.size + 1 + 1 < w3.heap.size:=by omega);(try have : w2.heap.size + 1 + 1 + 1 < w3.heap.size:=by omega))
       go_ret
       exact ⟨by simp,by (repeat' first|(with_reducible first|exact blR _ _|assumption|refine blD ?_|refine blN ?_ _)|((with_reducible first|refine blA ?_ ?_ _|refine blS ?_ ?_ _|refine blT (by assumption) ?_ ?_);focus (go_size;done)))⟩
    ·rw [if_neg hz]
     rw [decide_eq_false hz] at HZ
     obtain ⟨T,k,ht⟩:=tz_upto c 34 hz hb
     have HT:=Lib.hid (fun W => trim_any c T k hc ht W)
     have hk : decide (c % 10 ≠ 0) = decide ((k : Int) = 0):=by
      rw [Bool.eq_iff_iff]
      simp only [decide_eq_true_eq]
      constructor
      ·intro h
       rcases Nat.eq_zero_or_pos k with h0 | h0
       ·omega
       ·exact absurd (by have:=ht.mod_lt (t:=0) h0;rwa [Nat.pow_zero,Nat.div_one] at this) h
      ·intro h
       obtain rfl : k = 0:=by omega
       have:=ht.2
       have e:=ht.1
       rw [Nat.pow_zero,Nat.mul_one] at e
       rw [e];exact this
     rw [hk]
     have k0 : (0 : Int) ≤ (k : Int):=by omega
     generalize cmpN c B34 = cc at *
     generalize wd c 0 = x0 at *
     generalize wd c 1 = x1 at *
     clear hc hb
     generalize wd T 0 = y0 at *
     generalize wd T 1 = y1 at *
     clear hz ht hk
     by_cases hs : s = 0
     ·have g2 : (s == 0) = true:=by simpa using hs
      rw [decide_eq_true hs]
      have HS:=Lib.hid hs
      clear hs
      go_enter Tryz.func86,Tryz.ntmps86
      go_wp2_with fail
      first | (go_region_held3 (fun w' => w'.cell? ⟨w.heap.size,1,none⟩ = some (.int .u64 x1) ∧ w'.cell? ⟨w.heap.size,2,none⟩ = some (.int .u64 x0) ∧ w'.cell? ⟨w.heap.size,3,none⟩ = some (.int .i64 s)) (first | (first | (go_keep;done) | (simp [go_sem];done) | ((try dsimp only);(repeat' apply And.intro) <;> (first | (with_reducible assumption) | ((rw [World.cell?_alloc_lt _ _ _ (by show _ < _;omega)]);go_split_ands;(first | with_reducible assumption | (refine (World.cell?_alloc_lt _ _ _ (by show _ < _;omega)).symm.trans ?_;with_reducible assumption))) | ((rw [World.cell?_setCell_other _ _ _ _ (by intro e;injection e;omega)]);with_reducible assumption) | (go_keep;done) | (simp [go_sem];done) | (simp (disch:=go_size) [*,World.cell?_alloc_some,World.cell?_setCell_far];done))))) (first | ((go_at_call 115;with_reducible refine (HB.out _).mono ?_);rintro _ w1 ⟨rfl,hb1⟩;have hb1s:=hb1.size;(try simp only [wsA,wsS,wsD,wsN] at hb1s);obtain ⟨hb1c,hb1f⟩:=bcell hb1;(try have : w.heap.size < w1.heap.size:=by omega);(try have : w.heap.size + 1 < w1.heap.size:=by omega);(try have : w.heap.size + 1 + 1 < w1.heap.size:=by omega);(try have : w.heap.size + 1 + 1 + 1 < w1.heap.size:=by omega)) | ((go_at_call 114;with_reducible refine (HC.out _).mono ?_);rintro _ w2 ⟨rfl,hb2⟩;have hb2s:=hb2.size;(try simp only [wsA,wsS,wsD,wsN] at hb2s);obtain ⟨hb2c,hb2f⟩:=bcell hb2;(try have : w.heap.size < w2.heap.size:=by omega);(try have : w.heap.size + 1 < w2.heap.size:=by omega);(try have : w.heap.size + 1 + 1 < w2.heap.size:=by omega);(try have : w.heap.size + 1 + 1 + 1 < w2.heap.size:=by omega);(try have : w1.heap.size < w2.heap.size:=by omega);(try have : w1.heap.size + 1 < w2.heap.size:=by omega);(try have : w1.heap.size + 1 + 1 < w2.heap.size:=by omega);(try have : w1.heap.size + 1 + 1 + 1 < w2.heap.size:=by omega)))) | fail
      all_goals
       go_wp2_with (first | ((go_at_call 116;with_reducible refine (HZ.out _).mono ?_);rintro _ w3 ⟨rfl,hb3⟩;have hb3s:=hb3.size;(try simp only [wsA,wsS,wsD,wsN] at hb3s);obtain ⟨hb3c,hb3f⟩:=bcell hb3;(try have : w.heap.size < w3.heap.size:=by omega);(try have : w.heap.size + 1 < w3.heap.size:=by omega);(try have : w.heap.size + 1 + 1 < w3.heap.size:=by omega);(try have : w.heap.size + 1 + 1 + 1 < w3.heap.size:=by omega);(try have : w1.heap.size < w3.heap.size:=by omega);(try have : w1.heap.size + 1 < w3.heap.size:=by omega);(try have : w1.heap.size + 1 + 1 < w3.heap.size:=by omega);(try have : w1.heap.size + 1 + 1 + 1 < w3.heap.size:=by omega);(try have : w2.heap.size < w3.heap.size:=by omega);(try have : w2.heap.size + 1 < w3.heap.size:=by omega);(try have : w2.heap.size + 1 + 1 < w3.heap.size:=by omega);(try have : w2.heap.size + 1 + 1 + 1 < w3.heap.size:=by omega)) | ((go_at_call 117;with_reducible refine (HT.out _).mono ?_);rintro _ w4 ⟨rfl,hb4⟩;have hb4s:=hb4.size;(try simp only [wsA,wsS,wsD,wsN] at hb4s);obtain ⟨hb4c,hb4f⟩:=bcell hb4;(try have : w.heap.size < w4.heap.size:=by omega);(try have : w.heap.size + 1 < w4.heap.size:=by omega);(try have : w.heap.size + 1 + 1 < w4.heap.size:=by omega);(try have : w.heap.size + 1 + 1 + 1 < w4.heap.size:=by omega);(try have : w1.heap.size < w4.heap.size:=by omega);(try have : w1.heap.size + 1 < w4.heap.size:=by omega);(try have : w1.heap.size + 1 + 1 < w4.heap.size:=by omega);(try have : w1.heap.size + 1 + 1 + 1 < w4.heap.size:=by omega);(try have : w2.heap.size < w4.heap.size:=by omega);(try have : w2.heap.size + 1 < w4.heap.size:=by omega);(try have : w2.heap.size + 1 + 1 < w4.heap.size:=by omega);(try have : w2.heap.size + 1 + 1 + 1 < w4.heap.size:=by omega);(try have : w3.heap.size < w4.heap.size:=by omega);(try have : w3.heap.size + 1 < w4.heap.size:=by omega);(try have : w3.heap.size + 1 + 1 < w4.heap.size:=by omega);(try have : w3.heap.size + 1 + 1 + 1 < w4.heap.size:=by omega)))
       go_ret
       exact ⟨rfl,by (repeat' first|(with_reducible first|exact blR _ _|assumption|refine blD ?_|refine blN ?_ _)|((with_reducible first|refine blA ?_ ?_ _|refine blS ?_ ?_ _|refine blT (by assumption) ?_ ?_);focus (go_size;done)))⟩
     ·have g2 : (s == 0) = false:=by simpa using hs
      rw [decide_eq_false hs]
      clear hs
      go_enter Tryz.func86,Tryz.ntmps86
      go_wp2_with fail
      first | (go_region_held3 (fun w' => w'.cell? ⟨w.heap.size,1,none⟩ = some (.int .u64 x1) ∧ w'.cell? ⟨w.heap.size,2,none⟩ = some (.int .u64 x0) ∧ w'.cell? ⟨w.heap.size,3,none⟩ = some (.int .i64 s)) (first | (first | (go_keep;done) | (simp [go_sem];done) | ((try dsimp only);(repeat' apply And.intro) <;> (first | (with_reducible assumption) | ((rw [World.cell?_alloc_lt _ _ _ (by show _ < _;omega)]);go_split_ands;(first | with_reducible assumption | (refine (World.cell?_alloc_lt _ _ _ (by show _ < _;omega)).symm.trans ?_;with_reducible assumption))) | ((rw [World.cell?_setCell_other _ _ _ _ (by intro e;injection e;omega)]);with_reducible assumption) | (go_keep;done) | (simp [go_sem];done) | (simp (disch:=go_size) [*,World.cell?_alloc_some,World.cell?_setCell_far];done))))) (first | ((go_at_call 115;with_reducible refine (HB.out _).mono ?_);rintro _ w1 ⟨rfl,hb1⟩;have hb1s:=hb1.size;(try simp only [wsA,wsS,wsD,wsN] at hb1s);obtain ⟨hb1c,hb1f⟩:=bcell hb1;(try have : w.heap.size < w1.heap.size:=by omega);(try have : w.heap.size + 1 < w1.heap.size:=by omega);(try have : w.heap.size + 1 + 1 < w1.heap.size:=by omega);(try have : w.heap.size + 1 + 1 + 1 < w1.heap.size:=by omega)) | ((go_at_call 114;with_reducible refine (HC.out _).mono ?_);rintro _ w2 ⟨rfl,hb2⟩;have hb2s:=hb2.size;(try simp only [wsA,wsS,wsD,wsN] at hb2s);obtain ⟨hb2c,hb2f⟩:=bcell hb2;(try have : w.heap.size < w2.heap.size:=by omega);(try have : w.heap.size + 1 < w2.heap.size:=by omega);(try have : w.heap.size + 1 + 1 < w2.heap.size:=by omega);(try have : w.heap.size + 1 + 1 + 1 < w2.heap.size:=by omega);(try have : w1.heap.size < w2.heap.size:=by omega);(try have : w1.heap.size + 1 < w2.heap.size:=by omega);(try have : w1.heap.size + 1 + 1 < w2.heap.size:=by omega);(try have : w1.heap.size + 1 + 1 + 1 < w2.heap.size:=by omega)))) | fail
      all_goals
       go_wp2_with (first | ((go_at_call 116;with_reducible refine (HZ.out _).mono ?_);rintro _ w3 ⟨rfl,hb3⟩;have hb3s:=hb3.size;(try simp only [wsA,wsS,wsD,wsN] at hb3s);obtain ⟨hb3c,hb3f⟩:=bcell hb3;(try have : w.heap.size < w3.heap.size:=by omega);(try have : w.heap.size + 1 < w3.heap.size:=by omega);(try have : w.heap.size + 1 + 1 < w3.heap.size:=by omega);(try have : w.heap.size + 1 + 1 + 1 < w3.heap.size:=by omega);(try have : w1.heap.size < w3.heap.size:=by omega);(try have : w1.heap.size + 1 < w3.heap.size:=by omega);(try have : w1.heap.size + 1 + 1 < w3.heap.size:=by omega);(try have : w1.heap.size + 1 + 1 + 1 < w3.heap.size:=by omega);(try have : w2.heap.size < w3.heap.size:=by omega);(try have : w2.heap.size + 1 < w3.heap.size:=by omega);(try have : w2.heap.size + 1 + 1 < w3.heap.size:=by omega);(try have : w2.heap.size + 1 + 1 + 1 < w3.heap.size:=by omega)) | ((go_at_call 117;with_reducible refine (HT.out _).mono ?_);rintro _ w4 ⟨rfl,hb4⟩;have hb4s:=hb4.size;(try simp only [wsA,wsS,wsD,wsN] at hb4s);obtain ⟨hb4c,hb4f⟩:=bcell hb4;(try have : w.heap.size < w4.heap.size:=by omega);(try have : w.heap.size + 1 < w4.heap.size:=by omega);(try have : w.heap.size + 1 + 1 < w4.heap.size:=by omega);(try have : w.heap.size + 1 + 1 + 1 < w4.heap.size:=by omega);(try have : w1.heap.size < w4.heap.size:=by omega);(try have : w1.heap.size + 1 < w4.heap.size:=by omega);(try have : w1.heap.size + 1 + 1 < w4.heap.size:=by omega);(try have : w1.heap.size + 1 + 1 + 1 < w4.heap.size:=by omega);(try have : w2.heap.size < w4.heap.size:=by omega);(try have : w2.heap.size + 1 < w4.heap.size:=by omega);(try have : w2.heap.size + 1 + 1 < w4.heap.size:=by omega);(try have : w2.heap.size + 1 + 1 + 1 < w4.heap.size:=by omega);(try have : w3.heap.size < w4.heap.size:=by omega);(try have : w3.heap.size + 1 < w4.heap.size:=by omega);(try have : w3.heap.size + 1 + 1 < w4.heap.size:=by omega);(try have : w3.heap.size + 1 + 1 + 1 < w4.heap.size:=by omega)))
       go_ret
       exact ⟨ret_bool (by rw [Bool.eq_iff_iff];simp),by (repeat' first|(with_reducible first|exact blR _ _|assumption|refine blD ?_|refine blN ?_ _)|((with_reducible first|refine blA ?_ ?_ _|refine blS ?_ ?_ _|refine blT (by assumption) ?_ ?_);focus (go_size;done)))⟩
 ·have g1:=cmp_bound' hb
  have g1' : decide (0 ≤ cmpN c B34) = true:=by simp;omega
  rw [dform_hi hb]
  generalize cmpN c B34 = cc at *
  generalize wd c 0 = x0 at *
  generalize wd c 1 = x1 at *
  clear hc hb
  generalize decide (c = 0) = zz at *
  go_enter Tryz.func86,Tryz.ntmps86
  go_wp2_with fail
  first | (go_region_with (first | ((go_at_call 115;with_reducible refine (HB.out _).mono ?_);rintro _ w1 ⟨rfl,hb1⟩;have hb1s:=hb1.size;(try simp only [wsA,wsS,wsD,wsN] at hb1s);obtain ⟨hb1c,hb1f⟩:=bcell hb1;(try have : w.heap.size < w1.heap.size:=by omega);(try have : w.heap.size + 1 < w1.heap.size:=by omega);(try have : w.heap.size + 1 + 1 < w1.heap.size:=by omega);(try have : w.heap.size + 1 + 1 + 1 < w1.heap.size:=by omega)) | ((go_at_call 114;with_reducible refine (HC.out _).mono ?_);rintro _ w2 ⟨rfl,hb2⟩;have hb2s:=hb2.size;(try simp only [wsA,wsS,wsD,wsN] at hb2s);obtain ⟨hb2c,hb2f⟩:=bcell hb2;(try have : w.heap.size < w2.heap.size:=by omega);(try have : w.heap.size + 1 < w2.heap.size:=by omega);(try have : w.heap.size + 1 + 1 < w2.heap.size:=by omega);(try have : w.heap.size + 1 + 1 + 1 < w2.heap.size:=by omega);(try have : w1.heap.size < w2.heap.size:=by omega);(try have : w1.heap.size + 1 < w2.heap.size:=by omega);(try have : w1.heap.size + 1 + 1 < w2.heap.size:=by omega);(try have : w1.heap.size + 1 + 1 + 1 < w2.heap.size:=by omega)))) | fail
  all_goals
   go_wp2_with fail
   go_ret
   exact ⟨rfl,by (repeat' first|(with_reducible first|exact blR _ _|assumption|refine blD ?_|refine blN ?_ _)|((with_reducible first|refine blA ?_ ?_ _|refine blS ?_ ?_ _|refine blT (by assumption) ?_ ?_);focus (go_size;done)))⟩
end Go.Proofs.YtkjecoanlppeaaaGreatDoor



namespace Go.Proofs.YtkjecoanlppeaaaGreatDoor
open Go.RowKit

/-- what the kind asks of its own fields -/
def kindB (s : VS) (ll : Nat) (nm : List (List UInt8)) : Bool :=
 if s.kind = 0 ∨ s.kind = 1 ∨ s.kind = 5 then true
 else if s.kind = 2 then dform s.neg s.coef s.sc
 else if s.kind = 3 then decide (s.text.length ≤ 1000) && ztxt s.text
 else if s.kind = 4 then dayB s.day
 else if s.kind = 6 then decide (nm.length = ll) && namesB nm
 else false
def ownB (s : VS) (ll : Nat) (nm : List (List UInt8)) : Bool:=bareQ s ll nm.length (s.kind = 5 ∨ s.kind = 6) && kindB s ll nm
mutual
def okV : VD → Bool
 | .mk s l nm => ownB s l.length nm && oks l
def oks : List VD → Bool
 | [] => true
 | x :: r => okV x && oks r
end
theorem okV_eq (d : VD) : okV d = (ownB d.s d.list.length d.names && oks d.list):=by cases d;rfl
theorem oks_append : ∀ (a b : List VD),oks (a ++ b) = (oks a && oks b)
 | [],b => by simp [oks]
 | x :: r,b => by rw [List.cons_append,oks,oks,oks_append r b,Bool.and_assoc]
theorem oks_take {l : List VD} {t : Nat} (h : t < l.length) : oks (l.take (t + 1)) = (oks (l.take t) && okV (vg l t)):=by
 rw [take_vg h,oks_append];simp [oks]
def ShapeOf (R : World → Value → Value → VD → Prop) : Prop:=∀ (x : VD) (L N : Value) (w : World),Tabs w → x.size ≤ 1000000 → R w L N x →
 Calls Tryz.prog 70 #[vagg x.s L N] w fun e w' => e = .returned (.tuple #[.int .i64 x.deep,.bool (okV x)]) ∧ Below w.heap.size w w'
set_option maxRecDepth 100000 in
set_option maxHeartbeats 4000000 in
theorem shape_step (R : World → Value → Value → VD → Prop) (hR : ∀ w w' L N x,R w L N x → Below w.heap.size w w' → R w' L N x) (H : ShapeOf R)
  (s : VS) (l : List VD) (nm : List (List UInt8)) (A : Option Addr) (C : Nat) (A2 : Option Addr) (C2 : Nat) (w : World) (hok : s.ok) (hT : Tabs w) (hsz : sizes l ≤ 999999) (hv : Vls (R w) w (.slice A l.length C) l) (hn : Nms w (.slice A2 nm.length C2) nm) :
  Calls Tryz.prog 70 #[vagg s (.slice A l.length C) (.slice A2 nm.length C2)] w fun e w' => e = .returned (.tuple #[.int .i64 ((deeps l + 1 : Nat) : Int),.bool (ownB s l.length nm && oks l)]) ∧ Below w.heap.size w w':=by
 obtain ⟨_,_,_,hll⟩:=hv.is
 obtain ⟨_,_,_,hnl⟩:=hn.is
 have HV:=Lib.hid hv
 have HN:=Lib.hid hn
 have HH:=Lib.hid H
 have HR:=Lib.hid hR
 have HT:=Lib.hid hT
 have HB:=Lib.hid (fun W => vbare_any s l nm A C A2 C2 hll hnl W)
 have hown : ownB s l.length nm = (bareQ s l.length nm.length (s.kind = 5 ∨ s.kind = 6) && kindB s l.length nm):=rfl
 obtain ⟨b0,hb0⟩ : ∃ b0,b0 = bareQ s l.length nm.length (s.kind = 5 ∨ s.kind = 6):=⟨_,rfl⟩
 obtain ⟨z,hz⟩ : ∃ z,z = ownB s l.length nm:=⟨_,rfl⟩
 rw [← hb0] at HB hown
 rw [← hz] at hown ⊢
 obtain ⟨kind,yes,neg,coef,sc,text,day⟩:=s
 obtain ⟨hc,ht⟩:=hok
 dsimp only at hc ht
 have HC:=Lib.hid hc
 have HTX:=Lib.hid ht
 unfold vagg at HB ⊢
 unfold kindB at hown
 dsimp only at HB hown ⊢
 have HO:=Lib.hid hown
 have HSZ:=Lib.hid hsz
 have HLL:=Lib.hid hll
 have HNL:=Lib.hid hnl
 have hll2 : (l.length : Int) ≤ 1048576:=by omega
 have hnl2 : (nm.length : Int) ≤ 1048576:=by omega
 clear hown hb0 hz hc ht hv hn H hR hT hsz hll hnl
 obtain ⟨x1,hx1⟩ : ∃ x1,x1 = wd coef 1:=⟨_,rfl⟩
 obtain ⟨x0,hx0⟩ : ∃ x0,x0 = wd coef 0:=⟨_,rfl⟩
 rw [← hx1,← hx0] at HB
 rw [← hx1,← hx0]
 have HX1:=Lib.hid hx1
 have HX0:=Lib.hid hx0
 clear hx1 hx0
 go_enter Tryz.func70,Tryz.ntmps70
 go_upto_block 0 with ((go_at_call 92;with_reducible refine (HB.out _).mono ?_);rintro _ w1 ⟨rfl,hb1⟩;have hb1s:=hb1.size;(try simp only [wsA,wsS,wsD,wsN] at hb1s);obtain ⟨hb1c,hb1f⟩:=bcell hb1;(try have : w.heap.size < w1.heap.size:=by omega);(try have : w.heap.size + 1 < w1.heap.size:=by omega);(try have : w.heap.size + 1 + 1 < w1.heap.size:=by omega);(try have : w.heap.size + 1 + 1 + 1 < w1.heap.size:=by omega))
 go_cut [4] (fun s4 wx => s4 = .bool z ∧ wx.cell? ⟨w.heap.size,8,none⟩ = some (.slice A l.length C) ∧ w.heap.size < wx.heap.size ∧ Below w.heap.size w wx)
 case first =>
  have hk : kind = 0 ∨ kind = 1 ∨ kind = 5 ∨ kind = 2 ∨ kind = 3 ∨ kind = 4 ∨ kind = 6 ∨ (kind ≠ 0 ∧ kind ≠ 1 ∧ kind ≠ 5 ∧ kind ≠ 2 ∧ kind ≠ 3 ∧ kind ≠ 4 ∧ kind ≠ 6):=by omega
  rcases hk with rfl | rfl | rfl | rfl | rfl | rfl | rfl | hk
  ·obtain rfl : z = b0:=by rw [HO.out];simp
   go_wp2_with fail
   go_meet
   case rel => exact ⟨rfl,by go_simp,by omega,by (repeat' first|(with_reducible first|exact blR _ _|assumption|refine blD ?_|refine blN ?_ _)|((with_reducible first|refine blA ?_ ?_ _|refine blS ?_ ?_ _|refine blT (by assumption) ?_ ?_);focus (go_size;done)))⟩
  ·obtain rfl : z = b0:=by rw [HO.out];simp
   go_wp2_with fail
   go_meet
   case rel => exact ⟨rfl,by go_simp,by omega,by (repeat' first|(with_reducible first|exact blR _ _|assumption|refine blD ?_|refine blN ?_ _)|((with_reducible first|refine blA ?_ ?_ _|refine blS ?_ ?_ _|refine blT (by assumption) ?_ ?_);focus (go_size;done)))⟩
  ·obtain rfl : z = b0:=by rw [HO.out];simp
   go_wp2_with fail
   go_meet
   case rel => exact ⟨rfl,by go_simp,by omega,by (repeat' first|(with_reducible first|exact blR _ _|assumption|refine blD ?_|refine blN ?_ _)|((with_reducible first|refine blA ?_ ?_ _|refine blS ?_ ?_ _|refine blT (by assumption) ?_ ?_);focus (go_size;done)))⟩
  ·have hzz : z = (b0 && dform neg coef sc):=by rw [HO.out];simp
   have HF:=Lib.hid (fun W => form_any neg coef sc HC.out W)
   rw [← HX1.out,← HX0.out] at HF
   generalize dform neg coef sc = q at HF hzz
   cases b0 with
   | false =>
    obtain rfl : z = false:=hzz
    go_wp2_with fail
    go_meet
    case rel => exact ⟨rfl,by go_simp,by omega,by (repeat' first|(with_reducible first|exact blR _ _|assumption|refine blD ?_|refine blN ?_ _)|((with_reducible first|refine blA ?_ ?_ _|refine blS ?_ ?_ _|refine blT (by assumption) ?_ ?_);focus (go_size;done)))⟩
   | true =>
    obtain rfl : z = q:=hzz
    go_wp2_with ((go_at_call 86;with_reducible refine (HF.out _).mono ?_);rintro _ w2 ⟨rfl,hb2⟩;have hb2s:=hb2.size;(try simp only [wsA,wsS,wsD,wsN] at hb2s);obtain ⟨hb2c,hb2f⟩:=bcell hb2;(try have : w.heap.size < w2.heap.size:=by omega);(try have : w.heap.size + 1 < w2.heap.size:=by omega);(try have : w.heap.size + 1 + 1 < w2.heap.size:=by omega);(try have : w.heap.size + 1 + 1 + 1 < w2.heap.size:=by omega))
    go_meet
    case rel => exact ⟨rfl,by go_simp,by omega,by (repeat' first|(with_reducible first|exact blR _ _|assumption|refine blD ?_|refine blN ?_ _)|((with_reducible first|refine blA ?_ ?_ _|refine blS ?_ ?_ _|refine blT (by assumption) ?_ ?_);focus (go_size;done)))⟩
  ·have hzz : z = (b0 && (decide (text.length ≤ 1000) && ztxt text)):=by rw [HO.out];simp
   have HF:=Lib.hid (fun W hW => valid_any text (by have:=HTX.out;omega) W hW)
   generalize ztxt text = q at HF hzz
   cases b0 with
   | false =>
    obtain rfl : z = false:=hzz
    go_wp2_with fail
    go_meet
    case rel => exact ⟨rfl,by go_simp,by omega,by (repeat' first|(with_reducible first|exact blR _ _|assumption|refine blD ?_|refine blN ?_ _)|((with_reducible first|refine blA ?_ ?_ _|refine blS ?_ ?_ _|refine blT (by assumption) ?_ ?_);focus (go_size;done)))⟩
   | true =>
    by_cases h1 : text.length ≤ 1000
    ·rw [decide_eq_true h1] at hzz
     obtain rfl : z = q:=hzz
     have h1' : (text.length : Int) ≤ 1000:=by omega
     clear h1
     go_wp2_with ((go_at_call 93;with_reducible refine (HF.out _ (tabs_below HT.out (by (repeat' first|(with_reducible first|exact blR _ _|assumption|refine blD ?_|refine blN ?_ _)|((with_reducible first|refine blA ?_ ?_ _|refine blS ?_ ?_ _|refine blT (by assumption) ?_ ?_);focus (go_size;done)))))).mono ?_);rintro _ w2 ⟨rfl,hb2⟩;have hb2s:=hb2.size;(try simp only [wsA,wsS,wsD,wsN] at hb2s);obtain ⟨hb2c,hb2f⟩:=bcell hb2;(try have : w.heap.size < w2.heap.size:=by omega);(try have : w.heap.size + 1 < w2.heap.size:=by omega);(try have : w.heap.size + 1 + 1 < w2.heap.size:=by omega);(try have : w.heap.size + 1 + 1 + 1 < w2.heap.size:=by omega))
     go_meet
     case rel => exact ⟨rfl,by go_simp,by omega,by (repeat' first|(with_reducible first|exact blR _ _|assumption|refine blD ?_|refine blN ?_ _)|((with_reducible first|refine blA ?_ ?_ _|refine blS ?_ ?_ _|refine blT (by assumption) ?_ ?_);focus (go_size;done)))⟩
    ·rw [decide_eq_false h1] at hzz
     obtain rfl : z = false:=hzz
     have h1' : ¬ (text.length : Int) ≤ 1000:=by omega
     clear h1
     go_wp2_with fail
     go_meet
     case rel => exact ⟨rfl,by go_simp,by omega,by (repeat' first|(with_reducible first|exact blR _ _|assumption|refine blD ?_|refine blN ?_ _)|((with_reducible first|refine blA ?_ ?_ _|refine blS ?_ ?_ _|refine blT (by assumption) ?_ ?_);focus (go_size;done)))⟩
  ·have hzz : z = (b0 && dayB day):=by rw [HO.out];simp
   cases b0 with
   | false =>
    obtain rfl : z = false:=hzz
    go_wp2_with fail
    go_meet
    case rel => exact ⟨rfl,by go_simp,by omega,by (repeat' first|(with_reducible first|exact blR _ _|assumption|refine blD ?_|refine blN ?_ _)|((with_reducible first|refine blA ?_ ?_ _|refine blS ?_ ?_ _|refine blT (by assumption) ?_ ?_);focus (go_size;done)))⟩
   | true =>
    by_cases h1 : 1 ≤ day
    ·by_cases h2 : day ≤ 3652059
     ·obtain rfl : z = true:=by rw [hzz];unfold dayB;rw [decide_eq_true ⟨h1,h2⟩];rfl
      clear hzz
      go_wp2_with fail
      go_meet
      case rel => exact ⟨rfl,by go_simp,by omega,by (repeat' first|(with_reducible first|exact blR _ _|assumption|refine blD ?_|refine blN ?_ _)|((with_reducible first|refine blA ?_ ?_ _|refine blS ?_ ?_ _|refine blT (by assumption) ?_ ?_);focus (go_size;done)))⟩
     ·obtain rfl : z = false:=by rw [hzz];unfold dayB;rw [decide_eq_false (fun h => h2 h.2)];rfl
      clear hzz
      go_wp2_with fail
      go_meet
      case rel => exact ⟨rfl,by go_simp,by omega,by (repeat' first|(with_reducible first|exact blR _ _|assumption|refine blD ?_|refine blN ?_ _)|((with_reducible first|refine blA ?_ ?_ _|refine blS ?_ ?_ _|refine blT (by assumption) ?_ ?_);focus (go_size;done)))⟩
    ·obtain rfl : z = false:=by rw [hzz];unfold dayB;rw [decide_eq_false (fun h => h1 h.1)];rfl
     clear hzz
     go_wp2_with fail
     go_meet
     case rel => exact ⟨rfl,by go_simp,by omega,by (repeat' first|(with_reducible first|exact blR _ _|assumption|refine blD ?_|refine blN ?_ _)|((with_reducible first|refine blA ?_ ?_ _|refine blS ?_ ?_ _|refine blT (by assumption) ?_ ?_);focus (go_size;done)))⟩
  ·have hzz : z = (b0 && (decide (nm.length = l.length) && namesB nm)):=by rw [HO.out];simp
   have HF:=Lib.hid (fun W hW => vnames_any nm (.slice A2 nm.length C2) W hW)
   generalize namesB nm = q at HF hzz
   cases b0 with
   | false =>
    obtain rfl : z = false:=hzz
    go_wp2_with fail
    go_meet
    case rel => exact ⟨rfl,by go_simp,by omega,by (repeat' first|(with_reducible first|exact blR _ _|assumption|refine blD ?_|refine blN ?_ _)|((with_reducible first|refine blA ?_ ?_ _|refine blS ?_ ?_ _|refine blT (by assumption) ?_ ?_);focus (go_size;done)))⟩
   | true =>
    by_cases h1 : nm.length = l.length
    ·rw [decide_eq_true h1] at hzz
     obtain rfl : z = q:=hzz
     have h1' : ((nm.length : Int) == (l.length : Int)) = true:=by rw [beq_iff_eq];omega
     have H1:=Lib.hid h1
     clear h1
     go_wp2_with (go_at_call 94;(with_reducible refine (HF.out _ (HN.out.below (by (repeat' first|(with_reducible first|exact blR _ _|assumption|refine blD ?_|refine blN ?_ _)|((with_reducible first|refine blA ?_ ?_ _|refine blS ?_ ?_ _|refine blT (by assumption) ?_ ?_);focus (go_size;done)))))).mono ?_);rintro _ w2 ⟨rfl,rfl⟩)
     go_meet
     case rel => exact ⟨rfl,by go_simp,by omega,by (repeat' first|(with_reducible first|exact blR _ _|assumption|refine blD ?_|refine blN ?_ _)|((with_reducible first|refine blA ?_ ?_ _|refine blS ?_ ?_ _|refine blT (by assumption) ?_ ?_);focus (go_size;done)))⟩
    ·rw [decide_eq_false h1] at hzz
     obtain rfl : z = false:=hzz
     have h1' : ((nm.length : Int) == (l.length : Int)) = false:=by rw [beq_eq_false_iff_ne];omega
     clear h1
     go_wp2_with fail
     go_meet
     case rel => exact ⟨rfl,by go_simp,by omega,by (repeat' first|(with_reducible first|exact blR _ _|assumption|refine blD ?_|refine blN ?_ _)|((with_reducible first|refine blA ?_ ?_ _|refine blS ?_ ?_ _|refine blT (by assumption) ?_ ?_);focus (go_size;done)))⟩
  ·obtain ⟨k0,k1,k5,k2,k3,k4,k6⟩:=hk
   obtain rfl : z = false:=by
    rw [HO.out,if_neg (by rintro (h | h | h);exact k0 h;exact k1 h;exact k5 h),if_neg k2,if_neg k3,if_neg k4,if_neg k6,Bool.and_false]
   have e0 : (kind == 0) = false:=by rw [beq_eq_false_iff_ne];exact k0
   have e1 : (kind == 1) = false:=by rw [beq_eq_false_iff_ne];exact k1
   have e5 : (kind == 5) = false:=by rw [beq_eq_false_iff_ne];exact k5
   have e2 : (kind == 2) = false:=by rw [beq_eq_false_iff_ne];exact k2
   have e3 : (kind == 3) = false:=by rw [beq_eq_false_iff_ne];exact k3
   have e4 : (kind == 4) = false:=by rw [beq_eq_false_iff_ne];exact k4
   have e6 : (kind == 6) = false:=by rw [beq_eq_false_iff_ne];exact k6
   clear k0 k1 k5 k2 k3 k4 k6
   go_wp2_with fail
   go_meet
   case rel => exact ⟨rfl,by go_simp,by omega,by (repeat' first|(with_reducible first|exact blR _ _|assumption|refine blD ?_|refine blN ?_ _)|((with_reducible first|refine blA ?_ ?_ _|refine blS ?_ ?_ _|refine blT (by assumption) ?_ ?_);focus (go_size;done)))⟩
 case rest =>
  obtain ⟨rfl,c8,hsz1,hbel1⟩:=hcut
  clear HO HB HX1 HX0 HC HTX HN HNL
  obtain ⟨w5,rfl⟩ : ∃ w5 : World,w5 = wc:=⟨_,rfl⟩
  go_wp2_with fail
  go_loopg [4,5,73] l.length (fun k s4 s5 s73 wr => ∃ (t n : Nat) (y : Bool),k + t = l.length ∧ s73 = .int .i64 t ∧ s5 = .int .i64 n ∧ s4 = .bool y ∧ Hid (n = deeps (l.take t)) ∧ n ≤ 1000000 ∧ Hid (y = (z && oks (l.take t))) ∧ w.heap.size < wr.heap.size ∧ Below w.heap.size w wr)
  case atStart => exact ⟨0,0,z,by omega,rfl,rfl,rfl,Lib.hid (by rw [List.take_zero];rfl),by omega,Lib.hid (by rw [List.take_zero];simp [oks]),by omega,by (repeat' first|(with_reducible first|exact blR _ _|assumption|refine blD ?_|refine blN ?_ _)|((with_reducible first|refine blA ?_ ?_ _|refine blS ?_ ?_ _|refine blT (by assumption) ?_ ?_);focus (go_size;done)))⟩
  case round =>
   obtain ⟨t,n,y,hk,rfl,rfl,rfl,HD,n2,HY,hsz,hbel⟩:=hrel
   have HK:=Lib.hid hk
   have htn : t ≤ l.length:=by omega
   clear hk c8 hbel1 hsz1
   by_cases hlt : t < l.length
   ·obtain ⟨b,o,B1,D1,B2,D2,rfl,hat,hx⟩:=(HV.out.below hbel (fun _ _ _ h => HR.out _ _ _ _ _ h hbel)).at hlt
    obtain ⟨a0,a1,a2,a3,a4,a5,a6,a7,a8,a9⟩:=hat.val
    have lb:=vcell_lt a0
    have hst:=deeps_take hlt
    have hso:=oks_take hlt
    have hs2:=vg_size hlt
    have hd:=deep_size (vg l t)
    have hle : deeps (l.take (t + 1)) ≤ sizes l:=Nat.le_trans (deeps_sizes _) (sizes_le (t + 1))
    have hsz9:=HSZ.out
    obtain ⟨x,hxx⟩ : ∃ x,x = vg l t:=⟨_,rfl⟩
    rw [← hxx] at hx a0 a1 a2 a3 a4 a5 a6 a7 a8 a9 hst hs2 hd hso
    obtain ⟨n1',hn1⟩ : ∃ n1',n1' = x.list.length:=⟨_,rfl⟩
    obtain ⟨n2',hn2⟩ : ∃ n2',n2' = x.names.length:=⟨_,rfl⟩
    rw [← hn1] at a8 hx
    rw [← hn2] at a9 hx
    have HX:=Lib.hid hx
    have HC:=Lib.hid (fun W hW hT => HH.out x (.slice B1 n1' D1) (.slice B2 n2' D2) W hT (by omega) (HR.out _ _ _ _ _ HX.out hW))
    obtain ⟨q,hq⟩ : ∃ q,q = x.deep:=⟨_,rfl⟩
    obtain ⟨v,hv⟩ : ∃ v,v = okV x:=⟨_,rfl⟩
    rw [← hq,← hv] at HC
    rw [← hq] at hst hd
    rw [← hv] at hso
    have hq2 : q ≤ 1000000:=by omega
    have HQ:=Lib.hid hst
    have HO:=Lib.hid hso
    clear hat hx hxx hn1 hn2 hst hd hs2 hq hle hv hso hsz9
    rcases Int.lt_or_le (n : Int) (q : Int) with hm | hm
    ·cases y with
     | false =>
      go_wp2_with (go_at_call 70;(with_reducible refine (HC.out _ (by (repeat' first|(with_reducible first|exact blR _ _|assumption|refine blD ?_|refine blN ?_ _)|((with_reducible first|refine blA ?_ ?_ _|refine blS ?_ ?_ _|refine blT (by assumption) ?_ ?_);focus (go_size;done)))) (tabs_below HT.out (by (repeat' first|(with_reducible first|exact blR _ _|assumption|refine blD ?_|refine blN ?_ _)|((with_reducible first|refine blA ?_ ?_ _|refine blS ?_ ?_ _|refine blT (by assumption) ?_ ?_);focus (go_size;done)))))).mono ?_);rintro _ w2 ⟨rfl,hb2⟩;have hb2s:=hb2.size;(try simp only [wsA,wsS,wsD,wsN] at hb2s);obtain ⟨hb2c,hb2f⟩:=bcell hb2;(try have : w.heap.size < w2.heap.size:=by omega);(try have : w.heap.size + 1 < w2.heap.size:=by omega);(try have : w.heap.size + 1 + 1 < w2.heap.size:=by omega);(try have : w.heap.size + 1 + 1 + 1 < w2.heap.size:=by omega))
      go_roundg (gk - 1)
      case measure => have:=HK.out;omega
      case rel => exact ⟨t + 1,q,false,by have:=HK.out;omega,by go_num,by (congr 1;omega),rfl,Lib.hid (by rw [HQ.out,← HD.out];omega),hq2,Lib.hid (by rw [HO.out,← Bool.and_assoc,← HY.out];rfl),by omega,by (repeat' first|(with_reducible first|exact blR _ _|assumption|refine blD ?_|refine blN ?_ _)|((with_reducible first|refine blA ?_ ?_ _|refine blS ?_ ?_ _|refine blT (by assumption) ?_ ?_);focus (go_size;done)))⟩
     | true =>
      go_wp2_with (go_at_call 70;(with_reducible refine (HC.out _ (by (repeat' first|(with_reducible first|exact blR _ _|assumption|refine blD ?_|refine blN ?_ _)|((with_reducible first|refine blA ?_ ?_ _|refine blS ?_ ?_ _|refine blT (by assumption) ?_ ?_);focus (go_size;done)))) (tabs_below HT.out (by (repeat' first|(with_reducible first|exact blR _ _|assumption|refine blD ?_|refine blN ?_ _)|((with_reducible first|refine blA ?_ ?_ _|refine blS ?_ ?_ _|refine blT (by assumption) ?_ ?_);focus (go_size;done)))))).mono ?_);rintro _ w2 ⟨rfl,hb2⟩;have hb2s:=hb2.size;(try simp only [wsA,wsS,wsD,wsN] at hb2s);obtain ⟨hb2c,hb2f⟩:=bcell hb2;(try have : w.heap.size < w2.heap.size:=by omega);(try have : w.heap.size + 1 < w2.heap.size:=by omega);(try have : w.heap.size + 1 + 1 < w2.heap.size:=by omega);(try have : w.heap.size + 1 + 1 + 1 < w2.heap.size:=by omega))
      go_roundg (gk - 1)
      case measure => have:=HK.out;omega
      case rel => exact ⟨t + 1,q,v,by have:=HK.out;omega,by go_num,by (congr 1;omega),rfl,Lib.hid (by rw [HQ.out,← HD.out];omega),hq2,Lib.hid (by rw [HO.out,← Bool.and_assoc,← HY.out];rfl),by omega,by (repeat' first|(with_reducible first|exact blR _ _|assumption|refine blD ?_|refine blN ?_ _)|((with_reducible first|refine blA ?_ ?_ _|refine blS ?_ ?_ _|refine blT (by assumption) ?_ ?_);focus (go_size;done)))⟩
    ·cases y with
     | false =>
      go_wp2_with (go_at_call 70;(with_reducible refine (HC.out _ (by (repeat' first|(with_reducible first|exact blR _ _|assumption|refine blD ?_|refine blN ?_ _)|((with_reducible first|refine blA ?_ ?_ _|refine blS ?_ ?_ _|refine blT (by assumption) ?_ ?_);focus (go_size;done)))) (tabs_below HT.out (by (repeat' first|(with_reducible first|exact blR _ _|assumption|refine blD ?_|refine blN ?_ _)|((with_reducible first|refine blA ?_ ?_ _|refine blS ?_ ?_ _|refine blT (by assumption) ?_ ?_);focus (go_size;done)))))).mono ?_);rintro _ w2 ⟨rfl,hb2⟩;have hb2s:=hb2.size;(try simp only [wsA,wsS,wsD,wsN] at hb2s);obtain ⟨hb2c,hb2f⟩:=bcell hb2;(try have : w.heap.size < w2.heap.size:=by omega);(try have : w.heap.size + 1 < w2.heap.size:=by omega);(try have : w.heap.size + 1 + 1 < w2.heap.size:=by omega);(try have : w.heap.size + 1 + 1 + 1 < w2.heap.size:=by omega))
      go_roundg (gk - 1)
      case measure => have:=HK.out;omega
      case rel => exact ⟨t + 1,n,false,by have:=HK.out;omega,by go_num,by (congr 1;omega),rfl,Lib.hid (by rw [HQ.out,← HD.out];omega),n2,Lib.hid (by rw [HO.out,← Bool.and_assoc,← HY.out];rfl),by omega,by (repeat' first|(with_reducible first|exact blR _ _|assumption|refine blD ?_|refine blN ?_ _)|((with_reducible first|refine blA ?_ ?_ _|refine blS ?_ ?_ _|refine blT (by assumption) ?_ ?_);focus (go_size;done)))⟩
     | true =>
      go_wp2_with (go_at_call 70;(with_reducible refine (HC.out _ (by (repeat' first|(with_reducible first|exact blR _ _|assumption|refine blD ?_|refine blN ?_ _)|((with_reducible first|refine blA ?_ ?_ _|refine blS ?_ ?_ _|refine blT (by assumption) ?_ ?_);focus (go_size;done)))) (tabs_below HT.out (by (repeat' first|(with_reducible first|exact blR _ _|assumption|refine blD ?_|refine blN ?_ _)|((with_reducible first|refine blA ?_ ?_ _|refine blS ?_ ?_ _|refine blT (by assumption) ?_ ?_);focus (go_size;done)))))).mono ?_);rintro _ w2 ⟨rfl,hb2⟩;have hb2s:=hb2.size;(try simp only [wsA,wsS,wsD,wsN] at hb2s);obtain ⟨hb2c,hb2f⟩:=bcell hb2;(try have : w.heap.size < w2.heap.size:=by omega);(try have : w.heap.size + 1 < w2.heap.size:=by omega);(try have : w.heap.size + 1 + 1 < w2.heap.size:=by omega);(try have : w.heap.size + 1 + 1 + 1 < w2.heap.size:=by omega))
      go_roundg (gk - 1)
      case measure => have:=HK.out;omega
      case rel => exact ⟨t + 1,n,v,by have:=HK.out;omega,by go_num,by (congr 1;omega),rfl,Lib.hid (by rw [HQ.out,← HD.out];omega),n2,Lib.hid (by rw [HO.out,← Bool.and_assoc,← HY.out];rfl),by omega,by (repeat' first|(with_reducible first|exact blR _ _|assumption|refine blD ?_|refine blN ?_ _)|((with_reducible first|refine blA ?_ ?_ _|refine blS ?_ ?_ _|refine blT (by assumption) ?_ ?_);focus (go_size;done)))⟩
   ·obtain rfl : t = l.length:=by omega
    have hz : n = deeps l:=by have:=HD.out;rwa [List.take_length] at this
    have hy : y = (z && oks l):=by have:=HY.out;rwa [List.take_length] at this
    have HZ1:=Lib.hid hz
    have HY1:=Lib.hid hy
    clear hz hy hlt
    go_wp2_with fail
    go_ret2
    exact ⟨by rw [← HZ1.out,← HY1.out];first | rfl | (congr 3;omega),by (repeat' first|(with_reducible first|exact blR _ _|assumption|refine blD ?_|refine blN ?_ _)|((with_reducible first|refine blA ?_ ?_ _|refine blS ?_ ?_ _|refine blT (by assumption) ?_ ?_);focus (go_size;done)))⟩
theorem shape_any : ∀ n,ShapeOf (VR n)
 | 0,_,_,_,_,_,_,h => h.elim
 | n + 1,x,L,N,w,hT,h1,h => by
  obtain ⟨A,C,rfl,_⟩:=h.2.1.is
  obtain ⟨A2,C2,rfl,_⟩:=h.2.2.is
  rw [VD.deep_eq,okV_eq]
  exact shape_step (VR n) (fun _ _ _ _ _ h hb => h.below hb) (shape_any n) x.s x.list x.names A C A2 C2 w h.1 hT (by rw [VD.size_eq] at h1;omega) h.2.1 h.2.2
end Go.Proofs.YtkjecoanlppeaaaGreatDoor



namespace Go.Proofs.YtkjecoanlppeaaaGreatDoor
open Go.RowKit

/-- the size in units of 10^-18 -/
def unit (c s : Nat) : Nat:=c * 10 ^ (18 - s)
def sgn (an : Bool) (x : Nat) (bn : Bool) (y : Nat) : Bool:=if an = bn then an else if y ≤ x then an else bn
def sab (an : Bool) (x : Nat) (bn : Bool) (y : Nat) : Nat:=if an = bn then x + y else if y ≤ x then x - y else y - x
theorem sgn_scale (an bn : Bool) (x y k : Nat) (hk : 0 < k) : sgn an (x * k) bn (y * k) = sgn an x bn y:=by
 unfold sgn
 have e : y * k ≤ x * k ↔ y ≤ x:=Nat.mul_le_mul_right_iff hk
 simp only [e]
theorem sab_scale (an bn : Bool) (x y k : Nat) (hk : 0 < k) : sab an (x * k) bn (y * k) = sab an x bn y * k:=by
 unfold sab
 have e : y * k ≤ x * k ↔ y ≤ x:=Nat.mul_le_mul_right_iff hk
 simp only [e]
 split
 ·rw [Nat.add_mul]
 ·split <;> rw [Nat.sub_mul]
theorem unit_split (c s m : Nat) (h : s ≤ m) (h18 : m ≤ 18) : unit c s = c * 10 ^ (m - s) * 10 ^ (18 - m):=by
 unfold unit
 rw [Nat.mul_assoc,← Nat.pow_add];congr 2;omega
theorem scaled_lt {c s m : Nat} (h : c < B34) (hm : m ≤ 18) : c * 10 ^ (m - s) < 10 ^ 52:=by
 have h1 : c * 10 ^ (m - s) ≤ c * 10 ^ 18:=Nat.mul_le_mul_left _ (Nat.pow_le_pow_right (by decide) (by omega))
 have h2 : c * 10 ^ 18 < B34 * 10 ^ 18:=Nat.mul_lt_mul_of_pos_right h (by decide)
 have h3 : B34 * 10 ^ 18 = 10 ^ 52:=by unfold B34;decide
 omega
/-- a fraction of a power of ten, in other units -/
theorem fit_units (u m : Nat) (h : m ≤ 18) : FitC (u * 10 ^ (18 - m)) (10 ^ 18) = FitC u (10 ^ m) ∧ FitS (u * 10 ^ (18 - m)) (10 ^ 18) = FitS u (10 ^ m) ∧ FitE (u * 10 ^ (18 - m)) (10 ^ 18) = FitE u (10 ^ m):=by
 have e : 10 ^ 18 = 10 ^ m * 10 ^ (18 - m):=by rw [← Nat.pow_add];congr 1;omega
 rw [e]
 exact fit_scale u (10 ^ m) (10 ^ (18 - m)) (Nat.pow_pos (by decide))
theorem sum_units (an bn : Bool) (ca cb sa sb m : Nat) (ha : sa ≤ m) (hb : sb ≤ m) (h : m ≤ 18) :
  sgn an (unit ca sa) bn (unit cb sb) = sgn an (ca * 10 ^ (m - sa)) bn (cb * 10 ^ (m - sb)) ∧ sab an (unit ca sa) bn (unit cb sb) = sab an (ca * 10 ^ (m - sa)) bn (cb * 10 ^ (m - sb)) * 10 ^ (18 - m):=by
 rw [unit_split ca sa m ha h,unit_split cb sb m hb h]
 have hp : 0 < 10 ^ (18 - m):=Nat.pow_pos (by decide)
 exact ⟨sgn_scale _ _ _ _ _ hp,sab_scale _ _ _ _ _ hp⟩
/-- the order -/
def ordD (an : Bool) (x : Nat) (bn : Bool) (y : Nat) : Int:=if an = bn then (if an = true then cmpN y x else cmpN x y) else if an = true then -1 else 1
theorem cmpN_scale (x y k : Nat) (hk : 0 < k) : cmpN (x * k) (y * k) = cmpN x y:=by
 unfold cmpN
 have e1 : x * k = y * k ↔ x = y:=Nat.mul_left_inj (Nat.ne_of_gt hk)
 have e2 : x * k < y * k ↔ x < y:=Nat.mul_lt_mul_right hk
 simp only [e1,e2]
theorem ordD_scale (an bn : Bool) (x y k : Nat) (hk : 0 < k) : ordD an (x * k) bn (y * k) = ordD an x bn y:=by
 unfold ordD;rw [cmpN_scale _ _ _ hk,cmpN_scale _ _ _ hk]
theorem ord_units (an bn : Bool) (ca cb sa sb m : Nat) (ha : sa ≤ m) (hb : sb ≤ m) (h : m ≤ 18) :
  ordD an (unit ca sa) bn (unit cb sb) = ordD an (ca * 10 ^ (m - sa)) bn (cb * 10 ^ (m - sb)):=by
 rw [unit_split ca sa m ha h,unit_split cb sb m hb h]
 exact ordD_scale _ _ _ _ _ (Nat.pow_pos (by decide))
end Go.Proofs.YtkjecoanlppeaaaGreatDoor



namespace Go.Proofs.YtkjecoanlppeaaaGreatDoor
open Go.RowKit

theorem IsDg.one : IsDg [1] 1:=⟨by intro d hd;rw [List.mem_singleton.1 hd];decide,by simp [Top],rfl⟩
end Go.Proofs.YtkjecoanlppeaaaGreatDoor



namespace Go.Proofs.YtkjecoanlppeaaaGreatDoor
open Go.RowKit

def Mem2 (w wx : World) (A : Option Addr) (n C : Nat) (A2 : Option Addr) (n2 C2 : Nat) : Prop:=wx.cell? ⟨w.heap.size,8,none⟩ = some (.slice A n C) ∧ wx.cell? ⟨w.heap.size,9,none⟩ = some (.slice A2 n2 C2) ∧ w.heap.size < wx.heap.size ∧ Below w.heap.size w wx
theorem Mem2.below {w wx w' : World} {A : Option Addr} {n C : Nat} {A2 : Option Addr} {n2 C2 : Nat} (h : Mem2 w wx A n C A2 n2 C2) (hb : Below wx.heap.size wx w') : Mem2 w w' A n C A2 n2 C2:=by
 obtain ⟨h1,h2,h3,h4⟩:=h
 exact ⟨(hb.cell (p:=⟨w.heap.size,8,none⟩) h3).trans h1,(hb.cell (p:=⟨w.heap.size,9,none⟩) h3).trans h2,Nat.lt_of_lt_of_le h3 hb.size,h4.trans (hb.mono (Nat.le_of_lt h3))⟩
theorem Mem2.drewN {w wx : World} {A : Option Addr} {n C : Nat} {A2 : Option Addr} {n2 C2 : Nat} (h : Mem2 w wx A n C A2 n2 C2) (k : Nat) : Mem2 w (wx.drewN k) A n C A2 n2 C2:=⟨h.1,h.2.1,h.2.2.1,below_drewN h.2.2.2 k⟩
end Go.Proofs.YtkjecoanlppeaaaGreatDoor



namespace Go.Proofs.YtkjecoanlppeaaaGreatDoor
open Go.RowKit

def chkV (d : VD) : Int:=if 1000 < d.size then 6 else if 16 < d.deep then 7 else if okV d then 0 else 2
/-- a value as it stands in a call -/
@[reducible] def vargs (d : VD) (A : Option Addr) (C : Nat) (A2 : Option Addr) (C2 : Nat) : Value:=vagg d.s (.slice A d.list.length C) (.slice A2 d.names.length C2)
def VA (w : World) (d : VD) (A : Option Addr) (C : Nat) (A2 : Option Addr) (C2 : Nat) : Prop:=RV w (.slice A d.list.length C) (.slice A2 d.names.length C2) d
theorem VA.below {w w' : World} {d : VD} {A : Option Addr} {C : Nat} {A2 : Option Addr} {C2 : Nat} (h : VA w d A C A2 C2) (hb : Below w.heap.size w w') : VA w' d A C A2 C2:=RV.below h hb
theorem cnt_gt {s : Nat} {m : Int} : m < cnt s m ↔ m < s:=by unfold cnt;split <;> omega
set_option maxRecDepth 100000 in
set_option maxHeartbeats 1000000 in
theorem vcheck_any (d : VD) (A : Option Addr) (C : Nat) (A2 : Option Addr) (C2 : Nat) (w : World) (hT : Tabs w) (h : VA w d A C A2 C2) :
  Calls Tryz.prog 40 #[vargs d A C A2 C2] w fun e w' => e = .returned (.int .i64 (chkV d)) ∧ Below w.heap.size w w':=by
 obtain ⟨n,hn⟩:=h
 have hc1:=fun (W : World) (hW : Below w.heap.size w W) => count_any n d (.slice A d.list.length C) (.slice A2 d.names.length C2) 1000 W (by omega) (by omega) (hn.below hW)
 have hc2:=fun (W : World) (hW : Below w.heap.size w W) (hz : d.size ≤ 1000000) => shape_any n d (.slice A d.list.length C) (.slice A2 d.names.length C2) W (tabs_below hT hW) hz (hn.below hW)
 obtain ⟨z,hz⟩ : ∃ z,z = chkV d:=⟨_,rfl⟩
 rw [← hz]
 unfold chkV at hz
 obtain ⟨S,hS⟩ : ∃ S,S = d.size:=⟨_,rfl⟩
 obtain ⟨D,hD⟩ : ∃ D,D = d.deep:=⟨_,rfl⟩
 obtain ⟨K,hK⟩ : ∃ K,K = okV d:=⟨_,rfl⟩
 rw [← hS,← hD,← hK] at hz
 rw [← hS] at hc1
 rw [← hS,← hD,← hK] at hc2
 have hcb:=cnt_le (s:=S) (m:=1000) (by omega) (by rw [hS];exact size_pos d)
 have hgt:=cnt_gt (s:=S) (m:=1000)
 obtain ⟨c,hc⟩ : ∃ c,c = cnt S 1000:=⟨_,rfl⟩
 rw [← hc] at hc1 hcb hgt
 obtain ⟨s,l,nm⟩:=d
 obtain ⟨kind,yes,neg,coef,sc,text,day⟩:=s
 unfold vargs vagg
 unfold vagg at hc1 hc2
 dsimp only [VD.s,VD.list,VD.names] at hc1 hc2 ⊢
 have H1:=Lib.hid hc1
 have H2:=Lib.hid hc2
 clear hc1 hc2 hn hS hD hK hT hc
 by_cases hb : (1000 : Int) < c
 ·obtain rfl : z = 6:=by rw [hz,if_pos (by have:=hgt.1 hb;omega)]
  clear hz hgt H2
  go_enter Tryz.func40,Tryz.ntmps40
  go_wp2_with ((go_at_call 69;with_reducible refine (H1.out _ (by (repeat' first|(with_reducible first|exact blR _ _|assumption|refine blD ?_|refine blN ?_ _)|((with_reducible first|refine blA ?_ ?_ _|refine blS ?_ ?_ _|refine blT (by assumption) ?_ ?_);focus (go_size;done))))).mono ?_);rintro _ w1 ⟨rfl,hb1⟩;have hb1s:=hb1.size;(try simp only [wsA,wsS,wsD,wsN] at hb1s);obtain ⟨hb1c,hb1f⟩:=bcell hb1;(try have : w.heap.size < w1.heap.size:=by omega);(try have : w.heap.size + 1 < w1.heap.size:=by omega);(try have : w.heap.size + 1 + 1 < w1.heap.size:=by omega);(try have : w.heap.size + 1 + 1 + 1 < w1.heap.size:=by omega))
  go_ret
  exact ⟨rfl,by (repeat' first|(with_reducible first|exact blR _ _|assumption|refine blD ?_|refine blN ?_ _)|((with_reducible first|refine blA ?_ ?_ _|refine blS ?_ ?_ _|refine blT (by assumption) ?_ ?_);focus (go_size;done)))⟩
 ·have hs : ¬ 1000 < S:=fun h => hb (hgt.2 (by omega))
  rw [if_neg hs] at hz
  have H3:=Lib.hid (fun W hW => H2.out W hW (by omega))
  clear H2 hgt hs
  by_cases hd : 16 < D
  ·obtain rfl : z = 7:=by rw [hz,if_pos hd]
   have hd' : (16 : Int) < (D : Int):=by omega
   clear hz
   go_enter Tryz.func40,Tryz.ntmps40
   go_wp2_with (first | ((go_at_call 69;with_reducible refine (H1.out _ (by (repeat' first|(with_reducible first|exact blR _ _|assumption|refine blD ?_|refine blN ?_ _)|((with_reducible first|refine blA ?_ ?_ _|refine blS ?_ ?_ _|refine blT (by assumption) ?_ ?_);focus (go_size;done))))).mono ?_);rintro _ w1 ⟨rfl,hb1⟩;have hb1s:=hb1.size;(try simp only [wsA,wsS,wsD,wsN] at hb1s);obtain ⟨hb1c,hb1f⟩:=bcell hb1;(try have : w.heap.size < w1.heap.size:=by omega);(try have : w.heap.size + 1 < w1.heap.size:=by omega);(try have : w.heap.size + 1 + 1 < w1.heap.size:=by omega);(try have : w.heap.size + 1 + 1 + 1 < w1.heap.size:=by omega)) | ((go_at_call 70;with_reducible refine (H3.out _ (by (repeat' first|(with_reducible first|exact blR _ _|assumption|refine blD ?_|refine blN ?_ _)|((with_reducible first|refine blA ?_ ?_ _|refine blS ?_ ?_ _|refine blT (by assumption) ?_ ?_);focus (go_size;done))))).mono ?_);rintro _ w2 ⟨rfl,hb2⟩;have hb2s:=hb2.size;(try simp only [wsA,wsS,wsD,wsN] at hb2s);obtain ⟨hb2c,hb2f⟩:=bcell hb2;(try have : w.heap.size < w2.heap.size:=by omega);(try have : w.heap.size + 1 < w2.heap.size:=by omega);(try have : w.heap.size + 1 + 1 < w2.heap.size:=by omega);(try have : w.heap.size + 1 + 1 + 1 < w2.heap.size:=by omega);(try have : w1.heap.size < w2.heap.size:=by omega);(try have : w1.heap.size + 1 < w2.heap.size:=by omega);(try have : w1.heap.size + 1 + 1 < w2.heap.size:=by omega);(try have : w1.heap.size + 1 + 1 + 1 < w2.heap.size:=by omega)))
   go_ret
   exact ⟨rfl,by (repeat' first|(with_reducible first|exact blR _ _|assumption|refine blD ?_|refine blN ?_ _)|((with_reducible first|refine blA ?_ ?_ _|refine blS ?_ ?_ _|refine blT (by assumption) ?_ ?_);focus (go_size;done)))⟩
  ·rw [if_neg hd] at hz
   have hd' : ¬ (16 : Int) < (D : Int):=by omega
   cases K with
   | true =>
    obtain rfl : z = 0:=hz
    go_enter Tryz.func40,Tryz.ntmps40
    go_wp2_with (first | ((go_at_call 69;with_reducible refine (H1.out _ (by (repeat' first|(with_reducible first|exact blR _ _|assumption|refine blD ?_|refine blN ?_ _)|((with_reducible first|refine blA ?_ ?_ _|refine blS ?_ ?_ _|refine blT (by assumption) ?_ ?_);focus (go_size;done))))).mono ?_);rintro _ w1 ⟨rfl,hb1⟩;have hb1s:=hb1.size;(try simp only [wsA,wsS,wsD,wsN] at hb1s);obtain ⟨hb1c,hb1f⟩:=bcell hb1;(try have : w.heap.size < w1.heap.size:=by omega);(try have : w.heap.size + 1 < w1.heap.size:=by omega);(try have : w.heap.size + 1 + 1 < w1.heap.size:=by omega);(try have : w.heap.size + 1 + 1 + 1 < w1.heap.size:=by omega)) | ((go_at_call 70;with_reducible refine (H3.out _ (by (repeat' first|(with_reducible first|exact blR _ _|assumption|refine blD ?_|refine blN ?_ _)|((with_reducible first|refine blA ?_ ?_ _|refine blS ?_ ?_ _|refine blT (by assumption) ?_ ?_);focus (go_size;done))))).mono ?_);rintro _ w2 ⟨rfl,hb2⟩;have hb2s:=hb2.size;(try simp only [wsA,wsS,wsD,wsN] at hb2s);obtain ⟨hb2c,hb2f⟩:=bcell hb2;(try have : w.heap.size < w2.heap.size:=by omega);(try have : w.heap.size + 1 < w2.heap.size:=by omega);(try have : w.heap.size + 1 + 1 < w2.heap.size:=by omega);(try have : w.heap.size + 1 + 1 + 1 < w2.heap.size:=by omega);(try have : w1.heap.size < w2.heap.size:=by omega);(try have : w1.heap.size + 1 < w2.heap.size:=by omega);(try have : w1.heap.size + 1 + 1 < w2.heap.size:=by omega);(try have : w1.heap.size + 1 + 1 + 1 < w2.heap.size:=by omega)))
    go_ret
    exact ⟨rfl,by (repeat' first|(with_reducible first|exact blR _ _|assumption|refine blD ?_|refine blN ?_ _)|((with_reducible first|refine blA ?_ ?_ _|refine blS ?_ ?_ _|refine blT (by assumption) ?_ ?_);focus (go_size;done)))⟩
   | false =>
    obtain rfl : z = 2:=hz
    go_enter Tryz.func40,Tryz.ntmps40
    go_wp2_with (first | ((go_at_call 69;with_reducible refine (H1.out _ (by (repeat' first|(with_reducible first|exact blR _ _|assumption|refine blD ?_|refine blN ?_ _)|((with_reducible first|refine blA ?_ ?_ _|refine blS ?_ ?_ _|refine blT (by assumption) ?_ ?_);focus (go_size;done))))).mono ?_);rintro _ w1 ⟨rfl,hb1⟩;have hb1s:=hb1.size;(try simp only [wsA,wsS,wsD,wsN] at hb1s);obtain ⟨hb1c,hb1f⟩:=bcell hb1;(try have : w.heap.size < w1.heap.size:=by omega);(try have : w.heap.size + 1 < w1.heap.size:=by omega);(try have : w.heap.size + 1 + 1 < w1.heap.size:=by omega);(try have : w.heap.size + 1 + 1 + 1 < w1.heap.size:=by omega)) | ((go_at_call 70;with_reducible refine (H3.out _ (by (repeat' first|(with_reducible first|exact blR _ _|assumption|refine blD ?_|refine blN ?_ _)|((with_reducible first|refine blA ?_ ?_ _|refine blS ?_ ?_ _|refine blT (by assumption) ?_ ?_);focus (go_size;done))))).mono ?_);rintro _ w2 ⟨rfl,hb2⟩;have hb2s:=hb2.size;(try simp only [wsA,wsS,wsD,wsN] at hb2s);obtain ⟨hb2c,hb2f⟩:=bcell hb2;(try have : w.heap.size < w2.heap.size:=by omega);(try have : w.heap.size + 1 < w2.heap.size:=by omega);(try have : w.heap.size + 1 + 1 < w2.heap.size:=by omega);(try have : w.heap.size + 1 + 1 + 1 < w2.heap.size:=by omega);(try have : w1.heap.size < w2.heap.size:=by omega);(try have : w1.heap.size + 1 < w2.heap.size:=by omega);(try have : w1.heap.size + 1 + 1 < w2.heap.size:=by omega);(try have : w1.heap.size + 1 + 1 + 1 < w2.heap.size:=by omega)))
    go_ret
    exact ⟨rfl,by (repeat' first|(with_reducible first|exact blR _ _|assumption|refine blD ?_|refine blN ?_ _)|((with_reducible first|refine blA ?_ ?_ _|refine blS ?_ ?_ _|refine blT (by assumption) ?_ ?_);focus (go_size;done)))⟩
end Go.Proofs.YtkjecoanlppeaaaGreatDoor



namespace Go.Proofs.YtkjecoanlppeaaaGreatDoor
open Go.RowKit

/-- all of them are in form -/
def allC (l : List VD) : Bool:=l.all fun d => decide (chkV d = 0)
theorem allC_iff {l : List VD} : allC l = true ↔ ∀ t,t < l.length → chkV (vg l t) = 0:=by
 unfold allC
 rw [List.all_eq_true]
 constructor
 ·intro h t ht
  have:=h (vg l t) (by unfold vg;rw [List.getD_eq_getElem?_getD,List.getElem?_eq_getElem ht];exact List.getElem_mem _)
  exact of_decide_eq_true this
 ·intro h x hx
  obtain ⟨t,ht,rfl⟩:=List.mem_iff_getElem.1 hx
  have:=h t ht
  unfold vg at this
  rw [List.getD_eq_getElem?_getD,List.getElem?_eq_getElem ht] at this
  exact decide_eq_true this
end Go.Proofs.YtkjecoanlppeaaaGreatDoor



namespace Go.Proofs.YtkjecoanlppeaaaGreatDoor
open Go.RowKit

/-- the place of the first value that p takes; -1: there is none -/
def idxV (p : VD → Bool) (l : List VD) : Int:=if l.findIdx p < l.length then l.findIdx p else -1
theorem idxV_hit {p : VD → Bool} {l : List VD} {t : Nat} (h : t < l.length) (hp : p (vg l t) = true) (hn : ∀ i,i < t → p (vg l i) = false) : idxV p l = t:=by
 have e : l.findIdx p = t:=by
  refine (List.findIdx_eq h).2 ⟨?_,fun j hj => ?_⟩
  ·have:=hp
   unfold vg at this
   rwa [List.getD_eq_getElem?_getD,List.getElem?_eq_getElem h] at this
  ·have:=hn j hj
   unfold vg at this
   rwa [List.getD_eq_getElem?_getD,List.getElem?_eq_getElem (by omega)] at this
 unfold idxV
 rw [e,if_pos h]
theorem idxV_none {p : VD → Bool} {l : List VD} (hn : ∀ i,i < l.length → p (vg l i) = false) : idxV p l = -1:=by
 unfold idxV
 rw [if_neg]
 intro h
 have:=List.findIdx_getElem (w:=h)
 have h2:=hn _ h
 unfold vg at h2
 rw [List.getD_eq_getElem?_getD,List.getElem?_eq_getElem h] at h2
 have h3 : p l[l.findIdx p] = false:=h2
 rw [h3] at this
 exact Bool.noConfusion this
theorem idxV_neg {p : VD → Bool} {l : List VD} : (0 ≤ idxV p l) ↔ ∃ t,t < l.length ∧ p (vg l t) = true:=by
 by_cases h : ∃ t,t < l.length ∧ p (vg l t) = true
 ·refine ⟨fun _ => h,fun _ => ?_⟩
  unfold idxV
  split
  ·omega
  ·rename_i hn
   obtain ⟨t,ht,hp⟩:=h
   exact absurd (List.findIdx_lt_length_of_exists ⟨vg l t,by unfold vg;rw [List.getD_eq_getElem?_getD,List.getElem?_eq_getElem ht];exact List.getElem_mem _,hp⟩) hn
 ·refine ⟨fun h0 => ?_,fun q => absurd q h⟩
  rw [idxV_none (fun i hi => by
   cases hp : p (vg l i) with
   | false => rfl
   | true => exact absurd ⟨i,hi,hp⟩ h)] at h0
  omega
set_option maxRecDepth 100000 in
set_option maxHeartbeats 1000000 in
theorem idx_right (cap0 : Array Value) (p : VD → Bool) (G : World → Prop) (hG : ∀ W W',G W → Below W.heap.size W W' → G W') (hp : ∀ (x : VD) (A : Option Addr) (C : Nat) (A2 : Option Addr) (C2 : Nat) (W : World),G W → VA W x A C A2 C2 → Calls Tryz.prog 80 #[vargs x A C A2 C2] W fun e w' => e = .returned (.bool (p x)) ∧ Below W.heap.size W w')
  (l : List VD) (v : Value) (w : World) (h : Vls (RV w) w v l) (hw : G w) :
  Calls Tryz.prog 81 #[v,.func (.func 80) #[] #[]] w fun e w' => e = .returned (.int .i64 (idxV p l)) ∧ Below w.heap.size w w':=by
 obtain ⟨A,C,rfl,hll⟩:=h.is
 have HV:=Lib.hid h
 have HP:=Lib.hid hp
 have HG:=Lib.hid hG
 have HW:=Lib.hid hw
 obtain ⟨z,hz⟩ : ∃ z,z = idxV p l:=⟨_,rfl⟩
 rw [← hz]
 have HZ:=Lib.hid hz
 clear h hp hG hw hz
 go_enter Tryz.func81,Tryz.ntmps81
 go_wp2_with fail
 go_loopg [8] l.length (fun k s8 wr => ∃ t : Nat,k + t = l.length ∧ s8 = .int .i64 t ∧ Hid (∀ i,i < t → p (vg l i) = false) ∧ w.heap.size ≤ wr.heap.size ∧ Below w.heap.size w wr)
 case atStart => exact ⟨0,by omega,rfl,Lib.hid (fun i hi => absurd hi (Nat.not_lt_zero _)),by omega,by (repeat' first|(with_reducible first|exact blR _ _|assumption|refine blD ?_|refine blN ?_ _)|((with_reducible first|refine blA ?_ ?_ _|refine blS ?_ ?_ _|refine blT (by assumption) ?_ ?_);focus (go_size;done)))⟩
 case round =>
  obtain ⟨t,hk,rfl,HA,hsz,hbel⟩:=hrel
  have HK:=Lib.hid hk
  have htl : t ≤ l.length:=by omega
  clear hk
  by_cases hlt : t < l.length
  ·obtain ⟨b,o,B1,D1,B2,D2,rfl,hat,hx⟩:=(HV.out.kept hbel).at hlt
   obtain ⟨a0,a1,a2,a3,a4,a5,a6,a7,a8,a9⟩:=hat.val
   have lb:=vcell_lt a0
   have htc : (t : Int) < (l.length : Int):=by omega
   obtain ⟨x,hxx⟩ : ∃ x,x = vg l t:=⟨_,rfl⟩
   rw [← hxx] at hx a0 a1 a2 a3 a4 a5 a6 a7 a8 a9
   have HXX:=Lib.hid hxx
   have HC:=Lib.hid (HP.out x B1 D1 B2 D2 wr (HG.out _ _ HW.out hbel) hx)
   obtain ⟨e,he⟩ : ∃ e,e = p x:=⟨_,rfl⟩
   rw [← he] at HC
   have HE:=Lib.hid he
   unfold vargs at HC
   obtain ⟨n1',hn1⟩ : ∃ n1',n1' = x.list.length:=⟨_,rfl⟩
   obtain ⟨n2',hn2⟩ : ∃ n2',n2' = x.names.length:=⟨_,rfl⟩
   rw [← hn1] at a8 HC
   rw [← hn2] at a9 HC
   clear hat hx hxx he hn1 hn2
   cases e with
   | true =>
    have hz : z = (t : Int):=by
     rw [HZ.out]
     exact idxV_hit hlt (by rw [← HXX.out,← HE.out]) HA.out
    subst hz
    go_wp2_with ((go_at_call 80;with_reducible refine (HC.out).mono ?_);rintro _ w2 ⟨rfl,hb2⟩;have hb2s:=hb2.size;(try simp only [wsA,wsS,wsD,wsN] at hb2s);obtain ⟨hb2c,hb2f⟩:=bcell hb2;(try have : w.heap.size < w2.heap.size:=by omega);(try have : w.heap.size + 1 < w2.heap.size:=by omega);(try have : w.heap.size + 1 + 1 < w2.heap.size:=by omega);(try have : w.heap.size + 1 + 1 + 1 < w2.heap.size:=by omega))
    go_ret
    exact ⟨rfl,by (repeat' first|(with_reducible first|exact blR _ _|assumption|refine blD ?_|refine blN ?_ _)|((with_reducible first|refine blA ?_ ?_ _|refine blS ?_ ?_ _|refine blT (by assumption) ?_ ?_);focus (go_size;done)))⟩
   | false =>
    go_wp2_with ((go_at_call 80;with_reducible refine (HC.out).mono ?_);rintro _ w2 ⟨rfl,hb2⟩;have hb2s:=hb2.size;(try simp only [wsA,wsS,wsD,wsN] at hb2s);obtain ⟨hb2c,hb2f⟩:=bcell hb2;(try have : w.heap.size < w2.heap.size:=by omega);(try have : w.heap.size + 1 < w2.heap.size:=by omega);(try have : w.heap.size + 1 + 1 < w2.heap.size:=by omega);(try have : w.heap.size + 1 + 1 + 1 < w2.heap.size:=by omega))
    go_roundg (gk - 1)
    case measure => have:=HK.out;omega
    case rel => exact ⟨t + 1,by have:=HK.out;omega,by go_num,Lib.hid (fun i hi => by
     by_cases q : i = t
     ·subst q;rw [← HXX.out,← HE.out]
     ·exact HA.out i (by omega)),by omega,by (repeat' first|(with_reducible first|exact blR _ _|assumption|refine blD ?_|refine blN ?_ _)|((with_reducible first|refine blA ?_ ?_ _|refine blS ?_ ?_ _|refine blT (by assumption) ?_ ?_);focus (go_size;done)))⟩
  ·obtain rfl : t = l.length:=by omega
   have hz : z = -1:=by rw [HZ.out];exact idxV_none HA.out
   subst hz
   clear hlt
   go_wp2_with fail
   go_ret
   exact ⟨rfl,by (repeat' first|(with_reducible first|exact blR _ _|assumption|refine blD ?_|refine blN ?_ _)|((with_reducible first|refine blA ?_ ?_ _|refine blS ?_ ?_ _|refine blT (by assumption) ?_ ?_);focus (go_size;done)))⟩
set_option maxRecDepth 100000 in
theorem clos_right (x : VD) (A : Option Addr) (C : Nat) (A2 : Option Addr) (C2 : Nat) (w : World) (hT : Tabs w) (h : VA w x A C A2 C2) :
  Calls Tryz.prog 80 #[vargs x A C A2 C2] w fun e w' => e = .returned (.bool (decide (chkV x ≠ 0))) ∧ Below w.heap.size w w':=by
 have hc:=fun (W : World) (hW : Below w.heap.size w W) => vcheck_any x A C A2 C2 W (tabs_below hT hW) (h.below hW)
 obtain ⟨e,he⟩ : ∃ e,e = chkV x:=⟨_,rfl⟩
 simp only [← he] at hc
 rw [← he]
 obtain ⟨s,l,nm⟩:=x
 obtain ⟨kind,yes,neg,coef,sc,text,day⟩:=s
 unfold vargs vagg
 unfold vargs vagg at hc
 dsimp only [VD.s,VD.list,VD.names] at hc ⊢
 have HC:=Lib.hid hc
 clear hc h hT he
 by_cases e0 : e = 0
 ·subst e0
  go_enter Tryz.func80,Tryz.ntmps80
  go_wp2_with ((go_at_call 40;with_reducible refine (HC.out _ (by (repeat' first|(with_reducible first|exact blR _ _|assumption|refine blD ?_|refine blN ?_ _)|((with_reducible first|refine blA ?_ ?_ _|refine blS ?_ ?_ _|refine blT (by assumption) ?_ ?_);focus (go_size;done))))).mono ?_);rintro _ w2 ⟨rfl,hb2⟩;have hb2s:=hb2.size;(try simp only [wsA,wsS,wsD,wsN] at hb2s);obtain ⟨hb2c,hb2f⟩:=bcell hb2;(try have : w.heap.size < w2.heap.size:=by omega);(try have : w.heap.size + 1 < w2.heap.size:=by omega);(try have : w.heap.size + 1 + 1 < w2.heap.size:=by omega);(try have : w.heap.size + 1 + 1 + 1 < w2.heap.size:=by omega))
  go_ret
  exact ⟨rfl,by (repeat' first|(with_reducible first|exact blR _ _|assumption|refine blD ?_|refine blN ?_ _)|((with_reducible first|refine blA ?_ ?_ _|refine blS ?_ ?_ _|refine blT (by assumption) ?_ ?_);focus (go_size;done)))⟩
 ·have f0 : (e != 0) = true:=by rw [bne_iff_ne];exact e0
  rw [decide_eq_true e0]
  clear e0
  go_enter Tryz.func80,Tryz.ntmps80
  go_wp2_with ((go_at_call 40;with_reducible refine (HC.out _ (by (repeat' first|(with_reducible first|exact blR _ _|assumption|refine blD ?_|refine blN ?_ _)|((with_reducible first|refine blA ?_ ?_ _|refine blS ?_ ?_ _|refine blT (by assumption) ?_ ?_);focus (go_size;done))))).mono ?_);rintro _ w2 ⟨rfl,hb2⟩;have hb2s:=hb2.size;(try simp only [wsA,wsS,wsD,wsN] at hb2s);obtain ⟨hb2c,hb2f⟩:=bcell hb2;(try have : w.heap.size < w2.heap.size:=by omega);(try have : w.heap.size + 1 < w2.heap.size:=by omega);(try have : w.heap.size + 1 + 1 < w2.heap.size:=by omega);(try have : w.heap.size + 1 + 1 + 1 < w2.heap.size:=by omega))
  go_ret
  exact ⟨rfl,by (repeat' first|(with_reducible first|exact blR _ _|assumption|refine blD ?_|refine blN ?_ _)|((with_reducible first|refine blA ?_ ?_ _|refine blS ?_ ?_ _|refine blT (by assumption) ?_ ?_);focus (go_size;done)))⟩
set_option maxHeartbeats 400000 in
theorem hasbad_any (l : List VD) (v : Value) (w : World) (hT : Tabs w) (h : Vls (RV w) w v l) :
  Calls Tryz.prog 79 #[v,.func (.func 80) #[] #[]] w fun e w' => e = .returned (.bool (!allC l)) ∧ Below w.heap.size w w':=by
 have hi:=fun (W : World) (hW : Below w.heap.size w W) => idx_right #[] (fun x => decide (chkV x ≠ 0)) Tabs (fun _ _ h hb => tabs_below h hb) (fun x A C A2 C2 W hw hv => clos_right x A C A2 C2 W hw hv) l v W (h.kept hW) (tabs_below hT hW)
 have hz : (!allC l) = decide (0 ≤ idxV (fun x => decide (chkV x ≠ 0)) l):=by
  rw [Bool.eq_iff_iff,Bool.not_eq_true',Bool.eq_false_iff,ne_eq,allC_iff,decide_eq_true_eq,idxV_neg]
  constructor
  ·intro h
   by_cases q : ∃ t,t < l.length ∧ decide (chkV (vg l t) ≠ 0) = true
   ·exact q
   ·refine absurd (fun t ht => ?_) h
    by_cases q2 : chkV (vg l t) = 0
    ·exact q2
    ·exact absurd ⟨t,ht,decide_eq_true q2⟩ q
  ·rintro ⟨t,ht,hp⟩ h
   exact of_decide_eq_true hp (h t ht)
 obtain ⟨i,hi'⟩ : ∃ i,i = idxV (fun x => decide (chkV x ≠ 0)) l:=⟨_,rfl⟩
 rw [← hi'] at hz
 simp only [← hi'] at hi
 rw [hz]
 have HI:=Lib.hid hi
 clear hi h hT hz hi'
 go_enter Tryz.func79,Tryz.ntmps79
 go_wp2_with ((go_at_call 81;with_reducible refine (HI.out _ (by (repeat' first|(with_reducible first|exact blR _ _|assumption|refine blD ?_|refine blN ?_ _)|((with_reducible first|refine blA ?_ ?_ _|refine blS ?_ ?_ _|refine blT (by assumption) ?_ ?_);focus (go_size;done))))).mono ?_);rintro _ w2 ⟨rfl,hb2⟩;have hb2s:=hb2.size;(try simp only [wsA,wsS,wsD,wsN] at hb2s);obtain ⟨hb2c,hb2f⟩:=bcell hb2;(try have : w.heap.size < w2.heap.size:=by omega);(try have : w.heap.size + 1 < w2.heap.size:=by omega);(try have : w.heap.size + 1 + 1 < w2.heap.size:=by omega);(try have : w.heap.size + 1 + 1 + 1 < w2.heap.size:=by omega))
 all_goals (go_ret;exact ⟨ret_bool (by simp),by (repeat' first|(with_reducible first|exact blR _ _|assumption|refine blD ?_|refine blN ?_ _)|((with_reducible first|refine blA ?_ ?_ _|refine blS ?_ ?_ _|refine blT (by assumption) ?_ ?_);focus (go_size;done)))⟩)
set_option maxHeartbeats 400000 in
theorem right_any (l : List VD) (v : Value) (w : World) (hT : Tabs w) (h : Vls (RV w) w v l) :
  Calls Tryz.prog 52 #[v] w fun e w' => e = .returned (.bool (allC l)) ∧ Below w.heap.size w w':=by
 have hc:=fun (W : World) (hW : Below w.heap.size w W) => hasbad_any l v W (tabs_below hT hW) (h.kept hW)
 obtain ⟨z,hz⟩ : ∃ z,z = allC l:=⟨_,rfl⟩
 simp only [← hz] at hc
 rw [← hz]
 have HC:=Lib.hid hc
 clear hc h hT hz
 go_enter Tryz.func52,Tryz.ntmps52
 go_wp2_with ((go_at_call 79;with_reducible refine (HC.out _ (by (repeat' first|(with_reducible first|exact blR _ _|assumption|refine blD ?_|refine blN ?_ _)|((with_reducible first|refine blA ?_ ?_ _|refine blS ?_ ?_ _|refine blT (by assumption) ?_ ?_);focus (go_size;done))))).mono ?_);rintro _ w2 ⟨rfl,hb2⟩;have hb2s:=hb2.size;(try simp only [wsA,wsS,wsD,wsN] at hb2s);obtain ⟨hb2c,hb2f⟩:=bcell hb2;(try have : w.heap.size < w2.heap.size:=by omega);(try have : w.heap.size + 1 < w2.heap.size:=by omega);(try have : w.heap.size + 1 + 1 < w2.heap.size:=by omega);(try have : w.heap.size + 1 + 1 + 1 < w2.heap.size:=by omega))
 go_ret
 exact ⟨ret_bool (by simp),by (repeat' first|(with_reducible first|exact blR _ _|assumption|refine blD ?_|refine blN ?_ _)|((with_reducible first|refine blA ?_ ?_ _|refine blS ?_ ?_ _|refine blT (by assumption) ?_ ?_);focus (go_size;done)))⟩
end Go.Proofs.YtkjecoanlppeaaaGreatDoor



namespace Go.Proofs.YtkjecoanlppeaaaGreatDoor
open Go.RowKit

def listsB (order rows : List (List VD)) (n : Nat) : Bool:=decide (order.length = n ∧ rows.length ≤ 60 ∧ (∀ t,t < order.length → (lg order t).length ≤ 60 ∧ allC (lg order t) = true) ∧ (∀ t,t < rows.length → (lg rows t).length = n ∧ allC (lg rows t) = true))
theorem listsB_iff {order rows : List (List VD)} {n : Nat} : listsB order rows n = true ↔ (order.length = n ∧ rows.length ≤ 60 ∧ (∀ t,t < order.length → (lg order t).length ≤ 60 ∧ allC (lg order t) = true) ∧ (∀ t,t < rows.length → (lg rows t).length = n ∧ allC (lg rows t) = true)):=by unfold listsB;exact decide_eq_true_iff
set_option maxRecDepth 100000 in
set_option maxHeartbeats 2000000 in
theorem fits_any (order rows : List (List VD)) (O R : Value) (n : Nat) (w : World) (hT : Tabs w) (ho : Lls w O order) (hr : Lls w R rows) (hn : n ≤ 1048576) :
  Calls Tryz.prog 31 #[O,R,.int .i64 n] w fun e w' => e = .returned (.bool (listsB order rows n)) ∧ Below w.heap.size w w':=by
 obtain ⟨A,C,rfl,q1,_,_⟩:=ho.is
 obtain ⟨A2,C2,rfl,q2,_,_⟩:=hr.is
 have HO:=Lib.hid ho
 have HRW:=Lib.hid hr
 have HT:=Lib.hid hT
 obtain ⟨z,hz⟩ : ∃ z,z = listsB order rows n:=⟨_,rfl⟩
 have hzi:=listsB_iff (order:=order) (rows:=rows) (n:=n)
 rw [← hz] at hzi ⊢
 have HZ : Hid ((¬ (order.length = n ∧ rows.length ≤ 60 ∧ (∀ t,t < order.length → (lg order t).length ≤ 60 ∧ allC (lg order t) = true) ∧ (∀ t,t < rows.length → (lg rows t).length = n ∧ allC (lg rows t) = true)) → z = false) ∧ ((order.length = n ∧ rows.length ≤ 60 ∧ (∀ t,t < order.length → (lg order t).length ≤ 60 ∧ allC (lg order t) = true) ∧ (∀ t,t < rows.length → (lg rows t).length = n ∧ allC (lg rows t) = true)) → z = true)):=Lib.hid ⟨fun h => by
  cases z with
  | false => rfl
  | true => exact absurd (hzi.1 rfl) h,hzi.2⟩
 have hol : (order.length : Int) ≤ 1048576:=by omega
 have hrl : (rows.length : Int) ≤ 1048576:=by omega
 have hnl : (n : Int) ≤ 1048576:=by omega
 clear hzi hz ho hr hT q1 q2 hn
 by_cases h1 : order.length = n
 rotate_left
 ·have f1 : ((order.length : Int) != (n : Int)) = true:=by rw [bne_iff_ne];omega
  have hz : z = false:=HZ.out.1 (fun h => h1 h.1)
  subst hz
  clear h1 HZ
  go_enter Tryz.func31,Tryz.ntmps31
  go_wp2_with fail
  all_goals (go_ret;exact ⟨rfl,by (repeat' first|(with_reducible first|exact blR _ _|assumption|refine blD ?_|refine blN ?_ _)|((with_reducible first|refine blA ?_ ?_ _|refine blS ?_ ?_ _|refine blT (by assumption) ?_ ?_);focus (go_size;done)))⟩)
 have f1 : ((order.length : Int) != (n : Int)) = false:=by rw [bne_eq_false_iff_eq];omega
 have H1:=Lib.hid h1
 clear h1
 by_cases h2 : rows.length ≤ 60
 rotate_left
 ·have f2 : (60 : Int) < (rows.length : Int):=by omega
  have hz : z = false:=HZ.out.1 (fun h => h2 h.2.1)
  subst hz
  clear h2 HZ
  go_enter Tryz.func31,Tryz.ntmps31
  go_wp2_with fail
  go_ret
  exact ⟨rfl,by (repeat' first|(with_reducible first|exact blR _ _|assumption|refine blD ?_|refine blN ?_ _)|((with_reducible first|refine blA ?_ ?_ _|refine blS ?_ ?_ _|refine blT (by assumption) ?_ ?_);focus (go_size;done)))⟩
 have f2 : ¬ (60 : Int) < (rows.length : Int):=by omega
 have H2:=Lib.hid h2
 clear h2
 go_enter Tryz.func31,Tryz.ntmps31
 go_wp2_with fail
 go_loopg [22] order.length (fun k s22 wr => ∃ t : Nat,k + t = order.length ∧ s22 = .int .i64 t ∧ Hid (∀ i,i < t → (lg order i).length ≤ 60 ∧ allC (lg order i) = true) ∧ w.heap.size ≤ wr.heap.size ∧ Below w.heap.size w wr)
 case atStart => exact ⟨0,by omega,rfl,Lib.hid (fun i hi => absurd hi (Nat.not_lt_zero _)),by omega,by (repeat' first|(with_reducible first|exact blR _ _|assumption|refine blD ?_|refine blN ?_ _)|((with_reducible first|refine blA ?_ ?_ _|refine blS ?_ ?_ _|refine blT (by assumption) ?_ ?_);focus (go_size;done)))⟩
 case round =>
  obtain ⟨t,hk,rfl,HA,hsz,hbel⟩:=hrel
  have HK:=Lib.hid hk
  have htl : t ≤ order.length:=by omega
  clear hk
  by_cases hlt : t < order.length
  ·obtain ⟨b,o,B1,D1,rfl,hcell,hv⟩:=(HO.out.below hbel).at hlt
   have lb:=vcell_lt hcell
   have htc : (t : Int) < (order.length : Int):=by omega
   obtain ⟨_,_,_,hxl⟩:=hv.is
   obtain ⟨x,hxx⟩ : ∃ x,x = lg order t:=⟨_,rfl⟩
   rw [← hxx] at hv hcell hxl
   have HX:=Lib.hid hxx
   have HC:=Lib.hid (right_any x _ wr (tabs_below HT.out hbel) hv)
   obtain ⟨q,hq⟩ : ∃ q,q = allC x:=⟨_,rfl⟩
   rw [← hq] at HC
   have HQ:=Lib.hid hq
   obtain ⟨n1,hn1⟩ : ∃ n1,n1 = x.length:=⟨_,rfl⟩
   rw [← hn1] at hcell HC hxl
   have HN1:=Lib.hid hn1
   clear hxx hv hq hn1
   by_cases h60 : n1 ≤ 60
   ·have g60 : ¬ (60 : Int) < (n1 : Int):=by omega
    cases q with
    | true =>
     go_wp2_with ((go_at_call 52;with_reducible refine (HC.out).mono ?_);rintro _ w2 ⟨rfl,hb2⟩;have hb2s:=hb2.size;(try simp only [wsA,wsS,wsD,wsN] at hb2s);obtain ⟨hb2c,hb2f⟩:=bcell hb2;(try have : w.heap.size < w2.heap.size:=by omega);(try have : w.heap.size + 1 < w2.heap.size:=by omega);(try have : w.heap.size + 1 + 1 < w2.heap.size:=by omega);(try have : w.heap.size + 1 + 1 + 1 < w2.heap.size:=by omega))
     go_roundg (gk - 1)
     case measure => have:=HK.out;omega
     case rel => exact ⟨t + 1,by have:=HK.out;omega,by go_num,Lib.hid (fun i hi => by
      by_cases e : i = t
      ·subst e;rw [← HX.out,← HN1.out,← HQ.out];exact ⟨h60,rfl⟩
      ·exact HA.out i (by omega)),by omega,by (repeat' first|(with_reducible first|exact blR _ _|assumption|refine blD ?_|refine blN ?_ _)|((with_reducible first|refine blA ?_ ?_ _|refine blS ?_ ?_ _|refine blT (by assumption) ?_ ?_);focus (go_size;done)))⟩
    | false =>
     have hz : z = false:=HZ.out.1 (fun h => by
      have:=(h.2.2.1 t hlt).2
      rw [← HX.out,← HQ.out] at this;exact Bool.noConfusion this)
     subst hz
     go_wp2_with ((go_at_call 52;with_reducible refine (HC.out).mono ?_);rintro _ w2 ⟨rfl,hb2⟩;have hb2s:=hb2.size;(try simp only [wsA,wsS,wsD,wsN] at hb2s);obtain ⟨hb2c,hb2f⟩:=bcell hb2;(try have : w.heap.size < w2.heap.size:=by omega);(try have : w.heap.size + 1 < w2.heap.size:=by omega);(try have : w.heap.size + 1 + 1 < w2.heap.size:=by omega);(try have : w.heap.size + 1 + 1 + 1 < w2.heap.size:=by omega))
     go_ret
     exact ⟨rfl,by (repeat' first|(with_reducible first|exact blR _ _|assumption|refine blD ?_|refine blN ?_ _)|((with_reducible first|refine blA ?_ ?_ _|refine blS ?_ ?_ _|refine blT (by assumption) ?_ ?_);focus (go_size;done)))⟩
   ·have g60 : (60 : Int) < (n1 : Int):=by omega
    have hz : z = false:=HZ.out.1 (fun h => by
     have:=(h.2.2.1 t hlt).1
     rw [← HX.out,← HN1.out] at this;exact h60 this)
    subst hz
    clear h60
    go_wp2_with fail
    go_ret
    exact ⟨rfl,by (repeat' first|(with_reducible first|exact blR _ _|assumption|refine blD ?_|refine blN ?_ _)|((with_reducible first|refine blA ?_ ?_ _|refine blS ?_ ?_ _|refine blT (by assumption) ?_ ?_);focus (go_size;done)))⟩
  ·obtain rfl : t = order.length:=by omega
   have HA1:=Lib.hid HA.out
   clear HA hlt
   go_wp2_with fail
   obtain ⟨wo,hwo⟩ : ∃ wo : World,wo = wr:=⟨_,rfl⟩
   clear hwo
   go_loopg [37] rows.length (fun k s37 wr => ∃ t : Nat,k + t = rows.length ∧ s37 = .int .i64 t ∧ Hid (∀ i,i < t → (lg rows i).length = n ∧ allC (lg rows i) = true) ∧ w.heap.size ≤ wr.heap.size ∧ Below w.heap.size w wr)
   case atStart => exact ⟨0,by omega,rfl,Lib.hid (fun i hi => absurd hi (Nat.not_lt_zero _)),by omega,by (repeat' first|(with_reducible first|exact blR _ _|assumption|refine blD ?_|refine blN ?_ _)|((with_reducible first|refine blA ?_ ?_ _|refine blS ?_ ?_ _|refine blT (by assumption) ?_ ?_);focus (go_size;done)))⟩
   case round =>
    obtain ⟨t,hk,rfl,HB,hsz2,hbel2⟩:=hrel
    have HK2:=Lib.hid hk
    have htl2 : t ≤ rows.length:=by omega
    clear hk
    by_cases hlt : t < rows.length
    ·obtain ⟨b,o,B1,D1,rfl,hcell,hv⟩:=(HRW.out.below hbel2).at hlt
     have lb:=vcell_lt hcell
     have htc : (t : Int) < (rows.length : Int):=by omega
     obtain ⟨_,_,_,hxl⟩:=hv.is
     obtain ⟨x,hxx⟩ : ∃ x,x = lg rows t:=⟨_,rfl⟩
     rw [← hxx] at hv hcell hxl
     have HX:=Lib.hid hxx
     have HC:=Lib.hid (right_any x _ wr (tabs_below HT.out hbel2) hv)
     obtain ⟨q,hq⟩ : ∃ q,q = allC x:=⟨_,rfl⟩
     rw [← hq] at HC
     have HQ:=Lib.hid hq
     obtain ⟨n1,hn1⟩ : ∃ n1,n1 = x.length:=⟨_,rfl⟩
     rw [← hn1] at hcell HC hxl
     have HN1:=Lib.hid hn1
     clear hxx hv hq hn1
     by_cases hnn : n1 = n
     ·have g0 : ((n1 : Int) != (n : Int)) = false:=by rw [bne_eq_false_iff_eq];omega
      have HNN:=Lib.hid hnn
      clear hnn
      cases q with
      | true =>
       go_wp2_with ((go_at_call 52;with_reducible refine (HC.out).mono ?_);rintro _ w2 ⟨rfl,hb2⟩;have hb2s:=hb2.size;(try simp only [wsA,wsS,wsD,wsN] at hb2s);obtain ⟨hb2c,hb2f⟩:=bcell hb2;(try have : w.heap.size < w2.heap.size:=by omega);(try have : w.heap.size + 1 < w2.heap.size:=by omega);(try have : w.heap.size + 1 + 1 < w2.heap.size:=by omega);(try have : w.heap.size + 1 + 1 + 1 < w2.heap.size:=by omega))
       go_roundg (gk - 1)
       case measure => have:=HK2.out;omega
       case rel => exact ⟨t + 1,by have:=HK2.out;omega,by go_num,Lib.hid (fun i hi => by
        by_cases e : i = t
        ·subst e;rw [← HX.out,← HN1.out,← HQ.out];exact ⟨HNN.out,rfl⟩
        ·exact HB.out i (by omega)),by omega,by (repeat' first|(with_reducible first|exact blR _ _|assumption|refine blD ?_|refine blN ?_ _)|((with_reducible first|refine blA ?_ ?_ _|refine blS ?_ ?_ _|refine blT (by assumption) ?_ ?_);focus (go_size;done)))⟩
      | false =>
       have hz : z = false:=HZ.out.1 (fun h => by
        have:=(h.2.2.2 t hlt).2
        rw [← HX.out,← HQ.out] at this;exact Bool.noConfusion this)
       subst hz
       go_wp2_with ((go_at_call 52;with_reducible refine (HC.out).mono ?_);rintro _ w2 ⟨rfl,hb2⟩;have hb2s:=hb2.size;(try simp only [wsA,wsS,wsD,wsN] at hb2s);obtain ⟨hb2c,hb2f⟩:=bcell hb2;(try have : w.heap.size < w2.heap.size:=by omega);(try have : w.heap.size + 1 < w2.heap.size:=by omega);(try have : w.heap.size + 1 + 1 < w2.heap.size:=by omega);(try have : w.heap.size + 1 + 1 + 1 < w2.heap.size:=by omega))
       go_ret
       exact ⟨rfl,by (repeat' first|(with_reducible first|exact blR _ _|assumption|refine blD ?_|refine blN ?_ _)|((with_reducible first|refine blA ?_ ?_ _|refine blS ?_ ?_ _|refine blT (by assumption) ?_ ?_);focus (go_size;done)))⟩
     ·have g0 : ((n1 : Int) != (n : Int)) = true:=by rw [bne_iff_ne];omega
      have hz : z = false:=HZ.out.1 (fun h => by
       have:=(h.2.2.2 t hlt).1
       rw [← HX.out,← HN1.out] at this;exact hnn this)
      subst hz
      clear hnn
      go_wp2_with fail
      go_ret
      exact ⟨rfl,by (repeat' first|(with_reducible first|exact blR _ _|assumption|refine blD ?_|refine blN ?_ _)|((with_reducible first|refine blA ?_ ?_ _|refine blS ?_ ?_ _|refine blT (by assumption) ?_ ?_);focus (go_size;done)))⟩
    ·obtain rfl : t = rows.length:=by omega
     have hz : z = true:=HZ.out.2 ⟨H1.out,H2.out,HA1.out,HB.out⟩
     subst hz
     clear hlt
     go_wp2_with fail
     go_ret
     exact ⟨rfl,by (repeat' first|(with_reducible first|exact blR _ _|assumption|refine blD ?_|refine blN ?_ _)|((with_reducible first|refine blA ?_ ?_ _|refine blS ?_ ?_ _|refine blT (by assumption) ?_ ?_);focus (go_size;done)))⟩
end Go.Proofs.YtkjecoanlppeaaaGreatDoor



namespace Go.Proofs.YtkjecoanlppeaaaGreatDoor
open Go.RowKit

def formT (names : List (List UInt8)) (order rows : List (List VD)) (other : List VD) : Bool:=decide (1 ≤ names.length ∧ names.length ≤ 8) && (listsB order rows names.length && (namesB names && (decide (other.length = 0) || (decide (other.length = names.length) && allC other))))
set_option maxRecDepth 100000 in
set_option maxHeartbeats 2000000 in
theorem formed_any (names : List (List UInt8)) (order rows : List (List VD)) (other : List VD) (N O R V : Value) (w : World) (hT : Tabs w) (hn : Nms w N names) (ho : Lls w O order) (hr : Lls w R rows) (hv : Vls (RV w) w V other) :
  Calls Tryz.prog 38 #[N,O,R,V] w fun e w' => e = .returned (.bool (formT names order rows other)) ∧ Below w.heap.size w w':=by
 obtain ⟨A,C,rfl,q1⟩:=hn.is
 obtain ⟨hc1,hc2⟩:=hn.caps
 obtain ⟨A4,C4,rfl,q4⟩:=hv.is
 have HN:=Lib.hid hn
 have HC:=Lib.hid (fun (W : World) (hW : Below w.heap.size w W) => fits_any order rows O R names.length W (tabs_below hT hW) (ho.below hW) (hr.below hW) q1)
 have HV:=Lib.hid (fun (W : World) (hW : Below w.heap.size w W) => right_any other (.slice A4 other.length C4) W (tabs_below hT hW) (hv.kept hW))
 obtain ⟨z,hz⟩ : ∃ z,z = formT names order rows other:=⟨_,rfl⟩
 rw [← hz]
 unfold formT at hz
 obtain ⟨f,hf⟩ : ∃ f,f = listsB order rows names.length:=⟨_,rfl⟩
 obtain ⟨y,hy⟩ : ∃ y,y = namesB names:=⟨_,rfl⟩
 obtain ⟨v,hvv⟩ : ∃ v,v = allC other:=⟨_,rfl⟩
 rw [← hf,← hy,← hvv] at hz
 rw [← hf] at HC
 rw [← hvv] at HV
 have HY : Hid (y = true ↔ ∀ i,i < names.length → nam (ng names i) = true ∧ ∀ k,k < i → ng names k ≠ ng names i):=Lib.hid (by rw [hy,namesB,decide_eq_true_eq])
 have HZ:=Lib.hid hz
 have hnl : (names.length : Int) ≤ 1048576:=by omega
 have hol : (other.length : Int) ≤ 1048576:=by omega
 clear hz hf hy hvv hn ho hr hv hT q1 q4
 by_cases h0 : names.length = 0
 ·have g0 : ((names.length : Int) == 0) = true:=by rw [beq_iff_eq];omega
  have hz : z = false:=by rw [HZ.out,decide_eq_false (by omega)];rfl
  subst hz
  clear h0 HZ
  go_enter Tryz.func38,Tryz.ntmps38
  go_wp2_with fail
  go_ret
  exact ⟨rfl,by (repeat' first|(with_reducible first|exact blR _ _|assumption|refine blD ?_|refine blN ?_ _)|((with_reducible first|refine blA ?_ ?_ _|refine blS ?_ ?_ _|refine blT (by assumption) ?_ ?_);focus (go_size;done)))⟩
 have g0 : ((names.length : Int) == 0) = false:=by rw [beq_eq_false_iff_ne];omega
 by_cases h8 : 8 < names.length
 ·have g8 : (8 : Int) < (names.length : Int):=by omega
  have hz : z = false:=by rw [HZ.out,decide_eq_false (by omega)];rfl
  subst hz
  clear h0 h8 HZ
  go_enter Tryz.func38,Tryz.ntmps38
  go_wp2_with fail
  go_ret
  exact ⟨rfl,by (repeat' first|(with_reducible first|exact blR _ _|assumption|refine blD ?_|refine blN ?_ _)|((with_reducible first|refine blA ?_ ?_ _|refine blS ?_ ?_ _|refine blT (by assumption) ?_ ?_);focus (go_size;done)))⟩
 have g8 : ¬ (8 : Int) < (names.length : Int):=by omega
 have hz1 : z = (f && (y && (decide (other.length = 0) || (decide (other.length = names.length) && v)))):=by rw [HZ.out,decide_eq_true ⟨by omega,by omega⟩];rfl
 have HZ1:=Lib.hid hz1
 clear HZ hz1 h0 h8
 cases f with
 | false =>
  have hz : z = false:=HZ1.out
  subst hz
  go_enter Tryz.func38,Tryz.ntmps38
  go_wp2_with ((go_at_call 31;with_reducible refine (HC.out _ (by (repeat' first|(with_reducible first|exact blR _ _|assumption|refine blD ?_|refine blN ?_ _)|((with_reducible first|refine blA ?_ ?_ _|refine blS ?_ ?_ _|refine blT (by assumption) ?_ ?_);focus (go_size;done))))).mono ?_);rintro _ w2 ⟨rfl,hb2⟩;have hb2s:=hb2.size;(try simp only [wsA,wsS,wsD,wsN] at hb2s);obtain ⟨hb2c,hb2f⟩:=bcell hb2;(try have : w.heap.size < w2.heap.size:=by omega);(try have : w.heap.size + 1 < w2.heap.size:=by omega);(try have : w.heap.size + 1 + 1 < w2.heap.size:=by omega);(try have : w.heap.size + 1 + 1 + 1 < w2.heap.size:=by omega))
  go_ret
  exact ⟨rfl,by (repeat' first|(with_reducible first|exact blR _ _|assumption|refine blD ?_|refine blN ?_ _)|((with_reducible first|refine blA ?_ ?_ _|refine blS ?_ ?_ _|refine blT (by assumption) ?_ ?_);focus (go_size;done)))⟩
 | true =>
  have HZ2 : Hid (z = (y && (decide (other.length = 0) || (decide (other.length = names.length) && v)))):=Lib.hid (by rw [HZ1.out];rfl)
  clear HZ1
  go_enter Tryz.func38,Tryz.ntmps38
  go_wp2_with ((go_at_call 31;with_reducible refine (HC.out _ (by (repeat' first|(with_reducible first|exact blR _ _|assumption|refine blD ?_|refine blN ?_ _)|((with_reducible first|refine blA ?_ ?_ _|refine blS ?_ ?_ _|refine blT (by assumption) ?_ ?_);focus (go_size;done))))).mono ?_);rintro _ w2 ⟨rfl,hb2⟩;have hb2s:=hb2.size;(try simp only [wsA,wsS,wsD,wsN] at hb2s);obtain ⟨hb2c,hb2f⟩:=bcell hb2;(try have : w.heap.size < w2.heap.size:=by omega);(try have : w.heap.size + 1 < w2.heap.size:=by omega);(try have : w.heap.size + 1 + 1 < w2.heap.size:=by omega);(try have : w.heap.size + 1 + 1 + 1 < w2.heap.size:=by omega))
  go_loopg [29] names.length (fun k i wr => ∃ t : Nat,k + t = names.length ∧ i = .int .i64 t ∧ Hid (∀ i,i < t → nam (ng names i) = true ∧ ∀ k,k < i → ng names k ≠ ng names i) ∧ w.heap.size ≤ wr.heap.size ∧ Below w.heap.size w wr)
  case atStart => exact ⟨0,by omega,rfl,Lib.hid (fun i hi => absurd hi (Nat.not_lt_zero _)),by omega,by (repeat' first|(with_reducible first|exact blR _ _|assumption|refine blD ?_|refine blN ?_ _)|((with_reducible first|refine blA ?_ ?_ _|refine blS ?_ ?_ _|refine blT (by assumption) ?_ ?_);focus (go_size;done)))⟩
  case round =>
   obtain ⟨t,hk,rfl,HA,hsz,hbel⟩:=hrel
   have HK:=Lib.hid hk
   have htn : t ≤ names.length:=by omega
   clear hk
   by_cases hlt : t < names.length
   ·have hnw:=HN.out.below hbel
    obtain ⟨b,o,rfl,hcell,hlen⟩:=hnw.at hlt
    have HNM:=Lib.hid (name_any (ng names t) (by omega) wr)
    have hcon:=Tryz.slices_Contains_string b o t C (names.map bs) (bs (ng names t)) wr (by rw [List.length_map];omega) (by omega) (fun j hj => by
     rw [List.length_map] at hj
     obtain ⟨b',o',e,hc,_⟩:=hnw.at hj
     injection e with e
     injection e with e1 e2
     subst e1 e2
     rw [ng_bs hj];exact hc)
    rw [contains_is hlt] at hcon
    have htc : (t : Int) ≤ (C : Int):=by omega
    obtain ⟨p,hp⟩ : ∃ p,p = nam (ng names t):=⟨_,rfl⟩
    obtain ⟨d,hd⟩ : ∃ d,d = twiceB names t:=⟨_,rfl⟩
    rw [← hp] at HNM
    rw [← hd] at hcon
    have HCN : Hid (Calls Tryz.prog 63 #[.slice (some ⟨b,o,none⟩) t C,.string ⟨(ng names t).toArray⟩] wr fun e w' => e = .returned (.bool d) ∧ w' = wr):=Lib.hid hcon
    have HP:=Lib.hid hp
    have HD : Hid (d = true ↔ ∃ k,k < t ∧ ng names k = ng names t):=Lib.hid (by rw [hd,twiceB,decide_eq_true_eq])
    obtain ⟨x,hx⟩ : ∃ x,x = ng names t:=⟨_,rfl⟩
    rw [← hx] at hcell HNM HCN
    have lb:=vcell_lt hcell
    clear hcon hp hd hx hlen hnw
    cases p with
    | false =>
     have hz : z = false:=by
      rw [HZ2.out]
      cases y with
      | false => rfl
      | true =>
       have:=(HY.out.1 rfl t hlt).1
       rw [← HP.out] at this;exact Bool.noConfusion this
     subst hz
     go_wp2_with fail
     refine HNM.out.mono ?_
     rintro _ _ ⟨rfl,rfl⟩
     go_wp2_with fail
     go_ret
     exact ⟨rfl,by (repeat' first|(with_reducible first|exact blR _ _|assumption|refine blD ?_|refine blN ?_ _)|((with_reducible first|refine blA ?_ ?_ _|refine blS ?_ ?_ _|refine blT (by assumption) ?_ ?_);focus (go_size;done)))⟩
    | true =>
     cases d with
     | true =>
      have hz : z = false:=by
       rw [HZ2.out]
       cases y with
       | false => rfl
       | true =>
        obtain ⟨k,hk,e⟩:=HD.out.1 rfl
        exact absurd e ((HY.out.1 rfl t hlt).2 k hk)
      subst hz
      go_wp2_with fail
      refine HNM.out.mono ?_
      rintro _ _ ⟨rfl,rfl⟩
      go_wp2_with fail
      refine HCN.out.mono ?_
      rintro _ _ ⟨rfl,rfl⟩
      go_wp2_with fail
      go_ret
      exact ⟨rfl,by (repeat' first|(with_reducible first|exact blR _ _|assumption|refine blD ?_|refine blN ?_ _)|((with_reducible first|refine blA ?_ ?_ _|refine blS ?_ ?_ _|refine blT (by assumption) ?_ ?_);focus (go_size;done)))⟩
     | false =>
      go_wp2_with fail
      refine HNM.out.mono ?_
      rintro _ _ ⟨rfl,rfl⟩
      go_wp2_with fail
      refine HCN.out.mono ?_
      rintro _ _ ⟨rfl,rfl⟩
      go_wp2_with fail
      go_roundg (gk - 1)
      case measure => have:=HK.out;omega
      case rel => exact ⟨t + 1,by have:=HK.out;omega,by go_num,Lib.hid (fun i hi => by
       by_cases e : i = t
       ·subst e
        refine ⟨HP.out.symm,fun k hk e => ?_⟩
        exact Bool.noConfusion (HD.out.2 ⟨k,hk,e⟩)
       ·exact HA.out i (by omega)),hsz,hbel⟩
   ·obtain rfl : t = names.length:=by omega
    have hy : y = true:=HY.out.2 HA.out
    have hz3 : z = (decide (other.length = 0) || (decide (other.length = names.length) && v)):=by rw [HZ2.out,hy];rfl
    clear HZ2 HY hy hlt
    by_cases o0 : other.length = 0
    ·have p0 : ((other.length : Int) == 0) = true:=by rw [beq_iff_eq];omega
     have hz : z = true:=by rw [hz3,decide_eq_true o0];rfl
     clear hz3 o0
     subst hz
     go_wp2_with fail
     go_ret
     exact ⟨rfl,by (repeat' first|(with_reducible first|exact blR _ _|assumption|refine blD ?_|refine blN ?_ _)|((with_reducible first|refine blA ?_ ?_ _|refine blS ?_ ?_ _|refine blT (by assumption) ?_ ?_);focus (go_size;done)))⟩
    ·have p0 : ((other.length : Int) == 0) = false:=by rw [beq_eq_false_iff_ne];omega
     rw [decide_eq_false o0,Bool.false_or] at hz3
     by_cases o1 : other.length = names.length
     ·have p1 : ((other.length : Int) == (names.length : Int)) = true:=by rw [beq_iff_eq];omega
      have hz : z = v:=by rw [hz3,decide_eq_true o1];rfl
      clear hz3 o0 o1
      subst hz
      go_wp2_with ((go_at_call 52;with_reducible refine (HV.out _ (by (repeat' first|(with_reducible first|exact blR _ _|assumption|refine blD ?_|refine blN ?_ _)|((with_reducible first|refine blA ?_ ?_ _|refine blS ?_ ?_ _|refine blT (by assumption) ?_ ?_);focus (go_size;done))))).mono ?_);rintro _ w3 ⟨rfl,hb3⟩;have hb3s:=hb3.size;(try simp only [wsA,wsS,wsD,wsN] at hb3s);obtain ⟨hb3c,hb3f⟩:=bcell hb3;(try have : w.heap.size < w3.heap.size:=by omega);(try have : w.heap.size + 1 < w3.heap.size:=by omega);(try have : w.heap.size + 1 + 1 < w3.heap.size:=by omega);(try have : w.heap.size + 1 + 1 + 1 < w3.heap.size:=by omega))
      go_ret
      exact ⟨rfl,by (repeat' first|(with_reducible first|exact blR _ _|assumption|refine blD ?_|refine blN ?_ _)|((with_reducible first|refine blA ?_ ?_ _|refine blS ?_ ?_ _|refine blT (by assumption) ?_ ?_);focus (go_size;done)))⟩
     ·have p1 : ((other.length : Int) == (names.length : Int)) = false:=by rw [beq_eq_false_iff_ne];omega
      have hz : z = false:=by rw [hz3,decide_eq_false o1];rfl
      clear hz3 o0 o1
      subst hz
      go_wp2_with fail
      go_ret
      exact ⟨rfl,by (repeat' first|(with_reducible first|exact blR _ _|assumption|refine blD ?_|refine blN ?_ _)|((with_reducible first|refine blA ?_ ?_ _|refine blS ?_ ?_ _|refine blT (by assumption) ?_ ?_);focus (go_size;done)))⟩
end Go.Proofs.YtkjecoanlppeaaaGreatDoor



namespace Go.Proofs.YtkjecoanlppeaaaGreatDoor
open Go.RowKit

theorem ng_get {l : List (List UInt8)} {t : Nat} (h : t < l.length) : ng l t = l[t]:=by
 unfold ng
 rw [List.getD_eq_getElem?_getD,List.getElem?_eq_getElem h];rfl
theorem vg_get {l : List VD} {t : Nat} (h : t < l.length) : vg l t = l[t]:=by
 unfold vg
 rw [List.getD_eq_getElem?_getD,List.getElem?_eq_getElem h];rfl
set_option maxRecDepth 100000 in
set_option maxHeartbeats 1000000 in
theorem eqnames_any (a b : List (List UInt8)) (N M : Value) (w : World) (ha : Nms w N a) (hb : Nms w M b) :
  Calls Tryz.prog 48 #[N,M] w fun e w' => e = .returned (.bool (decide (a = b))) ∧ ∃ nn,w' = w.drewN nn:=by
 have HA:=Lib.hid ha
 have HB:=Lib.hid hb
 obtain ⟨A,C,rfl,hl⟩:=ha.is
 obtain ⟨A2,C2,rfl,hl2⟩:=hb.is
 obtain ⟨z,hz⟩ : ∃ z,z = decide (a = b):=⟨_,rfl⟩
 rw [← hz]
 have HZ : Hid (z = true ↔ a = b):=Lib.hid (by rw [hz,decide_eq_true_eq])
 clear hz ha hb
 by_cases hlen : a.length = b.length
 ·have e1 : ((a.length : Int) != (b.length : Int)) = false:=by rw [bne_eq_false_iff_eq];omega
  have HL:=Lib.hid hlen
  clear hlen
  go_enter Tryz.func48,Tryz.ntmps48
  go_wp2_with fail
  go_loopg [13] a.length (fun k s13 wr => ∃ t : Nat,k + t = a.length ∧ s13 = .int .i64 t ∧ Hid (∀ i,i < t → ng a i = ng b i) ∧ Hid (∃ nn,wr = w.drewN nn))
  case atStart => exact ⟨0,by omega,rfl,Lib.hid (fun i hi => absurd hi (Nat.not_lt_zero _)),Lib.hid ⟨0,rfl⟩⟩
  case round =>
   obtain ⟨t,hk,rfl,HE,HW⟩:=hrel
   have HK:=Lib.hid hk
   have htl : t ≤ a.length:=by omega
   obtain ⟨md,hmd⟩:=HW.out
   subst hmd
   clear hk
   by_cases hlt : t < a.length
   ·obtain ⟨p,o,rfl,c1,_⟩:=HA.out.at hlt
    obtain ⟨p2,o2,rfl,c2,_⟩:=HB.out.at (show t < b.length by have:=HL.out;omega)
    have ht2 : (t : Int) < (a.length : Int):=by omega
    have ht3 : (t : Int) < (b.length : Int):=by have:=HL.out;omega
    obtain ⟨x,hx⟩ : ∃ x,x = ng a t:=⟨_,rfl⟩
    obtain ⟨y,hy⟩ : ∃ y,y = ng b t:=⟨_,rfl⟩
    rw [← hx] at c1
    rw [← hy] at c2
    have HX:=Lib.hid hx
    have HY:=Lib.hid hy
    clear hx hy
    by_cases hxy : x = y
    ·have HXY:=Lib.hid hxy
     subst hxy
     go_wp2_with fail
     go_quiet (fail)
     go_wp2_with fail
     go_roundg (gk - 1)
     case measure => have:=HK.out;omega
     case rel => exact ⟨t + 1,by have:=HK.out;omega,by go_num,Lib.hid (fun i hi => by
      by_cases e : i = t
      ·subst e;rw [← HX.out,← HY.out]
      ·exact HE.out i (by omega)),Lib.hid (by first | exact ⟨_,rfl⟩ | exact ⟨_,(World.drewN_drewN _ _ _)⟩)⟩
    ·have g1 : (x == y) = false:=by simpa using hxy
     have hz : z = false:=by
      cases z with
      | false => rfl
      | true => exact absurd (by rw [HX.out,HY.out,HZ.out.1 rfl]) hxy
     subst hz
     go_wp2_with fail
     go_quiet (fail)
     go_wp2_with fail
     go_ret
     exact ⟨rfl,by first | exact ⟨_,rfl⟩ | exact ⟨_,(World.drewN_drewN _ _ _)⟩⟩
   ·obtain rfl : t = a.length:=by omega
    have hz : z = true:=HZ.out.2 (List.ext_getElem HL.out (fun i h1 h2 => by rw [← ng_get h1,← ng_get h2];exact HE.out i h1))
    subst hz
    clear hlt
    go_wp2_with fail
    go_ret
    exact ⟨rfl,by first | exact ⟨_,rfl⟩ | exact ⟨_,(World.drewN_drewN _ _ _)⟩⟩
 ·have e1 : ((a.length : Int) != (b.length : Int)) = true:=by rw [bne_iff_ne];omega
  have hz : z = false:=by
   cases z with
   | false => rfl
   | true => exact absurd (congrArg List.length (HZ.out.1 rfl)) hlen
  subst hz
  clear hlen
  go_enter Tryz.func48,Tryz.ntmps48
  go_wp2_with fail
  go_ret
  exact ⟨rfl,0,rfl⟩
/-- the same number -/
def numE (s s' : VS) : Bool:=(s.neg == s'.neg) && (((wd s.coef 1 : Int) == wd s'.coef 1) && (((wd s.coef 0 : Int) == wd s'.coef 0) && (s.sc == s'.sc)))
noncomputable def sameL (a b : List VD) : Bool:=@decide (a = b) (Classical.propDecidable _)
theorem sameL_iff {a b : List VD} : sameL a b = true ↔ a = b:=by unfold sameL;exact @decide_eq_true_iff _ (Classical.propDecidable _)
def AlikeOf (R : World → Value → Value → VD → Prop) : Prop:=∀ (x y : VD) (L N L' N' : Value) (w : World),R w L N x → R w L' N' y →
 Calls Tryz.prog 28 #[vagg x.s L N,vagg y.s L' N'] w fun e w' => e = .returned (.bool (sameB x y)) ∧ Below w.heap.size w w'
@[reducible] def alikeF : Value:=.func (.func 28) #[] #[]
set_option maxRecDepth 100000 in
set_option maxHeartbeats 1000000 in
theorem eqlist_step (R : World → Value → Value → VD → Prop) (hR : ∀ w w' L N x,R w L N x → Below w.heap.size w w' → R w' L N x) (H : AlikeOf R) (a b : List VD) (L M : Value) (w : World) (ha : Vls (R w) w L a) (hb : Vls (R w) w M b) :
  Calls Tryz.prog 49 #[L,M,alikeF] w fun e w' => e = .returned (.bool (sameL a b)) ∧ Below w.heap.size w w':=by
 have HA:=Lib.hid ha
 have HB:=Lib.hid hb
 have HH:=Lib.hid H
 have HR:=Lib.hid hR
 obtain ⟨A,C,rfl,hl⟩:=ha.is
 obtain ⟨A2,C2,rfl,hl2⟩:=hb.is
 obtain ⟨z,hz⟩ : ∃ z,z = sameL a b:=⟨_,rfl⟩
 rw [← hz]
 have HZ : Hid (z = true ↔ a = b):=Lib.hid (by rw [hz,sameL_iff])
 clear hz ha hb H hR
 by_cases hlen : a.length = b.length
 ·have e1 : ((a.length : Int) != (b.length : Int)) = false:=by rw [bne_eq_false_iff_eq];omega
  have HL:=Lib.hid hlen
  clear hlen
  go_enter Tryz.func49,Tryz.ntmps49
  go_wp2_with fail
  go_loopg [17] a.length (fun k s17 wr => ∃ t : Nat,k + t = a.length ∧ s17 = .int .i64 t ∧ Hid (∀ i,i < t → vg a i = vg b i) ∧ w.heap.size ≤ wr.heap.size ∧ Below w.heap.size w wr)
  case atStart => exact ⟨0,by omega,rfl,Lib.hid (fun i hi => absurd hi (Nat.not_lt_zero _)),by omega,by (repeat' first|(with_reducible first|exact blR _ _|assumption|refine blD ?_|refine blN ?_ _)|((with_reducible first|refine blA ?_ ?_ _|refine blS ?_ ?_ _|refine blT (by assumption) ?_ ?_);focus (go_size;done)))⟩
  case round =>
   obtain ⟨t,hk,rfl,HE,hsz,hbel⟩:=hrel
   have HK:=Lib.hid hk
   have htl : t ≤ a.length:=by omega
   clear hk
   by_cases hlt : t < a.length
   ·obtain ⟨b1,o1,A3,C3,A4,C4,rfl,hat1,hx⟩:=(HA.out.below hbel (fun _ _ _ h => HR.out _ _ _ _ _ h hbel)).at hlt
    obtain ⟨b2,o2,A5,C5,A6,C6,rfl,hat2,hy⟩:=(HB.out.below hbel (fun _ _ _ h => HR.out _ _ _ _ _ h hbel)).at (show t < b.length by have:=HL.out;omega)
    obtain ⟨a0,a1,a2,a3,a4,a5,a6,a7,a8,a9⟩:=hat1.val
    obtain ⟨d0,d1,d2,d3,d4,d5,d6,d7,d8,d9⟩:=hat2.val
    have l1:=vcell_lt a0
    have l2:=vcell_lt d0
    have ht2 : (t : Int) < (a.length : Int):=by omega
    have ht3 : (t : Int) < (b.length : Int):=by have:=HL.out;omega
    obtain ⟨x,hxx⟩ : ∃ x,x = vg a t:=⟨_,rfl⟩
    obtain ⟨y,hyy⟩ : ∃ y,y = vg b t:=⟨_,rfl⟩
    rw [← hxx] at hx a0 a1 a2 a3 a4 a5 a6 a7 a8 a9
    rw [← hyy] at hy d0 d1 d2 d3 d4 d5 d6 d7 d8 d9
    have HX:=Lib.hid hxx
    have HY:=Lib.hid hyy
    obtain ⟨n1,hn1⟩ : ∃ n1,n1 = x.list.length:=⟨_,rfl⟩
    obtain ⟨n2,hn2⟩ : ∃ n2,n2 = x.names.length:=⟨_,rfl⟩
    obtain ⟨n3,hn3⟩ : ∃ n3,n3 = y.list.length:=⟨_,rfl⟩
    obtain ⟨n4,hn4⟩ : ∃ n4,n4 = y.names.length:=⟨_,rfl⟩
    rw [← hn1] at a8 hx
    rw [← hn2] at a9 hx
    rw [← hn3] at d8 hy
    rw [← hn4] at d9 hy
    have HRX:=Lib.hid hx
    have HRY:=Lib.hid hy
    have HC:=Lib.hid (fun (W : World) (hW : Below wr.heap.size wr W) => HH.out x y (.slice A3 n1 C3) (.slice A4 n2 C4) (.slice A5 n3 C5) (.slice A6 n4 C6) W (HR.out _ _ _ _ _ HRX.out hW) (HR.out _ _ _ _ _ HRY.out hW))
    obtain ⟨q,hq⟩ : ∃ q,q = sameB x y:=⟨_,rfl⟩
    rw [← hq] at HC
    have HQ : Hid (q = true ↔ x = y):=Lib.hid (by rw [hq,sameB_iff])
    clear hat1 hat2 hx hy hxx hyy hn1 hn2 hn3 hn4 hq
    cases q with
    | true =>
     go_wp2_with ((go_at_call 28;with_reducible refine (HC.out _ (by (repeat' first|(with_reducible first|exact blR _ _|assumption|refine blD ?_|refine blN ?_ _)|((with_reducible first|refine blA ?_ ?_ _|refine blS ?_ ?_ _|refine blT (by assumption) ?_ ?_);focus (go_size;done))))).mono ?_);rintro _ w2 ⟨rfl,hb2⟩;have hb2s:=hb2.size;(try simp only [wsA,wsS,wsD,wsN] at hb2s);obtain ⟨hb2c,hb2f⟩:=bcell hb2;(try have : w.heap.size < w2.heap.size:=by omega);(try have : w.heap.size + 1 < w2.heap.size:=by omega);(try have : w.heap.size + 1 + 1 < w2.heap.size:=by omega);(try have : w.heap.size + 1 + 1 + 1 < w2.heap.size:=by omega))
     go_roundg (gk - 1)
     case measure => have:=HK.out;omega
     case rel => exact ⟨t + 1,by have:=HK.out;omega,by go_num,Lib.hid (fun i hi => by
      by_cases e : i = t
      ·subst e;rw [← HX.out,← HY.out];exact HQ.out.1 (by simp)
      ·exact HE.out i (by omega)),by omega,by (repeat' first|(with_reducible first|exact blR _ _|assumption|refine blD ?_|refine blN ?_ _)|((with_reducible first|refine blA ?_ ?_ _|refine blS ?_ ?_ _|refine blT (by assumption) ?_ ?_);focus (go_size;done)))⟩
    | false =>
     have hz : z = false:=by
      cases z with
      | false => rfl
      | true => exact Bool.noConfusion (HQ.out.2 (by rw [HX.out,HY.out,HZ.out.1 rfl]))
     subst hz
     go_wp2_with ((go_at_call 28;with_reducible refine (HC.out _ (by (repeat' first|(with_reducible first|exact blR _ _|assumption|refine blD ?_|refine blN ?_ _)|((with_reducible first|refine blA ?_ ?_ _|refine blS ?_ ?_ _|refine blT (by assumption) ?_ ?_);focus (go_size;done))))).mono ?_);rintro _ w2 ⟨rfl,hb2⟩;have hb2s:=hb2.size;(try simp only [wsA,wsS,wsD,wsN] at hb2s);obtain ⟨hb2c,hb2f⟩:=bcell hb2;(try have : w.heap.size < w2.heap.size:=by omega);(try have : w.heap.size + 1 < w2.heap.size:=by omega);(try have : w.heap.size + 1 + 1 < w2.heap.size:=by omega);(try have : w.heap.size + 1 + 1 + 1 < w2.heap.size:=by omega))
     go_ret
     exact ⟨rfl,by (repeat' first|(with_reducible first|exact blR _ _|assumption|refine blD ?_|refine blN ?_ _)|((with_reducible first|refine blA ?_ ?_ _|refine blS ?_ ?_ _|refine blT (by assumption) ?_ ?_);focus (go_size;done)))⟩
   ·obtain rfl : t = a.length:=by omega
    have hz : z = true:=HZ.out.2 (List.ext_getElem HL.out (fun i h1 h2 => by rw [← vg_get h1,← vg_get h2];exact HE.out i h1))
    subst hz
    clear hlt
    go_wp2_with fail
    go_ret
    exact ⟨rfl,by (repeat' first|(with_reducible first|exact blR _ _|assumption|refine blD ?_|refine blN ?_ _)|((with_reducible first|refine blA ?_ ?_ _|refine blS ?_ ?_ _|refine blT (by assumption) ?_ ?_);focus (go_size;done)))⟩
 ·have e1 : ((a.length : Int) != (b.length : Int)) = true:=by rw [bne_iff_ne];omega
  have hz : z = false:=by
   cases z with
   | false => rfl
   | true => exact absurd (congrArg List.length (HZ.out.1 rfl)) hlen
  subst hz
  clear hlen
  go_enter Tryz.func49,Tryz.ntmps49
  go_wp2_with fail
  go_ret
  exact ⟨rfl,by (repeat' first|(with_reducible first|exact blR _ _|assumption|refine blD ?_|refine blN ?_ _)|((with_reducible first|refine blA ?_ ?_ _|refine blS ?_ ?_ _|refine blT (by assumption) ?_ ?_);focus (go_size;done)))⟩
end Go.Proofs.YtkjecoanlppeaaaGreatDoor



namespace Go.Proofs.YtkjecoanlppeaaaGreatDoor
open Go.RowKit

theorem same_iff {s s' : VS} {l l' : List VD} {n n' : List (List UInt8)} (h : s.ok) (h' : s'.ok) : sameB (.mk s l n) (.mk s' l' n') = true ↔ s.kind = s'.kind ∧ s.yes = s'.yes ∧ numE s s' = true ∧ s.text = s'.text ∧ s.day = s'.day ∧ n = n' ∧ l = l':=by
 rw [sameB_iff]
 constructor
 ·intro e
  injection e with e1 e2 e3
  subst e1
  exact ⟨rfl,rfl,by unfold numE;simp,rfl,rfl,e3,e2⟩
 ·rintro ⟨h1,h2,h3,h4,h5,h6,h7⟩
  unfold numE at h3
  simp only [Bool.and_eq_true,beq_iff_eq] at h3
  obtain ⟨g1,g2,g3,g4⟩:=h3
  have g5:=wd_inj h.1 h'.1 g2 g3
  obtain ⟨k,y,ne,c,sc,t,d⟩:=s
  obtain ⟨k',y',ne',c',sc',t',d'⟩:=s'
  dsimp only at h1 h2 g1 g5 g4 h4 h5
  subst h1 h2 g1 g5 g4 h4 h5 h6 h7
  rfl
set_option maxRecDepth 100000 in
set_option maxHeartbeats 4000000 in
theorem alike_step (R : World → Value → Value → VD → Prop) (hR : ∀ w w' L N x,R w L N x → Below w.heap.size w w' → R w' L N x) (H : AlikeOf R)
  (s s' : VS) (l l' : List VD) (n n' : List (List UInt8)) (L L' N N' : Value) (w : World) (hs : s.ok) (hs' : s'.ok) (hl : Vls (R w) w L l) (hl' : Vls (R w) w L' l') (hn : Nms w N n) (hn' : Nms w N' n') :
  Calls Tryz.prog 28 #[vagg s L N,vagg s' L' N'] w fun e w' => e = .returned (.bool (sameB (.mk s l n) (.mk s' l' n'))) ∧ Below w.heap.size w w':=by
 have HL:=Lib.hid hl
 have HL':=Lib.hid hl'
 have HN:=Lib.hid hn
 have HN':=Lib.hid hn'
 have HR:=Lib.hid hR
 have HH:=Lib.hid H
 obtain ⟨A,C,rfl,q1⟩:=hl.is
 obtain ⟨A',C',rfl,q2⟩:=hl'.is
 obtain ⟨A2,C2,rfl,q3⟩:=hn.is
 obtain ⟨A2',C2',rfl,q4⟩:=hn'.is
 have hsi:=same_iff (l:=l) (l':=l') (n:=n) (n':=n') hs hs'
 obtain ⟨z,hz⟩ : ∃ z,z = sameB (.mk s l n) (.mk s' l' n'):=⟨_,rfl⟩
 rw [← hz] at hsi ⊢
 obtain ⟨nb,hnb⟩ : ∃ nb,nb = numE s s':=⟨_,rfl⟩
 rw [← hnb] at hsi
 unfold numE at hnb
 obtain ⟨k1,y1,ne1,c1,sc1,t1,d1⟩:=s
 obtain ⟨k2,y2,ne2,c2,sc2,t2,d2⟩:=s'
 unfold vagg
 dsimp only at hsi hnb ⊢
 have r1 : ∀ W,(binOp .eql 32 (.agg #[.bool ne1,.int .u64 (wd c1 1),.int .u64 (wd c1 0),.int .i64 sc1]) (.agg #[.bool ne2,.int .u64 (wd c2 1),.int .u64 (wd c2 0),.int .i64 sc2])).run Tryz.prog W = .ok (.bool nb) W:=fun W => by rw [veq_dec,hnb]
 have r2 : ∀ W,(binOp .neq 32 (.agg #[.bool ne1,.int .u64 (wd c1 1),.int .u64 (wd c1 0),.int .i64 sc1]) (.agg #[.bool ne2,.int .u64 (wd c2 1),.int .u64 (wd c2 0),.int .i64 sc2])).run Tryz.prog W = .ok (.bool (!nb)) W:=fun W => by rw [vneq_dec,hnb]
 obtain ⟨x1,hx1⟩ : ∃ x,x = wd c1 1:=⟨_,rfl⟩
 obtain ⟨x0,hx0⟩ : ∃ x,x = wd c1 0:=⟨_,rfl⟩
 obtain ⟨v1,hv1⟩ : ∃ x,x = wd c2 1:=⟨_,rfl⟩
 obtain ⟨v0,hv0⟩ : ∃ x,x = wd c2 0:=⟨_,rfl⟩
 rw [← hx1,← hx0,← hv1,← hv0] at r1 r2
 rw [← hx1,← hx0,← hv1,← hv0]
 have HZ : Hid ((¬ (k1 = k2 ∧ y1 = y2 ∧ nb = true ∧ t1 = t2 ∧ d1 = d2 ∧ n = n' ∧ l = l') → z = false) ∧ ((k1 = k2 ∧ y1 = y2 ∧ nb = true ∧ t1 = t2 ∧ d1 = d2 ∧ n = n' ∧ l = l') → z = true)):=Lib.hid ⟨fun h => by
  cases z with
  | false => rfl
  | true => exact absurd (hsi.1 rfl) h,hsi.2⟩
 have hll : (l.length : Int) ≤ 1048576:=by omega
 have hll' : (l'.length : Int) ≤ 1048576:=by omega
 have hnl : (n.length : Int) ≤ 1048576:=by omega
 have hnl' : (n'.length : Int) ≤ 1048576:=by omega
 clear hsi hz hnb hx1 hx0 hv1 hv0 hs hs' hl hl' hn hn' hR H q1 q2 q3 q4
 by_cases hk : k1 = k2
 rotate_left
 ·have f1 : (k1 == k2) = false:=by rw [beq_eq_false_iff_ne];exact hk
  have f2 : (k1 != k2) = true:=by rw [bne_iff_ne];exact hk
  have hz : z = false:=HZ.out.1 (fun h => hk h.1)
  subst hz
  clear HZ
  go_enter Tryz.func28,Tryz.ntmps28
  go_wp2_with fail
  all_goals (go_ret;exact ⟨rfl,by (repeat' first|(with_reducible first|exact blR _ _|assumption|refine blD ?_|refine blN ?_ _)|((with_reducible first|refine blA ?_ ?_ _|refine blS ?_ ?_ _|refine blT (by assumption) ?_ ?_);focus (go_size;done)))⟩)
 subst hk
 by_cases hy : y1 = y2
 rotate_left
 ·have f1 : (y1 == y2) = false:=by rw [beq_eq_false_iff_ne];exact hy
  have f2 : (y1 != y2) = true:=by rw [bne_iff_ne];exact hy
  have hz : z = false:=HZ.out.1 (fun h => hy h.2.1)
  subst hz
  clear HZ
  go_enter Tryz.func28,Tryz.ntmps28
  go_wp2_with fail
  all_goals (go_ret;exact ⟨rfl,by (repeat' first|(with_reducible first|exact blR _ _|assumption|refine blD ?_|refine blN ?_ _)|((with_reducible first|refine blA ?_ ?_ _|refine blS ?_ ?_ _|refine blT (by assumption) ?_ ?_);focus (go_size;done)))⟩)
 subst hy
 cases nb with
 | false =>
  have hz : z = false:=HZ.out.1 (fun h => by simp at h)
  subst hz
  clear HZ
  go_enter Tryz.func28,Tryz.ntmps28
  go_wp2_with fail
  all_goals (go_ret;exact ⟨rfl,by (repeat' first|(with_reducible first|exact blR _ _|assumption|refine blD ?_|refine blN ?_ _)|((with_reducible first|refine blA ?_ ?_ _|refine blS ?_ ?_ _|refine blT (by assumption) ?_ ?_);focus (go_size;done)))⟩)
 | true =>
  by_cases ht : t1 = t2
  rotate_left
  ·have f1 : (t1 == t2) = false:=by simpa using ht
   have hz : z = false:=HZ.out.1 (fun h => ht h.2.2.2.1)
   subst hz
   clear HZ
   go_enter Tryz.func28,Tryz.ntmps28
   go_wp2_with fail
   all_goals (go_ret;exact ⟨rfl,by (repeat' first|(with_reducible first|exact blR _ _|assumption|refine blD ?_|refine blN ?_ _)|((with_reducible first|refine blA ?_ ?_ _|refine blS ?_ ?_ _|refine blT (by assumption) ?_ ?_);focus (go_size;done)))⟩)
  subst ht
  by_cases hd : d1 = d2
  rotate_left
  ·have f1 : (d1 == d2) = false:=by rw [beq_eq_false_iff_ne];exact hd
   have f2 : (d1 != d2) = true:=by rw [bne_iff_ne];exact hd
   have hz : z = false:=HZ.out.1 (fun h => hd h.2.2.2.2.1)
   subst hz
   clear HZ
   go_enter Tryz.func28,Tryz.ntmps28
   go_wp2_with fail
   all_goals (go_ret;exact ⟨rfl,by (repeat' first|(with_reducible first|exact blR _ _|assumption|refine blD ?_|refine blN ?_ _)|((with_reducible first|refine blA ?_ ?_ _|refine blS ?_ ?_ _|refine blT (by assumption) ?_ ?_);focus (go_size;done)))⟩)
  subst hd
  have HE1:=Lib.hid (fun (W : World) (hW : Below w.heap.size w W) => eqnames_any n n' (.slice A2 n.length C2) (.slice A2' n'.length C2') W (HN.out.below hW) (HN'.out.below hW))
  have HE2:=Lib.hid (fun (W : World) (hW : Below w.heap.size w W) => eqlist_step R HR.out HH.out l l' (.slice A l.length C) (.slice A' l'.length C') W (HL.out.below hW (fun _ _ _ h => HR.out _ _ _ _ _ h hW)) (HL'.out.below hW (fun _ _ _ h => HR.out _ _ _ _ _ h hW)))
  obtain ⟨eN,heN⟩ : ∃ e,e = decide (n = n'):=⟨_,rfl⟩
  obtain ⟨eL,heL⟩ : ∃ e,e = sameL l l':=⟨_,rfl⟩
  rw [← heN] at HE1
  rw [← heL] at HE2
  have heN2 : eN = true ↔ n = n':=by rw [heN,decide_eq_true_eq]
  have heL2 : eL = true ↔ l = l':=by rw [heL,sameL_iff]
  have HZ2 : Hid (z = (eN && eL)):=Lib.hid (by
   rw [Bool.eq_iff_iff,Bool.and_eq_true,heN2,heL2]
   constructor
   ·intro h
    by_cases q : n = n' ∧ l = l'
    ·exact q
    ·have:=HZ.out.1 (fun h => q ⟨h.2.2.2.2.2.1,h.2.2.2.2.2.2⟩)
     rw [this] at h;exact Bool.noConfusion h
   ·rintro ⟨a,b⟩
    exact HZ.out.2 ⟨rfl,rfl,rfl,rfl,rfl,a,b⟩)
  clear HZ heN heL heN2 heL2
  cases eN with
  | false =>
   have hz : z = false:=HZ2.out
   subst hz
   go_enter Tryz.func28,Tryz.ntmps28
   go_wp2_with (go_at_call 48;(with_reducible refine (HE1.out _ (by (repeat' first|(with_reducible first|exact blR _ _|assumption|refine blD ?_|refine blN ?_ _)|((with_reducible first|refine blA ?_ ?_ _|refine blS ?_ ?_ _|refine blT (by assumption) ?_ ?_);focus (go_size;done))))).mono ?_);rintro _ _ ⟨rfl,nn,rfl⟩)
   go_ret
   exact ⟨rfl,by (repeat' first|(with_reducible first|exact blR _ _|assumption|refine blD ?_|refine blN ?_ _)|((with_reducible first|refine blA ?_ ?_ _|refine blS ?_ ?_ _|refine blT (by assumption) ?_ ?_);focus (go_size;done)))⟩
  | true =>
   have hz : z = eL:=by rw [HZ2.out];rfl
   subst hz
   clear HZ2
   go_enter Tryz.func28,Tryz.ntmps28
   go_wp2_with (first | (go_at_call 48;(with_reducible refine (HE1.out _ (by (repeat' first|(with_reducible first|exact blR _ _|assumption|refine blD ?_|refine blN ?_ _)|((with_reducible first|refine blA ?_ ?_ _|refine blS ?_ ?_ _|refine blT (by assumption) ?_ ?_);focus (go_size;done))))).mono ?_);rintro _ _ ⟨rfl,nn,rfl⟩) | ((go_at_call 49;with_reducible refine (HE2.out _ (by (repeat' first|(with_reducible first|exact blR _ _|assumption|refine blD ?_|refine blN ?_ _)|((with_reducible first|refine blA ?_ ?_ _|refine blS ?_ ?_ _|refine blT (by assumption) ?_ ?_);focus (go_size;done))))).mono ?_);rintro _ w2 ⟨rfl,hb2⟩;have hb2s:=hb2.size;(try simp only [wsA,wsS,wsD,wsN] at hb2s);obtain ⟨hb2c,hb2f⟩:=bcell hb2;(try have : w.heap.size < w2.heap.size:=by omega);(try have : w.heap.size + 1 < w2.heap.size:=by omega);(try have : w.heap.size + 1 + 1 < w2.heap.size:=by omega);(try have : w.heap.size + 1 + 1 + 1 < w2.heap.size:=by omega)))
   go_ret
   exact ⟨rfl,by (repeat' first|(with_reducible first|exact blR _ _|assumption|refine blD ?_|refine blN ?_ _)|((with_reducible first|refine blA ?_ ?_ _|refine blS ?_ ?_ _|refine blT (by assumption) ?_ ?_);focus (go_size;done)))⟩
theorem alike_any : ∀ n,AlikeOf (VR n)
 | 0,_,_,_,_,_,_,_,h,_ => h.elim
 | n + 1,x,y,L,N,L',N',w,h,h' => by
  obtain ⟨s,l,nm⟩:=x
  obtain ⟨s',l',nm'⟩:=y
  exact alike_step (VR n) (fun _ _ _ _ _ h hb => h.below hb) (alike_any n) s s' l l' nm nm' L L' N N' w h.1 h'.1 h.2.1 h'.2.1 h.2.2 h'.2.2
end Go.Proofs.YtkjecoanlppeaaaGreatDoor



namespace Go.Proofs.YtkjecoanlppeaaaGreatDoor
open Go.RowKit

def RSameOf (R : World → Value → Value → VD → Prop) : Prop:=∀ (x y : VD) (L N L' N' : Value) (w : World),R w L N x → R w L' N' y →
 Calls Tryz.prog 26 #[vagg x.s L N,vagg y.s L' N'] w fun e w' => e = .returned (.bool (sameB x y)) ∧ Below w.heap.size w w'
/-- the two boxes' slices -/
def SMem (w wx : World) (A : Option Addr) (n C : Nat) (A2 : Option Addr) (n2 C2 : Nat) (A3 : Option Addr) (n3 C3 : Nat) (A4 : Option Addr) (n4 C4 : Nat) : Prop :=
 wx.cell? ⟨w.heap.size,8,none⟩ = some (.slice A n C) ∧ wx.cell? ⟨w.heap.size,9,none⟩ = some (.slice A2 n2 C2) ∧ wx.cell? ⟨w.heap.size + 1,8,none⟩ = some (.slice A3 n3 C3) ∧ wx.cell? ⟨w.heap.size + 1,9,none⟩ = some (.slice A4 n4 C4) ∧ w.heap.size + 1 < wx.heap.size ∧ Below w.heap.size w wx
section
variable {w wx w' : World} {A A2 A3 A4 : Option Addr} {n C n2 C2 n3 C3 n4 C4 : Nat}
theorem SMem.drewN (h : SMem w wx A n C A2 n2 C2 A3 n3 C3 A4 n4 C4) (k : Nat) : SMem w (wx.drewN k) A n C A2 n2 C2 A3 n3 C3 A4 n4 C4:=⟨h.1,h.2.1,h.2.2.1,h.2.2.2.1,h.2.2.2.2.1,below_drewN h.2.2.2.2.2 k⟩
theorem SMem.below (h : SMem w wx A n C A2 n2 C2 A3 n3 C3 A4 n4 C4) (hb : Below wx.heap.size wx w') : SMem w w' A n C A2 n2 C2 A3 n3 C3 A4 n4 C4:=by
 obtain ⟨h1,h2,h3,h4,h5,h6⟩:=h
 exact ⟨(hb.cell (p:=⟨w.heap.size,8,none⟩) (by show w.heap.size < _;omega)).trans h1,(hb.cell (p:=⟨w.heap.size,9,none⟩) (by show w.heap.size < _;omega)).trans h2,(hb.cell (p:=⟨w.heap.size + 1,8,none⟩) h5).trans h3,(hb.cell (p:=⟨w.heap.size + 1,9,none⟩) h5).trans h4,Nat.lt_of_lt_of_le h5 hb.size,h6.trans (hb.mono (by omega))⟩
end
set_option maxRecDepth 100000 in
set_option maxHeartbeats 4000000 in
theorem rsame_step (R : World → Value → Value → VD → Prop) (hR : ∀ w w' L N x,R w L N x → Below w.heap.size w w' → R w' L N x) (H : RSameOf R)
  (s s' : VS) (l l' : List VD) (n n' : List (List UInt8)) (L L' N N' : Value) (w : World) (hs : s.ok) (hs' : s'.ok) (hl : Vls (R w) w L l) (hl' : Vls (R w) w L' l') (hn : Nms w N n) (hn' : Nms w N' n') :
  Calls Tryz.prog 26 #[vagg s L N,vagg s' L' N'] w fun e w' => e = .returned (.bool (sameB (.mk s l n) (.mk s' l' n'))) ∧ Below w.heap.size w w':=by
 have HL:=Lib.hid hl
 have HL':=Lib.hid hl'
 have HN:=Lib.hid hn
 have HN':=Lib.hid hn'
 have HR:=Lib.hid hR
 have HH:=Lib.hid H
 obtain ⟨A,C,rfl,q1⟩:=hl.is
 obtain ⟨A',C',rfl,q2⟩:=hl'.is
 obtain ⟨A2,C2,rfl,q3⟩:=hn.is
 obtain ⟨A2',C2',rfl,q4⟩:=hn'.is
 have hsi:=same_iff (l:=l) (l':=l') (n:=n) (n':=n') hs hs'
 obtain ⟨z,hz⟩ : ∃ z,z = sameB (.mk s l n) (.mk s' l' n'):=⟨_,rfl⟩
 rw [← hz] at hsi ⊢
 obtain ⟨nb,hnb⟩ : ∃ nb,nb = numE s s':=⟨_,rfl⟩
 rw [← hnb] at hsi
 unfold numE at hnb
 obtain ⟨k1,y1,ne1,c1,sc1,t1,d1⟩:=s
 obtain ⟨k2,y2,ne2,c2,sc2,t2,d2⟩:=s'
 unfold vagg
 dsimp only at hsi hnb ⊢
 have r1 : ∀ W,(binOp .eql 32 (.agg #[.bool ne1,.int .u64 (wd c1 1),.int .u64 (wd c1 0),.int .i64 sc1]) (.agg #[.bool ne2,.int .u64 (wd c2 1),.int .u64 (wd c2 0),.int .i64 sc2])).run Tryz.prog W = .ok (.bool nb) W:=fun W => by rw [veq_dec,hnb]
 have r2 : ∀ W,(binOp .neq 32 (.agg #[.bool ne1,.int .u64 (wd c1 1),.int .u64 (wd c1 0),.int .i64 sc1]) (.agg #[.bool ne2,.int .u64 (wd c2 1),.int .u64 (wd c2 0),.int .i64 sc2])).run Tryz.prog W = .ok (.bool (!nb)) W:=fun W => by rw [vneq_dec,hnb]
 obtain ⟨x1,hx1⟩ : ∃ x,x = wd c1 1:=⟨_,rfl⟩
 obtain ⟨x0,hx0⟩ : ∃ x,x = wd c1 0:=⟨_,rfl⟩
 obtain ⟨v1,hv1⟩ : ∃ x,x = wd c2 1:=⟨_,rfl⟩
 obtain ⟨v0,hv0⟩ : ∃ x,x = wd c2 0:=⟨_,rfl⟩
 rw [← hx1,← hx0,← hv1,← hv0] at r1 r2
 rw [← hx1,← hx0,← hv1,← hv0]
 have HZ : Hid ((¬ (k1 = k2 ∧ y1 = y2 ∧ nb = true ∧ t1 = t2 ∧ d1 = d2 ∧ n = n' ∧ l = l') → z = false) ∧ ((k1 = k2 ∧ y1 = y2 ∧ nb = true ∧ t1 = t2 ∧ d1 = d2 ∧ n = n' ∧ l = l') → z = true)):=Lib.hid ⟨fun h => by
  cases z with
  | false => rfl
  | true => exact absurd (hsi.1 rfl) h,hsi.2⟩
 have hll : (l.length : Int) ≤ 1048576:=by omega
 have hll' : (l'.length : Int) ≤ 1048576:=by omega
 have hnl : (n.length : Int) ≤ 1048576:=by omega
 have hnl' : (n'.length : Int) ≤ 1048576:=by omega
 clear hsi hz hnb hx1 hx0 hv1 hv0 hs hs' hl hl' hn hn' hR H q1 q2 q3 q4
 by_cases hk : k1 = k2
 rotate_left
 ·have f1 : (k1 == k2) = false:=by rw [beq_eq_false_iff_ne];exact hk
  have f2 : (k1 != k2) = true:=by rw [bne_iff_ne];exact hk
  have hz : z = false:=HZ.out.1 (fun h => hk h.1)
  subst hz
  clear HZ
  go_enter Tryz.func26,Tryz.ntmps26
  go_wp2_with fail
  all_goals (go_ret;exact ⟨rfl,by (repeat' first|(with_reducible first|exact blR _ _|assumption|refine blD ?_|refine blN ?_ _)|((with_reducible first|refine blA ?_ ?_ _|refine blS ?_ ?_ _|refine blT (by assumption) ?_ ?_);focus (go_size;done)))⟩)
 subst hk
 by_cases hy : y1 = y2
 rotate_left
 ·have f1 : (y1 == y2) = false:=by rw [beq_eq_false_iff_ne];exact hy
  have f2 : (y1 != y2) = true:=by rw [bne_iff_ne];exact hy
  have hz : z = false:=HZ.out.1 (fun h => hy h.2.1)
  subst hz
  clear HZ
  go_enter Tryz.func26,Tryz.ntmps26
  go_wp2_with fail
  all_goals (go_ret;exact ⟨rfl,by (repeat' first|(with_reducible first|exact blR _ _|assumption|refine blD ?_|refine blN ?_ _)|((with_reducible first|refine blA ?_ ?_ _|refine blS ?_ ?_ _|refine blT (by assumption) ?_ ?_);focus (go_size;done)))⟩)
 subst hy
 cases nb with
 | false =>
  have hz : z = false:=HZ.out.1 (fun h => by simp at h)
  subst hz
  clear HZ
  go_enter Tryz.func26,Tryz.ntmps26
  go_wp2_with fail
  all_goals (go_ret;exact ⟨rfl,by (repeat' first|(with_reducible first|exact blR _ _|assumption|refine blD ?_|refine blN ?_ _)|((with_reducible first|refine blA ?_ ?_ _|refine blS ?_ ?_ _|refine blT (by assumption) ?_ ?_);focus (go_size;done)))⟩)
 | true =>
  by_cases ht : t1 = t2
  rotate_left
  ·have f1 : (t1 == t2) = false:=by simpa using ht
   have hz : z = false:=HZ.out.1 (fun h => ht h.2.2.2.1)
   subst hz
   clear HZ
   go_enter Tryz.func26,Tryz.ntmps26
   go_wp2_with fail
   all_goals (go_ret;exact ⟨rfl,by (repeat' first|(with_reducible first|exact blR _ _|assumption|refine blD ?_|refine blN ?_ _)|((with_reducible first|refine blA ?_ ?_ _|refine blS ?_ ?_ _|refine blT (by assumption) ?_ ?_);focus (go_size;done)))⟩)
  subst ht
  by_cases hd : d1 = d2
  rotate_left
  ·have f1 : (d1 == d2) = false:=by rw [beq_eq_false_iff_ne];exact hd
   have f2 : (d1 != d2) = true:=by rw [bne_iff_ne];exact hd
   have hz : z = false:=HZ.out.1 (fun h => hd h.2.2.2.2.1)
   subst hz
   clear HZ
   go_enter Tryz.func26,Tryz.ntmps26
   go_wp2_with fail
   all_goals (go_ret;exact ⟨rfl,by (repeat' first|(with_reducible first|exact blR _ _|assumption|refine blD ?_|refine blN ?_ _)|((with_reducible first|refine blA ?_ ?_ _|refine blS ?_ ?_ _|refine blT (by assumption) ?_ ?_);focus (go_size;done)))⟩)
  subst hd
  by_cases hll0 : l.length = l'.length
  rotate_left
  ·have f1 : ((l.length : Int) != (l'.length : Int)) = true:=by rw [bne_iff_ne];omega
   have hz : z = false:=HZ.out.1 (fun h => hll0 (by rw [h.2.2.2.2.2.2]))
   subst hz
   clear HZ
   go_enter Tryz.func26,Tryz.ntmps26
   go_wp2_with fail
   all_goals (go_ret;exact ⟨rfl,by (repeat' first|(with_reducible first|exact blR _ _|assumption|refine blD ?_|refine blN ?_ _)|((with_reducible first|refine blA ?_ ?_ _|refine blS ?_ ?_ _|refine blT (by assumption) ?_ ?_);focus (go_size;done)))⟩)
  by_cases hnl0 : n.length = n'.length
  rotate_left
  ·have f1 : ((l.length : Int) != (l'.length : Int)) = false:=by rw [bne_eq_false_iff_eq];omega
   have f2 : ((n.length : Int) != (n'.length : Int)) = true:=by rw [bne_iff_ne];omega
   have hz : z = false:=HZ.out.1 (fun h => hnl0 (by rw [h.2.2.2.2.2.1]))
   subst hz
   clear HZ hll0 hnl0
   go_enter Tryz.func26,Tryz.ntmps26
   go_wp2_with fail
   all_goals (go_ret;exact ⟨rfl,by (repeat' first|(with_reducible first|exact blR _ _|assumption|refine blD ?_|refine blN ?_ _)|((with_reducible first|refine blA ?_ ?_ _|refine blS ?_ ?_ _|refine blT (by assumption) ?_ ?_);focus (go_size;done)))⟩)
  have f1 : ((l.length : Int) != (l'.length : Int)) = false:=by rw [bne_eq_false_iff_eq];omega
  have f2 : ((n.length : Int) != (n'.length : Int)) = false:=by rw [bne_eq_false_iff_eq];omega
  have HLL:=Lib.hid hll0
  have HNL:=Lib.hid hnl0
  clear hll0 hnl0
  go_enter Tryz.func26,Tryz.ntmps26
  go_wp2_with fail
  go_loopg [5] n.length (fun k s5 wr => ∃ t : Nat,k + t = n.length ∧ s5 = .int .i64 t ∧ Hid (∀ i,i < t → ng n i = ng n' i) ∧ Hid (SMem w wr A l.length C A2 n.length C2 A' l'.length C' A2' n'.length C2'))
  case atStart => exact ⟨0,by omega,rfl,Lib.hid (fun i hi => absurd hi (Nat.not_lt_zero _)),Lib.hid ⟨by go_simp,by go_simp,by go_simp,by go_simp,by go_size,by (repeat' first|(with_reducible first|exact blR _ _|assumption|refine blD ?_|refine blN ?_ _)|((with_reducible first|refine blA ?_ ?_ _|refine blS ?_ ?_ _|refine blT (by assumption) ?_ ?_);focus (go_size;done)))⟩⟩
  case round =>
   obtain ⟨t,hk,rfl,HE,HM⟩:=hrel
   have HK:=Lib.hid hk
   have htl : t ≤ n.length:=by omega
   obtain ⟨c8,c9,e8,e9,hsz,hbel⟩:=id HM.out
   clear hk
   by_cases hlt : t < n.length
   ·obtain ⟨b1,o1,rfl,g1,_⟩:=(HN.out.below hbel).at hlt
    obtain ⟨b2,o2,rfl,g2,_⟩:=(HN'.out.below hbel).at (show t < n'.length by have:=HNL.out;omega)
    have ht2 : (t : Int) < (n.length : Int):=by omega
    have ht3 : (t : Int) < (n'.length : Int):=by have:=HNL.out;omega
    have l1:=vcell_lt g1
    have l2:=vcell_lt g2
    obtain ⟨x,hx⟩ : ∃ x,x = ng n t:=⟨_,rfl⟩
    obtain ⟨y,hy⟩ : ∃ y,y = ng n' t:=⟨_,rfl⟩
    rw [← hx] at g1
    rw [← hy] at g2
    have HX:=Lib.hid hx
    have HY:=Lib.hid hy
    clear hx hy
    by_cases hxy : x = y
    ·have HXY:=Lib.hid hxy
     subst hxy
     go_wp2_with fail
     go_quiet (fail)
     go_wp2_with fail
     go_roundg (gk - 1)
     case measure => have:=HK.out;omega
     case rel => exact ⟨t + 1,by have:=HK.out;omega,by go_num,Lib.hid (fun i hi => by
      by_cases e : i = t
      ·subst e;rw [← HX.out,← HY.out]
      ·exact HE.out i (by omega)),Lib.hid (HM.out.drewN _)⟩
    ·have g3 : (x == y) = false:=by simpa using hxy
     have hz : z = false:=HZ.out.1 (fun h => hxy (by rw [HX.out,HY.out,h.2.2.2.2.2.1]))
     subst hz
     go_wp2_with fail
     go_quiet (fail)
     go_wp2_with fail
     go_ret
     exact ⟨rfl,by (repeat' first|(with_reducible first|exact blR _ _|assumption|refine blD ?_|refine blN ?_ _)|((with_reducible first|refine blA ?_ ?_ _|refine blS ?_ ?_ _|refine blT (by assumption) ?_ ?_);focus (go_size;done)))⟩
   ·obtain rfl : t = n.length:=by omega
    have hnn : n = n':=List.ext_getElem HNL.out (fun i h1 h2 => by rw [← ng_get h1,← ng_get h2];exact HE.out i h1)
    have HNN:=Lib.hid hnn
    clear hnn hlt HE
    obtain ⟨wo,hwo⟩ : ∃ wo : World,wo = wr:=⟨_,rfl⟩
    clear hwo
    go_wp2_with fail
    go_loopg [6] l.length (fun k s6 wr => ∃ t : Nat,k + t = l.length ∧ s6 = .int .i64 t ∧ Hid (∀ i,i < t → vg l i = vg l' i) ∧ Hid (SMem w wr A l.length C A2 n.length C2 A' l'.length C' A2' n'.length C2'))
    case atStart => exact ⟨0,by omega,rfl,Lib.hid (fun i hi => absurd hi (Nat.not_lt_zero _)),HM⟩
    case round =>
     obtain ⟨t,hk,rfl,HE,HM2⟩:=hrel
     have HK2:=Lib.hid hk
     have htl2 : t ≤ l.length:=by omega
     clear hk HM hsz hbel c8 c9 e8 e9
     obtain ⟨c8,c9,e8,e9,hsz,hbel⟩:=id HM2.out
     by_cases hlt : t < l.length
     ·obtain ⟨b1,o1,A3,C3,A4,C4,rfl,hat1,hx⟩:=(HL.out.below hbel (fun _ _ _ h => HR.out _ _ _ _ _ h hbel)).at hlt
      obtain ⟨b2,o2,A5,C5,A6,C6,rfl,hat2,hy⟩:=(HL'.out.below hbel (fun _ _ _ h => HR.out _ _ _ _ _ h hbel)).at (show t < l'.length by have:=HLL.out;omega)
      obtain ⟨a0,a1,a2,a3,a4,a5,a6,a7,a8,a9⟩:=hat1.val
      obtain ⟨u0,u1,u2,u3,u4,u5,u6,u7,u8,u9⟩:=hat2.val
      have l1:=vcell_lt a0
      have l2:=vcell_lt u0
      have ht2 : (t : Int) < (l.length : Int):=by omega
      have ht3 : (t : Int) < (l'.length : Int):=by have:=HLL.out;omega
      obtain ⟨x,hxx⟩ : ∃ x,x = vg l t:=⟨_,rfl⟩
      obtain ⟨y,hyy⟩ : ∃ y,y = vg l' t:=⟨_,rfl⟩
      rw [← hxx] at hx a0 a1 a2 a3 a4 a5 a6 a7 a8 a9
      rw [← hyy] at hy u0 u1 u2 u3 u4 u5 u6 u7 u8 u9
      have HX:=Lib.hid hxx
      have HY:=Lib.hid hyy
      obtain ⟨m1,hm1⟩ : ∃ m1,m1 = x.list.length:=⟨_,rfl⟩
      obtain ⟨m2,hm2⟩ : ∃ m2,m2 = x.names.length:=⟨_,rfl⟩
      obtain ⟨m3,hm3⟩ : ∃ m3,m3 = y.list.length:=⟨_,rfl⟩
      obtain ⟨m4,hm4⟩ : ∃ m4,m4 = y.names.length:=⟨_,rfl⟩
      rw [← hm1] at a8 hx
      rw [← hm2] at a9 hx
      rw [← hm3] at u8 hy
      rw [← hm4] at u9 hy
      have HRX:=Lib.hid hx
      have HRY:=Lib.hid hy
      have HC:=Lib.hid (fun (W : World) (hW : Below wr.heap.size wr W) => HH.out x y (.slice A3 m1 C3) (.slice A4 m2 C4) (.slice A5 m3 C5) (.slice A6 m4 C6) W (HR.out _ _ _ _ _ HRX.out hW) (HR.out _ _ _ _ _ HRY.out hW))
      obtain ⟨q,hq⟩ : ∃ q,q = sameB x y:=⟨_,rfl⟩
      rw [← hq] at HC
      have HQ : Hid (q = true ↔ x = y):=Lib.hid (by rw [hq,sameB_iff])
      clear hat1 hat2 hx hy hxx hyy hm1 hm2 hm3 hm4 hq
      go_wp2_with fail
      go_region_held3 (fun w' => w'.cell? ⟨w.heap.size,8,none⟩ = some (.slice (some ⟨b1,o1,none⟩) l.length C) ∧ w'.cell? ⟨w.heap.size + 1,8,none⟩ = some (.slice (some ⟨b2,o2,none⟩) l'.length C') ∧
       w'.cell? ⟨b1,o1 + t * 10,none⟩ = some (.int .i64 x.s.kind) ∧ w'.cell? ⟨b1,o1 + t * 10 + 1,none⟩ = some (.bool x.s.yes) ∧ w'.cell? ⟨b1,o1 + t * 10 + 2,none⟩ = some (.bool x.s.neg) ∧ w'.cell? ⟨b1,o1 + t * 10 + 3,none⟩ = some (.int .u64 (wd x.s.coef 1)) ∧ w'.cell? ⟨b1,o1 + t * 10 + 4,none⟩ = some (.int .u64 (wd x.s.coef 0)) ∧ w'.cell? ⟨b1,o1 + t * 10 + 5,none⟩ = some (.int .i64 x.s.sc) ∧ w'.cell? ⟨b1,o1 + t * 10 + 6,none⟩ = some (.string ⟨x.s.text.toArray⟩) ∧ w'.cell? ⟨b1,o1 + t * 10 + 7,none⟩ = some (.int .i64 x.s.day) ∧ w'.cell? ⟨b1,o1 + t * 10 + 8,none⟩ = some (.slice A3 m1 C3) ∧ w'.cell? ⟨b1,o1 + t * 10 + 9,none⟩ = some (.slice A4 m2 C4) ∧
       w'.cell? ⟨b2,o2 + t * 10,none⟩ = some (.int .i64 y.s.kind) ∧ w'.cell? ⟨b2,o2 + t * 10 + 1,none⟩ = some (.bool y.s.yes) ∧ w'.cell? ⟨b2,o2 + t * 10 + 2,none⟩ = some (.bool y.s.neg) ∧ w'.cell? ⟨b2,o2 + t * 10 + 3,none⟩ = some (.int .u64 (wd y.s.coef 1)) ∧ w'.cell? ⟨b2,o2 + t * 10 + 4,none⟩ = some (.int .u64 (wd y.s.coef 0)) ∧ w'.cell? ⟨b2,o2 + t * 10 + 5,none⟩ = some (.int .i64 y.s.sc) ∧ w'.cell? ⟨b2,o2 + t * 10 + 6,none⟩ = some (.string ⟨y.s.text.toArray⟩) ∧ w'.cell? ⟨b2,o2 + t * 10 + 7,none⟩ = some (.int .i64 y.s.day) ∧ w'.cell? ⟨b2,o2 + t * 10 + 8,none⟩ = some (.slice A5 m3 C5) ∧ w'.cell? ⟨b2,o2 + t * 10 + 9,none⟩ = some (.slice A6 m4 C6)) (first | (first | (go_keep;done) | (simp [go_sem];done) | ((try dsimp only);(repeat' apply And.intro) <;> (first | (with_reducible assumption) | ((rw [World.cell?_alloc_lt _ _ _ (by show _ < _;omega)]);go_split_ands;(first | with_reducible assumption | (refine (World.cell?_alloc_lt _ _ _ (by show _ < _;omega)).symm.trans ?_;with_reducible assumption))) | ((rw [World.cell?_setCell_other _ _ _ _ (by intro e;injection e;omega)]);with_reducible assumption) | (go_keep;done) | (simp [go_sem];done) | (simp (disch:=go_size) [*,World.cell?_alloc_some,World.cell?_setCell_far];done))))) (first | ((go_at_call 26;with_reducible refine (HC.out _ (by (repeat' first|(with_reducible first|exact blR _ _|assumption|refine blD ?_|refine blN ?_ _)|((with_reducible first|refine blA ?_ ?_ _|refine blS ?_ ?_ _|refine blT (by assumption) ?_ ?_);focus (go_size;done))))).mono ?_);rintro _ w2 ⟨rfl,hb2⟩;have hb2s:=hb2.size;(try simp only [wsA,wsS,wsD,wsN] at hb2s);obtain ⟨hb2c,hb2f⟩:=bcell hb2;(try have : w.heap.size < w2.heap.size:=by omega);(try have : w.heap.size + 1 < w2.heap.size:=by omega);(try have : w.heap.size + 1 + 1 < w2.heap.size:=by omega);(try have : w.heap.size + 1 + 1 + 1 < w2.heap.size:=by omega)))
      cases q with
      | true =>
       go_wp2_with fail
       go_roundg (gk - 1)
       case measure => have:=HK2.out;omega
       case rel => exact ⟨t + 1,by have:=HK2.out;omega,by go_num,Lib.hid (fun i hi => by
        by_cases e : i = t
        ·subst e;rw [← HX.out,← HY.out];exact HQ.out.1 (by simp)
        ·exact HE.out i (by omega)),Lib.hid ((HM2.out.drewN 1).below hb2)⟩
      | false =>
       have hz : z = false:=HZ.out.1 (fun h => Bool.noConfusion (HQ.out.2 (by rw [HX.out,HY.out,h.2.2.2.2.2.2])))
       subst hz
       go_wp2_with fail
       go_ret
       exact ⟨rfl,by (repeat' first|(with_reducible first|exact blR _ _|assumption|refine blD ?_|refine blN ?_ _)|((with_reducible first|refine blA ?_ ?_ _|refine blS ?_ ?_ _|refine blT (by assumption) ?_ ?_);focus (go_size;done)))⟩
     ·obtain rfl : t = l.length:=by omega
      have hlle : l = l':=List.ext_getElem HLL.out (fun i h1 h2 => by rw [← vg_get h1,← vg_get h2];exact HE.out i h1)
      have HLE:=Lib.hid hlle
      clear hlle
      have hz : z = true:=HZ.out.2 (by refine ⟨?_, ?_, ?_, ?_, ?_,HNN.out,HLE.out⟩ <;> first | rfl | trivial)
      subst hz
      clear hlt
      go_wp2_with fail
      go_ret
      exact ⟨rfl,by (repeat' first|(with_reducible first|exact blR _ _|assumption|refine blD ?_|refine blN ?_ _)|((with_reducible first|refine blA ?_ ?_ _|refine blS ?_ ?_ _|refine blT (by assumption) ?_ ?_);focus (go_size;done)))⟩
theorem rsame_any : ∀ n,RSameOf (VR n)
 | 0,_,_,_,_,_,_,_,h,_ => h.elim
 | n + 1,x,y,L,N,L',N',w,h,h' => by
  obtain ⟨s,l,nm⟩:=x
  obtain ⟨s',l',nm'⟩:=y
  exact rsame_step (VR n) (fun _ _ _ _ _ h hb => h.below hb) (rsame_any n) s s' l l' nm nm' L L' N N' w h.1 h'.1 h.2.1 h'.2.1 h.2.2 h'.2.2
theorem VR.up : ∀ (n k : Nat) {w : World} {L N : Value} {x : VD},VR n w L N x → VR (n + k) w L N x
 | 0,_,_,_,_,_,h => h.elim
 | n + 1,k,_,_,_,_,h => by
  rw [show n + 1 + k = (n + k) + 1 by omega]
  exact ⟨h.1,h.2.1.imp (fun _ _ _ q => VR.up n k q),h.2.2⟩
theorem rv_two {w : World} {L N L' N' : Value} {x y : VD} (h : RV w L N x) (h' : RV w L' N' y) : ∃ n,VR n w L N x ∧ VR n w L' N' y:=by
 obtain ⟨n,h⟩:=h
 obtain ⟨m,h'⟩:=h'
 exact ⟨n + m,h.up n m,by rw [Nat.add_comm];exact h'.up m n⟩
theorem rsame_rv : RSameOf RV:=fun x y L N L' N' w h h' => by
 obtain ⟨n,h1,h2⟩:=rv_two h h'
 exact rsame_any n x y L N L' N' w h1 h2
theorem alike_rv : AlikeOf RV:=fun x y L N L' N' w h h' => by
 obtain ⟨n,h1,h2⟩:=rv_two h h'
 exact alike_any n x y L N L' N' w h1 h2
end Go.Proofs.YtkjecoanlppeaaaGreatDoor



namespace Go.Proofs.YtkjecoanlppeaaaGreatDoor
open Go.RowKit

set_option maxRecDepth 100000 in
set_option maxHeartbeats 1000000 in
theorem lsame_any (x y : VD) (A : Option Addr) (C : Nat) (A2 : Option Addr) (C2 : Nat) (B : Option Addr) (D : Nat) (B2 : Option Addr) (D2 : Nat) (w : World) (hx : VA w x A C A2 C2) (hy : VA w y B D B2 D2) (h1 : x.size ≤ 1048576) (h2 : y.size ≤ 1048576) :
  Calls Tryz.prog 12 #[vargs x A C A2 C2,vargs y B D B2 D2] w fun e w' => e = .returned (.bool (decide (x.size ≤ 1000) && (decide (y.size ≤ 1000) && sameB x y))) ∧ Below w.heap.size w w':=by
 have hc1:=fun (W : World) (hW : Below w.heap.size w W) => rcount_any x A C A2 C2 1000 W (by omega) (by omega) (RV.below hx hW) h1
 have hc2:=fun (W : World) (hW : Below w.heap.size w W) => rcount_any y B D B2 D2 1000 W (by omega) (by omega) (RV.below hy hW) h2
 have hs:=fun (W : World) (hW : Below w.heap.size w W) => rsame_rv x y (.slice A x.list.length C) (.slice A2 x.names.length C2) (.slice B y.list.length D) (.slice B2 y.names.length D2) W (RV.below hx hW) (RV.below hy hW)
 obtain ⟨s1,hs1⟩ : ∃ s,s = x.size:=⟨_,rfl⟩
 obtain ⟨s2,hs2⟩ : ∃ s,s = y.size:=⟨_,rfl⟩
 obtain ⟨q,hq⟩ : ∃ q,q = sameB x y:=⟨_,rfl⟩
 rw [← hs1] at hc1
 rw [← hs2] at hc2
 rw [← hq] at hs
 rw [← hs1,← hs2,← hq]
 have hp1 : 1 ≤ s1:=by rw [hs1];exact size_pos x
 have hp2 : 1 ≤ s2:=by rw [hs2];exact size_pos y
 have g1:=cnt_gt (s:=s1) (m:=1000)
 have g2:=cnt_gt (s:=s2) (m:=1000)
 obtain ⟨c1,hc1'⟩ : ∃ c,c = cnt s1 1000:=⟨_,rfl⟩
 obtain ⟨c2,hc2'⟩ : ∃ c,c = cnt s2 1000:=⟨_,rfl⟩
 rw [← hc1'] at hc1 g1
 rw [← hc2'] at hc2 g2
 obtain ⟨s,l,nm⟩:=x
 obtain ⟨kind,yes,neg,coef,sc,text,day⟩:=s
 obtain ⟨s',l',nm'⟩:=y
 obtain ⟨kind',yes',neg',coef',sc',text',day'⟩:=s'
 unfold vargs vagg
 unfold vagg at hc1 hc2 hs
 dsimp only [VD.s,VD.list,VD.names] at hc1 hc2 hs ⊢
 have H1:=Lib.hid hc1
 have H2:=Lib.hid hc2
 have H3:=Lib.hid hs
 clear hc1 hc2 hs hx hy h1 h2 hs1 hs2 hq hc1' hc2'
 by_cases k1 : s1 ≤ 1000
 ·have e1 : c1 ≤ 1000:=by have:=mt g1.1;omega
  rw [decide_eq_true k1]
  by_cases k2 : s2 ≤ 1000
  ·have e2 : c2 ≤ 1000:=by have:=mt g2.1;omega
   rw [decide_eq_true k2]
   clear g1 g2
   go_enter Tryz.func12,Tryz.ntmps12
   go_wp2_with (first | ((go_at_call 25;with_reducible refine (H1.out _ (by (repeat' first|(with_reducible first|exact blR _ _|assumption|refine blD ?_|refine blN ?_ _)|((with_reducible first|refine blA ?_ ?_ _|refine blS ?_ ?_ _|refine blT (by assumption) ?_ ?_);focus (go_size;done))))).mono ?_);rintro _ w1 ⟨rfl,hb1⟩;have hb1s:=hb1.size;(try simp only [wsA,wsS,wsD,wsN] at hb1s);obtain ⟨hb1c,hb1f⟩:=bcell hb1;(try have : w.heap.size < w1.heap.size:=by omega);(try have : w.heap.size + 1 < w1.heap.size:=by omega);(try have : w.heap.size + 1 + 1 < w1.heap.size:=by omega);(try have : w.heap.size + 1 + 1 + 1 < w1.heap.size:=by omega)) | ((go_at_call 25;with_reducible refine (H2.out _ (by (repeat' first|(with_reducible first|exact blR _ _|assumption|refine blD ?_|refine blN ?_ _)|((with_reducible first|refine blA ?_ ?_ _|refine blS ?_ ?_ _|refine blT (by assumption) ?_ ?_);focus (go_size;done))))).mono ?_);rintro _ w2 ⟨rfl,hb2⟩;have hb2s:=hb2.size;(try simp only [wsA,wsS,wsD,wsN] at hb2s);obtain ⟨hb2c,hb2f⟩:=bcell hb2;(try have : w.heap.size < w2.heap.size:=by omega);(try have : w.heap.size + 1 < w2.heap.size:=by omega);(try have : w.heap.size + 1 + 1 < w2.heap.size:=by omega);(try have : w.heap.size + 1 + 1 + 1 < w2.heap.size:=by omega);(try have : w1.heap.size < w2.heap.size:=by omega);(try have : w1.heap.size + 1 < w2.heap.size:=by omega);(try have : w1.heap.size + 1 + 1 < w2.heap.size:=by omega);(try have : w1.heap.size + 1 + 1 + 1 < w2.heap.size:=by omega)) | ((go_at_call 26;with_reducible refine (H3.out _ (by (repeat' first|(with_reducible first|exact blR _ _|assumption|refine blD ?_|refine blN ?_ _)|((with_reducible first|refine blA ?_ ?_ _|refine blS ?_ ?_ _|refine blT (by assumption) ?_ ?_);focus (go_size;done))))).mono ?_);rintro _ w3 ⟨rfl,hb3⟩;have hb3s:=hb3.size;(try simp only [wsA,wsS,wsD,wsN] at hb3s);obtain ⟨hb3c,hb3f⟩:=bcell hb3;(try have : w.heap.size < w3.heap.size:=by omega);(try have : w.heap.size + 1 < w3.heap.size:=by omega);(try have : w.heap.size + 1 + 1 < w3.heap.size:=by omega);(try have : w.heap.size + 1 + 1 + 1 < w3.heap.size:=by omega);(try have : w1.heap.size < w3.heap.size:=by omega);(try have : w1.heap.size + 1 < w3.heap.size:=by omega);(try have : w1.heap.size + 1 + 1 < w3.heap.size:=by omega);(try have : w1.heap.size + 1 + 1 + 1 < w3.heap.size:=by omega);(try have : w2.heap.size < w3.heap.size:=by omega);(try have : w2.heap.size + 1 < w3.heap.size:=by omega);(try have : w2.heap.size + 1 + 1 < w3.heap.size:=by omega);(try have : w2.heap.size + 1 + 1 + 1 < w3.heap.size:=by omega)))
   go_ret
   exact ⟨ret_bool (by simp),by (repeat' first|(with_reducible first|exact blR _ _|assumption|refine blD ?_|refine blN ?_ _)|((with_reducible first|refine blA ?_ ?_ _|refine blS ?_ ?_ _|refine blT (by assumption) ?_ ?_);focus (go_size;done)))⟩
  ·have e2 : ¬ c2 ≤ 1000:=by have:=g2.2;omega
   rw [decide_eq_false k2]
   clear g1 g2
   go_enter Tryz.func12,Tryz.ntmps12
   go_wp2_with (first | ((go_at_call 25;with_reducible refine (H1.out _ (by (repeat' first|(with_reducible first|exact blR _ _|assumption|refine blD ?_|refine blN ?_ _)|((with_reducible first|refine blA ?_ ?_ _|refine blS ?_ ?_ _|refine blT (by assumption) ?_ ?_);focus (go_size;done))))).mono ?_);rintro _ w1 ⟨rfl,hb1⟩;have hb1s:=hb1.size;(try simp only [wsA,wsS,wsD,wsN] at hb1s);obtain ⟨hb1c,hb1f⟩:=bcell hb1;(try have : w.heap.size < w1.heap.size:=by omega);(try have : w.heap.size + 1 < w1.heap.size:=by omega);(try have : w.heap.size + 1 + 1 < w1.heap.size:=by omega);(try have : w.heap.size + 1 + 1 + 1 < w1.heap.size:=by omega)) | ((go_at_call 25;with_reducible refine (H2.out _ (by (repeat' first|(with_reducible first|exact blR _ _|assumption|refine blD ?_|refine blN ?_ _)|((with_reducible first|refine blA ?_ ?_ _|refine blS ?_ ?_ _|refine blT (by assumption) ?_ ?_);focus (go_size;done))))).mono ?_);rintro _ w2 ⟨rfl,hb2⟩;have hb2s:=hb2.size;(try simp only [wsA,wsS,wsD,wsN] at hb2s);obtain ⟨hb2c,hb2f⟩:=bcell hb2;(try have : w.heap.size < w2.heap.size:=by omega);(try have : w.heap.size + 1 < w2.heap.size:=by omega);(try have : w.heap.size + 1 + 1 < w2.heap.size:=by omega);(try have : w.heap.size + 1 + 1 + 1 < w2.heap.size:=by omega);(try have : w1.heap.size < w2.heap.size:=by omega);(try have : w1.heap.size + 1 < w2.heap.size:=by omega);(try have : w1.heap.size + 1 + 1 < w2.heap.size:=by omega);(try have : w1.heap.size + 1 + 1 + 1 < w2.heap.size:=by omega)))
   go_ret
   exact ⟨ret_bool (by simp),by (repeat' first|(with_reducible first|exact blR _ _|assumption|refine blD ?_|refine blN ?_ _)|((with_reducible first|refine blA ?_ ?_ _|refine blS ?_ ?_ _|refine blT (by assumption) ?_ ?_);focus (go_size;done)))⟩
 ·have e1 : ¬ c1 ≤ 1000:=by have:=g1.2;omega
  rw [decide_eq_false k1]
  clear g1 g2
  go_enter Tryz.func12,Tryz.ntmps12
  go_wp2_with ((go_at_call 25;with_reducible refine (H1.out _ (by (repeat' first|(with_reducible first|exact blR _ _|assumption|refine blD ?_|refine blN ?_ _)|((with_reducible first|refine blA ?_ ?_ _|refine blS ?_ ?_ _|refine blT (by assumption) ?_ ?_);focus (go_size;done))))).mono ?_);rintro _ w1 ⟨rfl,hb1⟩;have hb1s:=hb1.size;(try simp only [wsA,wsS,wsD,wsN] at hb1s);obtain ⟨hb1c,hb1f⟩:=bcell hb1;(try have : w.heap.size < w1.heap.size:=by omega);(try have : w.heap.size + 1 < w1.heap.size:=by omega);(try have : w.heap.size + 1 + 1 < w1.heap.size:=by omega);(try have : w.heap.size + 1 + 1 + 1 < w1.heap.size:=by omega))
  go_ret
  exact ⟨ret_bool (by simp),by (repeat' first|(with_reducible first|exact blR _ _|assumption|refine blD ?_|refine blN ?_ _)|((with_reducible first|refine blA ?_ ?_ _|refine blS ?_ ?_ _|refine blT (by assumption) ?_ ?_);focus (go_size;done)))⟩
end Go.Proofs.YtkjecoanlppeaaaGreatDoor



namespace Go.Proofs.YtkjecoanlppeaaaGreatDoor
open Go.RowKit

set_option maxRecDepth 100000 in
set_option maxHeartbeats 1000000 in
theorem vchecks_any (l : List VD) (v : Value) (w : World) (hT : Tabs w) (h : Vls (RV w) w v l) :
  Calls Tryz.prog 27 #[v] w fun e w' => ∃ z : Int,e = .returned (.int .i64 z) ∧ (z = 0 ↔ allC l = true) ∧ Below w.heap.size w w':=by
 obtain ⟨A,C,rfl,hll⟩:=h.is
 have HV:=Lib.hid h
 have HT:=Lib.hid hT
 have HZ:=Lib.hid (allC_iff (l:=l))
 clear h hT
 go_enter Tryz.func27,Tryz.ntmps27
 go_wp2_with fail
 go_loopg [8] l.length (fun k s8 wr => ∃ t : Nat,k + t = l.length ∧ s8 = .int .i64 t ∧ Hid (∀ i,i < t → chkV (vg l i) = 0) ∧ w.heap.size ≤ wr.heap.size ∧ Below w.heap.size w wr)
 case atStart => exact ⟨0,by omega,rfl,Lib.hid (fun i hi => absurd hi (Nat.not_lt_zero _)),by omega,by (repeat' first|(with_reducible first|exact blR _ _|assumption|refine blD ?_|refine blN ?_ _)|((with_reducible first|refine blA ?_ ?_ _|refine blS ?_ ?_ _|refine blT (by assumption) ?_ ?_);focus (go_size;done)))⟩
 case round =>
  obtain ⟨t,hk,rfl,HA,hsz,hbel⟩:=hrel
  have HK:=Lib.hid hk
  have htl : t ≤ l.length:=by omega
  clear hk
  by_cases hlt : t < l.length
  ·obtain ⟨b,o,B1,D1,B2,D2,rfl,hat,hx⟩:=(HV.out.kept hbel).at hlt
   obtain ⟨a0,a1,a2,a3,a4,a5,a6,a7,a8,a9⟩:=hat.val
   have lb:=vcell_lt a0
   have htc : (t : Int) < (l.length : Int):=by omega
   obtain ⟨x,hxx⟩ : ∃ x,x = vg l t:=⟨_,rfl⟩
   rw [← hxx] at hx a0 a1 a2 a3 a4 a5 a6 a7 a8 a9
   have HXX:=Lib.hid hxx
   have HX:=Lib.hid hx
   have HC:=Lib.hid (fun (W : World) (hW : Below wr.heap.size wr W) => vcheck_any x B1 D1 B2 D2 W (tabs_below HT.out (hbel.trans (hW.mono hsz))) (RV.below HX.out hW))
   obtain ⟨e,he⟩ : ∃ e,e = chkV x:=⟨_,rfl⟩
   rw [← he] at HC
   have HE:=Lib.hid he
   unfold vargs at HC
   obtain ⟨n1',hn1⟩ : ∃ n1',n1' = x.list.length:=⟨_,rfl⟩
   obtain ⟨n2',hn2⟩ : ∃ n2',n2' = x.names.length:=⟨_,rfl⟩
   rw [← hn1] at a8 HC
   rw [← hn2] at a9 HC
   clear hat hx hxx he hn1 hn2 HX
   by_cases e0 : e = 0
   ·subst e0
    go_wp2_with ((go_at_call 40;with_reducible refine (HC.out _ (by (repeat' first|(with_reducible first|exact blR _ _|assumption|refine blD ?_|refine blN ?_ _)|((with_reducible first|refine blA ?_ ?_ _|refine blS ?_ ?_ _|refine blT (by assumption) ?_ ?_);focus (go_size;done))))).mono ?_);rintro _ w2 ⟨rfl,hb2⟩;have hb2s:=hb2.size;(try simp only [wsA,wsS,wsD,wsN] at hb2s);obtain ⟨hb2c,hb2f⟩:=bcell hb2;(try have : w.heap.size < w2.heap.size:=by omega);(try have : w.heap.size + 1 < w2.heap.size:=by omega);(try have : w.heap.size + 1 + 1 < w2.heap.size:=by omega);(try have : w.heap.size + 1 + 1 + 1 < w2.heap.size:=by omega))
    go_roundg (gk - 1)
    case measure => have:=HK.out;omega
    case rel => exact ⟨t + 1,by have:=HK.out;omega,by go_num,Lib.hid (fun i hi => by
     by_cases q : i = t
     ·subst q;rw [← HXX.out,← HE.out]
     ·exact HA.out i (by omega)),by omega,by (repeat' first|(with_reducible first|exact blR _ _|assumption|refine blD ?_|refine blN ?_ _)|((with_reducible first|refine blA ?_ ?_ _|refine blS ?_ ?_ _|refine blT (by assumption) ?_ ?_);focus (go_size;done)))⟩
   ·have f0 : (e != 0) = true:=by rw [bne_iff_ne];exact e0
    have HN : Hid (e = 0 ↔ allC l = true):=Lib.hid ⟨fun h => absurd h e0,fun h => absurd (by rw [HE.out,HXX.out];exact HZ.out.1 h t hlt) e0⟩
    clear e0
    go_wp2_with ((go_at_call 40;with_reducible refine (HC.out _ (by (repeat' first|(with_reducible first|exact blR _ _|assumption|refine blD ?_|refine blN ?_ _)|((with_reducible first|refine blA ?_ ?_ _|refine blS ?_ ?_ _|refine blT (by assumption) ?_ ?_);focus (go_size;done))))).mono ?_);rintro _ w2 ⟨rfl,hb2⟩;have hb2s:=hb2.size;(try simp only [wsA,wsS,wsD,wsN] at hb2s);obtain ⟨hb2c,hb2f⟩:=bcell hb2;(try have : w.heap.size < w2.heap.size:=by omega);(try have : w.heap.size + 1 < w2.heap.size:=by omega);(try have : w.heap.size + 1 + 1 < w2.heap.size:=by omega);(try have : w.heap.size + 1 + 1 + 1 < w2.heap.size:=by omega))
    go_ret
    exact ⟨e,rfl,HN.out,by (repeat' first|(with_reducible first|exact blR _ _|assumption|refine blD ?_|refine blN ?_ _)|((with_reducible first|refine blA ?_ ?_ _|refine blS ?_ ?_ _|refine blT (by assumption) ?_ ?_);focus (go_size;done)))⟩
  ·obtain rfl : t = l.length:=by omega
   have HN : Hid ((0 : Int) = 0 ↔ allC l = true):=Lib.hid ⟨fun _ => HZ.out.2 HA.out,fun _ => rfl⟩
   clear hlt
   go_wp2_with fail
   go_ret
   exact ⟨0,rfl,⟨fun _ => HN.out.1 (by simp),fun _ => rfl⟩,by (repeat' first|(with_reducible first|exact blR _ _|assumption|refine blD ?_|refine blN ?_ _)|((with_reducible first|refine blA ?_ ?_ _|refine blS ?_ ?_ _|refine blT (by assumption) ?_ ?_);focus (go_size;done)))⟩
/-- both in form, and the same -/
noncomputable def sameV (x y : VD) : Bool:=decide (chkV x = 0) && (decide (chkV y = 0) && sameB x y)
theorem two_all {x y : VD} : allC [x,y] = (decide (chkV x = 0) && decide (chkV y = 0)):=by
 simp [allC]
theorem vls_two {W : World} {q : Nat} {x y : VD} {A A2 B B2 : Option Addr} {C C2 D D2 : Nat}
  (h1 : At W q 0 (x.s.cs ++ [.slice A x.list.length C,.slice A2 x.names.length C2])) (h2 : At W q 10 (y.s.cs ++ [.slice B y.list.length D,.slice B2 y.names.length D2]))
  (hx : VA W x A C A2 C2) (hy : VA W y B D B2 D2) : Vls (RV W) W (.slice (some ⟨q,0,none⟩) 2 2) [x,y]:=by
 refine ⟨_,_,rfl,⟨by simp,by simp,by decide⟩,fun r hr => ?_⟩
 match r,hr with
 | 0,_ => exact ⟨q,0,A,C,A2,C2,rfl,h1,hx⟩
 | 1,_ => exact ⟨q,0,B,D,B2,D2,rfl,h2,hy⟩
theorem at_alloc {w : World} {cs : Array Value} {ty : Nat} {q : Nat} (hq : w.heap.size = q) (p n : Nat) : At (w.alloc (.cells cs ty)) q p ((cs.toList.drop p).take n):=by
 subst hq
 intro j hj
 rw [List.length_take] at hj
 have h1 : j < n:=by omega
 rw [List.getElem?_take_of_lt h1,List.getElem?_drop]
 rw [World.cell?_alloc_at cs ty _ _ rfl,Array.getElem?_toList]
set_option maxRecDepth 100000 in
set_option maxHeartbeats 1000000 in
theorem vsame_any (x y : VD) (A : Option Addr) (C : Nat) (A2 : Option Addr) (C2 : Nat) (B : Option Addr) (D : Nat) (B2 : Option Addr) (D2 : Nat) (w : World) (hT : Tabs w) (hx : VA w x A C A2 C2) (hy : VA w y B D B2 D2) :
  Calls Tryz.prog 13 #[vargs x A C A2 C2,vargs y B D B2 D2] w fun e w' => e = .returned (.bool (sameV x y)) ∧ Below w.heap.size w w':=by
 have hc1:=fun (W : World) (hW : Below w.heap.size w W) (q : Nat) (h1 : At W q 0 (x.s.cs ++ [.slice A x.list.length C,.slice A2 x.names.length C2])) (h2 : At W q 10 (y.s.cs ++ [.slice B y.list.length D,.slice B2 y.names.length D2])) =>
  vchecks_any [x,y] (.slice (some ⟨q,0,none⟩) 2 2) W (tabs_below hT hW) (vls_two h1 h2 (VA.below hx hW) (VA.below hy hW))
 have hs:=fun (W : World) (hW : Below w.heap.size w W) => alike_rv x y (.slice A x.list.length C) (.slice A2 x.names.length C2) (.slice B y.list.length D) (.slice B2 y.names.length D2) W (RV.below hx hW) (RV.below hy hW)
 have hz : sameV x y = (allC [x,y] && sameB x y):=by rw [two_all];unfold sameV;rw [Bool.and_assoc]
 rw [hz]
 obtain ⟨p,hp⟩ : ∃ p,p = allC [x,y]:=⟨_,rfl⟩
 obtain ⟨q,hq⟩ : ∃ q,q = sameB x y:=⟨_,rfl⟩
 rw [← hq] at hs
 rw [← hp,← hq]
 simp only [← hp] at hc1
 obtain ⟨s,l,nm⟩:=x
 obtain ⟨kind,yes,neg,coef,sc,text,day⟩:=s
 obtain ⟨s',l',nm'⟩:=y
 obtain ⟨kind',yes',neg',coef',sc',text',day'⟩:=s'
 unfold vargs vagg
 unfold vagg at hs
 unfold VS.cs at hc1
 dsimp only [VD.s,VD.list,VD.names] at hc1 hs ⊢
 have H1:=Lib.hid hc1
 have H3:=Lib.hid hs
 clear hc1 hs hx hy hp hq hz hT
 cases p with
 | false =>
  go_enter Tryz.func13,Tryz.ntmps13
  go_wp2_with (go_at_call 27;(with_reducible refine (H1.out _ (by (repeat' first|(with_reducible first|exact blR _ _|assumption|refine blD ?_|refine blN ?_ _)|((with_reducible first|refine blA ?_ ?_ _|refine blS ?_ ?_ _|refine blT (by assumption) ?_ ?_);focus (go_size;done)))) _ (at_alloc (by go_size) 0 10) (at_alloc (by go_size) 10 10)).mono ?_);rintro _ w2 ⟨z,rfl,hz,hb2⟩)
  go_ret
  exact ⟨ret_bool (by simp),by (repeat' first|(with_reducible first|exact blR _ _|assumption|refine blD ?_|refine blN ?_ _)|((with_reducible first|refine blA ?_ ?_ _|refine blS ?_ ?_ _|refine blT (by assumption) ?_ ?_);focus (go_size;done)))⟩
 | true =>
  go_enter Tryz.func13,Tryz.ntmps13
  go_wp2_with (first | (go_at_call 27;(with_reducible refine (H1.out _ (by (repeat' first|(with_reducible first|exact blR _ _|assumption|refine blD ?_|refine blN ?_ _)|((with_reducible first|refine blA ?_ ?_ _|refine blS ?_ ?_ _|refine blT (by assumption) ?_ ?_);focus (go_size;done)))) _ (at_alloc (by go_size) 0 10) (at_alloc (by go_size) 10 10)).mono ?_);rintro _ w2 ⟨z,rfl,hz,hb2⟩;have hb2s:=hb2.size;(try simp only [World.size_alloc] at hb2s);obtain ⟨hb2c,hb2f⟩:=bcell hb2;(try have : w.heap.size < w2.heap.size:=by omega);(try have : w.heap.size + 1 < w2.heap.size:=by omega);(try have : w.heap.size + 1 + 1 < w2.heap.size:=by omega);(try have : w.heap.size + 1 + 1 + 1 < w2.heap.size:=by omega);obtain rfl : z = 0:=hz.2 rfl;clear hz) | ((go_at_call 28;with_reducible refine (H3.out _ (by (repeat' first|(with_reducible first|exact blR _ _|assumption|refine blD ?_|refine blN ?_ _)|((with_reducible first|refine blA ?_ ?_ _|refine blS ?_ ?_ _|refine blT (by assumption) ?_ ?_);focus (go_size;done))))).mono ?_);rintro _ w3 ⟨rfl,hb3⟩;have hb3s:=hb3.size;(try simp only [wsA,wsS,wsD,wsN] at hb3s);obtain ⟨hb3c,hb3f⟩:=bcell hb3;(try have : w.heap.size < w3.heap.size:=by omega);(try have : w.heap.size + 1 < w3.heap.size:=by omega);(try have : w.heap.size + 1 + 1 < w3.heap.size:=by omega);(try have : w.heap.size + 1 + 1 + 1 < w3.heap.size:=by omega);(try have : w2.heap.size < w3.heap.size:=by omega);(try have : w2.heap.size + 1 < w3.heap.size:=by omega);(try have : w2.heap.size + 1 + 1 < w3.heap.size:=by omega);(try have : w2.heap.size + 1 + 1 + 1 < w3.heap.size:=by omega)))
  go_ret
  exact ⟨ret_bool (by simp),by (repeat' first|(with_reducible first|exact blR _ _|assumption|refine blD ?_|refine blN ?_ _)|((with_reducible first|refine blA ?_ ?_ _|refine blS ?_ ?_ _|refine blT (by assumption) ?_ ?_);focus (go_size;done)))⟩
end Go.Proofs.YtkjecoanlppeaaaGreatDoor



namespace Go.Proofs.YtkjecoanlppeaaaGreatDoor
open Go.RowKit

def intsV (l : List Nat) : List Value:=l.map fun (n : Nat) => Value.int .i64 (n : Int)
/-- a row of ints in a block that is not below B -/
def Own (w : World) (B : Nat) (v : Value) (l : List Nat) : Prop:=w.ownsRow B 3 1 v l.length (intsV l)
section
variable {w w' : World} {B : Nat} {v : Value} {l : List Nat}
theorem Own.nil (w : World) (B : Nat) : Own w B (.slice none 0 0) []:=World.ownsRow_nil _ _ _ _
theorem Own.below (h : Own w B v l) (hb : Below w.heap.size w w') : Own w' B v l:=by
 refine ⟨h.1, ?_⟩
 rcases h.2 with hn | ⟨g,cap,cur,rfl,h1,hg,rest⟩
 ·exact .inl hn
 ·refine .inr ⟨g,cap,cur,rfl,h1, ?_,rest⟩
  rw [hb.block g (Array.getElem?_eq_some_iff.1 hg).1]
  exact hg
theorem Own.mono (h : Own w B v l) {B' : Nat} (hB : B' ≤ B) : Own w B' v l:=by
 refine ⟨h.1, ?_⟩
 rcases h.2 with hn | ⟨g,cap,cur,rfl,h1,rest⟩
 ·exact .inl hn
 ·exact .inr ⟨g,cap,cur,rfl,Nat.le_trans hB h1,rest⟩
end
theorem info_intO : (Tryz.prog.info? 3).map (fun i => (i.zero,i.size,i.bytes)) = some (some (.int .i64 0),1,8):=by kernel_rfl
theorem news_oneO {w : World} {b : Nat} {d : Int} (hd : w.cell? ⟨b,0,none⟩ = some (.int .i64 d)) : ∀ (j : Nat) (u : Value),[Value.int .i64 d][j]? = some u → w.cell? ((⟨b,0,none⟩ : Addr).add j) = some u:=fun j u hj => by
 match j with
 | 0 => simp at hj;subst hj;exact hd
 | j + 1 => simp at hj
theorem one_cellO (d : Int) : ∀ u ∈ [Value.int .i64 d],u.oneCell' = true:=fun u hu => by rw [List.mem_singleton.1 hu];rfl
/-- one int is appended to a row of the call's own -/
theorem wpList_pushO {w : World} {ops : Array Oper} {rest : List Oper} {o : Oper} {a : Act} {Q : Exit → Act → World → Prop} (hgd : o.guard = none) (s x : Operand) (t : TypeId)
  (ho : o.op = .call { callee:=.builtin .append,args:=#[s,x],argTypes:=#[t,t] }) (ht : Tryz.prog.underlying t = some (.slice 3))
  (B : Nat) (hB : B ≤ w.heap.size) (v : Value) (ds : List Nat) (hs : a.eval s = v) (hrow : Own w B v ds)
  (b : Nat) (d : Nat) (hx : a.eval x = .slice (some ⟨b,0,none⟩) 1 1) (hd : w.cell? ⟨b,0,none⟩ = some (.int .i64 d)) (hlen : ds.length ≤ 1000000)
  (h : ∀ g cap w',Own w' B (.slice (some ⟨g,0,none⟩) (ds.length + 1) cap) (ds ++ [d]) → Below B w w' → g < w'.heap.size → wpList Tryz.prog ops Q rest (a.put o.dst (.slice (some ⟨g,0,none⟩) (ds.length + 1) cap)) w') :
  wpList Tryz.prog ops Q (o :: rest) a w:=by
 obtain ⟨i0,hi0,hz0,hz1,hz2⟩:=info_parts info_intO
 refine wpList_append_lies w hgd s x t ho B 3 i0 (.int .i64 0) 1 8 ht hi0 hz0 hz1 hz2 rfl (by decide) v ds.length _ hs hrow ⟨b,0,none⟩ 1 1 [.int .i64 (d : Int)] hx rfl (news_oneO hd) (one_cellO d) (by decide) (by unfold maxLen;omega) (by omega) hB w.heap.size rfl ?_
 intro g cap w' h1 h2 h3 h4
 refine h g cap w' ?_ ⟨h2.os,h2.tape,h2.output,h2.size,fun k hk => h2.block k (Nat.lt_of_lt_of_le hk hB) (fun e => ?_)⟩ h4
 ·unfold Own intsV
  rw [List.length_append,List.map_append];exact h1
 ·have:=(hrow.lt k e.symm).1
  omega
/-- what the closure sees -/
def GR (row : List VD) (i : Nat) (R : Value) (b1 b2 : Nat) (W : World) : Prop:=Tabs W ∧ W.cell? ⟨b1,0,none⟩ = some R ∧ W.cell? ⟨b2,0,none⟩ = some (.int .i64 i) ∧ Vls (RV W) W R row
theorem GR.below {row : List VD} {i : Nat} {R : Value} {b1 b2 : Nat} {W W' : World} (h : GR row i R b1 b2 W) (hb : Below W.heap.size W W') : GR row i R b1 b2 W' :=
 ⟨tabs_below h.1 hb,(hb.cell (p:=⟨b1,0,none⟩) (vcell_lt h.2.1)).trans h.2.1,(hb.cell (p:=⟨b2,0,none⟩) (vcell_lt h.2.2.1)).trans h.2.2.1,h.2.2.2.kept hb⟩
set_option maxRecDepth 100000 in
set_option maxHeartbeats 2000000 in
theorem clos_rank (row : List VD) (i : Nat) (R : Value) (b1 b2 : Nat) (hi : i < row.length) (x : VD) (A : Option Addr) (C : Nat) (A2 : Option Addr) (C2 : Nat) (w : World) (hg : GR row i R b1 b2 w) (h : VA w x A C A2 C2) :
  Calls Tryz.prog 82 #[vargs x A C A2 C2,.pointer (some ⟨b1,0,none⟩),.pointer (some ⟨b2,0,none⟩)] w fun e w' => e = .returned (.bool (sameV x (vg row i))) ∧ Below w.heap.size w w':=by
 obtain ⟨hT,g1,g2,hv⟩:=hg
 obtain ⟨RA,RC,rfl,hrl⟩:=hv.is
 obtain ⟨b,o,B1,D1,B2,D2,rfl,hat,hy⟩:=hv.at hi
 obtain ⟨a0,a1,a2,a3,a4,a5,a6,a7,a8,a9⟩:=hat.val
 have lb:=vcell_lt a0
 have l1:=vcell_lt g1
 have l2:=vcell_lt g2
 have hic : (i : Int) < (row.length : Int):=by omega
 have hc:=fun (W : World) (hW : Below w.heap.size w W) => vsame_any x (vg row i) A C A2 C2 B1 D1 B2 D2 W (tabs_below hT hW) (VA.below h hW) (VA.below hy hW)
 obtain ⟨y,hyy⟩ : ∃ y,y = vg row i:=⟨_,rfl⟩
 simp only [← hyy] at hc a0 a1 a2 a3 a4 a5 a6 a7 a8 a9
 rw [← hyy]
 obtain ⟨q,hq⟩ : ∃ q,q = sameV x y:=⟨_,rfl⟩
 simp only [← hq] at hc
 rw [← hq]
 obtain ⟨n1',hn1⟩ : ∃ n1',n1' = y.list.length:=⟨_,rfl⟩
 obtain ⟨n2',hn2⟩ : ∃ n2',n2' = y.names.length:=⟨_,rfl⟩
 unfold vargs at hc
 simp only [← hn1,← hn2] at hc a8 a9
 obtain ⟨u,hu⟩ : ∃ u,u = y.s:=⟨_,rfl⟩
 simp only [← hu] at hc a0 a1 a2 a3 a4 a5 a6 a7
 obtain ⟨s,l,nm⟩:=x
 obtain ⟨kind,yes,neg,coef,sc,text,day⟩:=s
 unfold vargs vagg
 unfold vagg at hc
 dsimp only [VD.s,VD.list,VD.names] at hc ⊢
 have HC:=Lib.hid hc
 clear hc h hT hv hat hy hyy hq hn1 hn2 hu
 go_enter Tryz.func82,Tryz.ntmps82
 go_wp2_with fail
 go_region_held3 (fun w' => w'.cell? ⟨b1,0,none⟩ = some (.slice (some ⟨b,o,none⟩) row.length RC) ∧ w'.cell? ⟨b2,0,none⟩ = some (.int .i64 i) ∧
  w'.cell? ⟨w.heap.size,0,none⟩ = some (.int .i64 kind) ∧ w'.cell? ⟨w.heap.size,1,none⟩ = some (.bool yes) ∧ w'.cell? ⟨w.heap.size,2,none⟩ = some (.bool neg) ∧ w'.cell? ⟨w.heap.size,3,none⟩ = some (.int .u64 (wd coef 1)) ∧ w'.cell? ⟨w.heap.size,4,none⟩ = some (.int .u64 (wd coef 0)) ∧ w'.cell? ⟨w.heap.size,5,none⟩ = some (.int .i64 sc) ∧ w'.cell? ⟨w.heap.size,6,none⟩ = some (.string ⟨text.toArray⟩) ∧ w'.cell? ⟨w.heap.size,7,none⟩ = some (.int .i64 day) ∧ w'.cell? ⟨w.heap.size,8,none⟩ = some (.slice A l.length C) ∧ w'.cell? ⟨w.heap.size,9,none⟩ = some (.slice A2 nm.length C2) ∧
  w'.cell? ⟨b,o + i * 10,none⟩ = some (.int .i64 u.kind) ∧ w'.cell? ⟨b,o + i * 10 + 1,none⟩ = some (.bool u.yes) ∧ w'.cell? ⟨b,o + i * 10 + 2,none⟩ = some (.bool u.neg) ∧ w'.cell? ⟨b,o + i * 10 + 3,none⟩ = some (.int .u64 (wd u.coef 1)) ∧ w'.cell? ⟨b,o + i * 10 + 4,none⟩ = some (.int .u64 (wd u.coef 0)) ∧ w'.cell? ⟨b,o + i * 10 + 5,none⟩ = some (.int .i64 u.sc) ∧ w'.cell? ⟨b,o + i * 10 + 6,none⟩ = some (.string ⟨u.text.toArray⟩) ∧ w'.cell? ⟨b,o + i * 10 + 7,none⟩ = some (.int .i64 u.day) ∧ w'.cell? ⟨b,o + i * 10 + 8,none⟩ = some (.slice B1 n1' D1) ∧ w'.cell? ⟨b,o + i * 10 + 9,none⟩ = some (.slice B2 n2' D2)) (first | (first | (go_keep;done) | (simp [go_sem];done) | ((try dsimp only);(repeat' apply And.intro) <;> (first | (with_reducible assumption) | ((rw [World.cell?_alloc_lt _ _ _ (by show _ < _;omega)]);go_split_ands;(first | with_reducible assumption | (refine (World.cell?_alloc_lt _ _ _ (by show _ < _;omega)).symm.trans ?_;with_reducible assumption))) | ((rw [World.cell?_setCell_other _ _ _ _ (by intro e;injection e;omega)]);with_reducible assumption) | (go_keep;done) | (simp [go_sem];done) | (simp (disch:=go_size) [*,World.cell?_alloc_some,World.cell?_setCell_far];done))))) (first | ((go_at_call 13;with_reducible refine (HC.out _ (by (repeat' first|(with_reducible first|exact blR _ _|assumption|refine blD ?_|refine blN ?_ _)|((with_reducible first|refine blA ?_ ?_ _|refine blS ?_ ?_ _|refine blT (by assumption) ?_ ?_);focus (go_size;done))))).mono ?_);rintro _ w2 ⟨rfl,hb2⟩;have hb2s:=hb2.size;(try simp only [wsA,wsS,wsD,wsN] at hb2s);obtain ⟨hb2c,hb2f⟩:=bcell hb2;(try have : w.heap.size < w2.heap.size:=by omega);(try have : w.heap.size + 1 < w2.heap.size:=by omega);(try have : w.heap.size + 1 + 1 < w2.heap.size:=by omega);(try have : w.heap.size + 1 + 1 + 1 < w2.heap.size:=by omega)))
 go_wp2_with fail
 go_ret
 exact ⟨rfl,by (repeat' first|(with_reducible first|exact blR _ _|assumption|refine blD ?_|refine blN ?_ _)|((with_reducible first|refine blA ?_ ?_ _|refine blS ?_ ?_ _|refine blT (by assumption) ?_ ?_);focus (go_size;done)))⟩
set_option maxRecDepth 100000 in
set_option maxHeartbeats 1000000 in
theorem idx_rank (P1 P2 : Option Addr) (p : VD → Bool) (G : World → Prop) (hG : ∀ W W',G W → Below W.heap.size W W' → G W') (hp : ∀ (x : VD) (A : Option Addr) (C : Nat) (A2 : Option Addr) (C2 : Nat) (W : World),G W → VA W x A C A2 C2 → Calls Tryz.prog 82 #[vargs x A C A2 C2,.pointer P1,.pointer P2] W fun e w' => e = .returned (.bool (p x)) ∧ Below W.heap.size W w')
  (l : List VD) (v : Value) (w : World) (h : Vls (RV w) w v l) (hw : G w) :
  Calls Tryz.prog 81 #[v,.func (.func 82) #[] #[.pointer P1,.pointer P2]] w fun e w' => e = .returned (.int .i64 (idxV p l)) ∧ Below w.heap.size w w':=by
 obtain ⟨A,C,rfl,hll⟩:=h.is
 have HV:=Lib.hid h
 have HP:=Lib.hid hp
 have HG:=Lib.hid hG
 have HW:=Lib.hid hw
 obtain ⟨z,hz⟩ : ∃ z,z = idxV p l:=⟨_,rfl⟩
 rw [← hz]
 have HZ:=Lib.hid hz
 clear h hp hG hw hz
 go_enter Tryz.func81,Tryz.ntmps81
 go_wp2_with fail
 go_loopg [8] l.length (fun k s8 wr => ∃ t : Nat,k + t = l.length ∧ s8 = .int .i64 t ∧ Hid (∀ i,i < t → p (vg l i) = false) ∧ w.heap.size ≤ wr.heap.size ∧ Below w.heap.size w wr)
 case atStart => exact ⟨0,by omega,rfl,Lib.hid (fun i hi => absurd hi (Nat.not_lt_zero _)),by omega,by (repeat' first|(with_reducible first|exact blR _ _|assumption|refine blD ?_|refine blN ?_ _)|((with_reducible first|refine blA ?_ ?_ _|refine blS ?_ ?_ _|refine blT (by assumption) ?_ ?_);focus (go_size;done)))⟩
 case round =>
  obtain ⟨t,hk,rfl,HA,hsz,hbel⟩:=hrel
  have HK:=Lib.hid hk
  have htl : t ≤ l.length:=by omega
  clear hk
  by_cases hlt : t < l.length
  ·obtain ⟨b,o,B1,D1,B2,D2,rfl,hat,hx⟩:=(HV.out.kept hbel).at hlt
   obtain ⟨a0,a1,a2,a3,a4,a5,a6,a7,a8,a9⟩:=hat.val
   have lb:=vcell_lt a0
   have htc : (t : Int) < (l.length : Int):=by omega
   obtain ⟨x,hxx⟩ : ∃ x,x = vg l t:=⟨_,rfl⟩
   rw [← hxx] at hx a0 a1 a2 a3 a4 a5 a6 a7 a8 a9
   have HXX:=Lib.hid hxx
   have HC:=Lib.hid (HP.out x B1 D1 B2 D2 wr (HG.out _ _ HW.out hbel) hx)
   obtain ⟨e,he⟩ : ∃ e,e = p x:=⟨_,rfl⟩
   rw [← he] at HC
   have HE:=Lib.hid he
   unfold vargs at HC
   obtain ⟨n1',hn1⟩ : ∃ n1',n1' = x.list.length:=⟨_,rfl⟩
   obtain ⟨n2',hn2⟩ : ∃ n2',n2' = x.names.length:=⟨_,rfl⟩
   rw [← hn1] at a8 HC
   rw [← hn2] at a9 HC
   clear hat hx hxx he hn1 hn2
   cases e with
   | true =>
    have hz : z = (t : Int):=by
     rw [HZ.out]
     exact idxV_hit hlt (by rw [← HXX.out,← HE.out]) HA.out
    subst hz
    go_wp2_with ((go_at_call 82;with_reducible refine (HC.out).mono ?_);rintro _ w2 ⟨rfl,hb2⟩;have hb2s:=hb2.size;(try simp only [wsA,wsS,wsD,wsN] at hb2s);obtain ⟨hb2c,hb2f⟩:=bcell hb2;(try have : w.heap.size < w2.heap.size:=by omega);(try have : w.heap.size + 1 < w2.heap.size:=by omega);(try have : w.heap.size + 1 + 1 < w2.heap.size:=by omega);(try have : w.heap.size + 1 + 1 + 1 < w2.heap.size:=by omega))
    go_ret
    exact ⟨rfl,by (repeat' first|(with_reducible first|exact blR _ _|assumption|refine blD ?_|refine blN ?_ _)|((with_reducible first|refine blA ?_ ?_ _|refine blS ?_ ?_ _|refine blT (by assumption) ?_ ?_);focus (go_size;done)))⟩
   | false =>
    go_wp2_with ((go_at_call 82;with_reducible refine (HC.out).mono ?_);rintro _ w2 ⟨rfl,hb2⟩;have hb2s:=hb2.size;(try simp only [wsA,wsS,wsD,wsN] at hb2s);obtain ⟨hb2c,hb2f⟩:=bcell hb2;(try have : w.heap.size < w2.heap.size:=by omega);(try have : w.heap.size + 1 < w2.heap.size:=by omega);(try have : w.heap.size + 1 + 1 < w2.heap.size:=by omega);(try have : w.heap.size + 1 + 1 + 1 < w2.heap.size:=by omega))
    go_roundg (gk - 1)
    case measure => have:=HK.out;omega
    case rel => exact ⟨t + 1,by have:=HK.out;omega,by go_num,Lib.hid (fun i hi => by
     by_cases q : i = t
     ·subst q;rw [← HXX.out,← HE.out]
     ·exact HA.out i (by omega)),by omega,by (repeat' first|(with_reducible first|exact blR _ _|assumption|refine blD ?_|refine blN ?_ _)|((with_reducible first|refine blA ?_ ?_ _|refine blS ?_ ?_ _|refine blT (by assumption) ?_ ?_);focus (go_size;done)))⟩
  ·obtain rfl : t = l.length:=by omega
   have hz : z = -1:=by rw [HZ.out];exact idxV_none HA.out
   subst hz
   clear hlt
   go_wp2_with fail
   go_ret
   exact ⟨rfl,by (repeat' first|(with_reducible first|exact blR _ _|assumption|refine blD ?_|refine blN ?_ _)|((with_reducible first|refine blA ?_ ?_ _|refine blS ?_ ?_ _|refine blT (by assumption) ?_ ?_);focus (go_size;done)))⟩
end Go.Proofs.YtkjecoanlppeaaaGreatDoor

