/- The contracts of the functions that the laws reach, part 4: what each returns and what becomes of memory. -/
import Derived.Test.YtbnadlpkbbdgjaaGreatDoorSh
import Derived.Shelf.Spec.BitsCarry
import Derived.Lib.Hide
import Derived.Test.YtbnadlpkbbdgjaaGreatDoorM3
set_option linter.unusedSimpArgs false
set_option linter.unusedVariables false


namespace Go.Proofs.YtbnadlpkbbdgjaaGreatDoor
open Go.RowKit

def bs (x : List UInt8) : ByteArray:=⟨x.toArray⟩
theorem bs_inj {x y : List UInt8} (h : bs x = bs y) : x = y:=by
 have:=congrArg (fun z : ByteArray => z.data.toList) h
 simpa [bs] using this
/-- names, none twice -/
def namesB (l : List (List UInt8)) : Bool:=decide (∀ i,i < l.length → nam (ng l i) = true ∧ ∀ k,k < i → ng l k ≠ ng l i)
theorem ng_bs {l : List (List UInt8)} {j : Nat} (h : j < l.length) : (l.map bs).getD j ByteArray.empty = bs (ng l j):=by
 unfold ng
 rw [List.getD_eq_getElem?_getD,List.getElem?_map,List.getD_eq_getElem?_getD,List.getElem?_eq_getElem h];rfl
def twiceB (l : List (List UInt8)) (i : Nat) : Bool:=decide (∃ k,k < i ∧ ng l k = ng l i)
theorem contains_is {l : List (List UInt8)} {i : Nat} (hi : i < l.length) : Lib.containsS ((l.map bs).take i) (bs (ng l i)) = twiceB l i:=by
 rw [Bool.eq_iff_iff,Lib.containsS_iff,twiceB,decide_eq_true_eq]
 constructor
 ·intro h
  obtain ⟨k,hk,e⟩:=List.mem_iff_getElem.1 h
  rw [List.length_take,List.length_map] at hk
  rw [List.getElem_take,List.getElem_map] at e
  refine ⟨k,by omega, ?_⟩
  have : ng l k = l[k]'(by omega):=by unfold ng;rw [List.getD_eq_getElem?_getD,List.getElem?_eq_getElem (by omega)];rfl
  rw [this]
  exact bs_inj e
 ·rintro ⟨k,hk,e⟩
  refine List.mem_iff_getElem.2 ⟨k,by rw [List.length_take,List.length_map];omega, ?_⟩
  rw [List.getElem_take,List.getElem_map,← e]
  unfold ng
  rw [List.getD_eq_getElem?_getD,List.getElem?_eq_getElem (by omega)];rfl
set_option maxHeartbeats 1000000 in
theorem vnames_any (l : List (List UInt8)) (N : Value) (w : World) (h : Nms w N l) :
  Calls Tryz.prog 85 #[N] w fun e w' => e = .returned (.bool (namesB l)) ∧ w = w':=by
 have HN:=Lib.hid h
 obtain ⟨A,C,rfl,hl⟩:=h.is
 obtain ⟨hc1,hc2⟩:=h.caps
 clear h
 obtain ⟨z,hz⟩ : ∃ z,z = namesB l:=⟨_,rfl⟩
 rw [← hz]
 have HZ : Hid (z = true ↔ ∀ i,i < l.length → nam (ng l i) = true ∧ ∀ k,k < i → ng l k ≠ ng l i):=Lib.hid (by rw [hz,namesB,decide_eq_true_eq])
 clear hz
 go_enter Tryz.func85,Tryz.ntmps85
 go_wp2_with fail
 go_loopg [7] l.length (fun k i wr => ∃ t : Nat,k + t = l.length ∧ i = .int .i64 t ∧ Hid (∀ i,i < t → nam (ng l i) = true ∧ ∀ k,k < i → ng l k ≠ ng l i) ∧ w = wr)
 case atStart => exact ⟨0,by omega,rfl,Lib.hid (fun i hi => absurd hi (Nat.not_lt_zero _)),rfl⟩
 case round =>
  obtain ⟨t,hk,rfl,HA,rfl⟩:=hrel
  have HK:=Lib.hid hk
  have htn : t ≤ l.length:=by omega
  clear hk
  by_cases hlt : t < l.length
  ·obtain ⟨b,o,rfl,hcell,hlen⟩:=HN.out.at hlt
   have HNM:=Lib.hid (name_any (ng l t) (by omega) w)
   have hcon:=Tryz.slices_Contains_string b o t C (l.map bs) (bs (ng l t)) w (by rw [List.length_map];omega) (by omega) (fun j hj => by
    rw [List.length_map] at hj
    obtain ⟨b',o',e,hc,_⟩:=HN.out.at hj
    injection e with e
    injection e with e1 e2
    subst e1 e2
    rw [ng_bs hj];exact hc)
   rw [contains_is hlt] at hcon
   have htc : (t : Int) ≤ (C : Int):=by omega
   obtain ⟨y,hy⟩ : ∃ y,y = nam (ng l t):=⟨_,rfl⟩
   obtain ⟨d,hd⟩ : ∃ d,d = twiceB l t:=⟨_,rfl⟩
   rw [← hy] at HNM
   rw [← hd] at hcon
   have HCN : Hid (Calls Tryz.prog 129 #[.slice (some ⟨b,o,none⟩) t C,.string ⟨(ng l t).toArray⟩] w fun e w' => e = .returned (.bool d) ∧ w' = w):=Lib.hid hcon
   have HY:=Lib.hid hy
   have HD : Hid (d = true ↔ ∃ k,k < t ∧ ng l k = ng l t):=Lib.hid (by rw [hd,twiceB,decide_eq_true_eq])
   obtain ⟨x,hx⟩ : ∃ x,x = ng l t:=⟨_,rfl⟩
   rw [← hx] at hcell HNM HCN
   have HX:=Lib.hid hx
   clear hcon hy hd hx hlen
   cases y with
   | false =>
    have hz : z = false:=by
     cases z with
     | false => rfl
     | true =>
      have:=(HZ.out.1 rfl t hlt).1
      rw [← HY.out] at this;exact Bool.noConfusion this
    subst hz
    go_wp2_with fail
    refine HNM.out.mono ?_
    rintro _ _ ⟨rfl,rfl⟩
    go_wp2_with fail
    go_ret
    exact ⟨rfl,rfl⟩
   | true =>
    cases d with
    | true =>
     have hz : z = false:=by
      cases z with
      | false => rfl
      | true =>
       obtain ⟨k,hk,e⟩:=HD.out.1 rfl
       exact absurd e ((HZ.out.1 rfl t hlt).2 k hk)
     subst hz
     go_wp2_with fail
     refine HNM.out.mono ?_
     rintro _ _ ⟨rfl,rfl⟩
     go_wp2_with fail
     refine HCN.out.mono ?_
     rintro _ _ ⟨rfl,rfl⟩
     go_wp2_with fail
     go_ret
     exact ⟨rfl,rfl⟩
    | false =>
     go_wp2_with fail
     refine HNM.out.mono ?_
     rintro _ _ ⟨rfl,rfl⟩
     go_wp2_with fail
     refine HCN.out.mono ?_
     rintro _ _ ⟨rfl,rfl⟩
     go_wp2_with fail
     go_roundg (gk - 1)
     case measure => have:=HK.out;omega
     case rel => exact ⟨t + 1,by have:=HK.out;omega,by go_num,Lib.hid (fun i hi => by
      by_cases e : i = t
      ·subst e
       refine ⟨HY.out.symm,fun k hk e => ?_⟩
       exact Bool.noConfusion (HD.out.2 ⟨k,hk,e⟩)
      ·exact HA.out i (by omega)),rfl⟩
  ·obtain rfl : t = l.length:=by omega
   have hz : z = true:=HZ.out.2 HA.out
   subst hz
   go_wp2_with fail
   go_ret
   exact ⟨rfl,rfl⟩
end Go.Proofs.YtbnadlpkbbdgjaaGreatDoor



namespace Go.Proofs.YtbnadlpkbbdgjaaGreatDoor
open Go.RowKit

/-- the library's two tables lie as its text lays them -/
abbrev Tabs (w : World) : Prop:=Lib.Utf8Tabs 0 1 w
theorem tabs_below {w w' : World} (h : Tabs w) (hb : Below w.heap.size w w') : Tabs w':=by
 have key : ∀ (a : Addr) v,w.cell? a = some v → w'.cell? a = some v:=fun a v hv => by
  have hlt : a.block < w.heap.size:=by
   rcases Nat.lt_or_ge a.block w.heap.size with h1 | h1
   ·exact h1
   ·simp [World.cell?,Array.getElem?_eq_none h1] at hv
  rw [hb.cell hlt];exact hv
 exact ⟨fun c hc => key _ _ (h.1 c hc),fun i hi => ⟨key _ _ (h.2 i hi).1,key _ _ (h.2 i hi).2⟩⟩
set_option maxHeartbeats 1000000 in
theorem valid_any (l : List UInt8) (hl : l.length ≤ 9223372036854775807) (w : World) (hT : Tabs w) :
  Calls Tryz.prog 84 #[.string ⟨l.toArray⟩] w fun e w' => e = .returned (.bool (ztxt l)) ∧ Below w.heap.size w w':=by
 have HV:=Lib.hid (Tryz.utf8_ValidString ⟨l.toArray⟩ w (by show l.toArray.size ≤ _;simpa using hl) hT)
 have HI:=Lib.hid (fun W => Tryz.strings_IndexFunc 126 #[] (enters_of Tryz.func126 (by kernel_rfl) rfl) (fun r => !chr r) ⟨l.toArray⟩ W (closure_chr W))
 have he:=ztxt_is ⟨l.toArray⟩
 obtain ⟨a,ha⟩ : ∃ a,a = Lib.validD l:=⟨_,rfl⟩
 obtain ⟨i,hi⟩ : ∃ i,i = Lib.idxFunc (fun r => !chr r) true ⟨l.toArray⟩:=⟨_,rfl⟩
 have he2 : ztxt l = (a && decide (i < 0)):=by rw [ha,hi];exact he.symm
 have HE:=Lib.hid he2
 rw [← hi] at HI
 have ha2 : ∀ x,Lib.validD (⟨l.toArray⟩ : ByteArray).data.toList = x → Lib.validD l = x:=fun _ h => h
 have HV2 : Hid (Calls Tryz.prog 124 #[.string ⟨l.toArray⟩] w fun e w' => e = .returned (.bool a) ∧ Below w.heap.size w w'):=Lib.hid (by rw [ha];exact HV.out)
 clear he he2 hT ha hi ha2 HV
 cases a with
 | false =>
  go_enter Tryz.func84,Tryz.ntmps84
  go_wp2_with fail
  refine HV2.out.mono ?_
  rintro _ w1 ⟨rfl,hb1⟩
  go_wp2_with fail
  go_ret
  exact ⟨ret_bool (by rw [HE.out];rfl),hb1⟩
 | true =>
  go_enter Tryz.func84,Tryz.ntmps84
  go_wp2_with fail
  refine HV2.out.mono ?_
  rintro _ w1 ⟨rfl,hb1⟩
  go_wp2_with fail
  refine (HI.out _).mono ?_
  rintro _ w2 ⟨rfl,hb2⟩
  go_wp2_with fail
  go_ret
  exact ⟨ret_bool (by rw [HE.out];simp),hb1.trans (hb2.mono hb1.size)⟩
end Go.Proofs.YtbnadlpkbbdgjaaGreatDoor



namespace Go.Proofs.YtbnadlpkbbdgjaaGreatDoor
open Go.RowKit

/-- a word and a carry: s + 2^64 k is t -/
def Carry (s k t : Int) : Prop:=s + 18446744073709551616 * k = t ∧ 0 ≤ s ∧ s < 18446744073709551616 ∧ 0 ≤ k ∧ k ≤ 1
theorem add64_ex (x y c : Int) (hx0 : 0 ≤ x) (hx : x < 18446744073709551616) (hy0 : 0 ≤ y) (hy : y < 18446744073709551616) (hc0 : 0 ≤ c) (hc : c ≤ 1) :
  ∃ s k : Int,(∀ W : World,(callFunc 109 #[.int .u64 x,.int .u64 y,.int .u64 c]).run Tryz.prog W = .ok (.value (.tuple #[.int .u64 s,.int .u64 k])) W) ∧ Carry s k (x + y + c):=by
 refine ⟨(x + y + c) % 18446744073709551616,(x + y + c) / 18446744073709551616,fun W => ?_, ?_⟩
 ·rw [run_callFunc_extern Tryz.func109 (by kernel_rfl) (by kernel_rfl) (by kernel_rfl) (e:=add64Entry) (by kernel_rfl),run_add64 x y c hx0 hy0 hc0 hc]
  rfl
 ·unfold Carry;omega
/-- a difference and a borrow: s - 2^64 k is t -/
def Borrow (s k t : Int) : Prop:=s - 18446744073709551616 * k = t ∧ 0 ≤ s ∧ s < 18446744073709551616 ∧ 0 ≤ k ∧ k ≤ 1
theorem sub64_ex (x y c : Int) (hx0 : 0 ≤ x) (hx : x < 18446744073709551616) (hy0 : 0 ≤ y) (hy : y < 18446744073709551616) (hc0 : 0 ≤ c) (hc : c ≤ 1) :
  ∃ s k : Int,(∀ W : World,(callFunc 185 #[.int .u64 x,.int .u64 y,.int .u64 c]).run Tryz.prog W = .ok (.value (.tuple #[.int .u64 s,.int .u64 k])) W) ∧ Borrow s k (x - y - c):=by
 obtain ⟨x,rfl⟩:=Int.eq_ofNat_of_zero_le hx0
 obtain ⟨y,rfl⟩:=Int.eq_ofNat_of_zero_le hy0
 obtain ⟨c,rfl⟩:=Int.eq_ofNat_of_zero_le hc0
 refine ⟨(((x + 18446744073709551616 - y - c) % 18446744073709551616 : Nat) : Int),((if x < y + c then 1 else 0 : Nat) : Int),fun W => ?_, ?_⟩
 ·rw [run_callFunc_extern Tryz.func185 (by kernel_rfl) (by kernel_rfl) (by kernel_rfl) (e:=sub64Entry) (by kernel_rfl),run_sub64 x y c (by omega)]
  rfl
 ·unfold Borrow;split <;> omega
/-- a product's two words -/
def Two (h l t : Int) : Prop:=h * 18446744073709551616 + l = t ∧ 0 ≤ h ∧ h < 18446744073709551616 ∧ 0 ≤ l ∧ l < 18446744073709551616
theorem mul64_ex (x y : Int) (hx0 : 0 ≤ x) (hx : x < 18446744073709551616) (hy0 : 0 ≤ y) (hy : y < 18446744073709551616) :
  ∃ h l : Int,(∀ w : World,Calls Tryz.prog 108 #[.int .u64 x,.int .u64 y] w fun e w' => e = .returned (.tuple #[.int .u64 h,.int .u64 l]) ∧ ∃ nn,w' = w.drewN nn) ∧ Two h l (x * y):=by
 obtain ⟨x,rfl⟩:=Int.eq_ofNat_of_zero_le hx0
 obtain ⟨y,rfl⟩:=Int.eq_ofNat_of_zero_le hy0
 refine ⟨((x * y / 18446744073709551616 : Nat) : Int),((x * y % 18446744073709551616 : Nat) : Int),fun w => (Tryz.bits_Mul64 x y (by omega) (by omega) w).mono fun e w' h => ⟨h.1,0,h.2⟩, ?_⟩
 have hlt : x * y < 340282366920938463463374607431768211456:=by
  have h1 : x * y ≤ 18446744073709551615 * 18446744073709551615:=Nat.mul_le_mul (by omega) (by omega)
  omega
 unfold Two
 rw [← Int.natCast_mul]
 generalize x * y = p at *
 omega
end Go.Proofs.YtbnadlpkbbdgjaaGreatDoor



namespace Go.Proofs.YtbnadlpkbbdgjaaGreatDoor
open Go.RowKit

theorem lz10 (w : World) : Calls Tryz.prog 203 #[.int .u64 10] w fun e w' => e = .returned (.int .i64 60) ∧ ∃ nn,w' = w.drewN nn :=
 (Tryz.bits_LeadingZeros64 10 w (by decide) (by decide)).mono fun e w' h => ⟨by rw [h.1];rfl,0,h.2⟩

theorem or_gen (i a b : Nat) (hb : b < 2 ^ i) : a * 2 ^ i ||| b = a * 2 ^ i + b:=by
 rw [Nat.mul_comm];exact (Nat.two_pow_add_eq_or_of_lt hb a).symm
theorem or_sum (x b : Nat) (hx : x < 18446744073709551616) (hb : b < 18446744073709551616) (h : x ||| b = x + b) : bits .or .u64 (x : Int) (b : Int) = (x : Int) + b:=by
 rw [bits_or_u64_nat x b hx hb,h];omega
theorem or_top (h l : Int) (h0 : 0 ≤ h) (h9 : h ≤ 9) (l0 : 0 ≤ l) (l1 : l < 18446744073709551616) : bits .or .u64 (h * 1152921504606846976) (l / 16) = h * 1152921504606846976 + l / 16:=by
 obtain ⟨a,rfl⟩:=Int.eq_ofNat_of_zero_le h0
 obtain ⟨b,rfl⟩:=Int.eq_ofNat_of_zero_le l0
 obtain ⟨x,hx⟩ : ∃ x : Nat,(x : Int) = (a : Int) * 1152921504606846976:=⟨((a : Int) * 1152921504606846976).toNat,by omega⟩
 have e : ((b / 16 : Nat) : Int) = (b : Int) / 16:=by omega
 have h2 : x ||| b / 16 = x + b / 16:=by
  have h3:=or_gen 60 a (b / 16) (by omega)
  have h4 : a * 2 ^ 60 = x:=by omega
  rw [h4] at h3;exact h3
 rw [← hx,← e]
 exact or_sum x (b / 16) (by omega) (by omega) h2
theorem and_low (z : Int) (k : Int) (hz : z = k * 1152921504606846976) (h0 : 0 ≤ k) (h1 : k < 16) : bits .and .u64 z 4294967295 = 0:=by
 rw [and_low32 z (by omega) (by omega)];omega
/-- a number of two words by ten -/
def Ten (q r t : Int) : Prop:=10 * q + r = t ∧ 0 ≤ q ∧ q < 18446744073709551616 ∧ 0 ≤ r ∧ r ≤ 9
theorem ten_last (h l u q r s p t : Int) (hu : u = h * 1152921504606846976 + l / 16) (hq : u = q * 2684354560 + r) (hr0 : 0 ≤ r) (hr : r < 2684354560)
  (hs : s = r * 4294967296 + l % 16 * 268435456) (hp : s = p * 2684354560 + t) (ht0 : 0 ≤ t) (ht : t < 2684354560) (h9 : h ≤ 9) (h0 : 0 ≤ h) (l0 : 0 ≤ l) (l1 : l < 18446744073709551616) :
  Ten (q * 4294967296 + p) (t / 268435456) (h * 18446744073709551616 + l):=by
 unfold Ten;omega

set_option maxHeartbeats 1000000 in
theorem div10_big (h l : Int) (h0 : 1 ≤ h) (h9 : h ≤ 9) (l0 : 0 ≤ l) (l1 : l < 18446744073709551616) :
  ∃ q r : Int,(∀ w : World,Calls Tryz.prog 186 #[.int .u64 h,.int .u64 l,.int .u64 10] w fun e w' => e = .returned (.tuple #[.int .u64 q,.int .u64 r]) ∧ ∃ nn,w' = w.drewN nn) ∧ Ten q r (h * 18446744073709551616 + l):=by
 have g1 : (h == 0) = false:=by simp;omega
 obtain ⟨u,hu⟩ : ∃ u,u = h * 1152921504606846976 + l / 16:=⟨_,rfl⟩
 obtain ⟨q,hq⟩ : ∃ q,q = u / 2684354560:=⟨_,rfl⟩
 obtain ⟨r,hr⟩ : ∃ r,r = u % 2684354560:=⟨_,rfl⟩
 obtain ⟨s,hs⟩ : ∃ s,s = r * 4294967296 + l % 16 * 268435456:=⟨_,rfl⟩
 obtain ⟨p,hp⟩ : ∃ p,p = s / 2684354560:=⟨_,rfl⟩
 obtain ⟨t,ht⟩ : ∃ t,t = s % 2684354560:=⟨_,rfl⟩
 refine ⟨q * 4294967296 + p,t / 268435456,fun w => ?_,ten_last h l u q r s p t hu (by omega) (by omega) (by omega) hs (by omega) (by omega) (by omega) h9 (by omega) l0 l1⟩
 have E10 : bits .and .u64 11529215046068469760 4294967295 = 0:=by decide
 have E11:=or_top h l (by omega) h9 l0 l1
 rw [← hu] at E11
 have E12 : IntKind.u64.wrap (l * 1152921504606846976) = l % 16 * 1152921504606846976:=by rw [IntKind.wrap_u64];omega
 have E13 : l % 16 * 1152921504606846976 / 4294967296 = l % 16 * 268435456:=by omega
 have E14 : bits .and .u64 (l % 16 * 1152921504606846976) 4294967295 = 0:=and_low _ (l % 16) rfl (by omega) (by omega)
 have E15 : IntKind.u64.wrap (u.tdiv 2684354560) = q:=by rw [IntKind.wrap_u64,Int.tdiv_eq_ediv_of_nonneg (by omega)];omega
 have E16 : IntKind.u64.wrap (u - IntKind.u64.wrap (q * 2684354560)) = r:=by rw [IntKind.wrap_u64,IntKind.wrap_u64];omega
 have E21 : IntKind.u64.wrap (IntKind.u64.wrap (IntKind.u64.wrap (u * 4294967296) + l % 16 * 268435456) - IntKind.u64.wrap (q * 11529215046068469760)) = s:=by simp only [IntKind.wrap_u64];omega
 have E22 : IntKind.u64.wrap (s.tdiv 2684354560) = p:=by rw [IntKind.wrap_u64,Int.tdiv_eq_ediv_of_nonneg (by omega)];omega
 have E23 : IntKind.u64.wrap (s - IntKind.u64.wrap (p * 2684354560)) = t:=by simp only [IntKind.wrap_u64];omega
 have E24 : IntKind.u64.wrap (IntKind.u64.wrap (IntKind.u64.wrap (s * 4294967296)) - IntKind.u64.wrap (p * 11529215046068469760)) / 1152921504606846976 = t / 268435456:=by simp only [IntKind.wrap_u64];omega
 have J4:=Lib.hid E24
 have J1:=Lib.hid E21
 have J2:=Lib.hid E22
 have J3:=Lib.hid E23
 clear E21 E22 E23 E24
 have q0 : 0 ≤ q:=by omega
 have q1 : q < 4294967296:=by omega
 have r0 : 0 ≤ r:=by omega
 have r1 : r < 2684354560:=by omega
 have s0 : 0 ≤ s:=by omega
 have s1 : s < 11529215046068469760:=by omega
 have p0 : 0 ≤ p:=by omega
 have p1 : p < 4294967296:=by omega
 have t0 : 0 ≤ t:=by omega
 have t1 : t < 2684354560:=by omega
 have m0 : 0 ≤ l % 16 * 268435456:=by omega
 have m1 : l % 16 * 268435456 < 4294967296:=by omega
 have H1:=Lib.hid E10
 have H2:=Lib.hid E11
 have H3:=Lib.hid E12
 have H4:=Lib.hid E13
 have H5:=Lib.hid E14
 have H6:=Lib.hid E15
 have H7:=Lib.hid E16
 have G1:=Lib.hid hu
 have G2:=Lib.hid hq
 have G3:=Lib.hid hr
 have G4:=Lib.hid hs
 have G5:=Lib.hid hp
 have G6:=Lib.hid ht
 clear E10 E11 E12 E13 E14 E15 E16 hu hq hr hs hp ht
 go_enter Tryz.func186,Tryz.ntmps186
 go_wp2_with ((go_at_call 203;with_reducible refine (lz10 _).mono ?_);rintro _ _ ⟨rfl,n1,rfl⟩)
 rw [H1.out,H2.out,H3.out,H4.out,H5.out,H6.out,H7.out]
 refine wp_loop_rounds 1 ?_
 rw [rounds_succ]
 go_wp2
 rw [J1.out,J2.out,J3.out]
 refine wp_loop_rounds 1 ?_
 rw [rounds_succ]
 go_wp2
 go_ret2
 refine ⟨?_,_,rfl⟩
 show Ending.returned (.tuple #[.int .u64 _,.int .u64 _]) = _
 rw [J4.out]
set_option maxHeartbeats 1000000 in
theorem div10_small (l : Int) (l0 : 0 ≤ l) (l1 : l < 18446744073709551616) (w : World) :
  Calls Tryz.prog 186 #[.int .u64 0,.int .u64 l,.int .u64 10] w fun e w' => e = .returned (.tuple #[.int .u64 (l / 10),.int .u64 (l % 10)]) ∧ ∃ nn,w' = w.drewN nn:=by
 go_enter Tryz.func186,Tryz.ntmps186
 go_wp2_with fail
 go_quiet (fail)
 go_wp2_with fail
 go_ret2
 exact ⟨rfl,_,rfl⟩
theorem div10_ex (h l : Int) (h0 : 0 ≤ h) (h9 : h ≤ 9) (l0 : 0 ≤ l) (l1 : l < 18446744073709551616) :
  ∃ q r : Int,(∀ w : World,Calls Tryz.prog 186 #[.int .u64 h,.int .u64 l,.int .u64 10] w fun e w' => e = .returned (.tuple #[.int .u64 q,.int .u64 r]) ∧ ∃ nn,w' = w.drewN nn) ∧ Ten q r (h * 18446744073709551616 + l):=by
 by_cases hz : h = 0
 ·subst hz
  exact ⟨_,_,div10_small l l0 l1,by unfold Ten;omega⟩
 ·exact div10_big h l (by omega) h9 l0 l1
end Go.Proofs.YtbnadlpkbbdgjaaGreatDoor



namespace Go.Proofs.YtbnadlpkbbdgjaaGreatDoor
open Go.RowKit

def cmpI (a b c d : Int) : Int:=if a = c ∧ b = d then 0 else if a < c ∨ (a = c ∧ b < d) then -1 else 1
/-- -1, 0, 1: below, equal, above -/
def cmpN (n m : Nat) : Int:=if n = m then 0 else if n < m then -1 else 1
theorem cmp_eq (n m : Nat) (hn : n < 2 ^ 128) (hm : m < 2 ^ 128) : cmpI (wd n 1) (wd n 0) (wd m 1) (wd m 0) = cmpN n m:=by
  have h1:=wd_two hn
  have h2:=wd_two hm
  have h3:=wd_nn n 0
  have h4:=wd_lt n 0
  have h5:=wd_nn m 0
  have h6:=wd_lt m 0
  unfold cmpI cmpN
  split <;> split <;> (try split) <;> (try split) <;> omega
set_option maxHeartbeats 1000000 in
theorem cmp_int (a b c d : Int) (w : World) : Calls Tryz.prog 103 #[.agg #[.int .u64 a,.int .u64 b],.agg #[.int .u64 c,.int .u64 d]] w fun e w' => e = .returned (.int .i64 (cmpI a b c d)) ∧ Below w.heap.size w w':=by
  go_enter Tryz.func103,Tryz.ntmps103
  go_wp2
  all_goals go_ret
  all_goals refine ⟨?_,by exact bel⟩
  all_goals simp [cmpI]
  all_goals (first | done | omega | (simp_all;done) | (simp_all;omega))
theorem cmp_any (n m : Nat) (hn : n < 2 ^ 128) (hm : m < 2 ^ 128) (w : World) : Calls Tryz.prog 103 #[.agg #[.int .u64 (wd n 1),.int .u64 (wd n 0)],.agg #[.int .u64 (wd m 1),.int .u64 (wd m 0)]] w fun e w' => e = .returned (.int .i64 (cmpN n m)) ∧ Below w.heap.size w w':=by
  rw [← cmp_eq n m hn hm]
  exact cmp_int _ _ _ _ w

def over (n : Nat) : Int:=if n < 2 ^ 128 then 0 else 3
def fitW (n : Nat) : Nat:=if n < 2 ^ 128 then n else 0
set_option maxHeartbeats 1000000 in
theorem add_any (n m : Nat) (hn : n < 2 ^ 128) (hm : m < 2 ^ 128) (w : World) : Calls Tryz.prog 145 #[.agg #[.int .u64 (wd n 1),.int .u64 (wd n 0)],.agg #[.int .u64 (wd m 1),.int .u64 (wd m 0)]] w fun e w' => e = .returned (.tuple #[.agg #[.int .u64 (wd (fitW (n + m)) 1),.int .u64 (wd (fitW (n + m)) 0)],.int .i64 (over (n + m))]) ∧ Below w.heap.size w w':=by
  have h1:=wd_two hn
  have h2:=wd_two hm
  have a0:=wd_nn n 0
  have a1:=wd_lt n 0
  have b0:=wd_nn n 1
  have b1:=wd_lt n 1
  have c0:=wd_nn m 0
  have c1:=wd_lt m 0
  have d0:=wd_nn m 1
  have d1:=wd_lt m 1
  obtain ⟨s,k,f1,H1⟩:=add64_ex (wd n 0) (wd m 0) 0 a0 a1 c0 c1 (by decide) (by decide)
  have H1':=H1
  unfold Carry at H1'
  obtain ⟨t,j,f2,H2⟩:=add64_ex (wd n 1) (wd m 1) k b0 b1 d0 d1 H1'.2.2.2.1 H1'.2.2.2.2
  have H2':=H2
  unfold Carry at H2'
  by_cases hj : j = 0
  · subst hj
    have e0 : n + m < 2 ^ 128:=by omega
    have e1 : over (n + m) = 0:=by unfold over;rw [if_pos e0]
    have e2 : fitW (n + m) = n + m:=by unfold fitW;rw [if_pos e0]
    obtain ⟨e3,e4⟩:=wd_of (n + m) t s (by omega) (by omega) (by omega) (by omega) (by omega)
    rw [e1,e2,← e3,← e4]
    clear e0 e1 e2 e3 e4 H1 H2 H1' H2' h1 h2
    generalize wd n 0 = x0 at *
    generalize wd n 1 = x1 at *
    generalize wd m 0 = y0 at *
    generalize wd m 1 = y1 at *
    go_enter Tryz.func145,Tryz.ntmps145
    go_wp2
    refine bodyPost_ret (by simp [results,Tryz.results145,go_sem, *];try rfl) rfl ?_
    exact ⟨rfl,by exact bel⟩
  · have hj1 : j = 1:=by omega
    subst hj1
    have e0 : ¬ n + m < 2 ^ 128:=by omega
    have e1 : over (n + m) = 3:=by unfold over;rw [if_neg e0]
    have e2 : fitW (n + m) = 0:=by unfold fitW;rw [if_neg e0]
    rw [e1,e2,wd_zero,wd_zero]
    clear e0 e1 e2 H1 H2 H1' H2' h1 h2 hj
    generalize wd n 0 = x0 at *
    generalize wd n 1 = x1 at *
    generalize wd m 0 = y0 at *
    generalize wd m 1 = y1 at *
    go_enter Tryz.func145,Tryz.ntmps145
    go_wp2
    refine bodyPost_ret (by simp [results,Tryz.results145,go_sem, *];try rfl) rfl ?_
    exact ⟨rfl,by exact bel⟩

set_option maxHeartbeats 1000000 in
theorem narrow_any (n : Nat) (hn : n < 2 ^ 256) (w : World) : Calls Tryz.prog 143 #[.agg #[.int .u64 (wd n 0),.int .u64 (wd n 1),.int .u64 (wd n 2),.int .u64 (wd n 3)]] w fun e w' => e = .returned (.tuple #[.agg #[.int .u64 (wd (fitW n) 1),.int .u64 (wd (fitW n) 0)],.int .i64 (over n)]) ∧ Below w.heap.size w w':=by
  have hi:=wd_low4 hn
  by_cases h : n < 2 ^ 128
  · have e1 : over n = 0:=by unfold over;rw [if_pos h]
    have e2 : fitW n = n:=by unfold fitW;rw [if_pos h]
    obtain ⟨e3,e4⟩:=hi.2 h
    rw [e1,e2]
    have g3 : (wd n 2 == 0) = true:=by simp [e3]
    have g4 : (wd n 3 == 0) = true:=by simp [e4]
    have g5 : (wd n 2 != 0) = false:=by simp [e3]
    have g6 : (wd n 3 != 0) = false:=by simp [e4]
    clear e1 e2 e3 e4 hi h hn
    generalize wd n 0 = x0 at *
    generalize wd n 1 = x1 at *
    generalize wd n 2 = x2 at *
    generalize wd n 3 = x3 at *
    go_enter Tryz.func143,Tryz.ntmps143
    go_wp2
    refine bodyPost_ret (by simp [results,Tryz.results143,go_sem, *];try rfl) rfl ?_
    exact ⟨rfl,by exact bel⟩
  · have e1 : over n = 3:=by unfold over;rw [if_neg h]
    have e2 : fitW n = 0:=by unfold fitW;rw [if_neg h]
    rw [e1,e2,wd_zero,wd_zero]
    have hi' : ¬ (wd n 2 = 0 ∧ wd n 3 = 0):=fun x => h (hi.1 x)
    have H:=Lib.hid hi'
    clear e1 e2 hi hi' h hn
    generalize wd n 0 = x0 at *
    generalize wd n 1 = x1 at *
    generalize wd n 2 = x2 at *
    generalize wd n 3 = x3 at *
    go_enter Tryz.func143,Tryz.ntmps143
    go_wp2
    all_goals first
      | (exfalso;have:=H.out;simp_all;done)
      | (refine bodyPost_ret (by simp [results,Tryz.results143,go_sem, *];try rfl) rfl ?_
         exact ⟨rfl,by exact bel⟩)
set_option maxHeartbeats 2000000 in
theorem tenth_any (n : Nat) (hn : n < 2 ^ 256) (w : World) : Calls Tryz.prog 154 #[.agg #[.int .u64 (wd n 0),.int .u64 (wd n 1),.int .u64 (wd n 2),.int .u64 (wd n 3)]] w fun e w' => e = .returned (.tuple #[.agg #[.int .u64 (wd (n / 10) 0),.int .u64 (wd (n / 10) 1),.int .u64 (wd (n / 10) 2),.int .u64 (wd (n / 10) 3)],.int .u64 ((n % 10 : Nat) : Int)]) ∧ Below w.heap.size w w':=by
  have h:=wd_four hn
  have a0:=wd_nn n 0
  have a1:=wd_lt n 0
  have b0:=wd_nn n 1
  have b1:=wd_lt n 1
  have c0:=wd_nn n 2
  have c1:=wd_lt n 2
  have d0:=wd_nn n 3
  have d1:=wd_lt n 3
  obtain ⟨q3,r3,f3,H3⟩:=div10_ex 0 (wd n 3) (by decide) (by decide) d0 d1
  have G3:=H3
  unfold Ten at G3
  obtain ⟨q2,r2,f2,H2⟩:=div10_ex r3 (wd n 2) (by omega) (by omega) c0 c1
  have G2:=H2
  unfold Ten at G2
  obtain ⟨q1,r1,f1,H1⟩:=div10_ex r2 (wd n 1) (by omega) (by omega) b0 b1
  have G1:=H1
  unfold Ten at G1
  obtain ⟨q0,r0,f0,H0⟩:=div10_ex r1 (wd n 0) (by omega) (by omega) a0 a1
  have G0:=H0
  unfold Ten at G0
  have e:=wd_of4 (n / 10) q0 q1 q2 q3 (by omega) (by omega) (by omega) (by omega) (by omega) (by omega) (by omega) (by omega) (by omega)
  obtain ⟨e0,e1,e2,e3⟩:=e
  have er : ((n % 10 : Nat) : Int) = r0:=by omega
  rw [er,← e0,← e1,← e2,← e3]
  have F0:=Lib.hid f0
  have F1:=Lib.hid f1
  have F2:=Lib.hid f2
  have F3:=Lib.hid f3
  clear f0 f1 f2 f3 e0 e1 e2 e3 er H0 H1 H2 H3 G0 G1 G2 G3 h a0 a1 b0 b1 c0 c1 d0 d1 hn
  generalize wd n 0 = x0 at *
  generalize wd n 1 = x1 at *
  generalize wd n 2 = x2 at *
  generalize wd n 3 = x3 at *
  go_enter Tryz.func154,Tryz.ntmps154
  go_wp2_with fail
  refine wp_loop_rounds 5 ?_
  rw [rounds_succ]
  go_wp2_with ((go_at_call 186;with_reducible refine (F3.out _).mono ?_);rintro _ _ ⟨rfl,n1,rfl⟩)
  rw [rounds_succ]
  go_wp2_with ((go_at_call 186;with_reducible refine (F2.out _).mono ?_);rintro _ _ ⟨rfl,n2,rfl⟩)
  rw [rounds_succ]
  go_wp2_with ((go_at_call 186;with_reducible refine (F1.out _).mono ?_);rintro _ _ ⟨rfl,n3,rfl⟩)
  rw [rounds_succ]
  go_wp2_with ((go_at_call 186;with_reducible refine (F0.out _).mono ?_);rintro _ _ ⟨rfl,n4,rfl⟩)
  rw [rounds_succ]
  go_wp2_with fail
  refine bodyPost_ret (by simp [results,Tryz.results154,go_sem, *];try rfl) rfl ?_
  exact ⟨rfl,by exact bel⟩
end Go.Proofs.YtbnadlpkbbdgjaaGreatDoor



namespace Go.Proofs.YtbnadlpkbbdgjaaGreatDoor
open Go.RowKit

/-- N / d to the nearest, half to even -/
def near (N d : Nat) : Nat:=N / d + if 2 * (N % d) > d ∨ (2 * (N % d) = d ∧ N / d % 2 = 1) then 1 else 0
def lastD (N n : Nat) : Int:=if n = 0 then 0 else ((N / 10 ^ (n - 1) % 10 : Nat) : Int)
def belD (N n : Nat) : Bool:=decide (n ≠ 0 ∧ N % 10 ^ (n - 1) ≠ 0)
theorem lastD_succ (N n : Nat) : lastD N (n + 1) = ((N / 10 ^ n % 10 : Nat) : Int):=by
 unfold lastD;rw [if_neg (by omega),Nat.add_sub_cancel]
theorem lastD_bd (N n : Nat) : 0 ≤ lastD N n ∧ lastD N n ≤ 9:=by
 unfold lastD;split <;> omega
theorem mod_step (N n : Nat) : N % 10 ^ (n + 1) = N % 10 ^ n + 10 ^ n * (N / 10 ^ n % 10):=by
 rw [Nat.pow_succ,Nat.mod_mul]
theorem belD_succ (N n : Nat) : belD N (n + 1) = (belD N n || (lastD N n != 0)):=by
 rw [Bool.eq_iff_iff]
 simp only [belD,Bool.or_eq_true,decide_eq_true_eq,bne_iff_ne,Nat.add_sub_cancel]
 cases n with
 | zero => simp [lastD];omega
 | succ m =>
  rw [lastD_succ,mod_step]
  have hp : 0 < 10 ^ m:=Nat.pow_pos (by decide)
  constructor
  ·rintro ⟨_,h⟩
   by_cases h0 : N % 10 ^ m = 0
   ·right;intro hz
    have hz' : N / 10 ^ m % 10 = 0:=by omega
    rw [h0,hz'] at h;exact h rfl
   ·left;exact ⟨by omega,by simpa using h0⟩
  ·rintro (⟨_,h⟩ | h)
   ·refine ⟨by omega, ?_⟩
    simp only [Nat.add_sub_cancel] at h
    omega
   ·refine ⟨by omega,fun hz => h ?_⟩
    have h1 : 10 ^ m * (N / 10 ^ m % 10) = 0:=by omega
    rcases Nat.mul_eq_zero.1 h1 with h2 | h2 <;> omega
theorem near_of (N n : Nat) (up : Prop) [Decidable up] (h : up ↔ (lastD N n > 5 ∨ (lastD N n = 5 ∧ (belD N n = true ∨ N / 10 ^ n % 2 = 1)))) :
  near N (10 ^ n) = N / 10 ^ n + if up then 1 else 0:=by
 unfold near
 congr 1
 have key : (2 * (N % 10 ^ n) > 10 ^ n ∨ (2 * (N % 10 ^ n) = 10 ^ n ∧ N / 10 ^ n % 2 = 1)) ↔ up:=by
  rw [h]
  cases n with
  | zero => simp [lastD,Nat.mod_one]
  | succ m =>
   rw [lastD_succ,mod_step]
   simp only [belD,decide_eq_true_eq,Nat.add_sub_cancel]
   have hp : 0 < 10 ^ m:=Nat.pow_pos (by decide)
   have hl : N % 10 ^ m < 10 ^ m:=Nat.mod_lt _ hp
   have hd : N / 10 ^ m % 10 < 10:=Nat.mod_lt _ (by decide)
   generalize N / 10 ^ (m + 1) % 2 = par
   generalize N / 10 ^ m % 10 = d at *
   rw [Nat.pow_succ]
   generalize N % 10 ^ m = low at *
   generalize 10 ^ m = P at *
   have hc : d = 0 ∨ d = 1 ∨ d = 2 ∨ d = 3 ∨ d = 4 ∨ d = 5 ∨ d = 6 ∨ d = 7 ∨ d = 8 ∨ d = 9:=by omega
   rcases hc with rfl | rfl | rfl | rfl | rfl | rfl | rfl | rfl | rfl | rfl <;> simp <;> omega
 by_cases hu : up
 ·rw [if_pos hu,if_pos (key.2 hu)]
 ·rw [if_neg hu,if_neg (fun x => hu (key.1 x))]
theorem div_lt_256 {N : Nat} (hN : N < 2 ^ 256) (d : Nat) : N / d < 2 ^ 256:=Nat.lt_of_le_of_lt (Nat.div_le_self _ _) hN

theorem wd_odd (X : Nat) : bits .and .u64 (wd X 0) 1 = ((X % 2 : Nat) : Int):=by
 have h:=bits_and_u64_nat (X % 18446744073709551616) 1 (by omega) (by omega)
 rw [Nat.and_one_is_mod] at h
 have e : ((1 : Nat) : Int) = 1:=rfl
 rw [e] at h
 rw [wd0,h]
 omega
set_option maxHeartbeats 4000000 in
theorem round_any (N : Nat) (hN : N < 2 ^ 256) (k : Nat) (hk : k ≤ 76) (w : World) : Calls Tryz.prog 183 #[.agg #[.int .u64 (wd N 0),.int .u64 (wd N 1),.int .u64 (wd N 2),.int .u64 (wd N 3)],.int .i64 k] w fun e w' => e = .returned (.tuple #[.agg #[.int .u64 (wd (fitW (near N (10 ^ k))) 1),.int .u64 (wd (fitW (near N (10 ^ k))) 0)],.int .i64 (over (near N (10 ^ k)))]) ∧ Below w.heap.size w w':=by
 have k0 : (0 : Int) ≤ (k : Int):=by omega
 have k1 : (k : Int) ≤ 76:=by omega
 have HN:=Lib.hid hN
 clear hN
 go_enter Tryz.func183,Tryz.ntmps183
 go_wp2_with fail
 go_loopg [6,7,18] k (fun kk l b i wr => ∃ n : Nat,kk + n = k ∧ l = .int .u64 (lastD N n) ∧ b = .bool (belD N n) ∧ i = .int .i64 n ∧ w.heap.size + 2 ≤ wr.heap.size ∧ Below w.heap.size w wr ∧
  Bk wr w.heap.size 80 [.int .u64 (wd (N / 10 ^ n) 0),.int .u64 (wd (N / 10 ^ n) 1),.int .u64 (wd (N / 10 ^ n) 2),.int .u64 (wd (N / 10 ^ n) 3)] ∧ Bk wr (w.heap.size + 1) 25 [.int .u64 0,.int .u64 0])
 case atStart =>
  refine ⟨0,by omega,rfl,rfl,rfl,by go_size,by exact bel, ?_,by exact bkk⟩
  rw [Nat.pow_zero,Nat.div_one]
  exact bkk
 case round =>
  obtain ⟨n,hn,rfl,rfl,rfl,hsz,hbel,b0,b1⟩:=hrel
  have HK:=Lib.hid hn
  have hle : (n : Int) ≤ (k : Int):=by omega
  have HB:=Lib.hid (belD_succ N n)
  have HL:=Lib.hid (lastD_bd N n)
  have HX:=Lib.hid (div_lt_256 HN.out (10 ^ n))
  have hlb:=lastD_bd N n
  obtain ⟨l0,l9⟩:=hlb
  obtain ⟨X,hX⟩ : ∃ X,X = N / 10 ^ n:=⟨_,rfl⟩
  rw [← hX] at b0 HX
  obtain ⟨L,hL⟩ : ∃ L,L = lastD N n:=⟨_,rfl⟩
  obtain ⟨bb,hbb⟩ : ∃ bb,bb = belD N n:=⟨_,rfl⟩
  rw [← hL] at HL HB l0 l9 ⊢
  rw [← hbb] at HB ⊢
  have GX:=Lib.hid hX
  have GL:=Lib.hid hL
  have GB:=Lib.hid hbb
  clear hX hL hbb hn
  have c00:=b0.cell 0 rfl
  have c01:=b0.cell 1 rfl
  have c02:=b0.cell 2 rfl
  have c03:=b0.cell 3 rfl
  have c10:=b1.cell 0 rfl
  have c11:=b1.cell 1 rfl
  have f00:=b0.frozen 0
  have f01:=b0.frozen 1
  have f02:=b0.frozen 2
  have f03:=b0.frozen 3
  have f10:=b1.frozen 0
  have f11:=b1.frozen 1
  (try have : w.heap.size < wr.heap.size:=by omega);(try have : w.heap.size + 1 < wr.heap.size:=by omega);(try have : w.heap.size + 1 + 1 < wr.heap.size:=by omega);(try have : w.heap.size + 1 + 1 + 1 < wr.heap.size:=by omega)
  have HT:=Lib.hid (fun W => tenth_any X HX.out W)
  have HR:=Lib.hid (fun W => narrow_any X HX.out W)
  by_cases hlt : (n : Int) < (k : Int)
  ·cases bb
   ·go_wp2_with ((go_at_call 154;with_reducible refine (HT.out _).mono ?_);rintro _ w1 ⟨rfl,hb1⟩;have hb1s:=hb1.size;(try simp only [wsA,wsS,wsD,wsN] at hb1s);obtain ⟨hb1c,hb1f⟩:=bcell hb1;(try have : w.heap.size < w1.heap.size:=by omega);(try have : w.heap.size + 1 < w1.heap.size:=by omega);(try have : w.heap.size + 1 + 1 < w1.heap.size:=by omega);(try have : w.heap.size + 1 + 1 + 1 < w1.heap.size:=by omega))
    go_roundg (gk - 1)
    case measure => have:=HK.out;omega
    case rel =>
     refine ⟨n + 1,by have:=HK.out;omega, ?_, ?_,by go_num,by go_size,by exact bel, ?_,by exact bkk⟩
     ·rw [lastD_succ,← GX.out];rfl
     ·rw [HB.out];rfl
     ·rw [show N / 10 ^ (n + 1) = X / 10 from by rw [GX.out,Nat.div_div_eq_div_mul,Nat.pow_succ]]
      refine (((((?_ : Bk w1 _ _ [.int .u64 (wd X 0),.int .u64 (wd X 1),.int .u64 (wd X 2),.int .u64 (wd X 3)]).set_ 0 _).set_ 1 _).set_ 2 _).set_ 3 _)
      exact bkk
   ·go_wp2_with ((go_at_call 154;with_reducible refine (HT.out _).mono ?_);rintro _ w1 ⟨rfl,hb1⟩;have hb1s:=hb1.size;(try simp only [wsA,wsS,wsD,wsN] at hb1s);obtain ⟨hb1c,hb1f⟩:=bcell hb1;(try have : w.heap.size < w1.heap.size:=by omega);(try have : w.heap.size + 1 < w1.heap.size:=by omega);(try have : w.heap.size + 1 + 1 < w1.heap.size:=by omega);(try have : w.heap.size + 1 + 1 + 1 < w1.heap.size:=by omega))
    go_roundg (gk - 1)
    case measure => have:=HK.out;omega
    case rel =>
     refine ⟨n + 1,by have:=HK.out;omega, ?_, ?_,by go_num,by go_size,by exact bel, ?_,by exact bkk⟩
     ·rw [lastD_succ,← GX.out];rfl
     ·rw [HB.out];rfl
     ·rw [show N / 10 ^ (n + 1) = X / 10 from by rw [GX.out,Nat.div_div_eq_div_mul,Nat.pow_succ]]
      refine (((((?_ : Bk w1 _ _ [.int .u64 (wd X 0),.int .u64 (wd X 1),.int .u64 (wd X 2),.int .u64 (wd X 3)]).set_ 0 _).set_ 1 _).set_ 2 _).set_ 3 _)
      exact bkk
  ·obtain rfl : n = k:=by omega
   by_cases hx : X < 2 ^ 128
   ·have e6 : fitW X = X:=by unfold fitW;rw [if_pos hx]
    have e7 : over X = 0:=by unfold over;rw [if_pos hx]
    rw [e6,e7] at HR
    have w11 : wd 1 1 = 0:=by decide
    have w10 : wd 1 0 = 1:=by decide
    have HA:=Lib.hid (fun W => add_any X 1 hx (by decide) W)
    rw [w11,w10] at HA
    have hodd:=wd_odd X
    have HO:=Lib.hid hodd
    clear hodd w11 w10 hx
    by_cases c1 : 5 < L
    ·have E6:=Lib.hid e6
     have E7:=Lib.hid e7
     clear e6 e7
     have hf:=near_of N n True (by rw [← GL.out,← GB.out,← GX.out];simp;left;exact c1)
     rw [if_pos trivial,← GX.out] at hf
     have HF:=Lib.hid hf
     clear hf
     clear hlt
     go_wp2_with (first
      | ((go_at_call 143;with_reducible refine (HR.out _).mono ?_);rintro _ w1 ⟨rfl,hb1⟩;have hb1s:=hb1.size;(try simp only [wsA,wsS,wsD,wsN] at hb1s);obtain ⟨hb1c,hb1f⟩:=bcell hb1;(try have : w.heap.size < w1.heap.size:=by omega);(try have : w.heap.size + 1 < w1.heap.size:=by omega);(try have : w.heap.size + 1 + 1 < w1.heap.size:=by omega);(try have : w.heap.size + 1 + 1 + 1 < w1.heap.size:=by omega))
      | ((go_at_call 145;with_reducible refine (HA.out _).mono ?_);rintro _ w2 ⟨rfl,hb2⟩;have hb2s:=hb2.size;(try simp only [wsA,wsS,wsD,wsN] at hb2s);obtain ⟨hb2c,hb2f⟩:=bcell hb2;(try have : w.heap.size < w2.heap.size:=by omega);(try have : w.heap.size + 1 < w2.heap.size:=by omega);(try have : w.heap.size + 1 + 1 < w2.heap.size:=by omega);(try have : w.heap.size + 1 + 1 + 1 < w2.heap.size:=by omega)))
     refine bodyPost_ret (by simp [results,Tryz.results183,go_sem, *];try rfl) rfl ?_
     rw [HF.out]
     exact ⟨rfl,by exact bel⟩
    ·by_cases c2 : L = 5
     ·have g1 : (L == 5) = true:=by simp [c2]
      have C2:=Lib.hid c2
      cases bb
      ·by_cases c3 : X % 2 = 1
       ·have g2 : (bits .and .u64 (wd X 0) 1 == 1) = true:=by rw [HO.out,c3];rfl
        have C3:=Lib.hid c3
        have E6:=Lib.hid e6
        have E7:=Lib.hid e7
        clear e6 e7 c2 c3
        have hf:=near_of N n True (by rw [← GL.out,← GB.out,← GX.out];simp;right;exact ⟨C2.out,C3.out⟩)
        rw [if_pos trivial,← GX.out] at hf
        have HF:=Lib.hid hf
        clear hf
        clear hlt
        go_wp2_with (first
         | ((go_at_call 143;with_reducible refine (HR.out _).mono ?_);rintro _ w1 ⟨rfl,hb1⟩;have hb1s:=hb1.size;(try simp only [wsA,wsS,wsD,wsN] at hb1s);obtain ⟨hb1c,hb1f⟩:=bcell hb1;(try have : w.heap.size < w1.heap.size:=by omega);(try have : w.heap.size + 1 < w1.heap.size:=by omega);(try have : w.heap.size + 1 + 1 < w1.heap.size:=by omega);(try have : w.heap.size + 1 + 1 + 1 < w1.heap.size:=by omega))
         | ((go_at_call 145;with_reducible refine (HA.out _).mono ?_);rintro _ w2 ⟨rfl,hb2⟩;have hb2s:=hb2.size;(try simp only [wsA,wsS,wsD,wsN] at hb2s);obtain ⟨hb2c,hb2f⟩:=bcell hb2;(try have : w.heap.size < w2.heap.size:=by omega);(try have : w.heap.size + 1 < w2.heap.size:=by omega);(try have : w.heap.size + 1 + 1 < w2.heap.size:=by omega);(try have : w.heap.size + 1 + 1 + 1 < w2.heap.size:=by omega)))
        refine bodyPost_ret (by simp [results,Tryz.results183,go_sem, *];try rfl) rfl ?_
        rw [HF.out]
        exact ⟨rfl,by exact bel⟩
       ·have g2 : (bits .and .u64 (wd X 0) 1 == 1) = false:=by rw [HO.out];simp;omega
        have C3:=Lib.hid c3
        clear c2 c3
        have hf:=near_of N n False (by rw [← GL.out,← GB.out,← GX.out];simp;exact ⟨by omega,fun _ => by have:=C3.out;omega⟩)
        rw [if_neg not_false,← GX.out,Nat.add_zero] at hf
        have HF:=Lib.hid hf
        clear hf
        clear hlt
        have E6:=Lib.hid e6
        have E7:=Lib.hid e7
        clear e6 e7
        go_wp2_with ((go_at_call 143;with_reducible refine (HR.out _).mono ?_);rintro _ w1 ⟨rfl,hb1⟩;have hb1s:=hb1.size;(try simp only [wsA,wsS,wsD,wsN] at hb1s);obtain ⟨hb1c,hb1f⟩:=bcell hb1;(try have : w.heap.size < w1.heap.size:=by omega);(try have : w.heap.size + 1 < w1.heap.size:=by omega);(try have : w.heap.size + 1 + 1 < w1.heap.size:=by omega);(try have : w.heap.size + 1 + 1 + 1 < w1.heap.size:=by omega))
        refine bodyPost_ret (by simp [results,Tryz.results183,go_sem, *];try rfl) rfl ?_
        rw [HF.out,E6.out,E7.out]
        exact ⟨rfl,by exact bel⟩
      ·have E6:=Lib.hid e6
       have E7:=Lib.hid e7
       clear e6 e7 c2
       have hf:=near_of N n True (by rw [← GL.out,← GB.out,← GX.out];simp;right;exact C2.out)
       rw [if_pos trivial,← GX.out] at hf
       have HF:=Lib.hid hf
       clear hf
       clear hlt
       go_wp2_with (first
        | ((go_at_call 143;with_reducible refine (HR.out _).mono ?_);rintro _ w1 ⟨rfl,hb1⟩;have hb1s:=hb1.size;(try simp only [wsA,wsS,wsD,wsN] at hb1s);obtain ⟨hb1c,hb1f⟩:=bcell hb1;(try have : w.heap.size < w1.heap.size:=by omega);(try have : w.heap.size + 1 < w1.heap.size:=by omega);(try have : w.heap.size + 1 + 1 < w1.heap.size:=by omega);(try have : w.heap.size + 1 + 1 + 1 < w1.heap.size:=by omega))
        | ((go_at_call 145;with_reducible refine (HA.out _).mono ?_);rintro _ w2 ⟨rfl,hb2⟩;have hb2s:=hb2.size;(try simp only [wsA,wsS,wsD,wsN] at hb2s);obtain ⟨hb2c,hb2f⟩:=bcell hb2;(try have : w.heap.size < w2.heap.size:=by omega);(try have : w.heap.size + 1 < w2.heap.size:=by omega);(try have : w.heap.size + 1 + 1 < w2.heap.size:=by omega);(try have : w.heap.size + 1 + 1 + 1 < w2.heap.size:=by omega)))
       refine bodyPost_ret (by simp [results,Tryz.results183,go_sem, *];try rfl) rfl ?_
       rw [HF.out]
       exact ⟨rfl,by exact bel⟩
     ·have g1 : (L == 5) = false:=by simp [c2]
      have C2:=Lib.hid c2
      clear c2
      have hf:=near_of N n False (by rw [← GL.out,← GB.out,← GX.out];simp;exact ⟨by omega,fun h => absurd h C2.out⟩)
      rw [if_neg not_false,← GX.out,Nat.add_zero] at hf
      have HF:=Lib.hid hf
      clear hf
      clear hlt
      have E6:=Lib.hid e6
      have E7:=Lib.hid e7
      clear e6 e7
      go_wp2_with ((go_at_call 143;with_reducible refine (HR.out _).mono ?_);rintro _ w1 ⟨rfl,hb1⟩;have hb1s:=hb1.size;(try simp only [wsA,wsS,wsD,wsN] at hb1s);obtain ⟨hb1c,hb1f⟩:=bcell hb1;(try have : w.heap.size < w1.heap.size:=by omega);(try have : w.heap.size + 1 < w1.heap.size:=by omega);(try have : w.heap.size + 1 + 1 < w1.heap.size:=by omega);(try have : w.heap.size + 1 + 1 + 1 < w1.heap.size:=by omega))
      refine bodyPost_ret (by simp [results,Tryz.results183,go_sem, *];try rfl) rfl ?_
      rw [HF.out,E6.out,E7.out]
      exact ⟨rfl,by exact bel⟩
   ·have e6 : fitW X = 0:=by unfold fitW;rw [if_neg hx]
    have e7 : over X = 3:=by unfold over;rw [if_neg hx]
    rw [e6,e7] at HR
    have hbig : ¬ near N (10 ^ n) < 2 ^ 128:=by
     have : N / 10 ^ n ≤ near N (10 ^ n):=Nat.le_add_right _ _
     rw [← GX.out] at this
     omega
    have e8 : fitW (near N (10 ^ n)) = 0:=by unfold fitW;rw [if_neg hbig]
    have e9 : over (near N (10 ^ n)) = 3:=by unfold over;rw [if_neg hbig]
    have E8:=Lib.hid e8
    have E9:=Lib.hid e9
    rw [wd_zero,wd_zero] at HR
    clear e6 e7 e8 e9 hbig hx hlt
    go_wp2_with ((go_at_call 143;with_reducible refine (HR.out _).mono ?_);rintro _ w1 ⟨rfl,hb1⟩;have hb1s:=hb1.size;(try simp only [wsA,wsS,wsD,wsN] at hb1s);obtain ⟨hb1c,hb1f⟩:=bcell hb1;(try have : w.heap.size < w1.heap.size:=by omega);(try have : w.heap.size + 1 < w1.heap.size:=by omega);(try have : w.heap.size + 1 + 1 < w1.heap.size:=by omega);(try have : w.heap.size + 1 + 1 + 1 < w1.heap.size:=by omega))
    refine bodyPost_ret (by simp [results,Tryz.results183,go_sem, *];try rfl) rfl ?_
    rw [E8.out,E9.out,wd_zero,wd_zero]
    exact ⟨rfl,by exact bel⟩
end Go.Proofs.YtbnadlpkbbdgjaaGreatDoor



namespace Go.Proofs.YtbnadlpkbbdgjaaGreatDoor
open Go.RowKit

def B34 : Nat:=10 ^ 34
theorem B34_lt : B34 < 2 ^ 128:=by unfold B34;decide
theorem B34_pos : 0 < B34:=by unfold B34;decide
/-- c / 10^s without the noughts behind the point: the coefficient, the scale -/
def stripC : Nat → Nat → Nat
 | c,0 => c
 | c,s + 1 => if c % 10 = 0 then stripC (c / 10) s else c
def stripS : Nat → Nat → Nat
 | _,0 => 0
 | c,s + 1 => if c % 10 = 0 then stripS (c / 10) s else s + 1
theorem strip_ten (c s : Nat) : stripC (c * 10) (s + 1) = stripC c s ∧ stripS (c * 10) (s + 1) = stripS c s:=by
 unfold stripC stripS
 rw [if_pos (Nat.mul_mod_left _ _),if_pos (Nat.mul_mod_left _ _),Nat.mul_div_cancel _ (by decide)]
 exact ⟨by cases s <;> rfl,by cases s <;> rfl⟩
theorem strip_pow (c s j : Nat) : stripC (c * 10 ^ j) (s + j) = stripC c s ∧ stripS (c * 10 ^ j) (s + j) = stripS c s:=by
 induction j with
 | zero => rw [Nat.pow_zero,Nat.mul_one];exact ⟨rfl,rfl⟩
 | succ j ih =>
  have h:=strip_ten (c * 10 ^ j) (s + j)
  rw [Nat.pow_succ,← Nat.mul_assoc]
  exact ⟨h.1.trans ih.1,h.2.trans ih.2⟩
theorem strip_nil (s : Nat) : stripC 0 s = 0 ∧ stripS 0 s = 0:=by
 induction s with
 | zero => exact ⟨rfl,rfl⟩
 | succ s ih => have h:=strip_ten 0 s;exact ⟨h.1.trans ih.1,h.2.trans ih.2⟩
theorem strip_yes {c : Nat} (h : c % 10 = 0) (s : Nat) : stripC c (s + 1) = stripC (c / 10) s ∧ stripS c (s + 1) = stripS (c / 10) s:=by
 have e : c = c / 10 * 10:=by omega
 have:=strip_ten (c / 10) s
 rwa [← e] at this
theorem strip_no {c : Nat} (h : c % 10 ≠ 0) (s : Nat) : stripC c s = c ∧ stripS c s = s:=by
 cases s with
 | zero => exact ⟨rfl,rfl⟩
 | succ s => unfold stripC stripS;rw [if_neg h,if_neg h];exact ⟨rfl,rfl⟩
theorem strip_val (c s : Nat) : stripC c s * 10 ^ (s - stripS c s) = c ∧ stripS c s ≤ s:=by
 induction s generalizing c with
 | zero => exact ⟨Nat.mul_one _,Nat.le_refl _⟩
 | succ s ih =>
  by_cases h : c % 10 = 0
  ·rw [(strip_yes h s).1,(strip_yes h s).2]
   obtain ⟨h1,h2⟩:=ih (c / 10)
   refine ⟨?_,by omega⟩
   rw [show s + 1 - stripS (c / 10) s = s - stripS (c / 10) s + 1 by omega,Nat.pow_succ,← Nat.mul_assoc,h1]
   omega
  ·rw [(strip_no h _).1,(strip_no h _).2,Nat.sub_self]
   exact ⟨Nat.mul_one _,Nat.le_refl _⟩
theorem stripC_le (c s : Nat) : stripC c s ≤ c:=by
 have h:=(strip_val c s).1
 have hp : 0 < 10 ^ (s - stripS c s):=Nat.pow_pos (by decide)
 calc stripC c s ≤ stripC c s * 10 ^ (s - stripS c s):=Nat.le_mul_of_pos_right _ hp
  _ = c:=h
theorem stripC_zero {c s : Nat} : stripC c s = 0 ↔ c = 0:=by
 constructor
 ·intro h;have:=(strip_val c s).1;rw [h,Nat.zero_mul] at this;exact this.symm
 ·rintro rfl;exact (strip_nil s).1
theorem strip_end (c s : Nat) : stripS c s = 0 ∨ stripC c s % 10 ≠ 0:=by
 induction s generalizing c with
 | zero => exact .inl rfl
 | succ s ih =>
  by_cases h : c % 10 = 0
  ·rw [(strip_yes h s).1,(strip_yes h s).2];exact ih _
  ·rw [(strip_no h _).1,(strip_no h _).2];exact .inr h
/-- what Trim cuts off tells it -/
theorem strip_trim (T k s : Nat) (hT : T % 10 ≠ 0) : (k ≤ s → stripC (T * 10 ^ k) s = T ∧ stripS (T * 10 ^ k) s = s - k) ∧ (s ≤ k → stripC (T * 10 ^ k) s = T * 10 ^ (k - s) ∧ stripS (T * 10 ^ k) s = 0):=by
 constructor
 ·intro h
  have e:=strip_pow T (s - k) k
  rw [show s - k + k = s by omega] at e
  rw [e.1,e.2]
  exact strip_no hT _
 ·intro h
  have e:=strip_pow (T * 10 ^ (k - s)) 0 s
  rw [Nat.mul_assoc,← Nat.pow_add,show k - s + s = k by omega,Nat.zero_add] at e
  exact e
/-- the sign of what may be nought -/
def sg (neg : Bool) (c : Nat) : Bool:=neg && decide (c ≠ 0)
theorem sg_zero (neg : Bool) : sg neg 0 = false:=by unfold sg;simp
theorem sg_pos {neg : Bool} {c : Nat} (h : c ≠ 0) : sg neg c = neg:=by unfold sg;simp [h]
/-- is it in form? -/
def dform (neg : Bool) (c : Nat) (s : Int) : Bool:=decide (c < B34) && (decide (0 ≤ s) && (decide (s ≤ 18) && (if c = 0 then !neg && decide (s = 0) else decide (s = 0) || decide (c % 10 ≠ 0))))
def DForm (neg : Bool) (c s : Nat) : Prop:=c < B34 ∧ s ≤ 18 ∧ (c = 0 → neg = false ∧ s = 0) ∧ (s = 0 ∨ c % 10 ≠ 0)
theorem dform_iff (neg : Bool) (c : Nat) (s : Int) : dform neg c s = true ↔ ∃ t : Nat,s = (t : Int) ∧ DForm neg c t:=by
 unfold dform DForm
 by_cases h0 : c = 0
 ·subst h0
  simp only [Bool.and_eq_true,decide_eq_true_eq,if_pos]
  constructor
  ·rintro ⟨h1,h2,h3,h4,h5⟩
   refine ⟨0,by omega,h1,by omega,fun _ => ⟨by simpa using h4,rfl⟩,.inl rfl⟩
  ·rintro ⟨t,rfl,h1,h2,h3,h4⟩
   obtain ⟨h5,h6⟩:=h3 trivial
   subst h6
   simp [h5,h1]
 ·simp only [Bool.and_eq_true,decide_eq_true_eq,if_neg h0,Bool.or_eq_true]
  constructor
  ·rintro ⟨h1,h2,h3,h4⟩
   refine ⟨s.toNat,by omega,h1,by omega,fun h => absurd h h0, ?_⟩
   rcases h4 with h4 | h4
   ·left;omega
   ·right;exact h4
  ·rintro ⟨t,rfl,h1,h2,h3,h4⟩
   refine ⟨h1,by omega,by omega, ?_⟩
   rcases h4 with h4 | h4
   ·left;omega
   ·right;exact h4

/-- the nearest -/
theorem near_scale (a b k : Nat) (hk : 0 < k) : near (a * k) (b * k) = near a b:=by
 unfold near
 rw [Nat.mul_div_mul_right _ _ hk,Nat.mul_mod_mul_right]
 have e1 : 2 * (a % b * k) > b * k ↔ 2 * (a % b) > b:=by
  rw [← Nat.mul_assoc];exact Nat.mul_lt_mul_right hk
 have e2 : 2 * (a % b * k) = b * k ↔ 2 * (a % b) = b:=by
  rw [← Nat.mul_assoc];exact Nat.mul_left_inj (Nat.ne_of_gt hk)
 simp only [e1,e2]
theorem near_exact (q d : Nat) (hd : 0 < d) : near (q * d) d = q:=by
 unfold near
 rw [Nat.mul_div_cancel _ hd,Nat.mul_mod_left]
 simp;omega
theorem near_pow (n s t : Nat) (h : s ≤ t) : near (n * 10 ^ s) (10 ^ t) = near n (10 ^ (t - s)):=by
 rw [show 10 ^ t = 10 ^ (t - s) * 10 ^ s by rw [← Nat.pow_add];congr 1;omega]
 exact near_scale _ _ _ (Nat.pow_pos (by decide))
theorem near_high (n t j : Nat) : near (n * 10 ^ (t + j)) (10 ^ t) = n * 10 ^ j:=by
 rw [Nat.pow_add,Nat.mul_comm (10 ^ t),← Nat.mul_assoc]
 exact near_exact _ _ (Nat.pow_pos (by decide))

/-- n / d fitted, trying the scales below k -/
def fitK (n d : Nat) : Nat → Nat × Nat × Int
 | 0 => (0,0,3)
 | s + 1 => if near (n * 10 ^ s) d < B34 then (near (n * 10 ^ s) d,s,0) else fitK n d s
def fin (r : Nat × Nat × Int) : Nat × Nat × Int:=(stripC r.1 r.2.1,stripS r.1 r.2.1,r.2.2)
/-- nineteen, and nothing that the kernel counts out -/
def K19 (n : Nat) : Nat:=19 + 0 * n
theorem K19_eq (n : Nat) : K19 n = 19:=by unfold K19;omega
def FitC (n d : Nat) : Nat:=(fin (fitK n d (K19 n))).1
def FitS (n d : Nat) : Nat:=(fin (fitK n d (K19 n))).2.1
def FitE (n d : Nat) : Int:=(fin (fitK n d (K19 n))).2.2
theorem fitK_yes {n d s : Nat} (h : near (n * 10 ^ s) d < B34) : fitK n d (s + 1) = (near (n * 10 ^ s) d,s,0):=by rw [fitK,if_pos h]
theorem fitK_no {n d s : Nat} (h : ¬ near (n * 10 ^ s) d < B34) : fitK n d (s + 1) = fitK n d s:=by rw [fitK,if_neg h]
theorem fitK_up (n t j : Nat) : fin (fitK n (10 ^ t) (t + j + 1)) = fin (fitK n (10 ^ t) (t + 1)):=by
 induction j with
 | zero => rfl
 | succ j ih =>
  have e:=near_high n t (j + 1)
  have e0:=near_high n t 0
  rw [Nat.pow_zero,Nat.mul_one,Nat.add_zero] at e0
  by_cases h : near (n * 10 ^ (t + (j + 1))) (10 ^ t) < B34
  ·have h0 : near (n * 10 ^ t) (10 ^ t) < B34:=by
    rw [e0];rw [e] at h
    exact Nat.lt_of_le_of_lt (Nat.le_mul_of_pos_right _ (Nat.pow_pos (by decide))) h
   rw [fitK_yes h,fitK_yes h0,e,e0]
   have hs:=strip_pow n t (j + 1)
   unfold fin
   simp only [hs.1,hs.2]
  ·rw [fitK_no h];exact ih
theorem fit_top (n t : Nat) (h : t ≤ 18) : fin (fitK n (10 ^ t) (K19 n)) = fin (fitK n (10 ^ t) (t + 1)):=by
 have e:=fitK_up n t (18 - t)
 rwa [show t + (18 - t) + 1 = K19 n by rw [K19_eq];omega] at e
theorem fitK_lt (n d k : Nat) : (fitK n d k).1 < B34 ∧ ((fitK n d k).2.1 < k ∨ (fitK n d k).2.1 = 0) ∧ ((fitK n d k).2.2 = 0 ∨ ((fitK n d k).2.2 = 3 ∧ (fitK n d k).1 = 0)):=by
 induction k with
 | zero => exact ⟨B34_pos,.inr rfl,.inr ⟨rfl,rfl⟩⟩
 | succ s ih =>
  by_cases h : near (n * 10 ^ s) d < B34
  ·rw [fitK_yes h];exact ⟨h,.inl (Nat.lt_succ_self _),.inl rfl⟩
  ·rw [fitK_no h];exact ⟨ih.1,by omega,ih.2.2⟩
theorem fit_form (neg : Bool) (n d : Nat) : DForm (sg neg (FitC n d)) (FitC n d) (FitS n d):=by
 obtain ⟨h1,h2,_⟩:=fitK_lt n d (K19 n)
 have h19:=K19_eq n
 refine ⟨Nat.lt_of_le_of_lt (stripC_le _ _) h1,Nat.le_trans (strip_val _ _).2 (by omega), ?_,strip_end _ _⟩
 intro h0
 refine ⟨by rw [h0];exact sg_zero neg, ?_⟩
 have hz : (fitK n d (K19 n)).1 = 0:=stripC_zero.1 h0
 show stripS (fitK n d (K19 n)).1 _ = 0
 rw [hz];exact (strip_nil _).2
end Go.Proofs.YtbnadlpkbbdgjaaGreatDoor



namespace Go.Proofs.YtbnadlpkbbdgjaaGreatDoor
open Go.RowKit

/-- one step of the product: a product of words, a word that is there, a carry -/
theorem mul_step (x y o c : Int) (hx0 : 0 ≤ x) (hx : x < 18446744073709551616) (hy0 : 0 ≤ y) (hy : y < 18446744073709551616) (ho0 : 0 ≤ o) (ho : o < 18446744073709551616) (hc0 : 0 ≤ c) (hc : c < 18446744073709551616) :
  ∃ h l s k t j : Int,Hid (∀ w : World,Calls Tryz.prog 108 #[.int .u64 x,.int .u64 y] w fun e w' => e = .returned (.tuple #[.int .u64 h,.int .u64 l]) ∧ ∃ nn,w' = w.drewN nn) ∧
   (∀ W : World,(callFunc 109 #[.int .u64 l,.int .u64 o,.int .u64 0]).run Tryz.prog W = .ok (.value (.tuple #[.int .u64 s,.int .u64 k])) W) ∧
   (∀ W : World,(callFunc 109 #[.int .u64 s,.int .u64 c,.int .u64 0]).run Tryz.prog W = .ok (.value (.tuple #[.int .u64 t,.int .u64 j])) W) ∧
   Hid (t + 18446744073709551616 * (h + k + j) = x * y + o + c) ∧ 0 ≤ h ∧ h + k < 18446744073709551616 ∧ 0 ≤ k ∧ 0 ≤ j ∧ 0 ≤ t ∧ t < 18446744073709551616 ∧ h + k + j < 18446744073709551616:=by
 obtain ⟨h,l,f,H⟩:=mul64_ex x y hx0 hx hy0 hy
 unfold Two at H
 obtain ⟨s,k,g,K⟩:=add64_ex l o 0 (by omega) (by omega) ho0 ho (by decide) (by decide)
 unfold Carry at K
 obtain ⟨t,j,e,J⟩:=add64_ex s c 0 (by omega) (by omega) hc0 hc (by decide) (by decide)
 unfold Carry at J
 have hm : x * y ≤ 18446744073709551615 * 18446744073709551615:=Int.mul_le_mul (by omega) (by omega) hy0 (by decide)
 have hn : 0 ≤ x * y:=Int.mul_nonneg hx0 hy0
 generalize x * y = p at *
 exact ⟨h,l,s,k,t,j,f,g,e,by show t + 18446744073709551616 * (h + k + j) = p + o + c;omega,by omega,by omega,by omega,by omega,by omega,by omega,by omega⟩

theorem two_at (n t : Nat) (h : t < 2) : [Value.int .u64 (wd n 0),.int .u64 (wd n 1)][t]? = some (.int .u64 (wd n t)):=by
 have hc : t = 0 ∨ t = 1:=by omega
 rcases hc with rfl | rfl <;> rfl
theorem mul_low {n m t : Nat} (hm : m < 2 ^ 128) : n % 2 ^ (64 * t) * m < 2 ^ (64 * (t + 2)):=by
 rw [show 64 * (t + 2) = 64 * t + 128 by omega,Nat.pow_add]
 have h1 : n % 2 ^ (64 * t) < 2 ^ (64 * t):=Nat.mod_lt _ (Nat.two_pow_pos _)
 exact Nat.mul_lt_mul'' h1 hm
theorem mul_inv {V V' O t s : Nat} {cc X Y Z h k1 k3 s3 M M' : Int}
  (i1 : (V : Int) + cc * ((2 ^ (64 * (t + s)) : Nat) : Int) = O + X * M * ((2 ^ (64 * t) : Nat) : Int))
  (i2 : (V' : Int) = V + (s3 - Z) * ((2 ^ (64 * (t + s)) : Nat) : Int))
  (i3 : s3 + 18446744073709551616 * (h + k1 + k3) = X * Y + Z + cc)
  (i4 : M' = M + Y * ((2 ^ (64 * s) : Nat) : Int)) :
  (V' : Int) + (h + k1 + k3) * ((2 ^ (64 * (t + (s + 1))) : Nat) : Int) = O + X * M' * ((2 ^ (64 * t) : Nat) : Int):=by
 have e1 : ((2 ^ (64 * (t + (s + 1))) : Nat) : Int) = ((2 ^ (64 * (t + s)) : Nat) : Int) * 18446744073709551616:=by
  rw [show 64 * (t + (s + 1)) = 64 * (t + s) + 64 by omega,Nat.pow_add,Int.natCast_mul];rfl
 have e2 : ((2 ^ (64 * (t + s)) : Nat) : Int) = ((2 ^ (64 * t) : Nat) : Int) * ((2 ^ (64 * s) : Nat) : Int):=by
  rw [show 64 * (t + s) = 64 * t + 64 * s by omega,Nat.pow_add,Int.natCast_mul]
 rw [e1,i2,i4]
 rw [e2] at i1 ⊢
 generalize ((2 ^ (64 * t) : Nat) : Int) = P at *
 generalize ((2 ^ (64 * s) : Nat) : Int) = Q at *
 grind
theorem mul_end {n m t V V' O : Nat} {cc : Int} (hm : m < 2 ^ 128) (eO : O = n % 2 ^ (64 * t) * m)
  (i1 : (V : Int) + cc * ((2 ^ (64 * (t + 2)) : Nat) : Int) = O + wd n t * ((m % 2 ^ (64 * 2) : Nat) : Int) * ((2 ^ (64 * t) : Nat) : Int))
  (i2 : (V' : Int) = V + (cc - wd V (t + 2)) * ((2 ^ (64 * (t + 2)) : Nat) : Int)) (i3 : wd V (t + 2) = 0) : n % 2 ^ (64 * (t + 1)) * m = V':=by
 rw [i3,Int.sub_zero,i1,Nat.mod_eq_of_lt hm,eO] at i2
 have e:=wd_mod_succ n t
 have : ((n % 2 ^ (64 * (t + 1)) * m : Nat) : Int) = (V' : Int):=by
  rw [i2,Int.natCast_mul,e,Int.natCast_mul]
  generalize ((2 ^ (64 * t) : Nat) : Int) = P
  generalize ((n % 2 ^ (64 * t) : Nat) : Int) = Q
  grind
 exact_mod_cast this
set_option maxHeartbeats 4000000 in
theorem mul_any (n m : Nat) (hn : n < 2 ^ 128) (hm : m < 2 ^ 128) (w : World) : Calls Tryz.prog 144 #[.agg #[.int .u64 (wd n 1),.int .u64 (wd n 0)],.agg #[.int .u64 (wd m 1),.int .u64 (wd m 0)]] w fun e w' => e = .returned (.agg #[.int .u64 (wd (n * m) 0),.int .u64 (wd (n * m) 1),.int .u64 (wd (n * m) 2),.int .u64 (wd (n * m) 3)]) ∧ Below w.heap.size w w':=by
 have HN:=Far.mk hn
 have HM:=Far.mk hm
 have a0:=wd_nn n 0
 have a1:=wd_lt n 0
 have b0:=wd_nn n 1
 have b1:=wd_lt n 1
 have c0:=wd_nn m 0
 have c1:=wd_lt m 0
 have d0:=wd_nn m 1
 have d1:=wd_lt m 1
 clear hn hm
 go_enter Tryz.func144,Tryz.ntmps144
 go_wp2_with fail
 go_region_held3 (fun w' => w'.cell? ⟨w.heap.size,0,none⟩ = some (.int .u64 (wd n 1)) ∧ w'.cell? ⟨w.heap.size,1,none⟩ = some (.int .u64 (wd n 0)) ∧ w'.cell? ⟨w.heap.size + 1,0,none⟩ = some (.int .u64 (wd m 1)) ∧ w'.cell? ⟨w.heap.size + 1,1,none⟩ = some (.int .u64 (wd m 0))) (first | (go_keep;done) | (simp [go_sem];done) | ((try dsimp only);(repeat' apply And.intro) <;> (first | (with_reducible assumption) | ((rw [World.cell?_alloc_lt _ _ _ (by show _ < _;omega)]);go_split_ands;(first | with_reducible assumption | (refine (World.cell?_alloc_lt _ _ _ (by show _ < _;omega)).symm.trans ?_;with_reducible assumption))) | ((rw [World.cell?_setCell_other _ _ _ _ (by intro e;injection e;omega)]);with_reducible assumption) | (go_keep;done) | (simp [go_sem];done) | (simp (disch:=go_size) [*,World.cell?_alloc_some,World.cell?_setCell_far];done)))) (fail)
 ·go_wp2_with fail
  clear a0 a1 b0 b1 c0 c1 d0 d1
  go_loopg [24] 2 (fun k i wr => ∃ t : Nat,k + t = 2 ∧ i = .int .i64 t ∧ Bk wr (w.heap.size + 1 + 1 + 1) 80 (lcells (n % 2 ^ (64 * t) * m)) ∧ Bk wr (w.heap.size + 1 + 1 + 1 + 1) 208 [.int .u64 (wd n 0),.int .u64 (wd n 1)] ∧ Bk wr (w.heap.size + 1 + 1 + 1 + 1 + 1) 208 [.int .u64 (wd m 0),.int .u64 (wd m 1)] ∧
   Bk wr (w.heap.size + 1 + 1) 80 [.int .u64 0,.int .u64 0,.int .u64 0,.int .u64 0] ∧ w.heap.size + 6 ≤ wr.heap.size ∧ Below w.heap.size w wr)
  case atStart =>
   refine ⟨0,rfl,rfl, ?_,by exact bkk,by exact bkk,by exact bkk,by go_size,by exact bel⟩
   rw [Nat.mul_zero,Nat.pow_zero,Nat.mod_one,Nat.zero_mul]
   show Bk _ _ _ [.int .u64 0,.int .u64 0,.int .u64 0,.int .u64 0]
   exact bkk
  case round =>
   obtain ⟨t,hk,rfl,bo,bx,by_,b4,hsz,hbel⟩:=hrel
   have HK:=Lib.hid hk
   have BO:=Lib.hid bo
   have BX:=Lib.hid bx
   have BY:=Lib.hid by_
   have B4:=Lib.hid b4
   have t2 : t ≤ 2:=by omega
   clear hk bo bx by_ b4
   (try have : w.heap.size < wr.heap.size:=by omega);(try have : w.heap.size + 1 < wr.heap.size:=by omega);(try have : w.heap.size + 1 + 1 < wr.heap.size:=by omega);(try have : w.heap.size + 1 + 1 + 1 < wr.heap.size:=by omega)
   by_cases hlt : t < 2
   ·go_wp2_with fail
    obtain ⟨wo,hwo⟩ : ∃ wo : World,wo = wr:=⟨_,rfl⟩
    clear hwo
    obtain ⟨go,hgo⟩ : ∃ go : Nat,go = gk:=⟨_,rfl⟩
    rw [← hgo] at HK
    have HGO:=Lib.hid hgo
    clear hgo
    have hO : n % 2 ^ (64 * t) * m < 2 ^ (64 * (t + 2)):=mul_low HM.out
    have hO2 : n % 2 ^ (64 * t) * m < 2 ^ 256:=Nat.lt_of_lt_of_le hO (Nat.pow_le_pow_right (by decide) (by omega))
    obtain ⟨O,eO⟩ : ∃ O,O = n % 2 ^ (64 * t) * m:=⟨_,rfl⟩
    rw [← eO] at hO hO2 BO
    have EO:=Far.mk eO
    have H1:=Far.mk hO
    have H2:=Far.mk hO2
    clear eO hO hO2
    go_loopg [9,27] 2 (fun k c j wr => ∃ (s : Nat) (cc : Int) (V : Nat),k + s = 2 ∧ j = .int .i64 s ∧ c = .int .u64 cc ∧ 0 ≤ cc ∧ cc < 18446744073709551616 ∧ V < 2 ^ 256 ∧
     (V : Int) + cc * ((2 ^ (64 * (t + s)) : Nat) : Int) = O + wd n t * ((m % 2 ^ (64 * s) : Nat) : Int) * ((2 ^ (64 * t) : Nat) : Int) ∧ (∀ j,t + 2 ≤ j → j < 4 → wd V j = 0) ∧
     Bk wr (w.heap.size + 1 + 1 + 1) 80 (lcells V) ∧ Bk wr (w.heap.size + 1 + 1 + 1 + 1) 208 [.int .u64 (wd n 0),.int .u64 (wd n 1)] ∧ Bk wr (w.heap.size + 1 + 1 + 1 + 1 + 1) 208 [.int .u64 (wd m 0),.int .u64 (wd m 1)] ∧
     Bk wr (w.heap.size + 1 + 1) 80 [.int .u64 0,.int .u64 0,.int .u64 0,.int .u64 0] ∧ w.heap.size + 6 ≤ wr.heap.size ∧ Below w.heap.size w wr)
    case atStart =>
     refine ⟨0,0,O,rfl,rfl,rfl,by omega,by omega,H2.out, ?_, ?_,BO.out,BX.out,BY.out,B4.out,hsz,hbel⟩
     ·rw [Nat.mul_zero,Nat.pow_zero,Nat.mod_one,Int.zero_mul,Int.natCast_zero,Int.mul_zero,Int.zero_mul]
     ·intro j hj _
      exact wd_past H1.out hj
    case round =>
     obtain ⟨s,cc,V,hk,rfl,rfl,hc0,hc1,hV,heq,hz,bo,bx,by_,b4,hsz,hbel⟩:=hrel
     have HK2:=Lib.hid hk
     have HV:=Far.mk hV
     have HE:=Far.mk heq
     have HZ:=Lib.hid hz
     have BO:=Lib.hid bo
     have BX:=Lib.hid bx
     have BY:=Lib.hid by_
     have B4:=Lib.hid b4
     have s2 : s ≤ 2:=by omega
     clear hk hV heq hz bo bx by_ b4
     (try have : w.heap.size < wr.heap.size:=by omega);(try have : w.heap.size + 1 < wr.heap.size:=by omega);(try have : w.heap.size + 1 + 1 < wr.heap.size:=by omega);(try have : w.heap.size + 1 + 1 + 1 < wr.heap.size:=by omega)
     by_cases hls : s < 2
     ·have cx : wr.cell? ⟨(w.heap.size + 1 + 1 + 1 + 1),t,none⟩ = some (.int .u64 (wd n t)):=BX.out.cell t (two_at n t hlt)
      have cy : wr.cell? ⟨(w.heap.size + 1 + 1 + 1 + 1 + 1),s,none⟩ = some (.int .u64 (wd m s)):=BY.out.cell s (two_at m s hls)
      have co : wr.cell? ⟨w.heap.size + 1 + 1 + 1,t + s,none⟩ = some (.int .u64 (wd V (t + s))):=BO.out.cell _ (lcells_at V _ (by omega))
      have fo:=BO.out.frozen (t + s)
      obtain ⟨h,l,s1,k1,s3,k3,f,g,e,HS,p1,p2,p3,p4,p5,p6,p7⟩:=mul_step (wd n t) (wd m s) (wd V (t + s)) cc (wd_nn n t) (wd_lt n t) (wd_nn m s) (wd_lt m s) (wd_nn V _) (wd_lt V _) hc0 hc1
      obtain ⟨V',v1,v2,v3,v4,v5⟩:=lcells_set V (t + s) (by omega) HV.out s3 p5 p6
      have L1:=Far.mk v1
      have L2:=Far.mk v2
      have L3:=Lib.hid v3
      have L4:=Lib.hid v4
      clear v1 v2 v3 v4 v5
      obtain ⟨X,hX⟩ : ∃ X,X = wd n t:=⟨_,rfl⟩
      obtain ⟨Y,hY⟩ : ∃ Y,Y = wd m s:=⟨_,rfl⟩
      obtain ⟨Z,hZ⟩ : ∃ Z,Z = wd V (t + s):=⟨_,rfl⟩
      rw [← hX] at cx f HS HE
      rw [← hY] at cy f HS
      rw [← hZ] at co g HS L2
      have EX:=Lib.hid hX
      have EY:=Lib.hid hY
      clear hX hY hZ
      go_wp2_with fail
      go_quiet ((go_at_call 108;(first | exact Calls.quiet_of (f.out _) | exact quiet_add (f.out _))))
      go_wp2_with fail
      go_roundg (gk - 1)
      case measure => have:=HK2.out;omega
      case rel =>
       have bx:=BX.out
       have by_:=BY.out
       have b4:=B4.out
       refine ⟨s + 1,h + k1 + k3,V',by have:=HK2.out;omega,by go_num,rfl,by omega,p7,L1.out, ?_, ?_, ?_,by exact bkk,by exact bkk,by exact bkk,by go_size,by exact bel⟩
       ·have i1:=HE.out
        have i2:=L2.out
        have i3:=HS.out
        have i4:=wd_mod_succ m s
        rw [← EY.out] at i4
        rw [← EX.out]
        exact mul_inv i1 i2 i3 i4
       ·intro j hj h4
        rw [L4.out j h4 (by omega)]
        exact HZ.out j hj h4
       ·rw [← L3.out]
        exact (BO.out.drewN _).set_ _ _
     ·obtain rfl : s = 2:=by omega
      have co : wr.cell? ⟨w.heap.size + 1 + 1 + 1,t + 2,none⟩ = some (.int .u64 (wd V (t + 2))):=BO.out.cell _ (lcells_at V _ (by omega))
      have fo:=BO.out.frozen (t + 2)
      obtain ⟨V',v1,v2,v3,v4,v5⟩:=lcells_set V (t + 2) (by omega) HV.out cc hc0 hc1
      have L2:=Far.mk v2
      have L3:=Lib.hid v3
      clear v1 v2 v3 v4 v5
      go_wp2_with fail
      go_roundg (go - 1)
      case measure => have:=HK.out;have:=HGO.out;omega
      case rel =>
       have bx:=BX.out
       have by_:=BY.out
       have b4:=B4.out
       refine ⟨t + 1,by have:=HK.out;omega,by go_num, ?_,by exact bkk,by exact bkk,by exact bkk,by go_size,by exact bel⟩
       have i1:=HE.out
       have i2:=L2.out
       have i3:=HZ.out (t + 2) (Nat.le_refl _) (by omega)
       have e : n % 2 ^ (64 * (t + 1)) * m = V':=mul_end HM.out EO.out i1 i2 i3
       rw [e,← L3.out]
       exact BO.out.set_ _ _
   ·obtain rfl : t = 2:=by omega
    have e : n % 2 ^ (64 * 2) * m = n * m:=by rw [Nat.mod_eq_of_lt HN.out]
    rw [e] at BO
    obtain ⟨z,hz⟩ : ∃ z,z = n * m:=⟨_,rfl⟩
    rw [← hz] at BO
    have EZ:=Lib.hid hz
    clear hz
    have bo:=BO.out
    rw [lcells_eq] at bo
    have c0:=bo.cell 0 rfl
    have c1:=bo.cell 1 rfl
    have c2:=bo.cell 2 rfl
    have c3:=bo.cell 3 rfl
    have d0:=B4.out.cell 0 rfl
    have d1:=B4.out.cell 1 rfl
    have d2:=B4.out.cell 2 rfl
    have d3:=B4.out.cell 3 rfl
    have f0:=B4.out.frozen 0
    have f1:=B4.out.frozen 1
    have f2:=B4.out.frozen 2
    have f3:=B4.out.frozen 3
    clear bo e
    go_wp2_with fail
    refine bodyPost_ret (by simp [results,Tryz.results144,go_sem, *];try rfl) rfl ?_
    exact ⟨by rw [EZ.out],by exact bel⟩
 ·go_wp2_with fail
  clear a0 a1 b0 b1 c0 c1 d0 d1
  go_loopg [24] 2 (fun k i wr => ∃ t : Nat,k + t = 2 ∧ i = .int .i64 t ∧ Bk wr (w.heap.size + 1 + 1 + 1) 80 (lcells (n % 2 ^ (64 * t) * m)) ∧ Bk wr (w.heap.size + 1 + 1 + 1 + 1 + 1) 208 [.int .u64 (wd n 0),.int .u64 (wd n 1)] ∧ Bk wr (w.heap.size + 1 + 1 + 1 + 1) 208 [.int .u64 (wd m 0),.int .u64 (wd m 1)] ∧
   Bk wr (w.heap.size + 1 + 1) 80 [.int .u64 0,.int .u64 0,.int .u64 0,.int .u64 0] ∧ w.heap.size + 6 ≤ wr.heap.size ∧ Below w.heap.size w wr)
  case atStart =>
   refine ⟨0,rfl,rfl, ?_,by exact bkk,by exact bkk,by exact bkk,by go_size,by exact bel⟩
   rw [Nat.mul_zero,Nat.pow_zero,Nat.mod_one,Nat.zero_mul]
   show Bk _ _ _ [.int .u64 0,.int .u64 0,.int .u64 0,.int .u64 0]
   exact bkk
  case round =>
   obtain ⟨t,hk,rfl,bo,bx,by_,b4,hsz,hbel⟩:=hrel
   have HK:=Lib.hid hk
   have BO:=Lib.hid bo
   have BX:=Lib.hid bx
   have BY:=Lib.hid by_
   have B4:=Lib.hid b4
   have t2 : t ≤ 2:=by omega
   clear hk bo bx by_ b4
   (try have : w.heap.size < wr.heap.size:=by omega);(try have : w.heap.size + 1 < wr.heap.size:=by omega);(try have : w.heap.size + 1 + 1 < wr.heap.size:=by omega);(try have : w.heap.size + 1 + 1 + 1 < wr.heap.size:=by omega)
   by_cases hlt : t < 2
   ·go_wp2_with fail
    obtain ⟨wo,hwo⟩ : ∃ wo : World,wo = wr:=⟨_,rfl⟩
    clear hwo
    obtain ⟨go,hgo⟩ : ∃ go : Nat,go = gk:=⟨_,rfl⟩
    rw [← hgo] at HK
    have HGO:=Lib.hid hgo
    clear hgo
    have hO : n % 2 ^ (64 * t) * m < 2 ^ (64 * (t + 2)):=mul_low HM.out
    have hO2 : n % 2 ^ (64 * t) * m < 2 ^ 256:=Nat.lt_of_lt_of_le hO (Nat.pow_le_pow_right (by decide) (by omega))
    obtain ⟨O,eO⟩ : ∃ O,O = n % 2 ^ (64 * t) * m:=⟨_,rfl⟩
    rw [← eO] at hO hO2 BO
    have EO:=Far.mk eO
    have H1:=Far.mk hO
    have H2:=Far.mk hO2
    clear eO hO hO2
    go_loopg [9,27] 2 (fun k c j wr => ∃ (s : Nat) (cc : Int) (V : Nat),k + s = 2 ∧ j = .int .i64 s ∧ c = .int .u64 cc ∧ 0 ≤ cc ∧ cc < 18446744073709551616 ∧ V < 2 ^ 256 ∧
     (V : Int) + cc * ((2 ^ (64 * (t + s)) : Nat) : Int) = O + wd n t * ((m % 2 ^ (64 * s) : Nat) : Int) * ((2 ^ (64 * t) : Nat) : Int) ∧ (∀ j,t + 2 ≤ j → j < 4 → wd V j = 0) ∧
     Bk wr (w.heap.size + 1 + 1 + 1) 80 (lcells V) ∧ Bk wr (w.heap.size + 1 + 1 + 1 + 1 + 1) 208 [.int .u64 (wd n 0),.int .u64 (wd n 1)] ∧ Bk wr (w.heap.size + 1 + 1 + 1 + 1) 208 [.int .u64 (wd m 0),.int .u64 (wd m 1)] ∧
     Bk wr (w.heap.size + 1 + 1) 80 [.int .u64 0,.int .u64 0,.int .u64 0,.int .u64 0] ∧ w.heap.size + 6 ≤ wr.heap.size ∧ Below w.heap.size w wr)
    case atStart =>
     refine ⟨0,0,O,rfl,rfl,rfl,by omega,by omega,H2.out, ?_, ?_,BO.out,BX.out,BY.out,B4.out,hsz,hbel⟩
     ·rw [Nat.mul_zero,Nat.pow_zero,Nat.mod_one,Int.zero_mul,Int.natCast_zero,Int.mul_zero,Int.zero_mul]
     ·intro j hj _
      exact wd_past H1.out hj
    case round =>
     obtain ⟨s,cc,V,hk,rfl,rfl,hc0,hc1,hV,heq,hz,bo,bx,by_,b4,hsz,hbel⟩:=hrel
     have HK2:=Lib.hid hk
     have HV:=Far.mk hV
     have HE:=Far.mk heq
     have HZ:=Lib.hid hz
     have BO:=Lib.hid bo
     have BX:=Lib.hid bx
     have BY:=Lib.hid by_
     have B4:=Lib.hid b4
     have s2 : s ≤ 2:=by omega
     clear hk hV heq hz bo bx by_ b4
     (try have : w.heap.size < wr.heap.size:=by omega);(try have : w.heap.size + 1 < wr.heap.size:=by omega);(try have : w.heap.size + 1 + 1 < wr.heap.size:=by omega);(try have : w.heap.size + 1 + 1 + 1 < wr.heap.size:=by omega)
     by_cases hls : s < 2
     ·have cx : wr.cell? ⟨(w.heap.size + 1 + 1 + 1 + 1 + 1),t,none⟩ = some (.int .u64 (wd n t)):=BX.out.cell t (two_at n t hlt)
      have cy : wr.cell? ⟨(w.heap.size + 1 + 1 + 1 + 1),s,none⟩ = some (.int .u64 (wd m s)):=BY.out.cell s (two_at m s hls)
      have co : wr.cell? ⟨w.heap.size + 1 + 1 + 1,t + s,none⟩ = some (.int .u64 (wd V (t + s))):=BO.out.cell _ (lcells_at V _ (by omega))
      have fo:=BO.out.frozen (t + s)
      obtain ⟨h,l,s1,k1,s3,k3,f,g,e,HS,p1,p2,p3,p4,p5,p6,p7⟩:=mul_step (wd n t) (wd m s) (wd V (t + s)) cc (wd_nn n t) (wd_lt n t) (wd_nn m s) (wd_lt m s) (wd_nn V _) (wd_lt V _) hc0 hc1
      obtain ⟨V',v1,v2,v3,v4,v5⟩:=lcells_set V (t + s) (by omega) HV.out s3 p5 p6
      have L1:=Far.mk v1
      have L2:=Far.mk v2
      have L3:=Lib.hid v3
      have L4:=Lib.hid v4
      clear v1 v2 v3 v4 v5
      obtain ⟨X,hX⟩ : ∃ X,X = wd n t:=⟨_,rfl⟩
      obtain ⟨Y,hY⟩ : ∃ Y,Y = wd m s:=⟨_,rfl⟩
      obtain ⟨Z,hZ⟩ : ∃ Z,Z = wd V (t + s):=⟨_,rfl⟩
      rw [← hX] at cx f HS HE
      rw [← hY] at cy f HS
      rw [← hZ] at co g HS L2
      have EX:=Lib.hid hX
      have EY:=Lib.hid hY
      clear hX hY hZ
      go_wp2_with fail
      go_quiet ((go_at_call 108;(first | exact Calls.quiet_of (f.out _) | exact quiet_add (f.out _))))
      go_wp2_with fail
      go_roundg (gk - 1)
      case measure => have:=HK2.out;omega
      case rel =>
       have bx:=BX.out
       have by_:=BY.out
       have b4:=B4.out
       refine ⟨s + 1,h + k1 + k3,V',by have:=HK2.out;omega,by go_num,rfl,by omega,p7,L1.out, ?_, ?_, ?_,by exact bkk,by exact bkk,by exact bkk,by go_size,by exact bel⟩
       ·have i1:=HE.out
        have i2:=L2.out
        have i3:=HS.out
        have i4:=wd_mod_succ m s
        rw [← EY.out] at i4
        rw [← EX.out]
        exact mul_inv i1 i2 i3 i4
       ·intro j hj h4
        rw [L4.out j h4 (by omega)]
        exact HZ.out j hj h4
       ·rw [← L3.out]
        exact (BO.out.drewN _).set_ _ _
     ·obtain rfl : s = 2:=by omega
      have co : wr.cell? ⟨w.heap.size + 1 + 1 + 1,t + 2,none⟩ = some (.int .u64 (wd V (t + 2))):=BO.out.cell _ (lcells_at V _ (by omega))
      have fo:=BO.out.frozen (t + 2)
      obtain ⟨V',v1,v2,v3,v4,v5⟩:=lcells_set V (t + 2) (by omega) HV.out cc hc0 hc1
      have L2:=Far.mk v2
      have L3:=Lib.hid v3
      clear v1 v2 v3 v4 v5
      go_wp2_with fail
      go_roundg (go - 1)
      case measure => have:=HK.out;have:=HGO.out;omega
      case rel =>
       have bx:=BX.out
       have by_:=BY.out
       have b4:=B4.out
       refine ⟨t + 1,by have:=HK.out;omega,by go_num, ?_,by exact bkk,by exact bkk,by exact bkk,by go_size,by exact bel⟩
       have i1:=HE.out
       have i2:=L2.out
       have i3:=HZ.out (t + 2) (Nat.le_refl _) (by omega)
       have e : n % 2 ^ (64 * (t + 1)) * m = V':=mul_end HM.out EO.out i1 i2 i3
       rw [e,← L3.out]
       exact BO.out.set_ _ _
   ·obtain rfl : t = 2:=by omega
    have e : n % 2 ^ (64 * 2) * m = n * m:=by rw [Nat.mod_eq_of_lt HN.out]
    rw [e] at BO
    obtain ⟨z,hz⟩ : ∃ z,z = n * m:=⟨_,rfl⟩
    rw [← hz] at BO
    have EZ:=Lib.hid hz
    clear hz
    have bo:=BO.out
    rw [lcells_eq] at bo
    have c0:=bo.cell 0 rfl
    have c1:=bo.cell 1 rfl
    have c2:=bo.cell 2 rfl
    have c3:=bo.cell 3 rfl
    have d0:=B4.out.cell 0 rfl
    have d1:=B4.out.cell 1 rfl
    have d2:=B4.out.cell 2 rfl
    have d3:=B4.out.cell 3 rfl
    have f0:=B4.out.frozen 0
    have f1:=B4.out.frozen 1
    have f2:=B4.out.frozen 2
    have f3:=B4.out.frozen 3
    clear bo e
    go_wp2_with fail
    refine bodyPost_ret (by simp [results,Tryz.results144,go_sem, *];try rfl) rfl ?_
    exact ⟨by rw [EZ.out],by exact bel⟩
end Go.Proofs.YtbnadlpkbbdgjaaGreatDoor



namespace Go.Proofs.YtbnadlpkbbdgjaaGreatDoor
open Go.RowKit

theorem ten_38 {k : Nat} (h : k ≤ 38) : 10 ^ k < 2 ^ 128:=Nat.lt_of_le_of_lt (Nat.pow_le_pow_right (by decide) h) (by decide)
theorem mul_ten (X : Nat) (hX : X < 2 ^ 128) (W : World) : Calls Tryz.prog 144 #[.agg #[.int .u64 (wd X 1),.int .u64 (wd X 0)],.agg #[.int .u64 0,.int .u64 10]] W fun e w' => e = .returned (.agg #[.int .u64 (wd (X * 10) 0),.int .u64 (wd (X * 10) 1),.int .u64 (wd (X * 10) 2),.int .u64 (wd (X * 10) 3)]) ∧ Below W.heap.size W w':=by
 have h:=mul_any X 10 hX (by decide) W
 have b0 : wd 10 0 = 10:=by rw [wd0];rfl
 have b1 : wd 10 1 = 0:=by rw [wd1];rfl
 rw [b0,b1] at h
 exact h
theorem fit_id {X : Nat} (h : X < 2 ^ 128) : fitW X = X:=by unfold fitW;rw [if_pos h]
theorem over_id {X : Nat} (h : X < 2 ^ 128) : over X = 0:=by unfold over;rw [if_pos h]
set_option maxHeartbeats 4000000 in
theorem ten_any (k : Nat) (hk : k ≤ 38) (w : World) : Calls Tryz.prog 182 #[.int .i64 k] w fun e w' => e = .returned (.tuple #[.agg #[.int .u64 (wd (10 ^ k) 1),.int .u64 (wd (10 ^ k) 0)],.int .i64 0]) ∧ Below w.heap.size w w':=by
 have k0 : (0 : Int) ≤ (k : Int):=by omega
 have k1 : (k : Int) ≤ 38:=by omega
 go_enter Tryz.func182,Tryz.ntmps182
 go_wp2_with fail
 go_loopg [14] k (fun kk i wr => ∃ t : Nat,kk + t = k ∧ i = .int .i64 t ∧ Bk wr (w.heap.size + 1) 25 [.int .u64 (wd (10 ^ t) 1),.int .u64 (wd (10 ^ t) 0)] ∧ Bk wr w.heap.size 25 [.int .u64 0,.int .u64 0] ∧ w.heap.size + 2 ≤ wr.heap.size ∧ Below w.heap.size w wr)
 case atStart =>
  refine ⟨0,by omega,rfl, ?_,by exact bkk,by go_size,by exact bel⟩
  have b0 : wd (10 ^ 0) 0 = 1:=by rw [wd0];rfl
  have b1 : wd (10 ^ 0) 1 = 0:=by rw [wd1];rfl
  rw [b0,b1]
  exact bkk
 case round =>
  obtain ⟨t,hn,rfl,b1,b0,hsz,hbel⟩:=hrel
  have HK:=Lib.hid hn
  have ht : t ≤ k:=by omega
  have c0:=b1.cell 0 rfl
  have c1:=b1.cell 1 rfl
  have f0:=b1.frozen 0
  have f1:=b1.frozen 1
  have d0:=b0.cell 0 rfl
  have d1:=b0.cell 1 rfl
  have e0:=b0.frozen 0
  have e1:=b0.frozen 1
  have B0:=Lib.hid b0
  have B1:=Lib.hid b1
  (try have : w.heap.size < wr.heap.size:=by omega);(try have : w.heap.size + 1 < wr.heap.size:=by omega);(try have : w.heap.size + 1 + 1 < wr.heap.size:=by omega);(try have : w.heap.size + 1 + 1 + 1 < wr.heap.size:=by omega)
  clear hn b0 b1
  by_cases hlt : t < k
  ·have hx : 10 ^ t < 2 ^ 128:=ten_38 (by omega)
   have hy : 10 ^ t * 10 < 2 ^ 128:=by rw [← Nat.pow_succ];exact ten_38 (by omega)
   have HM:=Lib.hid (fun W => mul_ten (10 ^ t) hx W)
   have HN:=Lib.hid (fun W => narrow_any (10 ^ t * 10) (Nat.lt_trans hy (by decide)) W)
   rw [fit_id hy,over_id hy] at HN
   obtain ⟨X,hX⟩ : ∃ X,X = 10 ^ t:=⟨_,rfl⟩
   obtain ⟨Y,hY⟩ : ∃ Y,Y = X * 10:=⟨_,rfl⟩
   rw [← hX] at c0 c1 HM HN
   rw [← hY] at HM HN
   have EX:=Far.mk hX
   have EY:=Far.mk hY
   clear hX hY hx hy
   go_wp2_with (first
    | ((go_at_call 144;with_reducible refine (HM.out _).mono ?_);rintro _ w1 ⟨rfl,hb1⟩;have hb1s:=hb1.size;(try simp only [wsA,wsS,wsD,wsN] at hb1s);obtain ⟨hb1c,hb1f⟩:=bcell hb1;(try have : w.heap.size < w1.heap.size:=by omega);(try have : w.heap.size + 1 < w1.heap.size:=by omega);(try have : w.heap.size + 1 + 1 < w1.heap.size:=by omega);(try have : w.heap.size + 1 + 1 + 1 < w1.heap.size:=by omega))
    | ((go_at_call 143;with_reducible refine (HN.out _).mono ?_);rintro _ w2 ⟨rfl,hb2⟩;have hb2s:=hb2.size;(try simp only [wsA,wsS,wsD,wsN] at hb2s);obtain ⟨hb2c,hb2f⟩:=bcell hb2;(try have : w.heap.size < w2.heap.size:=by omega);(try have : w.heap.size + 1 < w2.heap.size:=by omega);(try have : w.heap.size + 1 + 1 < w2.heap.size:=by omega);(try have : w.heap.size + 1 + 1 + 1 < w2.heap.size:=by omega);(try have : w1.heap.size < w2.heap.size:=by omega);(try have : w1.heap.size + 1 < w2.heap.size:=by omega);(try have : w1.heap.size + 1 + 1 < w2.heap.size:=by omega);(try have : w1.heap.size + 1 + 1 + 1 < w2.heap.size:=by omega)))
   go_roundg (gk - 1)
   case measure => have:=HK.out;omega
   case rel =>
    have b0:=B0.out
    have b1:=B1.out
    refine ⟨t + 1,by have:=HK.out;omega,by go_num, ?_,by exact bkk,by go_size,by exact bel⟩
    have e : 10 ^ (t + 1) = Y:=by rw [EY.out,EX.out,Nat.pow_succ]
    rw [e]
    refine ((?_ : Bk w2 _ _ [.int .u64 (wd (10 ^ t) 1),.int .u64 (wd (10 ^ t) 0)]).set_ 0 _).set_ 1 _
    exact bkk
  ·obtain rfl : t = k:=by omega
   obtain ⟨X,hX⟩ : ∃ X,X = 10 ^ t:=⟨_,rfl⟩
   rw [← hX] at c0 c1
   have EX:=Far.mk hX
   clear hX
   go_wp2_with fail
   refine bodyPost_ret (by simp [results,Tryz.results182,go_sem, *];try rfl) rfl ?_
   exact ⟨by rw [EX.out],by exact bel⟩
end Go.Proofs.YtbnadlpkbbdgjaaGreatDoor



namespace Go.Proofs.YtbnadlpkbbdgjaaGreatDoor
open Go.RowKit

/-- N is T and k noughts behind it -/
def IsTz (N T k : Nat) : Prop:=N = T * 10 ^ k ∧ T % 10 ≠ 0
theorem tz_upto (N b : Nat) (h0 : N ≠ 0) (h : N < 10 ^ b) : ∃ T k,IsTz N T k:=by
 induction b generalizing N with
 | zero => simp at h;omega
 | succ b ih =>
  by_cases hd : N % 10 = 0
  ·obtain ⟨T,k,e,ht⟩:=ih (N / 10) (by omega) (by rw [Nat.pow_succ] at h;omega)
   refine ⟨T,k + 1, ?_,ht⟩
   rw [Nat.pow_succ,← Nat.mul_assoc,← e];omega
  ·exact ⟨N,0,by simp,hd⟩
theorem IsTz.k_le {N T k : Nat} (h : IsTz N T k) (hN : N < 2 ^ 128) : k ≤ 38:=by
 obtain ⟨e,ht⟩:=h
 have h1 : 1 ≤ T:=by
  rcases Nat.eq_zero_or_pos T with h0 | h0
  ·subst h0;exact absurd rfl ht
  ·exact h0
 have h2 : 10 ^ k ≤ N:=by rw [e];exact Nat.le_mul_of_pos_left _ h1
 have h3 : (10 : Nat) ^ k < 10 ^ 39:=Nat.lt_of_le_of_lt h2 (Nat.lt_trans hN (by decide))
 have:=pow_lt10 h3
 omega
theorem IsTz.at_ {N T k t : Nat} (h : IsTz N T k) (ht : t ≤ k) : N / 10 ^ t = T * 10 ^ (k - t):=by
 have e : 10 ^ k = 10 ^ (k - t) * 10 ^ t:=by rw [← Nat.pow_add];congr 1;omega
 rw [h.1,e,← Nat.mul_assoc,Nat.mul_div_cancel _ (Nat.pow_pos (by decide))]
theorem IsTz.mod_lt {N T k t : Nat} (h : IsTz N T k) (ht : t < k) : N / 10 ^ t % 10 = 0:=by
 rw [h.at_ (by omega),show k - t = k - t - 1 + 1 by omega,Nat.pow_succ,← Nat.mul_assoc,Nat.mul_mod_left]
theorem IsTz.mod_eq {N T k : Nat} (h : IsTz N T k) : N / 10 ^ k = T:=by
 rw [h.at_ (Nat.le_refl _),Nat.sub_self,Nat.pow_zero,Nat.mul_one]
set_option maxHeartbeats 1000000 in
theorem trim_any (N T k : Nat) (hN : N < 2 ^ 128) (h : IsTz N T k) (w : World) : Calls Tryz.prog 106 #[.agg #[.int .u64 (wd N 1),.int .u64 (wd N 0)]] w fun e w' => e = .returned (.tuple #[.agg #[.int .u64 (wd T 1),.int .u64 (wd T 0)],.int .i64 k]) ∧ Below w.heap.size w w':=by
 have hk38:=h.k_le hN
 have h0 : N ≠ 0:=by
  rintro rfl
  have h1:=h.1
  have h2:=h.2
  rcases Nat.mul_eq_zero.1 h1.symm with h3 | h3
  ·subst h3;exact h2 rfl
  ·exact absurd h3 (Nat.ne_of_gt (Nat.pow_pos (by decide)))
 have qz : ∀ W,(binOp .eql 25 (.agg #[.int .u64 (wd N 1),.int .u64 (wd N 0)]) (.agg #[.int .u64 0,.int .u64 0])).run Tryz.prog W = .ok (.bool false) W:=fun W => by
  rw [eq_wide]
  have e:=wd_eq_iff hN (show 0 < 2 ^ 128 by decide)
  rw [wd_zero,wd_zero] at e
  rw [e,decide_eq_false h0]
 have e2 : wd N 2 = 0:=wd_past (k:=2) (by simpa using hN) (Nat.le_refl _)
 have e3 : wd N 3 = 0:=wd_past (k:=3) (Nat.lt_of_lt_of_le hN (Nat.pow_le_pow_right (by decide) (by decide))) (Nat.le_refl _)
 have E2:=Lib.hid e2
 have E3:=Lib.hid e3
 have HN:=Far.mk hN
 have HZ:=Far.mk h
 clear hN h h0 e2 e3
 go_enter Tryz.func106,Tryz.ntmps106
 go_wp2_with fail
 go_loopg [5] k (fun kk c wr => ∃ t : Nat,kk + t = k ∧ c = .int .i64 t ∧ Bk wr (w.heap.size + 1 + 1) 80 (lcells (N / 10 ^ t)) ∧ Bk wr (w.heap.size + 1) 25 [.int .u64 0,.int .u64 0] ∧ w.heap.size + 3 ≤ wr.heap.size ∧ Below w.heap.size w wr)
 case atStart =>
  refine ⟨0,by omega,rfl, ?_,by exact bkk,by go_size,by exact bel⟩
  rw [Nat.pow_zero,Nat.div_one,lcells_eq,E2.out,E3.out]
  exact bkk
 case round =>
  obtain ⟨t,hn,rfl,b2,b1,hsz,hbel⟩:=hrel
  have HK:=Lib.hid hn
  have ht : t ≤ k:=by omega
  have B2:=Lib.hid b2
  have B1:=Lib.hid b1
  have b2':=b2
  rw [lcells_eq] at b2'
  have c0:=b2'.cell 0 rfl
  have c1:=b2'.cell 1 rfl
  have c2:=b2'.cell 2 rfl
  have c3:=b2'.cell 3 rfl
  have f0:=b2.frozen 0
  have f1:=b2.frozen 1
  have f2:=b2.frozen 2
  have f3:=b2.frozen 3
  have d0:=b1.cell 0 rfl
  have d1:=b1.cell 1 rfl
  have g0:=b1.frozen 0
  have g1:=b1.frozen 1
  (try have : w.heap.size < wr.heap.size:=by omega);(try have : w.heap.size + 1 < wr.heap.size:=by omega);(try have : w.heap.size + 1 + 1 < wr.heap.size:=by omega);(try have : w.heap.size + 1 + 1 + 1 < wr.heap.size:=by omega)
  have HT:=Lib.hid (fun W => tenth_any (N / 10 ^ t) (Nat.lt_of_le_of_lt (Nat.div_le_self _ _) (Nat.lt_trans HN.out (by decide))) W)
  clear hn b2 b1 b2'
  by_cases hlt : t < k
  ·have hm:=HZ.out.mod_lt hlt
   rw [hm] at HT
   obtain ⟨X,hX⟩ : ∃ X,X = N / 10 ^ t:=⟨_,rfl⟩
   rw [← hX] at HT c0 c1 c2 c3 B2
   have EX:=Far.mk hX
   clear hX hm
   go_wp2_with ((go_at_call 154;with_reducible refine (HT.out _).mono ?_);rintro _ w1 ⟨rfl,hb1⟩;have hb1s:=hb1.size;(try simp only [wsA,wsS,wsD,wsN] at hb1s);obtain ⟨hb1c,hb1f⟩:=bcell hb1;(try have : w.heap.size < w1.heap.size:=by omega);(try have : w.heap.size + 1 < w1.heap.size:=by omega);(try have : w.heap.size + 1 + 1 < w1.heap.size:=by omega);(try have : w.heap.size + 1 + 1 + 1 < w1.heap.size:=by omega))
   go_roundg (gk - 1)
   case measure => have:=HK.out;omega
   case rel =>
    have b1:=B1.out
    refine ⟨t + 1,by have:=HK.out;omega,by go_num, ?_,by exact bkk,by go_size,by exact bel⟩
    have e : N / 10 ^ (t + 1) = X / 10:=by rw [EX.out,Nat.div_div_eq_div_mul,Nat.pow_succ]
    rw [e,lcells_eq]
    refine Bk.alloc ?_ _
    refine ((((?_ : Bk w1 _ _ [.int .u64 (wd X 0),.int .u64 (wd X 1),.int .u64 (wd X 2),.int .u64 (wd X 3)]).set_ 0 _).set_ 1 _).set_ 2 _).set_ 3 _
    have b2:=B2.out
    rw [lcells_eq] at b2
    exact bkk
  ·obtain rfl : t = k:=by omega
   have hm:=HZ.out.mod_eq
   rw [hm] at HT c0 c1 c2 c3 B2
   have hne : (((T % 10 : Nat) : Int) != 0) = true:=by
    have:=HZ.out.2
    simp;omega
   obtain ⟨dd,hdd⟩ : ∃ dd : Int,dd = ((T % 10 : Nat) : Int):=⟨_,rfl⟩
   rw [← hdd] at HT hne
   clear hm hdd
   go_wp2_with ((go_at_call 154;with_reducible refine (HT.out _).mono ?_);rintro _ w1 ⟨rfl,hb1⟩;have hb1s:=hb1.size;(try simp only [wsA,wsS,wsD,wsN] at hb1s);obtain ⟨hb1c,hb1f⟩:=bcell hb1;(try have : w.heap.size < w1.heap.size:=by omega);(try have : w.heap.size + 1 < w1.heap.size:=by omega);(try have : w.heap.size + 1 + 1 < w1.heap.size:=by omega);(try have : w.heap.size + 1 + 1 + 1 < w1.heap.size:=by omega))
   refine bodyPost_ret (by simp [results,Tryz.results106,go_sem, *];try rfl) rfl ?_
   exact ⟨rfl,by exact bel⟩
end Go.Proofs.YtbnadlpkbbdgjaaGreatDoor



namespace Go.Proofs.YtbnadlpkbbdgjaaGreatDoor
open Go.RowKit

set_option maxHeartbeats 1000000 in
theorem power_any (k : Nat) (hk : k ≤ 38) (w : World) : Calls Tryz.prog 150 #[.int .i64 k] w fun e w' => e = .returned (.agg #[.int .u64 (wd (10 ^ k) 1),.int .u64 (wd (10 ^ k) 0)]) ∧ Below w.heap.size w w':=by
 have HT:=Lib.hid (fun W => ten_any k hk W)
 generalize wd (10 ^ k) 0 = x0 at *
 generalize wd (10 ^ k) 1 = x1 at *
 go_enter Tryz.func150,Tryz.ntmps150
 go_wp2_with ((go_at_call 182;with_reducible refine (HT.out _).mono ?_);rintro _ w1 ⟨rfl,hb1⟩;have hb1s:=hb1.size;(try simp only [wsA,wsS,wsD,wsN] at hb1s);obtain ⟨hb1c,hb1f⟩:=bcell hb1;(try have : w.heap.size < w1.heap.size:=by omega);(try have : w.heap.size + 1 < w1.heap.size:=by omega);(try have : w.heap.size + 1 + 1 < w1.heap.size:=by omega);(try have : w.heap.size + 1 + 1 + 1 < w1.heap.size:=by omega))
 refine bodyPost_ret (by simp [results,Tryz.results150,go_sem, *];try rfl) rfl ?_
 exact ⟨rfl,by exact bel⟩
set_option maxHeartbeats 1000000 in
theorem bound_any (w : World) : Calls Tryz.prog 104 #[] w fun e w' => e = .returned (.agg #[.int .u64 (wd B34 1),.int .u64 (wd B34 0)]) ∧ Below w.heap.size w w':=by
 have HT : Hid (∀ W,Calls Tryz.prog 150 #[.int .i64 34] W fun e w' => e = .returned (.agg #[.int .u64 (wd B34 1),.int .u64 (wd B34 0)]) ∧ Below W.heap.size W w'):=Lib.hid (fun W => power_any 34 (by decide) W)
 generalize wd B34 0 = x0 at *
 generalize wd B34 1 = x1 at *
 go_enter Tryz.func104,Tryz.ntmps104
 go_wp2_with ((go_at_call 150;with_reducible refine (HT.out _).mono ?_);rintro _ w1 ⟨rfl,hb1⟩;have hb1s:=hb1.size;(try simp only [wsA,wsS,wsD,wsN] at hb1s);obtain ⟨hb1c,hb1f⟩:=bcell hb1;(try have : w.heap.size < w1.heap.size:=by omega);(try have : w.heap.size + 1 < w1.heap.size:=by omega);(try have : w.heap.size + 1 + 1 < w1.heap.size:=by omega);(try have : w.heap.size + 1 + 1 + 1 < w1.heap.size:=by omega))
 refine bodyPost_ret (by simp [results,Tryz.results104,go_sem, *];try rfl) rfl ?_
 exact ⟨rfl,by exact bel⟩
theorem wd_hi2 {n : Nat} (h : n < 2 ^ 128) : wd n 2 = 0 ∧ wd n 3 = 0:=(wd_low4 (Nat.lt_trans h (by decide))).2 h
set_option maxHeartbeats 1000000 in
theorem long_any (n : Nat) (h : n < 2 ^ 128) (w : World) : Calls Tryz.prog 107 #[.agg #[.int .u64 (wd n 1),.int .u64 (wd n 0)]] w fun e w' => e = .returned (.agg #[.int .u64 (wd n 0),.int .u64 (wd n 1),.int .u64 (wd n 2),.int .u64 (wd n 3)]) ∧ Below w.heap.size w w':=by
 obtain ⟨e2,e3⟩:=wd_hi2 h
 rw [e2,e3]
 clear e2 e3 h
 generalize wd n 0 = x0 at *
 generalize wd n 1 = x1 at *
 go_enter Tryz.func107,Tryz.ntmps107
 go_wp2_with fail
 refine bodyPost_ret (by simp [results,Tryz.results107,go_sem, *];try rfl) rfl ?_
 exact ⟨rfl,by exact bel⟩
theorem eq_nil {n : Nat} (h : n < 2 ^ 128) : ((wd n 1 == 0) && (wd n 0 == 0)) = decide (n = 0):=by
 have e:=wd_eq_iff h (show 0 < 2 ^ 128 by decide)
 rwa [wd_zero,wd_zero] at e
set_option maxHeartbeats 1000000 in
theorem zero_any (b : Bool) (c : Nat) (s : Int) (h : c < 2 ^ 128) (w : World) : Calls Tryz.prog 105 #[.agg #[.bool b,.int .u64 (wd (c) 1),.int .u64 (wd (c) 0),.int .i64 s]] w fun e w' => e = .returned (.bool (decide (c = 0))) ∧ Below w.heap.size w w':=by
 have qz : ∀ W,(binOp .eql 25 (.agg #[.int .u64 (wd c 1),.int .u64 (wd c 0)]) (.agg #[.int .u64 0,.int .u64 0])).run Tryz.prog W = .ok (.bool (decide (c = 0))) W:=fun W => by rw [eq_wide,eq_nil h]
 clear h
 generalize decide (c = 0) = z at *
 generalize wd c 0 = x0 at *
 generalize wd c 1 = x1 at *
 go_enter Tryz.func105,Tryz.ntmps105
 go_wp2_with fail
 refine bodyPost_ret (by simp [results,Tryz.results105,go_sem, *];try rfl) rfl ?_
 exact ⟨rfl,by exact bel⟩
end Go.Proofs.YtbnadlpkbbdgjaaGreatDoor

