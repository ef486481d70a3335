/- The contracts of the functions that the laws reach, part 2: what each returns and what becomes of memory. -/
import Derived.Test.YtnhmplfonkjfoaaDoorSh
import Derived.Shelf.Spec.BitsCarry
import Derived.Lib.Hide
import Derived.Laws.ResultCell
import Derived.Deep.CutBlock
import Derived.BigRegion
import Derived.BigQuiet
import Derived.Deep.DeepCutAuto
import Derived.Test.YtnhmplfonkjfoaaDoorM1
set_option linter.unusedSimpArgs false
set_option linter.unusedVariables false


namespace Go.Proofs.YtnhmplfonkjfoaaDoor
open Go.RowKit

/-- the library's two tables lie as its text lays them -/
abbrev Tabs (w : World) : Prop:=Lib.Utf8Tabs 0 1 w
theorem tabs_below {w w' : World} (h : Tabs w) (hb : Below w.heap.size w w') : Tabs w':=by
 have key : ∀ (a : Addr) v,w.cell? a = some v → w'.cell? a = some v:=fun a v hv => by
  have hlt : a.block < w.heap.size:=by
   rcases Nat.lt_or_ge a.block w.heap.size with h1 | h1
   ·exact h1
   ·simp [World.cell?,Array.getElem?_eq_none h1] at hv
  rw [hb.cell hlt];exact hv
 exact ⟨fun c hc => key _ _ (h.1 c hc),fun i hi => ⟨key _ _ (h.2 i hi).1,key _ _ (h.2 i hi).2⟩⟩
set_option maxHeartbeats 1000000 in
theorem valid_any (l : List UInt8) (hl : l.length ≤ 9223372036854775807) (w : World) (hT : Tabs w) :
  Calls Tryd.prog 54 #[.string ⟨l.toArray⟩] w fun e w' => e = .returned (.bool (ztxt l)) ∧ Below w.heap.size w w':=by
 have HV:=Lib.hid (Tryd.utf8_ValidString ⟨l.toArray⟩ w (by show l.toArray.size ≤ _;simpa using hl) hT)
 have HI:=Lib.hid (fun W => Tryd.strings_IndexFunc 69 #[] (enters_of Tryd.func69 (by kernel_rfl) rfl) (fun r => !chr r) ⟨l.toArray⟩ W (closure_chr W))
 have he:=ztxt_is ⟨l.toArray⟩
 obtain ⟨a,ha⟩ : ∃ a,a = Lib.validD l:=⟨_,rfl⟩
 obtain ⟨i,hi⟩ : ∃ i,i = Lib.idxFunc (fun r => !chr r) true ⟨l.toArray⟩:=⟨_,rfl⟩
 have he2 : ztxt l = (a && decide (i < 0)):=by rw [ha,hi];exact he.symm
 have HE:=Lib.hid he2
 rw [← hi] at HI
 have ha2 : ∀ x,Lib.validD (⟨l.toArray⟩ : ByteArray).data.toList = x → Lib.validD l = x:=fun _ h => h
 have HV2 : Hid (Calls Tryd.prog 67 #[.string ⟨l.toArray⟩] w fun e w' => e = .returned (.bool a) ∧ Below w.heap.size w w'):=Lib.hid (by rw [ha];exact HV.out)
 clear he he2 hT ha hi ha2 HV
 cases a with
 | false =>
  go_enter Tryd.func54,Tryd.ntmps54
  go_wp2_with fail
  refine HV2.out.mono ?_
  rintro _ w1 ⟨rfl,hb1⟩
  go_wp2_with fail
  go_ret
  exact ⟨ret_bool (by rw [HE.out];rfl),hb1⟩
 | true =>
  go_enter Tryd.func54,Tryd.ntmps54
  go_wp2_with fail
  refine HV2.out.mono ?_
  rintro _ w1 ⟨rfl,hb1⟩
  go_wp2_with fail
  refine (HI.out _).mono ?_
  rintro _ w2 ⟨rfl,hb2⟩
  go_wp2_with fail
  go_ret
  exact ⟨ret_bool (by rw [HE.out];simp),hb1.trans (hb2.mono hb1.size)⟩
end Go.Proofs.YtnhmplfonkjfoaaDoor



namespace Go.Proofs.YtnhmplfonkjfoaaDoor
open Go.RowKit

set_option maxHeartbeats 4000000 in
theorem fits_any (op a : Int) (tx : ByteArray) (ng : Bool) (hi lo sc dy : Int) (w : World) : Calls Tryd.prog 38 #[.agg #[.int .i64 op,.int .i64 a,.string tx,.bool ng,.int .u64 hi,.int .u64 lo,.int .i64 sc,.int .i64 dy]] w fun e w' => e = .returned (.bool (kidsB op a)) ∧ Below w.heap.size w w':=by
 have HA:=Lib.hid (arity_any op)
 obtain ⟨R,hR⟩ : ∃ R,R = arD op:=⟨_,rfl⟩
 obtain ⟨r1,r2⟩:=R
 have HR : Hid (kidsB op a = decide (r2 ≠ -2 ∧ r1 ≤ a ∧ (r2 = -1 ∨ a ≤ r2))):=Lib.hid (by unfold kidsB;rw [← hR])
 rw [← hR] at HA
 clear hR
 go_enter Tryd.func38,Tryd.ntmps38
 go_wp2_with fail
 refine (HA.out _).mono ?_
 rintro _ _ ⟨rfl,rfl⟩
 dsimp only
 go_wp2_with fail
 all_goals go_ret
 all_goals refine ⟨ret_bool ?_,by (repeat' first|(with_reducible first|exact blR _ _|assumption|refine blD ?_|refine blN ?_ _)|((with_reducible first|refine blA ?_ ?_ _|refine blS ?_ ?_ _|refine blT (by assumption) ?_ ?_);focus (go_size;done)))⟩
 all_goals rw [HR.out]
 all_goals (first | (rw [Bool.eq_iff_iff];simp;done) | (rw [Bool.eq_iff_iff];simp;omega))
end Go.Proofs.YtnhmplfonkjfoaaDoor



namespace Go.Proofs.YtnhmplfonkjfoaaDoor
open Go.RowKit

/-- a word and a carry: s + 2^64 k is t -/
def Carry (s k t : Int) : Prop:=s + 18446744073709551616 * k = t ∧ 0 ≤ s ∧ s < 18446744073709551616 ∧ 0 ≤ k ∧ k ≤ 1
theorem add64_ex (x y c : Int) (hx0 : 0 ≤ x) (hx : x < 18446744073709551616) (hy0 : 0 ≤ y) (hy : y < 18446744073709551616) (hc0 : 0 ≤ c) (hc : c ≤ 1) :
  ∃ s k : Int,(∀ W : World,(callFunc 87 #[.int .u64 x,.int .u64 y,.int .u64 c]).run Tryd.prog W = .ok (.value (.tuple #[.int .u64 s,.int .u64 k])) W) ∧ Carry s k (x + y + c):=by
 refine ⟨(x + y + c) % 18446744073709551616,(x + y + c) / 18446744073709551616,fun W => ?_, ?_⟩
 ·rw [run_callFunc_extern Tryd.func87 (by kernel_rfl) (by kernel_rfl) (by kernel_rfl) (e:=add64Entry) (by kernel_rfl),run_add64 x y c hx0 hy0 hc0 hc]
  rfl
 ·unfold Carry;omega
/-- a product's two words -/
def Two (h l t : Int) : Prop:=h * 18446744073709551616 + l = t ∧ 0 ≤ h ∧ h < 18446744073709551616 ∧ 0 ≤ l ∧ l < 18446744073709551616
theorem mul64_ex (x y : Int) (hx0 : 0 ≤ x) (hx : x < 18446744073709551616) (hy0 : 0 ≤ y) (hy : y < 18446744073709551616) :
  ∃ h l : Int,(∀ w : World,Calls Tryd.prog 86 #[.int .u64 x,.int .u64 y] w fun e w' => e = .returned (.tuple #[.int .u64 h,.int .u64 l]) ∧ ∃ nn,w' = w.drewN nn) ∧ Two h l (x * y):=by
 obtain ⟨x,rfl⟩:=Int.eq_ofNat_of_zero_le hx0
 obtain ⟨y,rfl⟩:=Int.eq_ofNat_of_zero_le hy0
 refine ⟨((x * y / 18446744073709551616 : Nat) : Int),((x * y % 18446744073709551616 : Nat) : Int),fun w => (Tryd.bits_Mul64 x y (by omega) (by omega) w).mono fun e w' h => ⟨h.1,0,h.2⟩, ?_⟩
 have hlt : x * y < 340282366920938463463374607431768211456:=by
  have h1 : x * y ≤ 18446744073709551615 * 18446744073709551615:=Nat.mul_le_mul (by omega) (by omega)
  omega
 unfold Two
 rw [← Int.natCast_mul]
 generalize x * y = p at *
 omega
end Go.Proofs.YtnhmplfonkjfoaaDoor



namespace Go.Proofs.YtnhmplfonkjfoaaDoor
open Go.RowKit

theorem lz10 (w : World) : Calls Tryd.prog 85 #[.int .u64 10] w fun e w' => e = .returned (.int .i64 60) ∧ ∃ nn,w' = w.drewN nn :=
 (Tryd.bits_LeadingZeros64 10 w (by decide) (by decide)).mono fun e w' h => ⟨by rw [h.1];rfl,0,h.2⟩

theorem or_gen (i a b : Nat) (hb : b < 2 ^ i) : a * 2 ^ i ||| b = a * 2 ^ i + b:=by
 rw [Nat.mul_comm];exact (Nat.two_pow_add_eq_or_of_lt hb a).symm
theorem or_sum (x b : Nat) (hx : x < 18446744073709551616) (hb : b < 18446744073709551616) (h : x ||| b = x + b) : bits .or .u64 (x : Int) (b : Int) = (x : Int) + b:=by
 rw [bits_or_u64_nat x b hx hb,h];omega
theorem or_top (h l : Int) (h0 : 0 ≤ h) (h9 : h ≤ 9) (l0 : 0 ≤ l) (l1 : l < 18446744073709551616) : bits .or .u64 (h * 1152921504606846976) (l / 16) = h * 1152921504606846976 + l / 16:=by
 obtain ⟨a,rfl⟩:=Int.eq_ofNat_of_zero_le h0
 obtain ⟨b,rfl⟩:=Int.eq_ofNat_of_zero_le l0
 obtain ⟨x,hx⟩ : ∃ x : Nat,(x : Int) = (a : Int) * 1152921504606846976:=⟨((a : Int) * 1152921504606846976).toNat,by omega⟩
 have e : ((b / 16 : Nat) : Int) = (b : Int) / 16:=by omega
 have h2 : x ||| b / 16 = x + b / 16:=by
  have h3:=or_gen 60 a (b / 16) (by omega)
  have h4 : a * 2 ^ 60 = x:=by omega
  rw [h4] at h3;exact h3
 rw [← hx,← e]
 exact or_sum x (b / 16) (by omega) (by omega) h2
theorem and_low (z : Int) (k : Int) (hz : z = k * 1152921504606846976) (h0 : 0 ≤ k) (h1 : k < 16) : bits .and .u64 z 4294967295 = 0:=by
 rw [and_low32 z (by omega) (by omega)];omega
/-- a number of two words by ten -/
def Ten (q r t : Int) : Prop:=10 * q + r = t ∧ 0 ≤ q ∧ q < 18446744073709551616 ∧ 0 ≤ r ∧ r ≤ 9
theorem ten_last (h l u q r s p t : Int) (hu : u = h * 1152921504606846976 + l / 16) (hq : u = q * 2684354560 + r) (hr0 : 0 ≤ r) (hr : r < 2684354560)
  (hs : s = r * 4294967296 + l % 16 * 268435456) (hp : s = p * 2684354560 + t) (ht0 : 0 ≤ t) (ht : t < 2684354560) (h9 : h ≤ 9) (h0 : 0 ≤ h) (l0 : 0 ≤ l) (l1 : l < 18446744073709551616) :
  Ten (q * 4294967296 + p) (t / 268435456) (h * 18446744073709551616 + l):=by
 unfold Ten;omega

set_option maxHeartbeats 1000000 in
theorem div10_big (h l : Int) (h0 : 1 ≤ h) (h9 : h ≤ 9) (l0 : 0 ≤ l) (l1 : l < 18446744073709551616) :
  ∃ q r : Int,(∀ w : World,Calls Tryd.prog 82 #[.int .u64 h,.int .u64 l,.int .u64 10] w fun e w' => e = .returned (.tuple #[.int .u64 q,.int .u64 r]) ∧ ∃ nn,w' = w.drewN nn) ∧ Ten q r (h * 18446744073709551616 + l):=by
 have g1 : (h == 0) = false:=by simp;omega
 obtain ⟨u,hu⟩ : ∃ u,u = h * 1152921504606846976 + l / 16:=⟨_,rfl⟩
 obtain ⟨q,hq⟩ : ∃ q,q = u / 2684354560:=⟨_,rfl⟩
 obtain ⟨r,hr⟩ : ∃ r,r = u % 2684354560:=⟨_,rfl⟩
 obtain ⟨s,hs⟩ : ∃ s,s = r * 4294967296 + l % 16 * 268435456:=⟨_,rfl⟩
 obtain ⟨p,hp⟩ : ∃ p,p = s / 2684354560:=⟨_,rfl⟩
 obtain ⟨t,ht⟩ : ∃ t,t = s % 2684354560:=⟨_,rfl⟩
 refine ⟨q * 4294967296 + p,t / 268435456,fun w => ?_,ten_last h l u q r s p t hu (by omega) (by omega) (by omega) hs (by omega) (by omega) (by omega) h9 (by omega) l0 l1⟩
 have E10 : bits .and .u64 11529215046068469760 4294967295 = 0:=by decide
 have E11:=or_top h l (by omega) h9 l0 l1
 rw [← hu] at E11
 have E12 : IntKind.u64.wrap (l * 1152921504606846976) = l % 16 * 1152921504606846976:=by rw [IntKind.wrap_u64];omega
 have E13 : l % 16 * 1152921504606846976 / 4294967296 = l % 16 * 268435456:=by omega
 have E14 : bits .and .u64 (l % 16 * 1152921504606846976) 4294967295 = 0:=and_low _ (l % 16) rfl (by omega) (by omega)
 have E15 : IntKind.u64.wrap (u.tdiv 2684354560) = q:=by rw [IntKind.wrap_u64,Int.tdiv_eq_ediv_of_nonneg (by omega)];omega
 have E16 : IntKind.u64.wrap (u - IntKind.u64.wrap (q * 2684354560)) = r:=by rw [IntKind.wrap_u64,IntKind.wrap_u64];omega
 have E21 : IntKind.u64.wrap (IntKind.u64.wrap (IntKind.u64.wrap (u * 4294967296) + l % 16 * 268435456) - IntKind.u64.wrap (q * 11529215046068469760)) = s:=by simp only [IntKind.wrap_u64];omega
 have E22 : IntKind.u64.wrap (s.tdiv 2684354560) = p:=by rw [IntKind.wrap_u64,Int.tdiv_eq_ediv_of_nonneg (by omega)];omega
 have E23 : IntKind.u64.wrap (s - IntKind.u64.wrap (p * 2684354560)) = t:=by simp only [IntKind.wrap_u64];omega
 have E24 : IntKind.u64.wrap (IntKind.u64.wrap (IntKind.u64.wrap (s * 4294967296)) - IntKind.u64.wrap (p * 11529215046068469760)) / 1152921504606846976 = t / 268435456:=by simp only [IntKind.wrap_u64];omega
 have J4:=Lib.hid E24
 have J1:=Lib.hid E21
 have J2:=Lib.hid E22
 have J3:=Lib.hid E23
 clear E21 E22 E23 E24
 have q0 : 0 ≤ q:=by omega
 have q1 : q < 4294967296:=by omega
 have r0 : 0 ≤ r:=by omega
 have r1 : r < 2684354560:=by omega
 have s0 : 0 ≤ s:=by omega
 have s1 : s < 11529215046068469760:=by omega
 have p0 : 0 ≤ p:=by omega
 have p1 : p < 4294967296:=by omega
 have t0 : 0 ≤ t:=by omega
 have t1 : t < 2684354560:=by omega
 have m0 : 0 ≤ l % 16 * 268435456:=by omega
 have m1 : l % 16 * 268435456 < 4294967296:=by omega
 have H1:=Lib.hid E10
 have H2:=Lib.hid E11
 have H3:=Lib.hid E12
 have H4:=Lib.hid E13
 have H5:=Lib.hid E14
 have H6:=Lib.hid E15
 have H7:=Lib.hid E16
 have G1:=Lib.hid hu
 have G2:=Lib.hid hq
 have G3:=Lib.hid hr
 have G4:=Lib.hid hs
 have G5:=Lib.hid hp
 have G6:=Lib.hid ht
 clear E10 E11 E12 E13 E14 E15 E16 hu hq hr hs hp ht
 go_enter Tryd.func82,Tryd.ntmps82
 go_wp2_with ((go_at_call 85;with_reducible refine (lz10 _).mono ?_);rintro _ _ ⟨rfl,n1,rfl⟩)
 rw [H1.out,H2.out,H3.out,H4.out,H5.out,H6.out,H7.out]
 refine wp_loop_rounds 1 ?_
 rw [rounds_succ]
 go_wp2
 rw [J1.out,J2.out,J3.out]
 refine wp_loop_rounds 1 ?_
 rw [rounds_succ]
 go_wp2
 go_ret2
 refine ⟨?_,_,rfl⟩
 show Ending.returned (.tuple #[.int .u64 _,.int .u64 _]) = _
 rw [J4.out]
set_option maxHeartbeats 1000000 in
theorem div10_small (l : Int) (l0 : 0 ≤ l) (l1 : l < 18446744073709551616) (w : World) :
  Calls Tryd.prog 82 #[.int .u64 0,.int .u64 l,.int .u64 10] w fun e w' => e = .returned (.tuple #[.int .u64 (l / 10),.int .u64 (l % 10)]) ∧ ∃ nn,w' = w.drewN nn:=by
 go_enter Tryd.func82,Tryd.ntmps82
 go_wp2_with fail
 go_quiet (fail)
 go_wp2_with fail
 go_ret2
 exact ⟨rfl,_,rfl⟩
theorem div10_ex (h l : Int) (h0 : 0 ≤ h) (h9 : h ≤ 9) (l0 : 0 ≤ l) (l1 : l < 18446744073709551616) :
  ∃ q r : Int,(∀ w : World,Calls Tryd.prog 82 #[.int .u64 h,.int .u64 l,.int .u64 10] w fun e w' => e = .returned (.tuple #[.int .u64 q,.int .u64 r]) ∧ ∃ nn,w' = w.drewN nn) ∧ Ten q r (h * 18446744073709551616 + l):=by
 by_cases hz : h = 0
 ·subst hz
  exact ⟨_,_,div10_small l l0 l1,by unfold Ten;omega⟩
 ·exact div10_big h l (by omega) h9 l0 l1
end Go.Proofs.YtnhmplfonkjfoaaDoor



namespace Go.Proofs.YtnhmplfonkjfoaaDoor
open Go.RowKit

def cmpI (a b c d : Int) : Int:=if a = c ∧ b = d then 0 else if a < c ∨ (a = c ∧ b < d) then -1 else 1
/-- -1, 0, 1: below, equal, above -/
def cmpN (n m : Nat) : Int:=if n = m then 0 else if n < m then -1 else 1
theorem cmp_eq (n m : Nat) (hn : n < 2 ^ 128) (hm : m < 2 ^ 128) : cmpI (wd n 1) (wd n 0) (wd m 1) (wd m 0) = cmpN n m:=by
  have h1:=wd_two hn
  have h2:=wd_two hm
  have h3:=wd_nn n 0
  have h4:=wd_lt n 0
  have h5:=wd_nn m 0
  have h6:=wd_lt m 0
  unfold cmpI cmpN
  split <;> split <;> (try split) <;> (try split) <;> omega
set_option maxHeartbeats 1000000 in
theorem cmp_int (a b c d : Int) (w : World) : Calls Tryd.prog 63 #[.agg #[.int .u64 a,.int .u64 b],.agg #[.int .u64 c,.int .u64 d]] w fun e w' => e = .returned (.int .i64 (cmpI a b c d)) ∧ Below w.heap.size w w':=by
  go_enter Tryd.func63,Tryd.ntmps63
  go_wp2
  all_goals go_ret
  all_goals refine ⟨?_,by (repeat' first|(with_reducible first|exact blR _ _|assumption|refine blD ?_|refine blN ?_ _)|((with_reducible first|refine blA ?_ ?_ _|refine blS ?_ ?_ _|refine blT (by assumption) ?_ ?_);focus (go_size;done)))⟩
  all_goals simp [cmpI]
  all_goals (first | done | omega | (simp_all;done) | (simp_all;omega))
theorem cmp_any (n m : Nat) (hn : n < 2 ^ 128) (hm : m < 2 ^ 128) (w : World) : Calls Tryd.prog 63 #[.agg #[.int .u64 (wd n 1),.int .u64 (wd n 0)],.agg #[.int .u64 (wd m 1),.int .u64 (wd m 0)]] w fun e w' => e = .returned (.int .i64 (cmpN n m)) ∧ Below w.heap.size w w':=by
  rw [← cmp_eq n m hn hm]
  exact cmp_int _ _ _ _ w

def over (n : Nat) : Int:=if n < 2 ^ 128 then 0 else 3
def fitW (n : Nat) : Nat:=if n < 2 ^ 128 then n else 0
set_option maxHeartbeats 1000000 in
theorem narrow_any (n : Nat) (hn : n < 2 ^ 256) (w : World) : Calls Tryd.prog 83 #[.agg #[.int .u64 (wd n 0),.int .u64 (wd n 1),.int .u64 (wd n 2),.int .u64 (wd n 3)]] w fun e w' => e = .returned (.tuple #[.agg #[.int .u64 (wd (fitW n) 1),.int .u64 (wd (fitW n) 0)],.int .i64 (over n)]) ∧ Below w.heap.size w w':=by
  have hi:=wd_low4 hn
  by_cases h : n < 2 ^ 128
  · have e1 : over n = 0:=by unfold over;rw [if_pos h]
    have e2 : fitW n = n:=by unfold fitW;rw [if_pos h]
    obtain ⟨e3,e4⟩:=hi.2 h
    rw [e1,e2]
    have g3 : (wd n 2 == 0) = true:=by simp [e3]
    have g4 : (wd n 3 == 0) = true:=by simp [e4]
    have g5 : (wd n 2 != 0) = false:=by simp [e3]
    have g6 : (wd n 3 != 0) = false:=by simp [e4]
    clear e1 e2 e3 e4 hi h hn
    generalize wd n 0 = x0 at *
    generalize wd n 1 = x1 at *
    generalize wd n 2 = x2 at *
    generalize wd n 3 = x3 at *
    go_enter Tryd.func83,Tryd.ntmps83
    go_wp2
    refine bodyPost_ret (by simp [results,Tryd.results83,go_sem, *];try rfl) rfl ?_
    exact ⟨rfl,by (repeat' first|(with_reducible first|exact blR _ _|assumption|refine blD ?_|refine blN ?_ _)|((with_reducible first|refine blA ?_ ?_ _|refine blS ?_ ?_ _|refine blT (by assumption) ?_ ?_);focus (go_size;done)))⟩
  · have e1 : over n = 3:=by unfold over;rw [if_neg h]
    have e2 : fitW n = 0:=by unfold fitW;rw [if_neg h]
    rw [e1,e2,wd_zero,wd_zero]
    have hi' : ¬ (wd n 2 = 0 ∧ wd n 3 = 0):=fun x => h (hi.1 x)
    have H:=Lib.hid hi'
    clear e1 e2 hi hi' h hn
    generalize wd n 0 = x0 at *
    generalize wd n 1 = x1 at *
    generalize wd n 2 = x2 at *
    generalize wd n 3 = x3 at *
    go_enter Tryd.func83,Tryd.ntmps83
    go_wp2
    all_goals first
      | (exfalso;have:=H.out;simp_all;done)
      | (refine bodyPost_ret (by simp [results,Tryd.results83,go_sem, *];try rfl) rfl ?_
         exact ⟨rfl,by (repeat' first|(with_reducible first|exact blR _ _|assumption|refine blD ?_|refine blN ?_ _)|((with_reducible first|refine blA ?_ ?_ _|refine blS ?_ ?_ _|refine blT (by assumption) ?_ ?_);focus (go_size;done)))⟩)
set_option maxHeartbeats 2000000 in
theorem tenth_any (n : Nat) (hn : n < 2 ^ 256) (w : World) : Calls Tryd.prog 76 #[.agg #[.int .u64 (wd n 0),.int .u64 (wd n 1),.int .u64 (wd n 2),.int .u64 (wd n 3)]] w fun e w' => e = .returned (.tuple #[.agg #[.int .u64 (wd (n / 10) 0),.int .u64 (wd (n / 10) 1),.int .u64 (wd (n / 10) 2),.int .u64 (wd (n / 10) 3)],.int .u64 ((n % 10 : Nat) : Int)]) ∧ Below w.heap.size w w':=by
  have h:=wd_four hn
  have a0:=wd_nn n 0
  have a1:=wd_lt n 0
  have b0:=wd_nn n 1
  have b1:=wd_lt n 1
  have c0:=wd_nn n 2
  have c1:=wd_lt n 2
  have d0:=wd_nn n 3
  have d1:=wd_lt n 3
  obtain ⟨q3,r3,f3,H3⟩:=div10_ex 0 (wd n 3) (by decide) (by decide) d0 d1
  have G3:=H3
  unfold Ten at G3
  obtain ⟨q2,r2,f2,H2⟩:=div10_ex r3 (wd n 2) (by omega) (by omega) c0 c1
  have G2:=H2
  unfold Ten at G2
  obtain ⟨q1,r1,f1,H1⟩:=div10_ex r2 (wd n 1) (by omega) (by omega) b0 b1
  have G1:=H1
  unfold Ten at G1
  obtain ⟨q0,r0,f0,H0⟩:=div10_ex r1 (wd n 0) (by omega) (by omega) a0 a1
  have G0:=H0
  unfold Ten at G0
  have e:=wd_of4 (n / 10) q0 q1 q2 q3 (by omega) (by omega) (by omega) (by omega) (by omega) (by omega) (by omega) (by omega) (by omega)
  obtain ⟨e0,e1,e2,e3⟩:=e
  have er : ((n % 10 : Nat) : Int) = r0:=by omega
  rw [er,← e0,← e1,← e2,← e3]
  have F0:=Lib.hid f0
  have F1:=Lib.hid f1
  have F2:=Lib.hid f2
  have F3:=Lib.hid f3
  clear f0 f1 f2 f3 e0 e1 e2 e3 er H0 H1 H2 H3 G0 G1 G2 G3 h a0 a1 b0 b1 c0 c1 d0 d1 hn
  generalize wd n 0 = x0 at *
  generalize wd n 1 = x1 at *
  generalize wd n 2 = x2 at *
  generalize wd n 3 = x3 at *
  go_enter Tryd.func76,Tryd.ntmps76
  go_wp2_with fail
  refine wp_loop_rounds 5 ?_
  rw [rounds_succ]
  go_wp2_with ((go_at_call 82;with_reducible refine (F3.out _).mono ?_);rintro _ _ ⟨rfl,n1,rfl⟩)
  rw [rounds_succ]
  go_wp2_with ((go_at_call 82;with_reducible refine (F2.out _).mono ?_);rintro _ _ ⟨rfl,n2,rfl⟩)
  rw [rounds_succ]
  go_wp2_with ((go_at_call 82;with_reducible refine (F1.out _).mono ?_);rintro _ _ ⟨rfl,n3,rfl⟩)
  rw [rounds_succ]
  go_wp2_with ((go_at_call 82;with_reducible refine (F0.out _).mono ?_);rintro _ _ ⟨rfl,n4,rfl⟩)
  rw [rounds_succ]
  go_wp2_with fail
  refine bodyPost_ret (by simp [results,Tryd.results76,go_sem, *];try rfl) rfl ?_
  exact ⟨rfl,by (repeat' first|(with_reducible first|exact blR _ _|assumption|refine blD ?_|refine blN ?_ _)|((with_reducible first|refine blA ?_ ?_ _|refine blS ?_ ?_ _|refine blT (by assumption) ?_ ?_);focus (go_size;done)))⟩
end Go.Proofs.YtnhmplfonkjfoaaDoor



namespace Go.Proofs.YtnhmplfonkjfoaaDoor
open Go.RowKit

def B34 : Nat:=10 ^ 34
theorem B34_lt : B34 < 2 ^ 128:=by unfold B34;decide
/-- is it in form? -/
def dform (neg : Bool) (c : Nat) (s : Int) : Bool:=decide (c < B34) && (decide (0 ≤ s) && (decide (s ≤ 18) && (if c = 0 then !neg && decide (s = 0) else decide (s = 0) || decide (c % 10 ≠ 0))))
end Go.Proofs.YtnhmplfonkjfoaaDoor



namespace Go.Proofs.YtnhmplfonkjfoaaDoor
open Go.RowKit

/-- one step of the product: a product of words, a word that is there, a carry -/
theorem mul_step (x y o c : Int) (hx0 : 0 ≤ x) (hx : x < 18446744073709551616) (hy0 : 0 ≤ y) (hy : y < 18446744073709551616) (ho0 : 0 ≤ o) (ho : o < 18446744073709551616) (hc0 : 0 ≤ c) (hc : c < 18446744073709551616) :
  ∃ h l s k t j : Int,Hid (∀ w : World,Calls Tryd.prog 86 #[.int .u64 x,.int .u64 y] w fun e w' => e = .returned (.tuple #[.int .u64 h,.int .u64 l]) ∧ ∃ nn,w' = w.drewN nn) ∧
   (∀ W : World,(callFunc 87 #[.int .u64 l,.int .u64 o,.int .u64 0]).run Tryd.prog W = .ok (.value (.tuple #[.int .u64 s,.int .u64 k])) W) ∧
   (∀ W : World,(callFunc 87 #[.int .u64 s,.int .u64 c,.int .u64 0]).run Tryd.prog W = .ok (.value (.tuple #[.int .u64 t,.int .u64 j])) W) ∧
   Hid (t + 18446744073709551616 * (h + k + j) = x * y + o + c) ∧ 0 ≤ h ∧ h + k < 18446744073709551616 ∧ 0 ≤ k ∧ 0 ≤ j ∧ 0 ≤ t ∧ t < 18446744073709551616 ∧ h + k + j < 18446744073709551616:=by
 obtain ⟨h,l,f,H⟩:=mul64_ex x y hx0 hx hy0 hy
 unfold Two at H
 obtain ⟨s,k,g,K⟩:=add64_ex l o 0 (by omega) (by omega) ho0 ho (by decide) (by decide)
 unfold Carry at K
 obtain ⟨t,j,e,J⟩:=add64_ex s c 0 (by omega) (by omega) hc0 hc (by decide) (by decide)
 unfold Carry at J
 have hm : x * y ≤ 18446744073709551615 * 18446744073709551615:=Int.mul_le_mul (by omega) (by omega) hy0 (by decide)
 have hn : 0 ≤ x * y:=Int.mul_nonneg hx0 hy0
 generalize x * y = p at *
 exact ⟨h,l,s,k,t,j,f,g,e,by show t + 18446744073709551616 * (h + k + j) = p + o + c;omega,by omega,by omega,by omega,by omega,by omega,by omega,by omega⟩

theorem two_at (n t : Nat) (h : t < 2) : [Value.int .u64 (wd n 0),.int .u64 (wd n 1)][t]? = some (.int .u64 (wd n t)):=by
 have hc : t = 0 ∨ t = 1:=by omega
 rcases hc with rfl | rfl <;> rfl
theorem mul_low {n m t : Nat} (hm : m < 2 ^ 128) : n % 2 ^ (64 * t) * m < 2 ^ (64 * (t + 2)):=by
 rw [show 64 * (t + 2) = 64 * t + 128 by omega,Nat.pow_add]
 have h1 : n % 2 ^ (64 * t) < 2 ^ (64 * t):=Nat.mod_lt _ (Nat.two_pow_pos _)
 exact Nat.mul_lt_mul'' h1 hm
theorem mul_inv {V V' O t s : Nat} {cc X Y Z h k1 k3 s3 M M' : Int}
  (i1 : (V : Int) + cc * ((2 ^ (64 * (t + s)) : Nat) : Int) = O + X * M * ((2 ^ (64 * t) : Nat) : Int))
  (i2 : (V' : Int) = V + (s3 - Z) * ((2 ^ (64 * (t + s)) : Nat) : Int))
  (i3 : s3 + 18446744073709551616 * (h + k1 + k3) = X * Y + Z + cc)
  (i4 : M' = M + Y * ((2 ^ (64 * s) : Nat) : Int)) :
  (V' : Int) + (h + k1 + k3) * ((2 ^ (64 * (t + (s + 1))) : Nat) : Int) = O + X * M' * ((2 ^ (64 * t) : Nat) : Int):=by
 have e1 : ((2 ^ (64 * (t + (s + 1))) : Nat) : Int) = ((2 ^ (64 * (t + s)) : Nat) : Int) * 18446744073709551616:=by
  rw [show 64 * (t + (s + 1)) = 64 * (t + s) + 64 by omega,Nat.pow_add,Int.natCast_mul];rfl
 have e2 : ((2 ^ (64 * (t + s)) : Nat) : Int) = ((2 ^ (64 * t) : Nat) : Int) * ((2 ^ (64 * s) : Nat) : Int):=by
  rw [show 64 * (t + s) = 64 * t + 64 * s by omega,Nat.pow_add,Int.natCast_mul]
 rw [e1,i2,i4]
 rw [e2] at i1 ⊢
 generalize ((2 ^ (64 * t) : Nat) : Int) = P at *
 generalize ((2 ^ (64 * s) : Nat) : Int) = Q at *
 grind
theorem mul_end {n m t V V' O : Nat} {cc : Int} (hm : m < 2 ^ 128) (eO : O = n % 2 ^ (64 * t) * m)
  (i1 : (V : Int) + cc * ((2 ^ (64 * (t + 2)) : Nat) : Int) = O + wd n t * ((m % 2 ^ (64 * 2) : Nat) : Int) * ((2 ^ (64 * t) : Nat) : Int))
  (i2 : (V' : Int) = V + (cc - wd V (t + 2)) * ((2 ^ (64 * (t + 2)) : Nat) : Int)) (i3 : wd V (t + 2) = 0) : n % 2 ^ (64 * (t + 1)) * m = V':=by
 rw [i3,Int.sub_zero,i1,Nat.mod_eq_of_lt hm,eO] at i2
 have e:=wd_mod_succ n t
 have : ((n % 2 ^ (64 * (t + 1)) * m : Nat) : Int) = (V' : Int):=by
  rw [i2,Int.natCast_mul,e,Int.natCast_mul]
  generalize ((2 ^ (64 * t) : Nat) : Int) = P
  generalize ((n % 2 ^ (64 * t) : Nat) : Int) = Q
  grind
 exact_mod_cast this
set_option maxHeartbeats 4000000 in
theorem mul_any (n m : Nat) (hn : n < 2 ^ 128) (hm : m < 2 ^ 128) (w : World) : Calls Tryd.prog 84 #[.agg #[.int .u64 (wd n 1),.int .u64 (wd n 0)],.agg #[.int .u64 (wd m 1),.int .u64 (wd m 0)]] w fun e w' => e = .returned (.agg #[.int .u64 (wd (n * m) 0),.int .u64 (wd (n * m) 1),.int .u64 (wd (n * m) 2),.int .u64 (wd (n * m) 3)]) ∧ Below w.heap.size w w':=by
 have HN:=Far.mk hn
 have HM:=Far.mk hm
 have a0:=wd_nn n 0
 have a1:=wd_lt n 0
 have b0:=wd_nn n 1
 have b1:=wd_lt n 1
 have c0:=wd_nn m 0
 have c1:=wd_lt m 0
 have d0:=wd_nn m 1
 have d1:=wd_lt m 1
 clear hn hm
 go_enter Tryd.func84,Tryd.ntmps84
 go_wp2_with fail
 go_region_held3 (fun w' => w'.cell? ⟨w.heap.size,0,none⟩ = some (.int .u64 (wd n 1)) ∧ w'.cell? ⟨w.heap.size,1,none⟩ = some (.int .u64 (wd n 0)) ∧ w'.cell? ⟨w.heap.size + 1,0,none⟩ = some (.int .u64 (wd m 1)) ∧ w'.cell? ⟨w.heap.size + 1,1,none⟩ = some (.int .u64 (wd m 0))) (first | (go_keep;done) | (simp [go_sem];done) | ((try dsimp only);(repeat' apply And.intro) <;> (first | (with_reducible assumption) | ((rw [World.cell?_alloc_lt _ _ _ (by show _ < _;omega)]);go_split_ands;(first | with_reducible assumption | (refine (World.cell?_alloc_lt _ _ _ (by show _ < _;omega)).symm.trans ?_;with_reducible assumption))) | ((rw [World.cell?_setCell_other _ _ _ _ (by intro e;injection e;omega)]);with_reducible assumption) | (go_keep;done) | (simp [go_sem];done) | (simp (disch:=go_size) [*,World.cell?_alloc_some,World.cell?_setCell_far];done)))) (fail)
 ·go_wp2_with fail
  clear a0 a1 b0 b1 c0 c1 d0 d1
  go_loopg [24] 2 (fun k i wr => ∃ t : Nat,k + t = 2 ∧ i = .int .i64 t ∧ Bk wr (w.heap.size + 1 + 1 + 1) 118 (lcells (n % 2 ^ (64 * t) * m)) ∧ Bk wr (w.heap.size + 1 + 1 + 1 + 1) 140 [.int .u64 (wd n 0),.int .u64 (wd n 1)] ∧ Bk wr (w.heap.size + 1 + 1 + 1 + 1 + 1) 140 [.int .u64 (wd m 0),.int .u64 (wd m 1)] ∧
   Bk wr (w.heap.size + 1 + 1) 118 [.int .u64 0,.int .u64 0,.int .u64 0,.int .u64 0] ∧ w.heap.size + 6 ≤ wr.heap.size ∧ Below w.heap.size w wr)
  case atStart =>
   refine ⟨0,rfl,rfl, ?_,by (repeat (first|(with_reducible assumption)|((with_reducible refine bkW ?_);(first|rfl|(simp only [wsA,wsS,wsD,wsN];done)))|(with_reducible first|refine bkA ?_ _|refine bkD ?_|refine bkN ?_ _)|((with_reducible refine bkF ?_ ?_ _);focus (simp only [];omega))|((with_reducible refine bkB (by assumption) ?_ ?_);focus (go_size;done)))),by (repeat (first|(with_reducible assumption)|((with_reducible refine bkW ?_);(first|rfl|(simp only [wsA,wsS,wsD,wsN];done)))|(with_reducible first|refine bkA ?_ _|refine bkD ?_|refine bkN ?_ _)|((with_reducible refine bkF ?_ ?_ _);focus (simp only [];omega))|((with_reducible refine bkB (by assumption) ?_ ?_);focus (go_size;done)))),by (repeat (first|(with_reducible assumption)|((with_reducible refine bkW ?_);(first|rfl|(simp only [wsA,wsS,wsD,wsN];done)))|(with_reducible first|refine bkA ?_ _|refine bkD ?_|refine bkN ?_ _)|((with_reducible refine bkF ?_ ?_ _);focus (simp only [];omega))|((with_reducible refine bkB (by assumption) ?_ ?_);focus (go_size;done)))),by go_size,by (repeat' first|(with_reducible first|exact blR _ _|assumption|refine blD ?_|refine blN ?_ _)|((with_reducible first|refine blA ?_ ?_ _|refine blS ?_ ?_ _|refine blT (by assumption) ?_ ?_);focus (go_size;done)))⟩
   rw [Nat.mul_zero,Nat.pow_zero,Nat.mod_one,Nat.zero_mul]
   show Bk _ _ _ [.int .u64 0,.int .u64 0,.int .u64 0,.int .u64 0]
   (repeat (first|(with_reducible assumption)|((with_reducible refine bkW ?_);(first|rfl|(simp only [wsA,wsS,wsD,wsN];done)))|(with_reducible first|refine bkA ?_ _|refine bkD ?_|refine bkN ?_ _)|((with_reducible refine bkF ?_ ?_ _);focus (simp only [];omega))|((with_reducible refine bkB (by assumption) ?_ ?_);focus (go_size;done))))
  case round =>
   obtain ⟨t,hk,rfl,bo,bx,by_,b4,hsz,hbel⟩:=hrel
   have HK:=Lib.hid hk
   have BO:=Lib.hid bo
   have BX:=Lib.hid bx
   have BY:=Lib.hid by_
   have B4:=Lib.hid b4
   have t2 : t ≤ 2:=by omega
   clear hk bo bx by_ b4
   (try have : w.heap.size < wr.heap.size:=by omega);(try have : w.heap.size + 1 < wr.heap.size:=by omega);(try have : w.heap.size + 1 + 1 < wr.heap.size:=by omega);(try have : w.heap.size + 1 + 1 + 1 < wr.heap.size:=by omega)
   by_cases hlt : t < 2
   ·go_wp2_with fail
    obtain ⟨wo,hwo⟩ : ∃ wo : World,wo = wr:=⟨_,rfl⟩
    clear hwo
    obtain ⟨go,hgo⟩ : ∃ go : Nat,go = gk:=⟨_,rfl⟩
    rw [← hgo] at HK
    have HGO:=Lib.hid hgo
    clear hgo
    have hO : n % 2 ^ (64 * t) * m < 2 ^ (64 * (t + 2)):=mul_low HM.out
    have hO2 : n % 2 ^ (64 * t) * m < 2 ^ 256:=Nat.lt_of_lt_of_le hO (Nat.pow_le_pow_right (by decide) (by omega))
    obtain ⟨O,eO⟩ : ∃ O,O = n % 2 ^ (64 * t) * m:=⟨_,rfl⟩
    rw [← eO] at hO hO2 BO
    have EO:=Far.mk eO
    have H1:=Far.mk hO
    have H2:=Far.mk hO2
    clear eO hO hO2
    go_loopg [9,27] 2 (fun k c j wr => ∃ (s : Nat) (cc : Int) (V : Nat),k + s = 2 ∧ j = .int .i64 s ∧ c = .int .u64 cc ∧ 0 ≤ cc ∧ cc < 18446744073709551616 ∧ V < 2 ^ 256 ∧
     (V : Int) + cc * ((2 ^ (64 * (t + s)) : Nat) : Int) = O + wd n t * ((m % 2 ^ (64 * s) : Nat) : Int) * ((2 ^ (64 * t) : Nat) : Int) ∧ (∀ j,t + 2 ≤ j → j < 4 → wd V j = 0) ∧
     Bk wr (w.heap.size + 1 + 1 + 1) 118 (lcells V) ∧ Bk wr (w.heap.size + 1 + 1 + 1 + 1) 140 [.int .u64 (wd n 0),.int .u64 (wd n 1)] ∧ Bk wr (w.heap.size + 1 + 1 + 1 + 1 + 1) 140 [.int .u64 (wd m 0),.int .u64 (wd m 1)] ∧
     Bk wr (w.heap.size + 1 + 1) 118 [.int .u64 0,.int .u64 0,.int .u64 0,.int .u64 0] ∧ w.heap.size + 6 ≤ wr.heap.size ∧ Below w.heap.size w wr)
    case atStart =>
     refine ⟨0,0,O,rfl,rfl,rfl,by omega,by omega,H2.out, ?_, ?_,BO.out,BX.out,BY.out,B4.out,hsz,hbel⟩
     ·rw [Nat.mul_zero,Nat.pow_zero,Nat.mod_one,Int.zero_mul,Int.natCast_zero,Int.mul_zero,Int.zero_mul]
     ·intro j hj _
      exact wd_past H1.out hj
    case round =>
     obtain ⟨s,cc,V,hk,rfl,rfl,hc0,hc1,hV,heq,hz,bo,bx,by_,b4,hsz,hbel⟩:=hrel
     have HK2:=Lib.hid hk
     have HV:=Far.mk hV
     have HE:=Far.mk heq
     have HZ:=Lib.hid hz
     have BO:=Lib.hid bo
     have BX:=Lib.hid bx
     have BY:=Lib.hid by_
     have B4:=Lib.hid b4
     have s2 : s ≤ 2:=by omega
     clear hk hV heq hz bo bx by_ b4
     (try have : w.heap.size < wr.heap.size:=by omega);(try have : w.heap.size + 1 < wr.heap.size:=by omega);(try have : w.heap.size + 1 + 1 < wr.heap.size:=by omega);(try have : w.heap.size + 1 + 1 + 1 < wr.heap.size:=by omega)
     by_cases hls : s < 2
     ·have cx : wr.cell? ⟨(w.heap.size + 1 + 1 + 1 + 1),t,none⟩ = some (.int .u64 (wd n t)):=BX.out.cell t (two_at n t hlt)
      have cy : wr.cell? ⟨(w.heap.size + 1 + 1 + 1 + 1 + 1),s,none⟩ = some (.int .u64 (wd m s)):=BY.out.cell s (two_at m s hls)
      have co : wr.cell? ⟨w.heap.size + 1 + 1 + 1,t + s,none⟩ = some (.int .u64 (wd V (t + s))):=BO.out.cell _ (lcells_at V _ (by omega))
      have fo:=BO.out.frozen (t + s)
      obtain ⟨h,l,s1,k1,s3,k3,f,g,e,HS,p1,p2,p3,p4,p5,p6,p7⟩:=mul_step (wd n t) (wd m s) (wd V (t + s)) cc (wd_nn n t) (wd_lt n t) (wd_nn m s) (wd_lt m s) (wd_nn V _) (wd_lt V _) hc0 hc1
      obtain ⟨V',v1,v2,v3,v4,v5⟩:=lcells_set V (t + s) (by omega) HV.out s3 p5 p6
      have L1:=Far.mk v1
      have L2:=Far.mk v2
      have L3:=Lib.hid v3
      have L4:=Lib.hid v4
      clear v1 v2 v3 v4 v5
      obtain ⟨X,hX⟩ : ∃ X,X = wd n t:=⟨_,rfl⟩
      obtain ⟨Y,hY⟩ : ∃ Y,Y = wd m s:=⟨_,rfl⟩
      obtain ⟨Z,hZ⟩ : ∃ Z,Z = wd V (t + s):=⟨_,rfl⟩
      rw [← hX] at cx f HS HE
      rw [← hY] at cy f HS
      rw [← hZ] at co g HS L2
      have EX:=Lib.hid hX
      have EY:=Lib.hid hY
      clear hX hY hZ
      go_wp2_with fail
      go_quiet ((go_at_call 86;(first | exact Calls.quiet_of (f.out _) | exact quiet_add (f.out _))))
      go_wp2_with fail
      go_roundg (gk - 1)
      case measure => have:=HK2.out;omega
      case rel =>
       have bx:=BX.out
       have by_:=BY.out
       have b4:=B4.out
       refine ⟨s + 1,h + k1 + k3,V',by have:=HK2.out;omega,by go_num,rfl,by omega,p7,L1.out, ?_, ?_, ?_,by (repeat (first|(with_reducible assumption)|((with_reducible refine bkW ?_);(first|rfl|(simp only [wsA,wsS,wsD,wsN];done)))|(with_reducible first|refine bkA ?_ _|refine bkD ?_|refine bkN ?_ _)|((with_reducible refine bkF ?_ ?_ _);focus (simp only [];omega))|((with_reducible refine bkB (by assumption) ?_ ?_);focus (go_size;done)))),by (repeat (first|(with_reducible assumption)|((with_reducible refine bkW ?_);(first|rfl|(simp only [wsA,wsS,wsD,wsN];done)))|(with_reducible first|refine bkA ?_ _|refine bkD ?_|refine bkN ?_ _)|((with_reducible refine bkF ?_ ?_ _);focus (simp only [];omega))|((with_reducible refine bkB (by assumption) ?_ ?_);focus (go_size;done)))),by (repeat (first|(with_reducible assumption)|((with_reducible refine bkW ?_);(first|rfl|(simp only [wsA,wsS,wsD,wsN];done)))|(with_reducible first|refine bkA ?_ _|refine bkD ?_|refine bkN ?_ _)|((with_reducible refine bkF ?_ ?_ _);focus (simp only [];omega))|((with_reducible refine bkB (by assumption) ?_ ?_);focus (go_size;done)))),by go_size,by (repeat' first|(with_reducible first|exact blR _ _|assumption|refine blD ?_|refine blN ?_ _)|((with_reducible first|refine blA ?_ ?_ _|refine blS ?_ ?_ _|refine blT (by assumption) ?_ ?_);focus (go_size;done)))⟩
       ·have i1:=HE.out
        have i2:=L2.out
        have i3:=HS.out
        have i4:=wd_mod_succ m s
        rw [← EY.out] at i4
        rw [← EX.out]
        exact mul_inv i1 i2 i3 i4
       ·intro j hj h4
        rw [L4.out j h4 (by omega)]
        exact HZ.out j hj h4
       ·rw [← L3.out]
        exact (BO.out.drewN _).set_ _ _
     ·obtain rfl : s = 2:=by omega
      have co : wr.cell? ⟨w.heap.size + 1 + 1 + 1,t + 2,none⟩ = some (.int .u64 (wd V (t + 2))):=BO.out.cell _ (lcells_at V _ (by omega))
      have fo:=BO.out.frozen (t + 2)
      obtain ⟨V',v1,v2,v3,v4,v5⟩:=lcells_set V (t + 2) (by omega) HV.out cc hc0 hc1
      have L2:=Far.mk v2
      have L3:=Lib.hid v3
      clear v1 v2 v3 v4 v5
      go_wp2_with fail
      go_roundg (go - 1)
      case measure => have:=HK.out;have:=HGO.out;omega
      case rel =>
       have bx:=BX.out
       have by_:=BY.out
       have b4:=B4.out
       refine ⟨t + 1,by have:=HK.out;omega,by go_num, ?_,by (repeat (first|(with_reducible assumption)|((with_reducible refine bkW ?_);(first|rfl|(simp only [wsA,wsS,wsD,wsN];done)))|(with_reducible first|refine bkA ?_ _|refine bkD ?_|refine bkN ?_ _)|((with_reducible refine bkF ?_ ?_ _);focus (simp only [];omega))|((with_reducible refine bkB (by assumption) ?_ ?_);focus (go_size;done)))),by (repeat (first|(with_reducible assumption)|((with_reducible refine bkW ?_);(first|rfl|(simp only [wsA,wsS,wsD,wsN];done)))|(with_reducible first|refine bkA ?_ _|refine bkD ?_|refine bkN ?_ _)|((with_reducible refine bkF ?_ ?_ _);focus (simp only [];omega))|((with_reducible refine bkB (by assumption) ?_ ?_);focus (go_size;done)))),by (repeat (first|(with_reducible assumption)|((with_reducible refine bkW ?_);(first|rfl|(simp only [wsA,wsS,wsD,wsN];done)))|(with_reducible first|refine bkA ?_ _|refine bkD ?_|refine bkN ?_ _)|((with_reducible refine bkF ?_ ?_ _);focus (simp only [];omega))|((with_reducible refine bkB (by assumption) ?_ ?_);focus (go_size;done)))),by go_size,by (repeat' first|(with_reducible first|exact blR _ _|assumption|refine blD ?_|refine blN ?_ _)|((with_reducible first|refine blA ?_ ?_ _|refine blS ?_ ?_ _|refine blT (by assumption) ?_ ?_);focus (go_size;done)))⟩
       have i1:=HE.out
       have i2:=L2.out
       have i3:=HZ.out (t + 2) (Nat.le_refl _) (by omega)
       have e : n % 2 ^ (64 * (t + 1)) * m = V':=mul_end HM.out EO.out i1 i2 i3
       rw [e,← L3.out]
       exact BO.out.set_ _ _
   ·obtain rfl : t = 2:=by omega
    have e : n % 2 ^ (64 * 2) * m = n * m:=by rw [Nat.mod_eq_of_lt HN.out]
    rw [e] at BO
    obtain ⟨z,hz⟩ : ∃ z,z = n * m:=⟨_,rfl⟩
    rw [← hz] at BO
    have EZ:=Lib.hid hz
    clear hz
    have bo:=BO.out
    rw [lcells_eq] at bo
    have c0:=bo.cell 0 rfl
    have c1:=bo.cell 1 rfl
    have c2:=bo.cell 2 rfl
    have c3:=bo.cell 3 rfl
    have d0:=B4.out.cell 0 rfl
    have d1:=B4.out.cell 1 rfl
    have d2:=B4.out.cell 2 rfl
    have d3:=B4.out.cell 3 rfl
    have f0:=B4.out.frozen 0
    have f1:=B4.out.frozen 1
    have f2:=B4.out.frozen 2
    have f3:=B4.out.frozen 3
    clear bo e
    go_wp2_with fail
    refine bodyPost_ret (by simp [results,Tryd.results84,go_sem, *];try rfl) rfl ?_
    exact ⟨by rw [EZ.out],by (repeat' first|(with_reducible first|exact blR _ _|assumption|refine blD ?_|refine blN ?_ _)|((with_reducible first|refine blA ?_ ?_ _|refine blS ?_ ?_ _|refine blT (by assumption) ?_ ?_);focus (go_size;done)))⟩
 ·go_wp2_with fail
  clear a0 a1 b0 b1 c0 c1 d0 d1
  go_loopg [24] 2 (fun k i wr => ∃ t : Nat,k + t = 2 ∧ i = .int .i64 t ∧ Bk wr (w.heap.size + 1 + 1 + 1) 118 (lcells (n % 2 ^ (64 * t) * m)) ∧ Bk wr (w.heap.size + 1 + 1 + 1 + 1 + 1) 140 [.int .u64 (wd n 0),.int .u64 (wd n 1)] ∧ Bk wr (w.heap.size + 1 + 1 + 1 + 1) 140 [.int .u64 (wd m 0),.int .u64 (wd m 1)] ∧
   Bk wr (w.heap.size + 1 + 1) 118 [.int .u64 0,.int .u64 0,.int .u64 0,.int .u64 0] ∧ w.heap.size + 6 ≤ wr.heap.size ∧ Below w.heap.size w wr)
  case atStart =>
   refine ⟨0,rfl,rfl, ?_,by (repeat (first|(with_reducible assumption)|((with_reducible refine bkW ?_);(first|rfl|(simp only [wsA,wsS,wsD,wsN];done)))|(with_reducible first|refine bkA ?_ _|refine bkD ?_|refine bkN ?_ _)|((with_reducible refine bkF ?_ ?_ _);focus (simp only [];omega))|((with_reducible refine bkB (by assumption) ?_ ?_);focus (go_size;done)))),by (repeat (first|(with_reducible assumption)|((with_reducible refine bkW ?_);(first|rfl|(simp only [wsA,wsS,wsD,wsN];done)))|(with_reducible first|refine bkA ?_ _|refine bkD ?_|refine bkN ?_ _)|((with_reducible refine bkF ?_ ?_ _);focus (simp only [];omega))|((with_reducible refine bkB (by assumption) ?_ ?_);focus (go_size;done)))),by (repeat (first|(with_reducible assumption)|((with_reducible refine bkW ?_);(first|rfl|(simp only [wsA,wsS,wsD,wsN];done)))|(with_reducible first|refine bkA ?_ _|refine bkD ?_|refine bkN ?_ _)|((with_reducible refine bkF ?_ ?_ _);focus (simp only [];omega))|((with_reducible refine bkB (by assumption) ?_ ?_);focus (go_size;done)))),by go_size,by (repeat' first|(with_reducible first|exact blR _ _|assumption|refine blD ?_|refine blN ?_ _)|((with_reducible first|refine blA ?_ ?_ _|refine blS ?_ ?_ _|refine blT (by assumption) ?_ ?_);focus (go_size;done)))⟩
   rw [Nat.mul_zero,Nat.pow_zero,Nat.mod_one,Nat.zero_mul]
   show Bk _ _ _ [.int .u64 0,.int .u64 0,.int .u64 0,.int .u64 0]
   (repeat (first|(with_reducible assumption)|((with_reducible refine bkW ?_);(first|rfl|(simp only [wsA,wsS,wsD,wsN];done)))|(with_reducible first|refine bkA ?_ _|refine bkD ?_|refine bkN ?_ _)|((with_reducible refine bkF ?_ ?_ _);focus (simp only [];omega))|((with_reducible refine bkB (by assumption) ?_ ?_);focus (go_size;done))))
  case round =>
   obtain ⟨t,hk,rfl,bo,bx,by_,b4,hsz,hbel⟩:=hrel
   have HK:=Lib.hid hk
   have BO:=Lib.hid bo
   have BX:=Lib.hid bx
   have BY:=Lib.hid by_
   have B4:=Lib.hid b4
   have t2 : t ≤ 2:=by omega
   clear hk bo bx by_ b4
   (try have : w.heap.size < wr.heap.size:=by omega);(try have : w.heap.size + 1 < wr.heap.size:=by omega);(try have : w.heap.size + 1 + 1 < wr.heap.size:=by omega);(try have : w.heap.size + 1 + 1 + 1 < wr.heap.size:=by omega)
   by_cases hlt : t < 2
   ·go_wp2_with fail
    obtain ⟨wo,hwo⟩ : ∃ wo : World,wo = wr:=⟨_,rfl⟩
    clear hwo
    obtain ⟨go,hgo⟩ : ∃ go : Nat,go = gk:=⟨_,rfl⟩
    rw [← hgo] at HK
    have HGO:=Lib.hid hgo
    clear hgo
    have hO : n % 2 ^ (64 * t) * m < 2 ^ (64 * (t + 2)):=mul_low HM.out
    have hO2 : n % 2 ^ (64 * t) * m < 2 ^ 256:=Nat.lt_of_lt_of_le hO (Nat.pow_le_pow_right (by decide) (by omega))
    obtain ⟨O,eO⟩ : ∃ O,O = n % 2 ^ (64 * t) * m:=⟨_,rfl⟩
    rw [← eO] at hO hO2 BO
    have EO:=Far.mk eO
    have H1:=Far.mk hO
    have H2:=Far.mk hO2
    clear eO hO hO2
    go_loopg [9,27] 2 (fun k c j wr => ∃ (s : Nat) (cc : Int) (V : Nat),k + s = 2 ∧ j = .int .i64 s ∧ c = .int .u64 cc ∧ 0 ≤ cc ∧ cc < 18446744073709551616 ∧ V < 2 ^ 256 ∧
     (V : Int) + cc * ((2 ^ (64 * (t + s)) : Nat) : Int) = O + wd n t * ((m % 2 ^ (64 * s) : Nat) : Int) * ((2 ^ (64 * t) : Nat) : Int) ∧ (∀ j,t + 2 ≤ j → j < 4 → wd V j = 0) ∧
     Bk wr (w.heap.size + 1 + 1 + 1) 118 (lcells V) ∧ Bk wr (w.heap.size + 1 + 1 + 1 + 1 + 1) 140 [.int .u64 (wd n 0),.int .u64 (wd n 1)] ∧ Bk wr (w.heap.size + 1 + 1 + 1 + 1) 140 [.int .u64 (wd m 0),.int .u64 (wd m 1)] ∧
     Bk wr (w.heap.size + 1 + 1) 118 [.int .u64 0,.int .u64 0,.int .u64 0,.int .u64 0] ∧ w.heap.size + 6 ≤ wr.heap.size ∧ Below w.heap.size w wr)
    case atStart =>
     refine ⟨0,0,O,rfl,rfl,rfl,by omega,by omega,H2.out, ?_, ?_,BO.out,BX.out,BY.out,B4.out,hsz,hbel⟩
     ·rw [Nat.mul_zero,Nat.pow_zero,Nat.mod_one,Int.zero_mul,Int.natCast_zero,Int.mul_zero,Int.zero_mul]
     ·intro j hj _
      exact wd_past H1.out hj
    case round =>
     obtain ⟨s,cc,V,hk,rfl,rfl,hc0,hc1,hV,heq,hz,bo,bx,by_,b4,hsz,hbel⟩:=hrel
     have HK2:=Lib.hid hk
     have HV:=Far.mk hV
     have HE:=Far.mk heq
     have HZ:=Lib.hid hz
     have BO:=Lib.hid bo
     have BX:=Lib.hid bx
     have BY:=Lib.hid by_
     have B4:=Lib.hid b4
     have s2 : s ≤ 2:=by omega
     clear hk hV heq hz bo bx by_ b4
     (try have : w.heap.size < wr.heap.size:=by omega);(try have : w.heap.size + 1 < wr.heap.size:=by omega);(try have : w.heap.size + 1 + 1 < wr.heap.size:=by omega);(try have : w.heap.size + 1 + 1 + 1 < wr.heap.size:=by omega)
     by_cases hls : s < 2
     ·have cx : wr.cell? ⟨(w.heap.size + 1 + 1 + 1 + 1 + 1),t,none⟩ = some (.int .u64 (wd n t)):=BX.out.cell t (two_at n t hlt)
      have cy : wr.cell? ⟨(w.heap.size + 1 + 1 + 1 + 1),s,none⟩ = some (.int .u64 (wd m s)):=BY.out.cell s (two_at m s hls)
      have co : wr.cell? ⟨w.heap.size + 1 + 1 + 1,t + s,none⟩ = some (.int .u64 (wd V (t + s))):=BO.out.cell _ (lcells_at V _ (by omega))
      have fo:=BO.out.frozen (t + s)
      obtain ⟨h,l,s1,k1,s3,k3,f,g,e,HS,p1,p2,p3,p4,p5,p6,p7⟩:=mul_step (wd n t) (wd m s) (wd V (t + s)) cc (wd_nn n t) (wd_lt n t) (wd_nn m s) (wd_lt m s) (wd_nn V _) (wd_lt V _) hc0 hc1
      obtain ⟨V',v1,v2,v3,v4,v5⟩:=lcells_set V (t + s) (by omega) HV.out s3 p5 p6
      have L1:=Far.mk v1
      have L2:=Far.mk v2
      have L3:=Lib.hid v3
      have L4:=Lib.hid v4
      clear v1 v2 v3 v4 v5
      obtain ⟨X,hX⟩ : ∃ X,X = wd n t:=⟨_,rfl⟩
      obtain ⟨Y,hY⟩ : ∃ Y,Y = wd m s:=⟨_,rfl⟩
      obtain ⟨Z,hZ⟩ : ∃ Z,Z = wd V (t + s):=⟨_,rfl⟩
      rw [← hX] at cx f HS HE
      rw [← hY] at cy f HS
      rw [← hZ] at co g HS L2
      have EX:=Lib.hid hX
      have EY:=Lib.hid hY
      clear hX hY hZ
      go_wp2_with fail
      go_quiet ((go_at_call 86;(first | exact Calls.quiet_of (f.out _) | exact quiet_add (f.out _))))
      go_wp2_with fail
      go_roundg (gk - 1)
      case measure => have:=HK2.out;omega
      case rel =>
       have bx:=BX.out
       have by_:=BY.out
       have b4:=B4.out
       refine ⟨s + 1,h + k1 + k3,V',by have:=HK2.out;omega,by go_num,rfl,by omega,p7,L1.out, ?_, ?_, ?_,by (repeat (first|(with_reducible assumption)|((with_reducible refine bkW ?_);(first|rfl|(simp only [wsA,wsS,wsD,wsN];done)))|(with_reducible first|refine bkA ?_ _|refine bkD ?_|refine bkN ?_ _)|((with_reducible refine bkF ?_ ?_ _);focus (simp only [];omega))|((with_reducible refine bkB (by assumption) ?_ ?_);focus (go_size;done)))),by (repeat (first|(with_reducible assumption)|((with_reducible refine bkW ?_);(first|rfl|(simp only [wsA,wsS,wsD,wsN];done)))|(with_reducible first|refine bkA ?_ _|refine bkD ?_|refine bkN ?_ _)|((with_reducible refine bkF ?_ ?_ _);focus (simp only [];omega))|((with_reducible refine bkB (by assumption) ?_ ?_);focus (go_size;done)))),by (repeat (first|(with_reducible assumption)|((with_reducible refine bkW ?_);(first|rfl|(simp only [wsA,wsS,wsD,wsN];done)))|(with_reducible first|refine bkA ?_ _|refine bkD ?_|refine bkN ?_ _)|((with_reducible refine bkF ?_ ?_ _);focus (simp only [];omega))|((with_reducible refine bkB (by assumption) ?_ ?_);focus (go_size;done)))),by go_size,by (repeat' first|(with_reducible first|exact blR _ _|assumption|refine blD ?_|refine blN ?_ _)|((with_reducible first|refine blA ?_ ?_ _|refine blS ?_ ?_ _|refine blT (by assumption) ?_ ?_);focus (go_size;done)))⟩
       ·have i1:=HE.out
        have i2:=L2.out
        have i3:=HS.out
        have i4:=wd_mod_succ m s
        rw [← EY.out] at i4
        rw [← EX.out]
        exact mul_inv i1 i2 i3 i4
       ·intro j hj h4
        rw [L4.out j h4 (by omega)]
        exact HZ.out j hj h4
       ·rw [← L3.out]
        exact (BO.out.drewN _).set_ _ _
     ·obtain rfl : s = 2:=by omega
      have co : wr.cell? ⟨w.heap.size + 1 + 1 + 1,t + 2,none⟩ = some (.int .u64 (wd V (t + 2))):=BO.out.cell _ (lcells_at V _ (by omega))
      have fo:=BO.out.frozen (t + 2)
      obtain ⟨V',v1,v2,v3,v4,v5⟩:=lcells_set V (t + 2) (by omega) HV.out cc hc0 hc1
      have L2:=Far.mk v2
      have L3:=Lib.hid v3
      clear v1 v2 v3 v4 v5
      go_wp2_with fail
      go_roundg (go - 1)
      case measure => have:=HK.out;have:=HGO.out;omega
      case rel =>
       have bx:=BX.out
       have by_:=BY.out
       have b4:=B4.out
       refine ⟨t + 1,by have:=HK.out;omega,by go_num, ?_,by (repeat (first|(with_reducible assumption)|((with_reducible refine bkW ?_);(first|rfl|(simp only [wsA,wsS,wsD,wsN];done)))|(with_reducible first|refine bkA ?_ _|refine bkD ?_|refine bkN ?_ _)|((with_reducible refine bkF ?_ ?_ _);focus (simp only [];omega))|((with_reducible refine bkB (by assumption) ?_ ?_);focus (go_size;done)))),by (repeat (first|(with_reducible assumption)|((with_reducible refine bkW ?_);(first|rfl|(simp only [wsA,wsS,wsD,wsN];done)))|(with_reducible first|refine bkA ?_ _|refine bkD ?_|refine bkN ?_ _)|((with_reducible refine bkF ?_ ?_ _);focus (simp only [];omega))|((with_reducible refine bkB (by assumption) ?_ ?_);focus (go_size;done)))),by (repeat (first|(with_reducible assumption)|((with_reducible refine bkW ?_);(first|rfl|(simp only [wsA,wsS,wsD,wsN];done)))|(with_reducible first|refine bkA ?_ _|refine bkD ?_|refine bkN ?_ _)|((with_reducible refine bkF ?_ ?_ _);focus (simp only [];omega))|((with_reducible refine bkB (by assumption) ?_ ?_);focus (go_size;done)))),by go_size,by (repeat' first|(with_reducible first|exact blR _ _|assumption|refine blD ?_|refine blN ?_ _)|((with_reducible first|refine blA ?_ ?_ _|refine blS ?_ ?_ _|refine blT (by assumption) ?_ ?_);focus (go_size;done)))⟩
       have i1:=HE.out
       have i2:=L2.out
       have i3:=HZ.out (t + 2) (Nat.le_refl _) (by omega)
       have e : n % 2 ^ (64 * (t + 1)) * m = V':=mul_end HM.out EO.out i1 i2 i3
       rw [e,← L3.out]
       exact BO.out.set_ _ _
   ·obtain rfl : t = 2:=by omega
    have e : n % 2 ^ (64 * 2) * m = n * m:=by rw [Nat.mod_eq_of_lt HN.out]
    rw [e] at BO
    obtain ⟨z,hz⟩ : ∃ z,z = n * m:=⟨_,rfl⟩
    rw [← hz] at BO
    have EZ:=Lib.hid hz
    clear hz
    have bo:=BO.out
    rw [lcells_eq] at bo
    have c0:=bo.cell 0 rfl
    have c1:=bo.cell 1 rfl
    have c2:=bo.cell 2 rfl
    have c3:=bo.cell 3 rfl
    have d0:=B4.out.cell 0 rfl
    have d1:=B4.out.cell 1 rfl
    have d2:=B4.out.cell 2 rfl
    have d3:=B4.out.cell 3 rfl
    have f0:=B4.out.frozen 0
    have f1:=B4.out.frozen 1
    have f2:=B4.out.frozen 2
    have f3:=B4.out.frozen 3
    clear bo e
    go_wp2_with fail
    refine bodyPost_ret (by simp [results,Tryd.results84,go_sem, *];try rfl) rfl ?_
    exact ⟨by rw [EZ.out],by (repeat' first|(with_reducible first|exact blR _ _|assumption|refine blD ?_|refine blN ?_ _)|((with_reducible first|refine blA ?_ ?_ _|refine blS ?_ ?_ _|refine blT (by assumption) ?_ ?_);focus (go_size;done)))⟩
end Go.Proofs.YtnhmplfonkjfoaaDoor



namespace Go.Proofs.YtnhmplfonkjfoaaDoor
open Go.RowKit

theorem ten_38 {k : Nat} (h : k ≤ 38) : 10 ^ k < 2 ^ 128:=Nat.lt_of_le_of_lt (Nat.pow_le_pow_right (by decide) h) (by decide)
theorem mul_ten (X : Nat) (hX : X < 2 ^ 128) (W : World) : Calls Tryd.prog 84 #[.agg #[.int .u64 (wd X 1),.int .u64 (wd X 0)],.agg #[.int .u64 0,.int .u64 10]] W fun e w' => e = .returned (.agg #[.int .u64 (wd (X * 10) 0),.int .u64 (wd (X * 10) 1),.int .u64 (wd (X * 10) 2),.int .u64 (wd (X * 10) 3)]) ∧ Below W.heap.size W w':=by
 have h:=mul_any X 10 hX (by decide) W
 have b0 : wd 10 0 = 10:=by rw [wd0];rfl
 have b1 : wd 10 1 = 0:=by rw [wd1];rfl
 rw [b0,b1] at h
 exact h
theorem fit_id {X : Nat} (h : X < 2 ^ 128) : fitW X = X:=by unfold fitW;rw [if_pos h]
theorem over_id {X : Nat} (h : X < 2 ^ 128) : over X = 0:=by unfold over;rw [if_pos h]
set_option maxHeartbeats 4000000 in
theorem ten_any (k : Nat) (hk : k ≤ 38) (w : World) : Calls Tryd.prog 81 #[.int .i64 k] w fun e w' => e = .returned (.tuple #[.agg #[.int .u64 (wd (10 ^ k) 1),.int .u64 (wd (10 ^ k) 0)],.int .i64 0]) ∧ Below w.heap.size w w':=by
 have k0 : (0 : Int) ≤ (k : Int):=by omega
 have k1 : (k : Int) ≤ 38:=by omega
 go_enter Tryd.func81,Tryd.ntmps81
 go_wp2_with fail
 go_loopg [14] k (fun kk i wr => ∃ t : Nat,kk + t = k ∧ i = .int .i64 t ∧ Bk wr (w.heap.size + 1) 39 [.int .u64 (wd (10 ^ t) 1),.int .u64 (wd (10 ^ t) 0)] ∧ Bk wr w.heap.size 39 [.int .u64 0,.int .u64 0] ∧ w.heap.size + 2 ≤ wr.heap.size ∧ Below w.heap.size w wr)
 case atStart =>
  refine ⟨0,by omega,rfl, ?_,by (repeat (first|(with_reducible assumption)|((with_reducible refine bkW ?_);(first|rfl|(simp only [wsA,wsS,wsD,wsN];done)))|(with_reducible first|refine bkA ?_ _|refine bkD ?_|refine bkN ?_ _)|((with_reducible refine bkF ?_ ?_ _);focus (simp only [];omega))|((with_reducible refine bkB (by assumption) ?_ ?_);focus (go_size;done)))),by go_size,by (repeat' first|(with_reducible first|exact blR _ _|assumption|refine blD ?_|refine blN ?_ _)|((with_reducible first|refine blA ?_ ?_ _|refine blS ?_ ?_ _|refine blT (by assumption) ?_ ?_);focus (go_size;done)))⟩
  have b0 : wd (10 ^ 0) 0 = 1:=by rw [wd0];rfl
  have b1 : wd (10 ^ 0) 1 = 0:=by rw [wd1];rfl
  rw [b0,b1]
  (repeat (first|(with_reducible assumption)|((with_reducible refine bkW ?_);(first|rfl|(simp only [wsA,wsS,wsD,wsN];done)))|(with_reducible first|refine bkA ?_ _|refine bkD ?_|refine bkN ?_ _)|((with_reducible refine bkF ?_ ?_ _);focus (simp only [];omega))|((with_reducible refine bkB (by assumption) ?_ ?_);focus (go_size;done))))
 case round =>
  obtain ⟨t,hn,rfl,b1,b0,hsz,hbel⟩:=hrel
  have HK:=Lib.hid hn
  have ht : t ≤ k:=by omega
  have c0:=b1.cell 0 rfl
  have c1:=b1.cell 1 rfl
  have f0:=b1.frozen 0
  have f1:=b1.frozen 1
  have d0:=b0.cell 0 rfl
  have d1:=b0.cell 1 rfl
  have e0:=b0.frozen 0
  have e1:=b0.frozen 1
  have B0:=Lib.hid b0
  have B1:=Lib.hid b1
  (try have : w.heap.size < wr.heap.size:=by omega);(try have : w.heap.size + 1 < wr.heap.size:=by omega);(try have : w.heap.size + 1 + 1 < wr.heap.size:=by omega);(try have : w.heap.size + 1 + 1 + 1 < wr.heap.size:=by omega)
  clear hn b0 b1
  by_cases hlt : t < k
  ·have hx : 10 ^ t < 2 ^ 128:=ten_38 (by omega)
   have hy : 10 ^ t * 10 < 2 ^ 128:=by rw [← Nat.pow_succ];exact ten_38 (by omega)
   have HM:=Lib.hid (fun W => mul_ten (10 ^ t) hx W)
   have HN:=Lib.hid (fun W => narrow_any (10 ^ t * 10) (Nat.lt_trans hy (by decide)) W)
   rw [fit_id hy,over_id hy] at HN
   obtain ⟨X,hX⟩ : ∃ X,X = 10 ^ t:=⟨_,rfl⟩
   obtain ⟨Y,hY⟩ : ∃ Y,Y = X * 10:=⟨_,rfl⟩
   rw [← hX] at c0 c1 HM HN
   rw [← hY] at HM HN
   have EX:=Far.mk hX
   have EY:=Far.mk hY
   clear hX hY hx hy
   go_wp2_with (first
    | ((go_at_call 84;with_reducible refine (HM.out _).mono ?_);rintro _ w1 ⟨rfl,hb1⟩;have hb1s:=hb1.size;(try simp only [wsA,wsS,wsD,wsN] at hb1s);obtain ⟨hb1c,hb1f⟩:=bcell hb1;(try have : w.heap.size < w1.heap.size:=by omega);(try have : w.heap.size + 1 < w1.heap.size:=by omega);(try have : w.heap.size + 1 + 1 < w1.heap.size:=by omega);(try have : w.heap.size + 1 + 1 + 1 < w1.heap.size:=by omega))
    | ((go_at_call 83;with_reducible refine (HN.out _).mono ?_);rintro _ w2 ⟨rfl,hb2⟩;have hb2s:=hb2.size;(try simp only [wsA,wsS,wsD,wsN] at hb2s);obtain ⟨hb2c,hb2f⟩:=bcell hb2;(try have : w.heap.size < w2.heap.size:=by omega);(try have : w.heap.size + 1 < w2.heap.size:=by omega);(try have : w.heap.size + 1 + 1 < w2.heap.size:=by omega);(try have : w.heap.size + 1 + 1 + 1 < w2.heap.size:=by omega);(try have : w1.heap.size < w2.heap.size:=by omega);(try have : w1.heap.size + 1 < w2.heap.size:=by omega);(try have : w1.heap.size + 1 + 1 < w2.heap.size:=by omega);(try have : w1.heap.size + 1 + 1 + 1 < w2.heap.size:=by omega)))
   go_roundg (gk - 1)
   case measure => have:=HK.out;omega
   case rel =>
    have b0:=B0.out
    have b1:=B1.out
    refine ⟨t + 1,by have:=HK.out;omega,by go_num, ?_,by (repeat (first|(with_reducible assumption)|((with_reducible refine bkW ?_);(first|rfl|(simp only [wsA,wsS,wsD,wsN];done)))|(with_reducible first|refine bkA ?_ _|refine bkD ?_|refine bkN ?_ _)|((with_reducible refine bkF ?_ ?_ _);focus (simp only [];omega))|((with_reducible refine bkB (by assumption) ?_ ?_);focus (go_size;done)))),by go_size,by (repeat' first|(with_reducible first|exact blR _ _|assumption|refine blD ?_|refine blN ?_ _)|((with_reducible first|refine blA ?_ ?_ _|refine blS ?_ ?_ _|refine blT (by assumption) ?_ ?_);focus (go_size;done)))⟩
    have e : 10 ^ (t + 1) = Y:=by rw [EY.out,EX.out,Nat.pow_succ]
    rw [e]
    refine ((?_ : Bk w2 _ _ [.int .u64 (wd (10 ^ t) 1),.int .u64 (wd (10 ^ t) 0)]).set_ 0 _).set_ 1 _
    (repeat (first|(with_reducible assumption)|((with_reducible refine bkW ?_);(first|rfl|(simp only [wsA,wsS,wsD,wsN];done)))|(with_reducible first|refine bkA ?_ _|refine bkD ?_|refine bkN ?_ _)|((with_reducible refine bkF ?_ ?_ _);focus (simp only [];omega))|((with_reducible refine bkB (by assumption) ?_ ?_);focus (go_size;done))))
  ·obtain rfl : t = k:=by omega
   obtain ⟨X,hX⟩ : ∃ X,X = 10 ^ t:=⟨_,rfl⟩
   rw [← hX] at c0 c1
   have EX:=Far.mk hX
   clear hX
   go_wp2_with fail
   refine bodyPost_ret (by simp [results,Tryd.results81,go_sem, *];try rfl) rfl ?_
   exact ⟨by rw [EX.out],by (repeat' first|(with_reducible first|exact blR _ _|assumption|refine blD ?_|refine blN ?_ _)|((with_reducible first|refine blA ?_ ?_ _|refine blS ?_ ?_ _|refine blT (by assumption) ?_ ?_);focus (go_size;done)))⟩
end Go.Proofs.YtnhmplfonkjfoaaDoor



namespace Go.Proofs.YtnhmplfonkjfoaaDoor
open Go.RowKit

/-- N is T and k noughts behind it -/
def IsTz (N T k : Nat) : Prop:=N = T * 10 ^ k ∧ T % 10 ≠ 0
theorem tz_upto (N b : Nat) (h0 : N ≠ 0) (h : N < 10 ^ b) : ∃ T k,IsTz N T k:=by
 induction b generalizing N with
 | zero => simp at h;omega
 | succ b ih =>
  by_cases hd : N % 10 = 0
  ·obtain ⟨T,k,e,ht⟩:=ih (N / 10) (by omega) (by rw [Nat.pow_succ] at h;omega)
   refine ⟨T,k + 1, ?_,ht⟩
   rw [Nat.pow_succ,← Nat.mul_assoc,← e];omega
  ·exact ⟨N,0,by simp,hd⟩
theorem IsTz.k_le {N T k : Nat} (h : IsTz N T k) (hN : N < 2 ^ 128) : k ≤ 38:=by
 obtain ⟨e,ht⟩:=h
 have h1 : 1 ≤ T:=by
  rcases Nat.eq_zero_or_pos T with h0 | h0
  ·subst h0;exact absurd rfl ht
  ·exact h0
 have h2 : 10 ^ k ≤ N:=by rw [e];exact Nat.le_mul_of_pos_left _ h1
 have h3 : (10 : Nat) ^ k < 10 ^ 39:=Nat.lt_of_le_of_lt h2 (Nat.lt_trans hN (by decide))
 have:=pow_lt10 h3
 omega
theorem IsTz.at_ {N T k t : Nat} (h : IsTz N T k) (ht : t ≤ k) : N / 10 ^ t = T * 10 ^ (k - t):=by
 have e : 10 ^ k = 10 ^ (k - t) * 10 ^ t:=by rw [← Nat.pow_add];congr 1;omega
 rw [h.1,e,← Nat.mul_assoc,Nat.mul_div_cancel _ (Nat.pow_pos (by decide))]
theorem IsTz.mod_lt {N T k t : Nat} (h : IsTz N T k) (ht : t < k) : N / 10 ^ t % 10 = 0:=by
 rw [h.at_ (by omega),show k - t = k - t - 1 + 1 by omega,Nat.pow_succ,← Nat.mul_assoc,Nat.mul_mod_left]
theorem IsTz.mod_eq {N T k : Nat} (h : IsTz N T k) : N / 10 ^ k = T:=by
 rw [h.at_ (Nat.le_refl _),Nat.sub_self,Nat.pow_zero,Nat.mul_one]
set_option maxHeartbeats 1000000 in
theorem trim_any (N T k : Nat) (hN : N < 2 ^ 128) (h : IsTz N T k) (w : World) : Calls Tryd.prog 66 #[.agg #[.int .u64 (wd N 1),.int .u64 (wd N 0)]] w fun e w' => e = .returned (.tuple #[.agg #[.int .u64 (wd T 1),.int .u64 (wd T 0)],.int .i64 k]) ∧ Below w.heap.size w w':=by
 have hk38:=h.k_le hN
 have h0 : N ≠ 0:=by
  rintro rfl
  have h1:=h.1
  have h2:=h.2
  rcases Nat.mul_eq_zero.1 h1.symm with h3 | h3
  ·subst h3;exact h2 rfl
  ·exact absurd h3 (Nat.ne_of_gt (Nat.pow_pos (by decide)))
 have qz : ∀ W,(binOp .eql 39 (.agg #[.int .u64 (wd N 1),.int .u64 (wd N 0)]) (.agg #[.int .u64 0,.int .u64 0])).run Tryd.prog W = .ok (.bool false) W:=fun W => by
  rw [eq_wide]
  have e:=wd_eq_iff hN (show 0 < 2 ^ 128 by decide)
  rw [wd_zero,wd_zero] at e
  rw [e,decide_eq_false h0]
 have e2 : wd N 2 = 0:=wd_past (k:=2) (by simpa using hN) (Nat.le_refl _)
 have e3 : wd N 3 = 0:=wd_past (k:=3) (Nat.lt_of_lt_of_le hN (Nat.pow_le_pow_right (by decide) (by decide))) (Nat.le_refl _)
 have E2:=Lib.hid e2
 have E3:=Lib.hid e3
 have HN:=Far.mk hN
 have HZ:=Far.mk h
 clear hN h h0 e2 e3
 go_enter Tryd.func66,Tryd.ntmps66
 go_wp2_with fail
 go_loopg [5] k (fun kk c wr => ∃ t : Nat,kk + t = k ∧ c = .int .i64 t ∧ Bk wr (w.heap.size + 1 + 1) 118 (lcells (N / 10 ^ t)) ∧ Bk wr (w.heap.size + 1) 39 [.int .u64 0,.int .u64 0] ∧ w.heap.size + 3 ≤ wr.heap.size ∧ Below w.heap.size w wr)
 case atStart =>
  refine ⟨0,by omega,rfl, ?_,by (repeat (first|(with_reducible assumption)|((with_reducible refine bkW ?_);(first|rfl|(simp only [wsA,wsS,wsD,wsN];done)))|(with_reducible first|refine bkA ?_ _|refine bkD ?_|refine bkN ?_ _)|((with_reducible refine bkF ?_ ?_ _);focus (simp only [];omega))|((with_reducible refine bkB (by assumption) ?_ ?_);focus (go_size;done)))),by go_size,by (repeat' first|(with_reducible first|exact blR _ _|assumption|refine blD ?_|refine blN ?_ _)|((with_reducible first|refine blA ?_ ?_ _|refine blS ?_ ?_ _|refine blT (by assumption) ?_ ?_);focus (go_size;done)))⟩
  rw [Nat.pow_zero,Nat.div_one,lcells_eq,E2.out,E3.out]
  (repeat (first|(with_reducible assumption)|((with_reducible refine bkW ?_);(first|rfl|(simp only [wsA,wsS,wsD,wsN];done)))|(with_reducible first|refine bkA ?_ _|refine bkD ?_|refine bkN ?_ _)|((with_reducible refine bkF ?_ ?_ _);focus (simp only [];omega))|((with_reducible refine bkB (by assumption) ?_ ?_);focus (go_size;done))))
 case round =>
  obtain ⟨t,hn,rfl,b2,b1,hsz,hbel⟩:=hrel
  have HK:=Lib.hid hn
  have ht : t ≤ k:=by omega
  have B2:=Lib.hid b2
  have B1:=Lib.hid b1
  have b2':=b2
  rw [lcells_eq] at b2'
  have c0:=b2'.cell 0 rfl
  have c1:=b2'.cell 1 rfl
  have c2:=b2'.cell 2 rfl
  have c3:=b2'.cell 3 rfl
  have f0:=b2.frozen 0
  have f1:=b2.frozen 1
  have f2:=b2.frozen 2
  have f3:=b2.frozen 3
  have d0:=b1.cell 0 rfl
  have d1:=b1.cell 1 rfl
  have g0:=b1.frozen 0
  have g1:=b1.frozen 1
  (try have : w.heap.size < wr.heap.size:=by omega);(try have : w.heap.size + 1 < wr.heap.size:=by omega);(try have : w.heap.size + 1 + 1 < wr.heap.size:=by omega);(try have : w.heap.size + 1 + 1 + 1 < wr.heap.size:=by omega)
  have HT:=Lib.hid (fun W => tenth_any (N / 10 ^ t) (Nat.lt_of_le_of_lt (Nat.div_le_self _ _) (Nat.lt_trans HN.out (by decide))) W)
  clear hn b2 b1 b2'
  by_cases hlt : t < k
  ·have hm:=HZ.out.mod_lt hlt
   rw [hm] at HT
   obtain ⟨X,hX⟩ : ∃ X,X = N / 10 ^ t:=⟨_,rfl⟩
   rw [← hX] at HT c0 c1 c2 c3 B2
   have EX:=Far.mk hX
   clear hX hm
   go_wp2_with ((go_at_call 76;with_reducible refine (HT.out _).mono ?_);rintro _ w1 ⟨rfl,hb1⟩;have hb1s:=hb1.size;(try simp only [wsA,wsS,wsD,wsN] at hb1s);obtain ⟨hb1c,hb1f⟩:=bcell hb1;(try have : w.heap.size < w1.heap.size:=by omega);(try have : w.heap.size + 1 < w1.heap.size:=by omega);(try have : w.heap.size + 1 + 1 < w1.heap.size:=by omega);(try have : w.heap.size + 1 + 1 + 1 < w1.heap.size:=by omega))
   go_roundg (gk - 1)
   case measure => have:=HK.out;omega
   case rel =>
    have b1:=B1.out
    refine ⟨t + 1,by have:=HK.out;omega,by go_num, ?_,by (repeat (first|(with_reducible assumption)|((with_reducible refine bkW ?_);(first|rfl|(simp only [wsA,wsS,wsD,wsN];done)))|(with_reducible first|refine bkA ?_ _|refine bkD ?_|refine bkN ?_ _)|((with_reducible refine bkF ?_ ?_ _);focus (simp only [];omega))|((with_reducible refine bkB (by assumption) ?_ ?_);focus (go_size;done)))),by go_size,by (repeat' first|(with_reducible first|exact blR _ _|assumption|refine blD ?_|refine blN ?_ _)|((with_reducible first|refine blA ?_ ?_ _|refine blS ?_ ?_ _|refine blT (by assumption) ?_ ?_);focus (go_size;done)))⟩
    have e : N / 10 ^ (t + 1) = X / 10:=by rw [EX.out,Nat.div_div_eq_div_mul,Nat.pow_succ]
    rw [e,lcells_eq]
    refine Bk.alloc ?_ _
    refine ((((?_ : Bk w1 _ _ [.int .u64 (wd X 0),.int .u64 (wd X 1),.int .u64 (wd X 2),.int .u64 (wd X 3)]).set_ 0 _).set_ 1 _).set_ 2 _).set_ 3 _
    have b2:=B2.out
    rw [lcells_eq] at b2
    (repeat (first|(with_reducible assumption)|((with_reducible refine bkW ?_);(first|rfl|(simp only [wsA,wsS,wsD,wsN];done)))|(with_reducible first|refine bkA ?_ _|refine bkD ?_|refine bkN ?_ _)|((with_reducible refine bkF ?_ ?_ _);focus (simp only [];omega))|((with_reducible refine bkB (by assumption) ?_ ?_);focus (go_size;done))))
  ·obtain rfl : t = k:=by omega
   have hm:=HZ.out.mod_eq
   rw [hm] at HT c0 c1 c2 c3 B2
   have hne : (((T % 10 : Nat) : Int) != 0) = true:=by
    have:=HZ.out.2
    simp;omega
   obtain ⟨dd,hdd⟩ : ∃ dd : Int,dd = ((T % 10 : Nat) : Int):=⟨_,rfl⟩
   rw [← hdd] at HT hne
   clear hm hdd
   go_wp2_with ((go_at_call 76;with_reducible refine (HT.out _).mono ?_);rintro _ w1 ⟨rfl,hb1⟩;have hb1s:=hb1.size;(try simp only [wsA,wsS,wsD,wsN] at hb1s);obtain ⟨hb1c,hb1f⟩:=bcell hb1;(try have : w.heap.size < w1.heap.size:=by omega);(try have : w.heap.size + 1 < w1.heap.size:=by omega);(try have : w.heap.size + 1 + 1 < w1.heap.size:=by omega);(try have : w.heap.size + 1 + 1 + 1 < w1.heap.size:=by omega))
   refine bodyPost_ret (by simp [results,Tryd.results66,go_sem, *];try rfl) rfl ?_
   exact ⟨rfl,by (repeat' first|(with_reducible first|exact blR _ _|assumption|refine blD ?_|refine blN ?_ _)|((with_reducible first|refine blA ?_ ?_ _|refine blS ?_ ?_ _|refine blT (by assumption) ?_ ?_);focus (go_size;done)))⟩
end Go.Proofs.YtnhmplfonkjfoaaDoor



namespace Go.Proofs.YtnhmplfonkjfoaaDoor
open Go.RowKit

set_option maxHeartbeats 1000000 in
theorem power_any (k : Nat) (hk : k ≤ 38) (w : World) : Calls Tryd.prog 75 #[.int .i64 k] w fun e w' => e = .returned (.agg #[.int .u64 (wd (10 ^ k) 1),.int .u64 (wd (10 ^ k) 0)]) ∧ Below w.heap.size w w':=by
 have HT:=Lib.hid (fun W => ten_any k hk W)
 generalize wd (10 ^ k) 0 = x0 at *
 generalize wd (10 ^ k) 1 = x1 at *
 go_enter Tryd.func75,Tryd.ntmps75
 go_wp2_with ((go_at_call 81;with_reducible refine (HT.out _).mono ?_);rintro _ w1 ⟨rfl,hb1⟩;have hb1s:=hb1.size;(try simp only [wsA,wsS,wsD,wsN] at hb1s);obtain ⟨hb1c,hb1f⟩:=bcell hb1;(try have : w.heap.size < w1.heap.size:=by omega);(try have : w.heap.size + 1 < w1.heap.size:=by omega);(try have : w.heap.size + 1 + 1 < w1.heap.size:=by omega);(try have : w.heap.size + 1 + 1 + 1 < w1.heap.size:=by omega))
 refine bodyPost_ret (by simp [results,Tryd.results75,go_sem, *];try rfl) rfl ?_
 exact ⟨rfl,by (repeat' first|(with_reducible first|exact blR _ _|assumption|refine blD ?_|refine blN ?_ _)|((with_reducible first|refine blA ?_ ?_ _|refine blS ?_ ?_ _|refine blT (by assumption) ?_ ?_);focus (go_size;done)))⟩
set_option maxHeartbeats 1000000 in
theorem bound_any (w : World) : Calls Tryd.prog 64 #[] w fun e w' => e = .returned (.agg #[.int .u64 (wd B34 1),.int .u64 (wd B34 0)]) ∧ Below w.heap.size w w':=by
 have HT : Hid (∀ W,Calls Tryd.prog 75 #[.int .i64 34] W fun e w' => e = .returned (.agg #[.int .u64 (wd B34 1),.int .u64 (wd B34 0)]) ∧ Below W.heap.size W w'):=Lib.hid (fun W => power_any 34 (by decide) W)
 generalize wd B34 0 = x0 at *
 generalize wd B34 1 = x1 at *
 go_enter Tryd.func64,Tryd.ntmps64
 go_wp2_with ((go_at_call 75;with_reducible refine (HT.out _).mono ?_);rintro _ w1 ⟨rfl,hb1⟩;have hb1s:=hb1.size;(try simp only [wsA,wsS,wsD,wsN] at hb1s);obtain ⟨hb1c,hb1f⟩:=bcell hb1;(try have : w.heap.size < w1.heap.size:=by omega);(try have : w.heap.size + 1 < w1.heap.size:=by omega);(try have : w.heap.size + 1 + 1 < w1.heap.size:=by omega);(try have : w.heap.size + 1 + 1 + 1 < w1.heap.size:=by omega))
 refine bodyPost_ret (by simp [results,Tryd.results64,go_sem, *];try rfl) rfl ?_
 exact ⟨rfl,by (repeat' first|(with_reducible first|exact blR _ _|assumption|refine blD ?_|refine blN ?_ _)|((with_reducible first|refine blA ?_ ?_ _|refine blS ?_ ?_ _|refine blT (by assumption) ?_ ?_);focus (go_size;done)))⟩
theorem eq_nil {n : Nat} (h : n < 2 ^ 128) : ((wd n 1 == 0) && (wd n 0 == 0)) = decide (n = 0):=by
 have e:=wd_eq_iff h (show 0 < 2 ^ 128 by decide)
 rwa [wd_zero,wd_zero] at e
set_option maxHeartbeats 1000000 in
theorem zero_any (b : Bool) (c : Nat) (s : Int) (h : c < 2 ^ 128) (w : World) : Calls Tryd.prog 65 #[.agg #[.bool b,.int .u64 (wd (c) 1),.int .u64 (wd (c) 0),.int .i64 s]] w fun e w' => e = .returned (.bool (decide (c = 0))) ∧ Below w.heap.size w w':=by
 have qz : ∀ W,(binOp .eql 39 (.agg #[.int .u64 (wd c 1),.int .u64 (wd c 0)]) (.agg #[.int .u64 0,.int .u64 0])).run Tryd.prog W = .ok (.bool (decide (c = 0))) W:=fun W => by rw [eq_wide,eq_nil h]
 clear h
 generalize decide (c = 0) = z at *
 generalize wd c 0 = x0 at *
 generalize wd c 1 = x1 at *
 go_enter Tryd.func65,Tryd.ntmps65
 go_wp2_with fail
 refine bodyPost_ret (by simp [results,Tryd.results65,go_sem, *];try rfl) rfl ?_
 exact ⟨rfl,by (repeat' first|(with_reducible first|exact blR _ _|assumption|refine blD ?_|refine blN ?_ _)|((with_reducible first|refine blA ?_ ?_ _|refine blS ?_ ?_ _|refine blT (by assumption) ?_ ?_);focus (go_size;done)))⟩
end Go.Proofs.YtnhmplfonkjfoaaDoor



namespace Go.Proofs.YtnhmplfonkjfoaaDoor
open Go.RowKit

theorem dform_hi {b : Bool} {c : Nat} {s : Int} (h : ¬ c < B34) : dform b c s = false:=by unfold dform;rw [decide_eq_false h];rfl
theorem dform_neg {b : Bool} {c : Nat} {s : Int} (h : s < 0) : dform b c s = false:=by unfold dform;rw [decide_eq_false (show ¬ 0 ≤ s by omega)];simp
theorem dform_deep {b : Bool} {c : Nat} {s : Int} (h : 18 < s) : dform b c s = false:=by unfold dform;rw [decide_eq_false (show ¬ s ≤ 18 by omega)];simp
theorem dform_in {b : Bool} {c : Nat} {s : Int} (h : c < B34) (h0 : 0 ≤ s) (h1 : s ≤ 18) : dform b c s = if c = 0 then !b && decide (s = 0) else decide (s = 0) || decide (c % 10 ≠ 0):=by
 unfold dform;rw [decide_eq_true h,decide_eq_true h0,decide_eq_true h1];rfl
theorem cmp_bound {c : Nat} (h : c < B34) : cmpN c B34 < 0:=by unfold cmpN;rw [if_neg (by omega),if_pos h];decide
theorem cmp_bound' {c : Nat} (h : ¬ c < B34) : 0 ≤ cmpN c B34:=by unfold cmpN;rw [if_neg h];split <;> decide
set_option maxHeartbeats 4000000 in
theorem form_any (b : Bool) (c : Nat) (s : Int) (hc : c < 2 ^ 128) (w : World) : Calls Tryd.prog 53 #[.agg #[.bool b,.int .u64 (wd (c) 1),.int .u64 (wd (c) 0),.int .i64 s]] w fun e w' => e = .returned (.bool (dform b c s)) ∧ Below w.heap.size w w':=by
 have HC:=Lib.hid (fun W => cmp_any c B34 hc B34_lt W)
 have HB:=Lib.hid (fun W => bound_any W)
 have HZ:=Lib.hid (fun W => zero_any b c s hc W)
 generalize wd B34 0 = p0 at *
 generalize wd B34 1 = p1 at *
 by_cases hb : c < B34
 ·have g1:=cmp_bound hb
  have g1' : decide (0 ≤ cmpN c B34) = false:=by simp;omega
  by_cases h0 : s < 0
  ·rw [dform_neg h0]
   generalize cmpN c B34 = cc at *
   generalize wd c 0 = x0 at *
   generalize wd c 1 = x1 at *
   clear hc hb
   generalize decide (c = 0) = zz at *
   go_enter Tryd.func53,Tryd.ntmps53
   go_wp2_with fail
   first | (go_region_with (first | ((go_at_call 64;with_reducible refine (HB.out _).mono ?_);rintro _ w1 ⟨rfl,hb1⟩;have hb1s:=hb1.size;(try simp only [wsA,wsS,wsD,wsN] at hb1s);obtain ⟨hb1c,hb1f⟩:=bcell hb1;(try have : w.heap.size < w1.heap.size:=by omega);(try have : w.heap.size + 1 < w1.heap.size:=by omega);(try have : w.heap.size + 1 + 1 < w1.heap.size:=by omega);(try have : w.heap.size + 1 + 1 + 1 < w1.heap.size:=by omega)) | ((go_at_call 63;with_reducible refine (HC.out _).mono ?_);rintro _ w2 ⟨rfl,hb2⟩;have hb2s:=hb2.size;(try simp only [wsA,wsS,wsD,wsN] at hb2s);obtain ⟨hb2c,hb2f⟩:=bcell hb2;(try have : w.heap.size < w2.heap.size:=by omega);(try have : w.heap.size + 1 < w2.heap.size:=by omega);(try have : w.heap.size + 1 + 1 < w2.heap.size:=by omega);(try have : w.heap.size + 1 + 1 + 1 < w2.heap.size:=by omega);(try have : w1.heap.size < w2.heap.size:=by omega);(try have : w1.heap.size + 1 < w2.heap.size:=by omega);(try have : w1.heap.size + 1 + 1 < w2.heap.size:=by omega);(try have : w1.heap.size + 1 + 1 + 1 < w2.heap.size:=by omega)))) | fail
   all_goals
    go_wp2_with fail
    go_ret
    exact ⟨rfl,by (repeat' first|(with_reducible first|exact blR _ _|assumption|refine blD ?_|refine blN ?_ _)|((with_reducible first|refine blA ?_ ?_ _|refine blS ?_ ?_ _|refine blT (by assumption) ?_ ?_);focus (go_size;done)))⟩
  ·by_cases h1 : 18 < s
   ·rw [dform_deep h1]
    have g3 : decide (s < 0) = false:=by simp;omega
    generalize cmpN c B34 = cc at *
    generalize wd c 0 = x0 at *
    generalize wd c 1 = x1 at *
    clear hc hb
    generalize decide (c = 0) = zz at *
    go_enter Tryd.func53,Tryd.ntmps53
    go_wp2_with fail
    first | (go_region_held3 (fun w' => w'.cell? ⟨w.heap.size,1,none⟩ = some (.int .u64 x1) ∧ w'.cell? ⟨w.heap.size,2,none⟩ = some (.int .u64 x0) ∧ w'.cell? ⟨w.heap.size,3,none⟩ = some (.int .i64 s)) (first | (first | (go_keep;done) | (simp [go_sem];done) | ((try dsimp only);(repeat' apply And.intro) <;> (first | (with_reducible assumption) | ((rw [World.cell?_alloc_lt _ _ _ (by show _ < _;omega)]);go_split_ands;(first | with_reducible assumption | (refine (World.cell?_alloc_lt _ _ _ (by show _ < _;omega)).symm.trans ?_;with_reducible assumption))) | ((rw [World.cell?_setCell_other _ _ _ _ (by intro e;injection e;omega)]);with_reducible assumption) | (go_keep;done) | (simp [go_sem];done) | (simp (disch:=go_size) [*,World.cell?_alloc_some,World.cell?_setCell_far];done))))) (first | ((go_at_call 64;with_reducible refine (HB.out _).mono ?_);rintro _ w1 ⟨rfl,hb1⟩;have hb1s:=hb1.size;(try simp only [wsA,wsS,wsD,wsN] at hb1s);obtain ⟨hb1c,hb1f⟩:=bcell hb1;(try have : w.heap.size < w1.heap.size:=by omega);(try have : w.heap.size + 1 < w1.heap.size:=by omega);(try have : w.heap.size + 1 + 1 < w1.heap.size:=by omega);(try have : w.heap.size + 1 + 1 + 1 < w1.heap.size:=by omega)) | ((go_at_call 63;with_reducible refine (HC.out _).mono ?_);rintro _ w2 ⟨rfl,hb2⟩;have hb2s:=hb2.size;(try simp only [wsA,wsS,wsD,wsN] at hb2s);obtain ⟨hb2c,hb2f⟩:=bcell hb2;(try have : w.heap.size < w2.heap.size:=by omega);(try have : w.heap.size + 1 < w2.heap.size:=by omega);(try have : w.heap.size + 1 + 1 < w2.heap.size:=by omega);(try have : w.heap.size + 1 + 1 + 1 < w2.heap.size:=by omega);(try have : w1.heap.size < w2.heap.size:=by omega);(try have : w1.heap.size + 1 < w2.heap.size:=by omega);(try have : w1.heap.size + 1 + 1 < w2.heap.size:=by omega);(try have : w1.heap.size + 1 + 1 + 1 < w2.heap.size:=by omega)))) | fail
    all_goals
     go_wp2_with fail
     go_ret
     exact ⟨rfl,by (repeat' first|(with_reducible first|exact blR _ _|assumption|refine blD ?_|refine blN ?_ _)|((with_reducible first|refine blA ?_ ?_ _|refine blS ?_ ?_ _|refine blT (by assumption) ?_ ?_);focus (go_size;done)))⟩
   ·rw [dform_in hb (by omega) (by omega)]
    have g3 : decide (s < 0) = false:=by simp;omega
    have g4 : decide (18 < s) = false:=by simp;omega
    by_cases hz : c = 0
    ·rw [if_pos hz]
     rw [decide_eq_true hz] at HZ
     have g2 : (s == 0) = decide (s = 0):=by rw [Bool.eq_iff_iff];simp
     generalize cmpN c B34 = cc at *
     generalize wd c 0 = x0 at *
     generalize wd c 1 = x1 at *
     clear hc hb
     generalize decide (s = 0) = sz at *
     clear hz
     cases b
     ·go_enter Tryd.func53,Tryd.ntmps53
      go_wp2_with fail
      first | (go_region_held3 (fun w' => w'.cell? ⟨w.heap.size,1,none⟩ = some (.int .u64 x1) ∧ w'.cell? ⟨w.heap.size,2,none⟩ = some (.int .u64 x0) ∧ w'.cell? ⟨w.heap.size,3,none⟩ = some (.int .i64 s)) (first | (first | (go_keep;done) | (simp [go_sem];done) | ((try dsimp only);(repeat' apply And.intro) <;> (first | (with_reducible assumption) | ((rw [World.cell?_alloc_lt _ _ _ (by show _ < _;omega)]);go_split_ands;(first | with_reducible assumption | (refine (World.cell?_alloc_lt _ _ _ (by show _ < _;omega)).symm.trans ?_;with_reducible assumption))) | ((rw [World.cell?_setCell_other _ _ _ _ (by intro e;injection e;omega)]);with_reducible assumption) | (go_keep;done) | (simp [go_sem];done) | (simp (disch:=go_size) [*,World.cell?_alloc_some,World.cell?_setCell_far];done))))) (first | ((go_at_call 64;with_reducible refine (HB.out _).mono ?_);rintro _ w1 ⟨rfl,hb1⟩;have hb1s:=hb1.size;(try simp only [wsA,wsS,wsD,wsN] at hb1s);obtain ⟨hb1c,hb1f⟩:=bcell hb1;(try have : w.heap.size < w1.heap.size:=by omega);(try have : w.heap.size + 1 < w1.heap.size:=by omega);(try have : w.heap.size + 1 + 1 < w1.heap.size:=by omega);(try have : w.heap.size + 1 + 1 + 1 < w1.heap.size:=by omega)) | ((go_at_call 63;with_reducible refine (HC.out _).mono ?_);rintro _ w2 ⟨rfl,hb2⟩;have hb2s:=hb2.size;(try simp only [wsA,wsS,wsD,wsN] at hb2s);obtain ⟨hb2c,hb2f⟩:=bcell hb2;(try have : w.heap.size < w2.heap.size:=by omega);(try have : w.heap.size + 1 < w2.heap.size:=by omega);(try have : w.heap.size + 1 + 1 < w2.heap.size:=by omega);(try have : w.heap.size + 1 + 1 + 1 < w2.heap.size:=by omega);(try have : w1.heap.size < w2.heap.size:=by omega);(try have : w1.heap.size + 1 < w2.heap.size:=by omega);(try have : w1.heap.size + 1 + 1 < w2.heap.size:=by omega);(try have : w1.heap.size + 1 + 1 + 1 < w2.heap.size:=by omega)))) | fail
      all_goals
       go_wp2_with ((go_at_call 65;with_reducible refine (HZ.out _).mono ?_);rintro _ w3 ⟨rfl,hb3⟩;have hb3s:=hb3.size;(try simp only [wsA,wsS,wsD,wsN] at hb3s);obtain ⟨hb3c,hb3f⟩:=bcell hb3;(try have : w.heap.size < w3.heap.size:=by omega);(try have : w.heap.size + 1 < w3.heap.size:=by omega);(try have : w.heap.size + 1 + 1 < w3.heap.size:=by omega);(try have : w.heap.size + 1 + 1 + 1 < w3.heap.size:=by omega);(try have : w1.heap.size < w3.heap.size:=by omega);(try have : w1.heap.size + 1 < w3.heap.size:=by omega);(try have : w1.heap.size + 1 + 1 < w3.heap.size:=by omega);(try have : w1.heap.size + 1 + 1 + 1 < w3.heap.size:=by omega);(try have : w2.heap.size < w3.heap.size:=by omega);(try have : w2.heap.size + 1 < w3.heap.size:=by omega);(try have : w2.heap.size + 1 + 1 < w3.heap.size:=by omega);(try have : w2.heap.size + 1 + 1 + 1 < w3.heap.size:=by omega))
       go_ret
       exact ⟨by simp,by (repeat' first|(with_reducible first|exact blR _ _|assumption|refine blD ?_|refine blN ?_ _)|((with_reducible first|refine blA ?_ ?_ _|refine blS ?_ ?_ _|refine blT (by assumption) ?_ ?_);focus (go_size;done)))⟩
     ·go_enter Tryd.func53,Tryd.ntmps53
      go_wp2_with fail
      first | (go_region_held3 (fun w' => w'.cell? ⟨w.heap.size,1,none⟩ = some (.int .u64 x1) ∧ w'.cell? ⟨w.heap.size,2,none⟩ = some (.int .u64 x0) ∧ w'.cell? ⟨w.heap.size,3,none⟩ = some (.int .i64 s)) (first | (first | (go_keep;done) | (simp [go_sem];done) | ((try dsimp only);(repeat' apply And.intro) <;> (first | (with_reducible assumption) | ((rw [World.cell?_alloc_lt _ _ _ (by show _ < _;omega)]);go_split_ands;(first | with_reducible assumption | (refine (World.cell?_alloc_lt _ _ _ (by show _ < _;omega)).symm.trans ?_;with_reducible assumption))) | ((rw [World.cell?_setCell_other _ _ _ _ (by intro e;injection e;omega)]);with_reducible assumption) | (go_keep;done) | (simp [go_sem];done) | (simp (disch:=go_size) [*,World.cell?_alloc_some,World.cell?_setCell_far];done))))) (first | ((go_at_call 64;with_reducible refine (HB.out _).mono ?_);rintro _ w1 ⟨rfl,hb1⟩;have hb1s:=hb1.size;(try simp only [wsA,wsS,wsD,wsN] at hb1s);obtain ⟨hb1c,hb1f⟩:=bcell hb1;(try have : w.heap.size < w1.heap.size:=by omega);(try have : w.heap.size + 1 < w1.heap.size:=by omega);(try have : w.heap.size + 1 + 1 < w1.heap.size:=by omega);(try have : w.heap.size + 1 + 1 + 1 < w1.heap.size:=by omega)) | ((go_at_call 63;with_reducible refine (HC.out _).mono ?_);rintro _ w2 ⟨rfl,hb2⟩;have hb2s:=hb2.size;(try simp only [wsA,wsS,wsD,wsN] at hb2s);obtain ⟨hb2c,hb2f⟩:=bcell hb2;(try have : w.heap.size < w2.heap.size:=by omega);(try have : w.heap.size + 1 < w2.heap.size:=by omega);(try have : w.heap.size + 1 + 1 < w2.heap.size:=by omega);(try have : w.heap.size + 1 + 1 + 1 < w2.heap.size:=by omega);(try have : w1.heap.size < w2.heap.size:=by omega);(try have : w1.heap.size + 1 < w2.heap.size:=by omega);(try have : w1.heap.size + 1 + 1 < w2.heap.size:=by omega);(try have : w1.heap.size + 1 + 1 + 1 < w2.heap.size:=by omega)))) | fail
      all_goals
       go_wp2_with ((go_at_call 65;with_reducible refine (HZ.out _).mono ?_);rintro _ w3 ⟨rfl,hb3⟩;have hb3s:=hb3.size;(try simp only [wsA,wsS,wsD,wsN] at hb3s);obtain ⟨hb3c,hb3f⟩:=bcell hb3;(try have : w.heap.size < w3.heap.size:=by omega);(try have : w.heap.size + 1 < w3.heap.size:=by omega);(try have : w.heap.size + 1 + 1 < w3.heap.size:=by omega);(try have : w.heap.size + 1 + 1 + 1 < w3.heap.size:=by omega);(try have : w1.heap.size < w3.heap.size:=by omega);(try have : w1.heap.size + 1 < w3.heap.size:=by omega);(try have : w1.heap.size + 1 + 1 < w3.heap.size:=by omega);(try have : w1.heap.size + 1 + 1 + 1 < w3.heap.size:=by omega);(try have : w2.heap.size < w3.heap.size:=by omega);(try have : w2.heap.size + 1 < w3.heap.size:=by omega);(try have : w2.heap.size + 1 + 1 < w3.heap.size:=by omega);(try have : w2.heap.size + 1 + 1 + 1 < w3.heap.size:=by omega))
       go_ret
       exact ⟨by simp,by (repeat' first|(with_reducible first|exact blR _ _|assumption|refine blD ?_|refine blN ?_ _)|((with_reducible first|refine blA ?_ ?_ _|refine blS ?_ ?_ _|refine blT (by assumption) ?_ ?_);focus (go_size;done)))⟩
    ·rw [if_neg hz]
     rw [decide_eq_false hz] at HZ
     obtain ⟨T,k,ht⟩:=tz_upto c 34 hz hb
     have HT:=Lib.hid (fun W => trim_any c T k hc ht W)
     have hk : decide (c % 10 ≠ 0) = decide ((k : Int) = 0):=by
      rw [Bool.eq_iff_iff]
      simp only [decide_eq_true_eq]
      constructor
      ·intro h
       rcases Nat.eq_zero_or_pos k with h0 | h0
       ·omega
       ·exact absurd (by have:=ht.mod_lt (t:=0) h0;rwa [Nat.pow_zero,Nat.div_one] at this) h
      ·intro h
       obtain rfl : k = 0:=by omega
       have:=ht.2
       have e:=ht.1
       rw [Nat.pow_zero,Nat.mul_one] at e
       rw [e];exact this
     rw [hk]
     have k0 : (0 : Int) ≤ (k : Int):=by omega
     generalize cmpN c B34 = cc at *
     generalize wd c 0 = x0 at *
     generalize wd c 1 = x1 at *
     clear hc hb
     generalize wd T 0 = y0 at *
     generalize wd T 1 = y1 at *
     clear hz ht hk
     by_cases hs : s = 0
     ·have g2 : (s == 0) = true:=by simpa using hs
      rw [decide_eq_true hs]
      have HS:=Lib.hid hs
      clear hs
      go_enter Tryd.func53,Tryd.ntmps53
      go_wp2_with fail
      first | (go_region_held3 (fun w' => w'.cell? ⟨w.heap.size,1,none⟩ = some (.int .u64 x1) ∧ w'.cell? ⟨w.heap.size,2,none⟩ = some (.int .u64 x0) ∧ w'.cell? ⟨w.heap.size,3,none⟩ = some (.int .i64 s)) (first | (first | (go_keep;done) | (simp [go_sem];done) | ((try dsimp only);(repeat' apply And.intro) <;> (first | (with_reducible assumption) | ((rw [World.cell?_alloc_lt _ _ _ (by show _ < _;omega)]);go_split_ands;(first | with_reducible assumption | (refine (World.cell?_alloc_lt _ _ _ (by show _ < _;omega)).symm.trans ?_;with_reducible assumption))) | ((rw [World.cell?_setCell_other _ _ _ _ (by intro e;injection e;omega)]);with_reducible assumption) | (go_keep;done) | (simp [go_sem];done) | (simp (disch:=go_size) [*,World.cell?_alloc_some,World.cell?_setCell_far];done))))) (first | ((go_at_call 64;with_reducible refine (HB.out _).mono ?_);rintro _ w1 ⟨rfl,hb1⟩;have hb1s:=hb1.size;(try simp only [wsA,wsS,wsD,wsN] at hb1s);obtain ⟨hb1c,hb1f⟩:=bcell hb1;(try have : w.heap.size < w1.heap.size:=by omega);(try have : w.heap.size + 1 < w1.heap.size:=by omega);(try have : w.heap.size + 1 + 1 < w1.heap.size:=by omega);(try have : w.heap.size + 1 + 1 + 1 < w1.heap.size:=by omega)) | ((go_at_call 63;with_reducible refine (HC.out _).mono ?_);rintro _ w2 ⟨rfl,hb2⟩;have hb2s:=hb2.size;(try simp only [wsA,wsS,wsD,wsN] at hb2s);obtain ⟨hb2c,hb2f⟩:=bcell hb2;(try have : w.heap.size < w2.heap.size:=by omega);(try have : w.heap.size + 1 < w2.heap.size:=by omega);(try have : w.heap.size + 1 + 1 < w2.heap.size:=by omega);(try have : w.heap.size + 1 + 1 + 1 < w2.heap.size:=by omega);(try have : w1.heap.size < w2.heap.size:=by omega);(try have : w1.heap.size + 1 < w2.heap.size:=by omega);(try have : w1.heap.size + 1 + 1 < w2.heap.size:=by omega);(try have : w1.heap.size + 1 + 1 + 1 < w2.heap.size:=by omega)))) | fail
      all_goals
       go_wp2_with (first | ((go_at_call 65;with_reducible refine (HZ.out _).mono ?_);rintro _ w3 ⟨rfl,hb3⟩;have hb3s:=hb3.size;(try simp only [wsA,wsS,wsD,wsN] at hb3s);obtain ⟨hb3c,hb3f⟩:=bcell hb3;(try have : w.heap.size < w3.heap.size:=by omega);(try have : w.heap.size + 1 < w3.heap.size:=by omega);(try have : w.heap.size + 1 + 1 < w3.heap.size:=by omega);(try have : w.heap.size + 1 + 1 + 1 < w3.heap.size:=by omega);(try have : w1.heap.size < w3.heap.size:=by omega);(try have : w1.heap.size + 1 < w3.heap.size:=by omega);(try have : w1.heap.size + 1 + 1 < w3.heap.size:=by omega);(try have : w1.heap.size + 1 + 1 + 1 < w3.heap.size:=by omega);(try have : w2.heap.size < w3.heap.size:=by omega);(try have : w2.heap.size + 1 < w3.heap.size:=by omega);(try have : w2.heap.size + 1 + 1 < w3.heap.size:=by omega);(try have : w2.heap.size + 1 + 1 + 1 < w3.heap.size:=by omega)) | ((go_at_call 66;with_reducible refine (HT.out _).mono ?_);rintro _ w4 ⟨rfl,hb4⟩;have hb4s:=hb4.size;(try simp only [wsA,wsS,wsD,wsN] at hb4s);obtain ⟨hb4c,hb4f⟩:=bcell hb4;(try have : w.heap.size < w4.heap.size:=by omega);(try have : w.heap.size + 1 < w4.heap.size:=by omega);(try have : w.heap.size + 1 + 1 < w4.heap.size:=by omega);(try have : w.heap.size + 1 + 1 + 1 < w4.heap.size:=by omega);(try have : w1.heap.size < w4.heap.size:=by omega);(try have : w1.heap.size + 1 < w4.heap.size:=by omega);(try have : w1.heap.size + 1 + 1 < w4.heap.size:=by omega);(try have : w1.heap.size + 1 + 1 + 1 < w4.heap.size:=by omega);(try have : w2.heap.size < w4.heap.size:=by omega);(try have : w2.heap.size + 1 < w4.heap.size:=by omega);(try have : w2.heap.size + 1 + 1 < w4.heap.size:=by omega);(try have : w2.heap.size + 1 + 1 + 1 < w4.heap.size:=by omega);(try have : w3.heap.size < w4.heap.size:=by omega);(try have : w3.heap.size + 1 < w4.heap.size:=by omega);(try have : w3.heap.size + 1 + 1 < w4.heap.size:=by omega);(try have : w3.heap.size + 1 + 1 + 1 < w4.heap.size:=by omega)))
       go_ret
       exact ⟨rfl,by (repeat' first|(with_reducible first|exact blR _ _|assumption|refine blD ?_|refine blN ?_ _)|((with_reducible first|refine blA ?_ ?_ _|refine blS ?_ ?_ _|refine blT (by assumption) ?_ ?_);focus (go_size;done)))⟩
     ·have g2 : (s == 0) = false:=by simpa using hs
      rw [decide_eq_false hs]
      clear hs
      go_enter Tryd.func53,Tryd.ntmps53
      go_wp2_with fail
      first | (go_region_held3 (fun w' => w'.cell? ⟨w.heap.size,1,none⟩ = some (.int .u64 x1) ∧ w'.cell? ⟨w.heap.size,2,none⟩ = some (.int .u64 x0) ∧ w'.cell? ⟨w.heap.size,3,none⟩ = some (.int .i64 s)) (first | (first | (go_keep;done) | (simp [go_sem];done) | ((try dsimp only);(repeat' apply And.intro) <;> (first | (with_reducible assumption) | ((rw [World.cell?_alloc_lt _ _ _ (by show _ < _;omega)]);go_split_ands;(first | with_reducible assumption | (refine (World.cell?_alloc_lt _ _ _ (by show _ < _;omega)).symm.trans ?_;with_reducible assumption))) | ((rw [World.cell?_setCell_other _ _ _ _ (by intro e;injection e;omega)]);with_reducible assumption) | (go_keep;done) | (simp [go_sem];done) | (simp (disch:=go_size) [*,World.cell?_alloc_some,World.cell?_setCell_far];done))))) (first | ((go_at_call 64;with_reducible refine (HB.out _).mono ?_);rintro _ w1 ⟨rfl,hb1⟩;have hb1s:=hb1.size;(try simp only [wsA,wsS,wsD,wsN] at hb1s);obtain ⟨hb1c,hb1f⟩:=bcell hb1;(try have : w.heap.size < w1.heap.size:=by omega);(try have : w.heap.size + 1 < w1.heap.size:=by omega);(try have : w.heap.size + 1 + 1 < w1.heap.size:=by omega);(try have : w.heap.size + 1 + 1 + 1 < w1.heap.size:=by omega)) | ((go_at_call 63;with_reducible refine (HC.out _).mono ?_);rintro _ w2 ⟨rfl,hb2⟩;have hb2s:=hb2.size;(try simp only [wsA,wsS,wsD,wsN] at hb2s);obtain ⟨hb2c,hb2f⟩:=bcell hb2;(try have : w.heap.size < w2.heap.size:=by omega);(try have : w.heap.size + 1 < w2.heap.size:=by omega);(try have : w.heap.size + 1 + 1 < w2.heap.size:=by omega);(try have : w.heap.size + 1 + 1 + 1 < w2.heap.size:=by omega);(try have : w1.heap.size < w2.heap.size:=by omega);(try have : w1.heap.size + 1 < w2.heap.size:=by omega);(try have : w1.heap.size + 1 + 1 < w2.heap.size:=by omega);(try have : w1.heap.size + 1 + 1 + 1 < w2.heap.size:=by omega)))) | fail
      all_goals
       go_wp2_with (first | ((go_at_call 65;with_reducible refine (HZ.out _).mono ?_);rintro _ w3 ⟨rfl,hb3⟩;have hb3s:=hb3.size;(try simp only [wsA,wsS,wsD,wsN] at hb3s);obtain ⟨hb3c,hb3f⟩:=bcell hb3;(try have : w.heap.size < w3.heap.size:=by omega);(try have : w.heap.size + 1 < w3.heap.size:=by omega);(try have : w.heap.size + 1 + 1 < w3.heap.size:=by omega);(try have : w.heap.size + 1 + 1 + 1 < w3.heap.size:=by omega);(try have : w1.heap.size < w3.heap.size:=by omega);(try have : w1.heap.size + 1 < w3.heap.size:=by omega);(try have : w1.heap.size + 1 + 1 < w3.heap.size:=by omega);(try have : w1.heap.size + 1 + 1 + 1 < w3.heap.size:=by omega);(try have : w2.heap.size < w3.heap.size:=by omega);(try have : w2.heap.size + 1 < w3.heap.size:=by omega);(try have : w2.heap.size + 1 + 1 < w3.heap.size:=by omega);(try have : w2.heap.size + 1 + 1 + 1 < w3.heap.size:=by omega)) | ((go_at_call 66;with_reducible refine (HT.out _).mono ?_);rintro _ w4 ⟨rfl,hb4⟩;have hb4s:=hb4.size;(try simp only [wsA,wsS,wsD,wsN] at hb4s);obtain ⟨hb4c,hb4f⟩:=bcell hb4;(try have : w.heap.size < w4.heap.size:=by omega);(try have : w.heap.size + 1 < w4.heap.size:=by omega);(try have : w.heap.size + 1 + 1 < w4.heap.size:=by omega);(try have : w.heap.size + 1 + 1 + 1 < w4.heap.size:=by omega);(try have : w1.heap.size < w4.heap.size:=by omega);(try have : w1.heap.size + 1 < w4.heap.size:=by omega);(try have : w1.heap.size + 1 + 1 < w4.heap.size:=by omega);(try have : w1.heap.size + 1 + 1 + 1 < w4.heap.size:=by omega);(try have : w2.heap.size < w4.heap.size:=by omega);(try have : w2.heap.size + 1 < w4.heap.size:=by omega);(try have : w2.heap.size + 1 + 1 < w4.heap.size:=by omega);(try have : w2.heap.size + 1 + 1 + 1 < w4.heap.size:=by omega);(try have : w3.heap.size < w4.heap.size:=by omega);(try have : w3.heap.size + 1 < w4.heap.size:=by omega);(try have : w3.heap.size + 1 + 1 < w4.heap.size:=by omega);(try have : w3.heap.size + 1 + 1 + 1 < w4.heap.size:=by omega)))
       go_ret
       exact ⟨ret_bool (by rw [Bool.eq_iff_iff];simp),by (repeat' first|(with_reducible first|exact blR _ _|assumption|refine blD ?_|refine blN ?_ _)|((with_reducible first|refine blA ?_ ?_ _|refine blS ?_ ?_ _|refine blT (by assumption) ?_ ?_);focus (go_size;done)))⟩
 ·have g1:=cmp_bound' hb
  have g1' : decide (0 ≤ cmpN c B34) = true:=by simp;omega
  rw [dform_hi hb]
  generalize cmpN c B34 = cc at *
  generalize wd c 0 = x0 at *
  generalize wd c 1 = x1 at *
  clear hc hb
  generalize decide (c = 0) = zz at *
  go_enter Tryd.func53,Tryd.ntmps53
  go_wp2_with fail
  first | (go_region_with (first | ((go_at_call 64;with_reducible refine (HB.out _).mono ?_);rintro _ w1 ⟨rfl,hb1⟩;have hb1s:=hb1.size;(try simp only [wsA,wsS,wsD,wsN] at hb1s);obtain ⟨hb1c,hb1f⟩:=bcell hb1;(try have : w.heap.size < w1.heap.size:=by omega);(try have : w.heap.size + 1 < w1.heap.size:=by omega);(try have : w.heap.size + 1 + 1 < w1.heap.size:=by omega);(try have : w.heap.size + 1 + 1 + 1 < w1.heap.size:=by omega)) | ((go_at_call 63;with_reducible refine (HC.out _).mono ?_);rintro _ w2 ⟨rfl,hb2⟩;have hb2s:=hb2.size;(try simp only [wsA,wsS,wsD,wsN] at hb2s);obtain ⟨hb2c,hb2f⟩:=bcell hb2;(try have : w.heap.size < w2.heap.size:=by omega);(try have : w.heap.size + 1 < w2.heap.size:=by omega);(try have : w.heap.size + 1 + 1 < w2.heap.size:=by omega);(try have : w.heap.size + 1 + 1 + 1 < w2.heap.size:=by omega);(try have : w1.heap.size < w2.heap.size:=by omega);(try have : w1.heap.size + 1 < w2.heap.size:=by omega);(try have : w1.heap.size + 1 + 1 < w2.heap.size:=by omega);(try have : w1.heap.size + 1 + 1 + 1 < w2.heap.size:=by omega)))) | fail
  all_goals
   go_wp2_with fail
   go_ret
   exact ⟨rfl,by (repeat' first|(with_reducible first|exact blR _ _|assumption|refine blD ?_|refine blN ?_ _)|((with_reducible first|refine blA ?_ ?_ _|refine blS ?_ ?_ _|refine blT (by assumption) ?_ ?_);focus (go_size;done)))⟩
end Go.Proofs.YtnhmplfonkjfoaaDoor



namespace Go.Proofs.YtnhmplfonkjfoaaDoor
open Go.RowKit

/-- the number's coefficient -/
def cI (hi lo : Int) : Nat:=(hi * 18446744073709551616 + lo).toNat
def U64 (x : Int) : Prop:=0 ≤ x ∧ x < 18446744073709551616
theorem cI_lt {hi lo : Int} (h : U64 hi) (h2 : U64 lo) : cI hi lo < 2 ^ 128:=by
 obtain ⟨a,b⟩:=h;obtain ⟨c,d⟩:=h2
 unfold cI
 omega
theorem cI_hi {hi lo : Int} (h : U64 hi) (h2 : U64 lo) : wd (cI hi lo) 1 = hi:=by
 obtain ⟨a,b⟩:=h;obtain ⟨c,d⟩:=h2
 unfold cI wd
 omega
theorem cI_lo {hi lo : Int} (h : U64 hi) (h2 : U64 lo) : wd (cI hi lo) 0 = lo:=by
 obtain ⟨a,b⟩:=h;obtain ⟨c,d⟩:=h2
 unfold cI wd
 omega
def spanB (l : List UInt8) : Bool:=l == [91,93] || l == [91,41] || l == [40,93] || l == [40,41]
/-- is what the operation uses right? -/
def okP (op : Int) (l : List UInt8) (ng : Bool) (c : Nat) (sc dy : Int) : Bool :=
 if op = 4 then dform ng c sc && !ng
 else if op = 5 then decide (l.length ≤ 1000) && ztxt l
 else if op = 6 then dayB dy
 else if op = 7 ∨ op = 24 ∨ op = 25 ∨ op = 28 then nam l
 else if op = 35 then spanB l
 else true
/-- is what it doesn't use nought? -/
def nilP (op : Int) (l : List UInt8) (ng : Bool) (hi lo sc dy : Int) : Bool :=
 (decide (op = 5 ∨ op = 7 ∨ op = 24 ∨ op = 25 ∨ op = 28 ∨ op = 35) || l == []) && (decide (op = 4) || (!ng && hi == 0 && lo == 0 && sc == 0)) && (decide (op = 6) || dy == 0)
def fldB (op : Int) (l : List UInt8) (ng : Bool) (hi lo sc dy : Int) : Bool:=okP op l ng (cI hi lo) sc dy && nilP op l ng hi lo sc dy
def clrT (op : Int) (l : List UInt8) : List UInt8:=if op = 5 ∨ op = 7 ∨ op = 24 ∨ op = 25 ∨ op = 28 ∨ op = 35 then [] else l
def clrD (op dy : Int) : Int:=if op = 6 then 0 else dy
def clrI (op x : Int) : Int:=if op = 4 then 0 else x
def clrB (op : Int) (b : Bool) : Bool:=if op = 4 then false else b
def PlainPost (op a : Int) (l : List UInt8) (ng : Bool) (hi lo sc dy : Int) (w : World) (e : Ending) (w' : World) : Prop :=
 e = .returned (.tuple #[.agg #[.int .i64 op,.int .i64 a,.string ⟨(clrT op l).toArray⟩,.bool (clrB op ng),.int .u64 (clrI op hi),.int .u64 (clrI op lo),.int .i64 (clrI op sc),.int .i64 (clrD op dy)],.bool (okP op l ng (cI hi lo) sc dy)]) ∧ Below w.heap.size w w'
set_option maxHeartbeats 8000000 in
theorem plain_any (op a : Int) (l : List UInt8) (hl : l.length ≤ 9223372036854775807) (ng : Bool) (hi lo sc dy : Int) (h1 : U64 hi) (h2 : U64 lo) (w : World) (hT : Tabs w) : Calls Tryd.prog 37 #[.agg #[.int .i64 op,.int .i64 a,.string ⟨l.toArray⟩,.bool ng,.int .u64 hi,.int .u64 lo,.int .i64 sc,.int .i64 dy]] w (PlainPost op a l ng hi lo sc dy w):=by
 have HF:=Lib.hid (form_any ng (cI hi lo) sc (cI_lt h1 h2))
 rw [cI_hi h1 h2,cI_lo h1 h2] at HF
 have HL:=Lib.hid hl
 have HN:=Lib.hid (name_any l hl)
 have HV:=Lib.hid (valid_any l hl)
 have HT:=Lib.hid hT
 clear h1 h2 hl hT
 unfold PlainPost
 obtain ⟨cT,hcT⟩ : ∃ x,x = clrT op l:=⟨_,rfl⟩
 obtain ⟨cB,hcB⟩ : ∃ x,x = clrB op ng:=⟨_,rfl⟩
 obtain ⟨cH,hcH⟩ : ∃ x,x = clrI op hi:=⟨_,rfl⟩
 obtain ⟨cL,hcL⟩ : ∃ x,x = clrI op lo:=⟨_,rfl⟩
 obtain ⟨cS,hcS⟩ : ∃ x,x = clrI op sc:=⟨_,rfl⟩
 obtain ⟨cD,hcD⟩ : ∃ x,x = clrD op dy:=⟨_,rfl⟩
 obtain ⟨ok,hok⟩ : ∃ x,x = okP op l ng (cI hi lo) sc dy:=⟨_,rfl⟩
 rw [← hcT,← hcB,← hcH,← hcL,← hcS,← hcD,← hok]
 have HE : Hid (cT = clrT op l ∧ cB = clrB op ng ∧ cH = clrI op hi ∧ cL = clrI op lo ∧ cS = clrI op sc ∧ cD = clrD op dy ∧ ok = okP op l ng (cI hi lo) sc dy):=Lib.hid ⟨hcT,hcB,hcH,hcL,hcS,hcD,hok⟩
 clear hcT hcB hcH hcL hcS hcD hok
 go_enter Tryd.func37,Tryd.ntmps37
 go_upto_block 0 with fail
 have k1 : Bk ((w.alloc (.cells #[.int .i64 op,.int .i64 a,.string ⟨l.toArray⟩,.bool ng,.int .u64 hi,.int .u64 lo,.int .i64 sc,.int .i64 dy] 45)).alloc (.cells #[.int .i64 0,.int .i64 0,.string ⟨#[]⟩,.bool false,.int .u64 0,.int .u64 0,.int .i64 0,.int .i64 0] 45)) w.heap.size 45 [.int .i64 op,.int .i64 a,.string ⟨l.toArray⟩,.bool ng,.int .u64 hi,.int .u64 lo,.int .i64 sc,.int .i64 dy]:=by (repeat (first|(with_reducible assumption)|((with_reducible refine bkW ?_);(first|rfl|(simp only [wsA,wsS,wsD,wsN];done)))|(with_reducible first|refine bkA ?_ _|refine bkD ?_|refine bkN ?_ _)|((with_reducible refine bkF ?_ ?_ _);focus (simp only [];omega))|((with_reducible refine bkB (by assumption) ?_ ?_);focus (go_size;done))))
 have k2 : Bk ((w.alloc (.cells #[.int .i64 op,.int .i64 a,.string ⟨l.toArray⟩,.bool ng,.int .u64 hi,.int .u64 lo,.int .i64 sc,.int .i64 dy] 45)).alloc (.cells #[.int .i64 0,.int .i64 0,.string ⟨#[]⟩,.bool false,.int .u64 0,.int .u64 0,.int .i64 0,.int .i64 0] 45)) (w.heap.size + 1) 45 [.int .i64 0,.int .i64 0,.string ⟨#[]⟩,.bool false,.int .u64 0,.int .u64 0,.int .i64 0,.int .i64 0]:=by (repeat (first|(with_reducible assumption)|((with_reducible refine bkW ?_);(first|rfl|(simp only [wsA,wsS,wsD,wsN];done)))|(with_reducible first|refine bkA ?_ _|refine bkD ?_|refine bkN ?_ _)|((with_reducible refine bkF ?_ ?_ _);focus (simp only [];omega))|((with_reducible refine bkB (by assumption) ?_ ?_);focus (go_size;done))))
 have hw : Hid (Below w.heap.size w ((w.alloc (.cells #[.int .i64 op,.int .i64 a,.string ⟨l.toArray⟩,.bool ng,.int .u64 hi,.int .u64 lo,.int .i64 sc,.int .i64 dy] 45)).alloc (.cells #[.int .i64 0,.int .i64 0,.string ⟨#[]⟩,.bool false,.int .u64 0,.int .u64 0,.int .i64 0,.int .i64 0] 45))):=Lib.hid (by (repeat' first|(with_reducible first|exact blR _ _|assumption|refine blD ?_|refine blN ?_ _)|((with_reducible first|refine blA ?_ ?_ _|refine blS ?_ ?_ _|refine blT (by assumption) ?_ ?_);focus (go_size;done))))
 generalize (w.alloc (.cells #[.int .i64 op,.int .i64 a,.string ⟨l.toArray⟩,.bool ng,.int .u64 hi,.int .u64 lo,.int .i64 sc,.int .i64 dy] 45)).alloc (.cells #[.int .i64 0,.int .i64 0,.string ⟨#[]⟩,.bool false,.int .u64 0,.int .u64 0,.int .i64 0,.int .i64 0] 45) = w1 at k1 k2 hw ⊢
 have HW:=hw
 have K1:=Lib.hid k1
 have K2:=Lib.hid k2
 have HT1:=Lib.hid (tabs_below HT.out HW.out)
 clear hw k2
 go_cut [4] (fun s4 wx => s4 = .bool ok ∧ Hid (Bk wx w.heap.size 45 [.int .i64 op,.int .i64 a,.string ⟨cT.toArray⟩,.bool cB,.int .u64 cH,.int .u64 cL,.int .i64 cS,.int .i64 cD]) ∧ Hid (Bk wx (w.heap.size + 1) 45 [.int .i64 0,.int .i64 0,.string ⟨#[]⟩,.bool false,.int .u64 0,.int .u64 0,.int .i64 0,.int .i64 0]) ∧ Hid (Below w.heap.size w wx))
 case first =>
  have kc0:=k1.cell 0 rfl
  have kc1:=k1.cell 1 rfl
  have kc2:=k1.cell 2 rfl
  have kc3:=k1.cell 3 rfl
  have kc4:=k1.cell 4 rfl
  have kc5:=k1.cell 5 rfl
  have kc6:=k1.cell 6 rfl
  have kc7:=k1.cell 7 rfl
  have kf0:=k1.frozen 0
  have kf1:=k1.frozen 1
  have kf2:=k1.frozen 2
  have kf3:=k1.frozen 3
  have kf4:=k1.frozen 4
  have kf5:=k1.frozen 5
  have kf6:=k1.frozen 6
  have kf7:=k1.frozen 7
  have kl:=k1.lt
  clear k1
  by_cases q4 : op = 4
  ·subst q4
   obtain rfl : cT = l:=HE.out.1.trans (by first | rfl | (unfold clrT;rw [if_neg (by omega)]))
   obtain rfl : cB = false:=HE.out.2.1.trans (by first | rfl | (unfold clrB;rw [if_neg (by omega)]))
   obtain rfl : cH = 0:=HE.out.2.2.1.trans (by first | rfl | (unfold clrI;rw [if_neg (by omega)]))
   obtain rfl : cL = 0:=HE.out.2.2.2.1.trans (by first | rfl | (unfold clrI;rw [if_neg (by omega)]))
   obtain rfl : cS = 0:=HE.out.2.2.2.2.1.trans (by first | rfl | (unfold clrI;rw [if_neg (by omega)]))
   obtain rfl : cD = dy:=HE.out.2.2.2.2.2.1.trans (by first | rfl | (unfold clrD;rw [if_neg (by omega)]))
   have HO : Hid (ok = (dform ng (cI hi lo) sc && !ng)):=Lib.hid (HE.out.2.2.2.2.2.2.trans (by first | rfl | (unfold okP;rw [if_neg (by omega),if_neg (by omega),if_neg (by omega),if_neg (by omega),if_neg (by omega)])))
   clear HE
   generalize dform ng (cI hi lo) sc = z at HF HO
   go_wp2_with fail
   refine (HF.out _).mono ?_
   rintro _ w2 ⟨rfl,hb2⟩
   have k1:=K1.out.below hb2 K1.out.lt
   have k2:=K2.out.below hb2 K2.out.lt
   have kc0:=k1.cell 0 rfl
   have kc1:=k1.cell 1 rfl
   have kc2:=k1.cell 2 rfl
   have kc3:=k1.cell 3 rfl
   have kc4:=k1.cell 4 rfl
   have kc5:=k1.cell 5 rfl
   have kc6:=k1.cell 6 rfl
   have kc7:=k1.cell 7 rfl
   have kf0:=k1.frozen 0
   have kf1:=k1.frozen 1
   have kf2:=k1.frozen 2
   have kf3:=k1.frozen 3
   have kf4:=k1.frozen 4
   have kf5:=k1.frozen 5
   have kf6:=k1.frozen 6
   have kf7:=k1.frozen 7
   have kl:=k1.lt
   have J1:=Lib.hid k1
   have J2:=Lib.hid k2
   have hw2 : Hid (Below w.heap.size w w2):=Lib.hid (HW.out.trans (hb2.mono (Nat.le_of_lt K1.out.lt)))
   clear k1 k2 hb2
   cases z <;> cases ng
   all_goals go_wp2_with fail
   all_goals go_meet
   all_goals exact ⟨by rw [HO.out];rfl,Lib.hid ((((J1.out.set_ 3 _).set_ 4 _).set_ 5 _).set_ 6 _),Lib.hid ((((J2.out.far (by show w.heap.size + 1 ≠ w.heap.size;omega) _).far (by show w.heap.size + 1 ≠ w.heap.size;omega) _).far (by show w.heap.size + 1 ≠ w.heap.size;omega) _).far (by show w.heap.size + 1 ≠ w.heap.size;omega) _),Lib.hid ((((hw2.out.setCell (Nat.le_refl _) _).setCell (Nat.le_refl _) _).setCell (Nat.le_refl _) _).setCell (Nat.le_refl _) _)⟩
  by_cases q5 : op = 5
  ·subst q5
   obtain rfl : cT = []:=HE.out.1.trans (by first | rfl | (unfold clrT;rw [if_neg (by omega)]))
   obtain rfl : cB = ng:=HE.out.2.1.trans (by first | rfl | (unfold clrB;rw [if_neg (by omega)]))
   obtain rfl : cH = hi:=HE.out.2.2.1.trans (by first | rfl | (unfold clrI;rw [if_neg (by omega)]))
   obtain rfl : cL = lo:=HE.out.2.2.2.1.trans (by first | rfl | (unfold clrI;rw [if_neg (by omega)]))
   obtain rfl : cS = sc:=HE.out.2.2.2.2.1.trans (by first | rfl | (unfold clrI;rw [if_neg (by omega)]))
   obtain rfl : cD = dy:=HE.out.2.2.2.2.2.1.trans (by first | rfl | (unfold clrD;rw [if_neg (by omega)]))
   have HO : Hid (ok = (decide (l.length ≤ 1000) && ztxt l)):=Lib.hid (HE.out.2.2.2.2.2.2.trans (by first | rfl | (unfold okP;rw [if_neg (by omega),if_neg (by omega),if_neg (by omega),if_neg (by omega),if_neg (by omega)])))
   clear HE
   by_cases hlen : l.length ≤ 1000
   ·have HO : Hid (ok = ztxt l):=Lib.hid (by rw [HO.out,decide_eq_true hlen,Bool.true_and])
    have hlen2 : (l.length : Int) ≤ 1000:=by omega
    clear hlen
    go_wp2_with fail
    refine (HV.out _ HT1.out).mono ?_
    rintro _ w2 ⟨rfl,hb2⟩
    have k1:=K1.out.below hb2 K1.out.lt
    have k2:=K2.out.below hb2 K2.out.lt
    have kc0:=k1.cell 0 rfl
    have kc1:=k1.cell 1 rfl
    have kc2:=k1.cell 2 rfl
    have kc3:=k1.cell 3 rfl
    have kc4:=k1.cell 4 rfl
    have kc5:=k1.cell 5 rfl
    have kc6:=k1.cell 6 rfl
    have kc7:=k1.cell 7 rfl
    have kf0:=k1.frozen 0
    have kf1:=k1.frozen 1
    have kf2:=k1.frozen 2
    have kf3:=k1.frozen 3
    have kf4:=k1.frozen 4
    have kf5:=k1.frozen 5
    have kf6:=k1.frozen 6
    have kf7:=k1.frozen 7
    have kl:=k1.lt
    have J1:=Lib.hid k1
    have J2:=Lib.hid k2
    have hw2 : Hid (Below w.heap.size w w2):=Lib.hid (HW.out.trans (hb2.mono (Nat.le_of_lt K1.out.lt)))
    clear k1 k2 hb2
    go_wp2_with fail
    go_meet
    exact ⟨by rw [HO.out],Lib.hid (J1.out.set_ 2 _),Lib.hid (J2.out.far (by show w.heap.size + 1 ≠ w.heap.size;omega) _),Lib.hid (hw2.out.setCell (Nat.le_refl _) _)⟩
   ·have HO : Hid (ok = false):=Lib.hid (by rw [HO.out,decide_eq_false hlen,Bool.false_and])
    have hlen2 : (1000 : Int) < l.length:=by omega
    clear hlen
    have J1:=K1
    have J2:=K2
    have hw2:=HW
    go_wp2_with fail
    go_meet
    exact ⟨by rw [HO.out],Lib.hid (J1.out.set_ 2 _),Lib.hid (J2.out.far (by show w.heap.size + 1 ≠ w.heap.size;omega) _),Lib.hid (hw2.out.setCell (Nat.le_refl _) _)⟩
  by_cases q6 : op = 6
  ·subst q6
   obtain rfl : cT = l:=HE.out.1.trans (by first | rfl | (unfold clrT;rw [if_neg (by omega)]))
   obtain rfl : cB = ng:=HE.out.2.1.trans (by first | rfl | (unfold clrB;rw [if_neg (by omega)]))
   obtain rfl : cH = hi:=HE.out.2.2.1.trans (by first | rfl | (unfold clrI;rw [if_neg (by omega)]))
   obtain rfl : cL = lo:=HE.out.2.2.2.1.trans (by first | rfl | (unfold clrI;rw [if_neg (by omega)]))
   obtain rfl : cS = sc:=HE.out.2.2.2.2.1.trans (by first | rfl | (unfold clrI;rw [if_neg (by omega)]))
   obtain rfl : cD = 0:=HE.out.2.2.2.2.2.1.trans (by first | rfl | (unfold clrD;rw [if_neg (by omega)]))
   have HO : Hid (ok = (dayB dy)):=Lib.hid (HE.out.2.2.2.2.2.2.trans (by first | rfl | (unfold okP;rw [if_neg (by omega),if_neg (by omega),if_neg (by omega),if_neg (by omega),if_neg (by omega)])))
   clear HE
   have J1:=K1
   have J2:=K2
   have hw2:=HW
   by_cases d1 : 1 ≤ dy
   ·by_cases d2 : dy ≤ 3652059
    ·have HO : Hid (ok = true):=Lib.hid (by rw [HO.out];exact decide_eq_true ⟨d1,d2⟩)
     go_wp2_with fail
     go_meet
     exact ⟨by rw [HO.out],Lib.hid (J1.out.set_ 7 _),Lib.hid (J2.out.far (by show w.heap.size + 1 ≠ w.heap.size;omega) _),Lib.hid (hw2.out.setCell (Nat.le_refl _) _)⟩
    ·have d3 : 3652059 < dy:=by omega
     have HO : Hid (ok = false):=Lib.hid (by rw [HO.out];exact decide_eq_false (fun h => d2 h.2))
     clear d2
     go_wp2_with fail
     go_meet
     exact ⟨by rw [HO.out];exact congrArg Value.bool (decide_eq_false (by omega)),Lib.hid (J1.out.set_ 7 _),Lib.hid (J2.out.far (by show w.heap.size + 1 ≠ w.heap.size;omega) _),Lib.hid (hw2.out.setCell (Nat.le_refl _) _)⟩
   ·have d3 : dy < 1:=by omega
    have HO : Hid (ok = false):=Lib.hid (by rw [HO.out];exact decide_eq_false (fun h => d1 h.1))
    clear d1
    go_wp2_with fail
    go_meet
    exact ⟨by rw [HO.out],Lib.hid (J1.out.set_ 7 _),Lib.hid (J2.out.far (by show w.heap.size + 1 ≠ w.heap.size;omega) _),Lib.hid (hw2.out.setCell (Nat.le_refl _) _)⟩
  by_cases q7 : op = 7
  ·subst q7
   have hq2 : (7 : Int) = 7:=rfl
   clear hq2
   obtain rfl : cT = []:=HE.out.1.trans (by first | rfl | (unfold clrT;rw [if_neg (by omega)]))
   obtain rfl : cB = ng:=HE.out.2.1.trans (by first | rfl | (unfold clrB;rw [if_neg (by omega)]))
   obtain rfl : cH = hi:=HE.out.2.2.1.trans (by first | rfl | (unfold clrI;rw [if_neg (by omega)]))
   obtain rfl : cL = lo:=HE.out.2.2.2.1.trans (by first | rfl | (unfold clrI;rw [if_neg (by omega)]))
   obtain rfl : cS = sc:=HE.out.2.2.2.2.1.trans (by first | rfl | (unfold clrI;rw [if_neg (by omega)]))
   obtain rfl : cD = dy:=HE.out.2.2.2.2.2.1.trans (by first | rfl | (unfold clrD;rw [if_neg (by omega)]))
   have HO : Hid (ok = (nam l)):=Lib.hid (HE.out.2.2.2.2.2.2.trans (by first | rfl | (unfold okP;rw [if_neg (by omega),if_neg (by omega),if_neg (by omega),if_neg (by omega),if_neg (by omega)])))
   clear HE
   go_wp2_with fail
   refine (HN.out _).mono ?_
   rintro _ _ ⟨rfl,rfl⟩
   have J1:=K1
   have J2:=K2
   have hw2:=HW
   go_wp2_with fail
   go_meet
   exact ⟨by rw [HO.out],Lib.hid (J1.out.set_ 2 _),Lib.hid (J2.out.far (by show w.heap.size + 1 ≠ w.heap.size;omega) _),Lib.hid (hw2.out.setCell (Nat.le_refl _) _)⟩
  by_cases q8 : op = 24
  ·subst q8
   have hq2 : (24 : Int) = 24:=rfl
   clear hq2
   obtain rfl : cT = []:=HE.out.1.trans (by first | rfl | (unfold clrT;rw [if_neg (by omega)]))
   obtain rfl : cB = ng:=HE.out.2.1.trans (by first | rfl | (unfold clrB;rw [if_neg (by omega)]))
   obtain rfl : cH = hi:=HE.out.2.2.1.trans (by first | rfl | (unfold clrI;rw [if_neg (by omega)]))
   obtain rfl : cL = lo:=HE.out.2.2.2.1.trans (by first | rfl | (unfold clrI;rw [if_neg (by omega)]))
   obtain rfl : cS = sc:=HE.out.2.2.2.2.1.trans (by first | rfl | (unfold clrI;rw [if_neg (by omega)]))
   obtain rfl : cD = dy:=HE.out.2.2.2.2.2.1.trans (by first | rfl | (unfold clrD;rw [if_neg (by omega)]))
   have HO : Hid (ok = (nam l)):=Lib.hid (HE.out.2.2.2.2.2.2.trans (by first | rfl | (unfold okP;rw [if_neg (by omega),if_neg (by omega),if_neg (by omega),if_neg (by omega),if_neg (by omega)])))
   clear HE
   go_wp2_with fail
   refine (HN.out _).mono ?_
   rintro _ _ ⟨rfl,rfl⟩
   have J1:=K1
   have J2:=K2
   have hw2:=HW
   go_wp2_with fail
   go_meet
   exact ⟨by rw [HO.out],Lib.hid (J1.out.set_ 2 _),Lib.hid (J2.out.far (by show w.heap.size + 1 ≠ w.heap.size;omega) _),Lib.hid (hw2.out.setCell (Nat.le_refl _) _)⟩
  by_cases q9 : op = 25
  ·subst q9
   have hq2 : (25 : Int) = 25:=rfl
   clear hq2
   obtain rfl : cT = []:=HE.out.1.trans (by first | rfl | (unfold clrT;rw [if_neg (by omega)]))
   obtain rfl : cB = ng:=HE.out.2.1.trans (by first | rfl | (unfold clrB;rw [if_neg (by omega)]))
   obtain rfl : cH = hi:=HE.out.2.2.1.trans (by first | rfl | (unfold clrI;rw [if_neg (by omega)]))
   obtain rfl : cL = lo:=HE.out.2.2.2.1.trans (by first | rfl | (unfold clrI;rw [if_neg (by omega)]))
   obtain rfl : cS = sc:=HE.out.2.2.2.2.1.trans (by first | rfl | (unfold clrI;rw [if_neg (by omega)]))
   obtain rfl : cD = dy:=HE.out.2.2.2.2.2.1.trans (by first | rfl | (unfold clrD;rw [if_neg (by omega)]))
   have HO : Hid (ok = (nam l)):=Lib.hid (HE.out.2.2.2.2.2.2.trans (by first | rfl | (unfold okP;rw [if_neg (by omega),if_neg (by omega),if_neg (by omega),if_neg (by omega),if_neg (by omega)])))
   clear HE
   go_wp2_with fail
   refine (HN.out _).mono ?_
   rintro _ _ ⟨rfl,rfl⟩
   have J1:=K1
   have J2:=K2
   have hw2:=HW
   go_wp2_with fail
   go_meet
   exact ⟨by rw [HO.out],Lib.hid (J1.out.set_ 2 _),Lib.hid (J2.out.far (by show w.heap.size + 1 ≠ w.heap.size;omega) _),Lib.hid (hw2.out.setCell (Nat.le_refl _) _)⟩
  by_cases q10 : op = 28
  ·subst q10
   have hq2 : (28 : Int) = 28:=rfl
   clear hq2
   obtain rfl : cT = []:=HE.out.1.trans (by first | rfl | (unfold clrT;rw [if_neg (by omega)]))
   obtain rfl : cB = ng:=HE.out.2.1.trans (by first | rfl | (unfold clrB;rw [if_neg (by omega)]))
   obtain rfl : cH = hi:=HE.out.2.2.1.trans (by first | rfl | (unfold clrI;rw [if_neg (by omega)]))
   obtain rfl : cL = lo:=HE.out.2.2.2.1.trans (by first | rfl | (unfold clrI;rw [if_neg (by omega)]))
   obtain rfl : cS = sc:=HE.out.2.2.2.2.1.trans (by first | rfl | (unfold clrI;rw [if_neg (by omega)]))
   obtain rfl : cD = dy:=HE.out.2.2.2.2.2.1.trans (by first | rfl | (unfold clrD;rw [if_neg (by omega)]))
   have HO : Hid (ok = (nam l)):=Lib.hid (HE.out.2.2.2.2.2.2.trans (by first | rfl | (unfold okP;rw [if_neg (by omega),if_neg (by omega),if_neg (by omega),if_neg (by omega),if_neg (by omega)])))
   clear HE
   go_wp2_with fail
   refine (HN.out _).mono ?_
   rintro _ _ ⟨rfl,rfl⟩
   have J1:=K1
   have J2:=K2
   have hw2:=HW
   go_wp2_with fail
   go_meet
   exact ⟨by rw [HO.out],Lib.hid (J1.out.set_ 2 _),Lib.hid (J2.out.far (by show w.heap.size + 1 ≠ w.heap.size;omega) _),Lib.hid (hw2.out.setCell (Nat.le_refl _) _)⟩
  have J1:=K1
  have J2:=K2
  have hw2:=HW
  by_cases q11 : op = 35
  ·subst q11
   obtain rfl : cT = []:=HE.out.1.trans (by first | rfl | (unfold clrT;rw [if_neg (by omega)]))
   obtain rfl : cB = ng:=HE.out.2.1.trans (by first | rfl | (unfold clrB;rw [if_neg (by omega)]))
   obtain rfl : cH = hi:=HE.out.2.2.1.trans (by first | rfl | (unfold clrI;rw [if_neg (by omega)]))
   obtain rfl : cL = lo:=HE.out.2.2.2.1.trans (by first | rfl | (unfold clrI;rw [if_neg (by omega)]))
   obtain rfl : cS = sc:=HE.out.2.2.2.2.1.trans (by first | rfl | (unfold clrI;rw [if_neg (by omega)]))
   obtain rfl : cD = dy:=HE.out.2.2.2.2.2.1.trans (by first | rfl | (unfold clrD;rw [if_neg (by omega)]))
   have HO : Hid (ok = (spanB l)):=Lib.hid (HE.out.2.2.2.2.2.2.trans (by first | rfl | (unfold okP;rw [if_neg (by omega),if_neg (by omega),if_neg (by omega),if_neg (by omega),if_neg (by omega)])))
   clear HE
   by_cases s0 : l = [91,93]
   ·subst s0
    go_wp2_with fail
    go_meet
    exact ⟨by rw [HO.out];rfl,Lib.hid (J1.out.set_ 2 _),Lib.hid (J2.out.far (by show w.heap.size + 1 ≠ w.heap.size;omega) _),Lib.hid (hw2.out.setCell (Nat.le_refl _) _)⟩
   by_cases s1 : l = [91,41]
   ·subst s1
    go_wp2_with fail
    go_meet
    exact ⟨by rw [HO.out];rfl,Lib.hid (J1.out.set_ 2 _),Lib.hid (J2.out.far (by show w.heap.size + 1 ≠ w.heap.size;omega) _),Lib.hid (hw2.out.setCell (Nat.le_refl _) _)⟩
   by_cases s2 : l = [40,93]
   ·subst s2
    go_wp2_with fail
    go_meet
    exact ⟨by rw [HO.out];rfl,Lib.hid (J1.out.set_ 2 _),Lib.hid (J2.out.far (by show w.heap.size + 1 ≠ w.heap.size;omega) _),Lib.hid (hw2.out.setCell (Nat.le_refl _) _)⟩
   go_wp2_with fail
   all_goals go_meet
   all_goals exact ⟨by rw [HO.out];simp [spanB, *],Lib.hid (J1.out.set_ 2 _),Lib.hid (J2.out.far (by show w.heap.size + 1 ≠ w.heap.size;omega) _),Lib.hid (hw2.out.setCell (Nat.le_refl _) _)⟩
  ·have tokx : True:=trivial
   clear tokx
   obtain rfl : cT = l:=HE.out.1.trans (by first | rfl | (unfold clrT;rw [if_neg (by omega)]))
   obtain rfl : cB = ng:=HE.out.2.1.trans (by first | rfl | (unfold clrB;rw [if_neg (by omega)]))
   obtain rfl : cH = hi:=HE.out.2.2.1.trans (by first | rfl | (unfold clrI;rw [if_neg (by omega)]))
   obtain rfl : cL = lo:=HE.out.2.2.2.1.trans (by first | rfl | (unfold clrI;rw [if_neg (by omega)]))
   obtain rfl : cS = sc:=HE.out.2.2.2.2.1.trans (by first | rfl | (unfold clrI;rw [if_neg (by omega)]))
   obtain rfl : cD = dy:=HE.out.2.2.2.2.2.1.trans (by first | rfl | (unfold clrD;rw [if_neg (by omega)]))
   have HO : Hid (ok = true):=Lib.hid (HE.out.2.2.2.2.2.2.trans (by first | rfl | (unfold okP;rw [if_neg (by omega),if_neg (by omega),if_neg (by omega),if_neg (by omega),if_neg (by omega)])))
   clear HE
   have r4 : (op == 4) = false:=by rw [beq_eq_false_iff_ne];exact q4
   have r5 : (op == 5) = false:=by rw [beq_eq_false_iff_ne];exact q5
   have r6 : (op == 6) = false:=by rw [beq_eq_false_iff_ne];exact q6
   have r7 : (op == 7) = false:=by rw [beq_eq_false_iff_ne];exact q7
   have r8 : (op == 24) = false:=by rw [beq_eq_false_iff_ne];exact q8
   have r9 : (op == 25) = false:=by rw [beq_eq_false_iff_ne];exact q9
   have r10 : (op == 28) = false:=by rw [beq_eq_false_iff_ne];exact q10
   have r11 : (op == 35) = false:=by rw [beq_eq_false_iff_ne];exact q11
   clear q4 q5 q6 q7 q8 q9 q10 q11
   go_wp2_with fail
   go_meet
   exact ⟨by rw [HO.out],J1,J2,hw2⟩
 case rest =>
  obtain ⟨rfl,K1,K2,HW⟩:=hcut
  have k1:=K1.out
  have k2:=K2.out
  have kc0:=k1.cell 0 rfl
  have kc1:=k1.cell 1 rfl
  have kc2:=k1.cell 2 rfl
  have kc3:=k1.cell 3 rfl
  have kc4:=k1.cell 4 rfl
  have kc5:=k1.cell 5 rfl
  have kc6:=k1.cell 6 rfl
  have kc7:=k1.cell 7 rfl
  have kf0:=k1.frozen 0
  have kf1:=k1.frozen 1
  have kf2:=k1.frozen 2
  have kf3:=k1.frozen 3
  have kf4:=k1.frozen 4
  have kf5:=k1.frozen 5
  have kf6:=k1.frozen 6
  have kf7:=k1.frozen 7
  have kl:=k1.lt
  have jc0:=k2.cell 0 rfl
  have jc1:=k2.cell 1 rfl
  have jc2:=k2.cell 2 rfl
  have jc3:=k2.cell 3 rfl
  have jc4:=k2.cell 4 rfl
  have jc5:=k2.cell 5 rfl
  have jc6:=k2.cell 6 rfl
  have jc7:=k2.cell 7 rfl
  have jf0:=k2.frozen 0
  have jf1:=k2.frozen 1
  have jf2:=k2.frozen 2
  have jf3:=k2.frozen 3
  have jf4:=k2.frozen 4
  have jf5:=k2.frozen 5
  have jf6:=k2.frozen 6
  have jf7:=k2.frozen 7
  have jl:=k2.lt
  have hw:=HW.out
  clear K1 K2 k1 k2 HW HE HF HN HV HT
  go_wp2_with fail
  refine bodyPost_ret (v:=.tuple #[.agg #[.int .i64 op,.int .i64 a,.string ⟨cT.toArray⟩,.bool cB,.int .u64 cH,.int .u64 cL,.int .i64 cS,.int .i64 cD],.bool ok]) ?_ rfl ⟨rfl,by (repeat' first|(with_reducible first|exact blR _ _|assumption|refine blD ?_|refine blN ?_ _)|((with_reducible first|refine blA ?_ ?_ _|refine blS ?_ ?_ _|refine blT (by assumption) ?_ ?_);focus (go_size;done)))⟩
  rw [results_cell_tmp rfl]
  go_simp
end Go.Proofs.YtnhmplfonkjfoaaDoor



namespace Go.Proofs.YtnhmplfonkjfoaaDoor
open Go.RowKit

theorem Ro.cut {w : World} {o : Nat → Nat} {l k n C : Nat} {t : TypeId} {A : Option Addr} {cs : List Value} (h : Ro w o l t k (.slice A n C) n cs) {m : Nat} (hm : m ≤ n) : Ro w o l t k (.slice A m C) m (cs.take (m * k)):=by
 have hlen:=h.1.1
 rcases h.1.2 with ⟨hv,h0⟩ | ⟨g,cap,cur,hv,_,hg,h1,h2,h3,h4⟩
 ·obtain rfl : m = 0:=by omega
  injection hv with e1 e2 e3
  subst e1 e3
  rw [Nat.zero_mul,List.take_zero]
  exact Ro.nil _ _ _ _ _
 ·injection hv with e1 e2 e3
  subst e1 e3
  refine Ro.of_block (cur:=cur.toList) ⟨by unfold Bk;simpa using hg,h.2 g rfl⟩ (by omega) h2 (by simpa using h3) ?_
  rw [← h4,List.take_take,Nat.min_eq_left (Nat.mul_le_mul_right _ hm)]
def ths (st : List Th) : List Value:=st.flatMap thc
def tg (st : List Th) (r : Nat) : Th:=st.getD r (0,0,0)
theorem ths_take : ∀ (l : List Th) (m : Nat),(ths l).take (m * 3) = ths (l.take m)
 | [],m => by simp [ths]
 | x :: l,0 => by simp [ths]
 | x :: l,m + 1 => by
  have e1 : (m + 1) * 3 = m * 3 + 3:=by omega
  rw [e1]
  show (thc x ++ ths l).take (m * 3 + 3) = thc x ++ ths (l.take m)
  rw [← ths_take l m]
  rfl
theorem ths_push (l : List Th) (x : Th) : ths (l ++ [x]) = ths l ++ thc x:=by
 unfold ths;rw [List.flatMap_append];simp
theorem ths_get : ∀ (l : List Th) (r : Nat),r < l.length → (ths l)[r * 3]? = some (.int .i64 (tg l r).1) ∧ (ths l)[r * 3 + 1]? = some (.int .i64 (tg l r).2.1) ∧ (ths l)[r * 3 + 2]? = some (.int .i64 (tg l r).2.2)
 | [],r,h => absurd h (by simp)
 | x :: l,0,_ => ⟨rfl,rfl,rfl⟩
 | x :: l,r + 1,h => by
  obtain ⟨a,b,c⟩:=ths_get l r (by simpa using h)
  have e1 : (r + 1) * 3 = r * 3 + 3:=by omega
  rw [e1]
  exact ⟨a,b,c⟩
/-- the greatest depth of the first n things -/
def thDep (f : Nat → Th) : Nat → Int
 | 0 => 0
 | n + 1 => max (thDep f n) (f n).2.1
/-- are the first n parts of the sorts that the operation wants? -/
def sortsP (op : Int) (f : Nat → Th) (n : Nat) : Prop:=∀ k,k < n → (f k).1 = wantD op k
/-- the cut: how many things stay -/
def cutN (i : InsD) (st : List Th) : Nat:=st.length - i.a.toNat
def partF (i : InsD) (st : List Th) (k : Nat) : Th:=tg st (cutN i st + k)
def txI (i : InsD) : List UInt8:=i.tx.data.toList
def fldI (i : InsD) : Bool:=fldB i.op (txI i) i.ng i.hi i.lo i.sc i.dy
def nodeP (is : List InsD) (i : InsD) (st : List Th) : Prop :=
 fldI i = true ∧ kidsB i.op i.a = true ∧ i.a ≤ st.length ∧ sortsP i.op (partF i st) i.a.toNat ∧ ¬ (i.op = 27 ∧ twF (fun r => (ig is (partF i st r).2.2).tx) i.a.toNat = true)
def stepT (i : InsD) (r : Nat) (st : List Th) : List Th:=st.take (cutN i st) ++ [(sortD i.op,thDep (partF i st) i.a.toNat + 1,r)]
open Classical in
/-- Check's walk: the stack and the greatest depth -/
noncomputable def cGo (is : List InsD) : Nat → Nat → List Th → Int → Option (List Th × Int)
 | 0,_,st,d => some (st,d)
 | n + 1,r,st,d => if nodeP is (ig is r) st then cGo is n (r + 1) (stepT (ig is r) r st) (max d (thDep (partF (ig is r) st) (ig is r).a.toNat + 1)) else none
def endC (b : Bool) (x : Option (List Th × Int)) : Int :=
 match x with
 | none => 2
 | some (st,d) => if st.length ≠ 1 ∨ (b = true ∧ (tg st 0).1 ≠ 4 ∧ (tg st 0).1 ≠ 5) ∨ (b = false ∧ (tg st 0).1 ≠ 1) then 2 else if 40 < d then 7 else 0
noncomputable def chkP (is : List InsD) (b : Bool) : Int:=if 300 < is.length then 6 else endC b (cGo is is.length 0 [] 0)
theorem kids_pos {op n : Int} (h : kidsB op n = true) : 0 ≤ n:=by
 have h:=of_decide_eq_true h
 have : 0 ≤ (arD op).1:=by
  unfold arD
  repeat' split
  all_goals decide
 omega
theorem cGo_no {is : List InsD} {n r : Nat} {st : List Th} {d : Int} (h : ¬ nodeP is (ig is r) st) : cGo is (n + 1) r st d = none:=by
 unfold cGo;exact if_neg h
theorem cGo_yes {is : List InsD} {n r : Nat} {st : List Th} {d : Int} (h : nodeP is (ig is r) st) : cGo is (n + 1) r st d = cGo is n (r + 1) (stepT (ig is r) r st) (max d (thDep (partF (ig is r) st) (ig is r).a.toNat + 1)):=by
 rw [cGo];exact if_pos h
end Go.Proofs.YtnhmplfonkjfoaaDoor



namespace Go.Proofs.YtnhmplfonkjfoaaDoor
open Go.RowKit

theorem IsDg.one : IsDg [1] 1:=⟨by intro d hd;rw [List.mem_singleton.1 hd];decide,by simp [Top],rfl⟩
end Go.Proofs.YtnhmplfonkjfoaaDoor



namespace Go.Proofs.YtnhmplfonkjfoaaDoor
open Go.RowKit

theorem nilP_eq (op : Int) (l : List UInt8) (ng : Bool) (hi lo sc dy : Int) : nilP op l ng hi lo sc dy = ((clrT op l == []) && ((!clrB op ng && (clrI op hi == 0 && (clrI op lo == 0 && clrI op sc == 0))) && clrD op dy == 0)):=by
 unfold nilP clrT clrB clrI clrD
 by_cases h1 : op = 5 ∨ op = 7 ∨ op = 24 ∨ op = 25 ∨ op = 28 ∨ op = 35
 ·have h2 : op ≠ 4:=by omega
  have h3 : op ≠ 6:=by omega
  simp only [if_pos h1,if_neg h2,if_neg h3,decide_eq_true h1,decide_eq_false h2,decide_eq_false h3]
  simp [Bool.and_assoc]
 ·by_cases h2 : op = 4
  ·subst h2
   simp
  ·by_cases h3 : op = 6
   ·subst h3
    simp [Bool.and_assoc]
   ·simp only [if_neg h1,if_neg h2,if_neg h3,decide_eq_false h1,decide_eq_false h2,decide_eq_false h3]
    simp [Bool.and_assoc]
end Go.Proofs.YtnhmplfonkjfoaaDoor



namespace Go.Proofs.YtnhmplfonkjfoaaDoor
open Go.RowKit

theorem Ro.cap {w : World} {o : Nat → Nat} {l k n C : Nat} {t : TypeId} {A : Option Addr} {cs : List Value} (h : Ro w o l t k (.slice A n C) n cs) : n ≤ C ∧ C ≤ maxLen:=by
 rcases h.1.2 with ⟨hv,h0⟩ | ⟨g,cap,cur,hv,_,hg,h1,h2,h3,h4⟩
 ·injection hv with e1 e2 e3
  subst e3
  exact ⟨by omega,Nat.zero_le _⟩
 ·injection hv with e1 e2 e3
  subst e3
  exact ⟨h1,h2⟩
theorem Ro.addr {w : World} {o : Nat → Nat} {l k n C : Nat} {t : TypeId} {A : Option Addr} {cs : List Value} (h : Ro w o l t k (.slice A n C) n cs) (hC : 0 < C) : ∃ g,A = some ⟨g,0,none⟩:=by
 rcases h.1.2 with ⟨hv,h0⟩ | ⟨g,cap,cur,hv,_⟩
 ·injection hv with e1 e2 e3
  omega
 ·injection hv with e1 e2 e3
  exact ⟨g,e1⟩
theorem Ro.part {w : World} {o : Nat → Nat} {l g n C : Nat} {st : List Th} (h : Ro w o l 88 3 (.slice (some ⟨g,0,none⟩) st.length C) st.length (ths st)) {an : Nat} (hn : n = st.length) (ha : an ≤ n) (C6 : Nat) (h6 : an ≤ maxLen) :
  Lsn 3 (fun k => thc (tg st (n - an + k))) w (.slice (some ⟨g,(n - an) * 3,none⟩) an C6) an:=by
 refine ⟨_,_,rfl,h6,fun r hr => ⟨g,(n - an) * 3,rfl, ?_⟩⟩
 obtain ⟨A,C',h1,_,h2,h4⟩:=h.sl
 injection h1 with e1 e2 e3
 subst e1
 obtain ⟨q0,q1,q2⟩:=ths_get st (n - an + r) (by omega)
 have hk : ∀ j,j < 3 → w.cell? ⟨g,(n - an) * 3 + r * 3 + j,none⟩ = (ths st)[(n - an + r) * 3 + j]?:=fun j hj => by
  obtain ⟨b,o',e,h5⟩:=h4 ((n - an + r) * 3 + j) (by omega)
  injection e with e
  injection e with e1 e2
  subst e1 e2
  rw [Nat.zero_add] at h5
  rw [← h5]
  congr 2
  omega
 intro j hj
 have hj' : j = 0 ∨ j = 1 ∨ j = 2:=by have : j < 3:=hj;omega
 have e:=hk j hj
 rcases hj' with rfl | rfl | rfl
 ·rw [e];exact q0
 ·rw [e];exact q1
 ·rw [e];exact q2
theorem news3_new (w : World) (x y z : Value) (t : TypeId) : ∀ (j : Nat) (u : Value),[x,y,z][j]? = some u → (w.alloc (.cells #[x,y,z] t)).cell? ((⟨w.heap.size,0,none⟩ : Addr).add j) = some u:=fun j u hj => by
 have hb:=Bk.new w t [x,y,z]
 match j with
 | 0 => exact hb.cell 0 hj
 | 1 => exact hb.cell 1 hj
 | 2 => exact hb.cell 2 hj
 | j + 3 => simp at hj
theorem news3_newd (w : World) (x y z : Value) (t : TypeId) : ∀ (j : Nat) (u : Value),[x,y,z][j]? = some u → ((w.alloc (.cells #[x,y,z] t)).drew).cell? ((⟨w.heap.size,0,none⟩ : Addr).add j) = some u:=news3_new w x y z t
theorem three_cells (a b c : Int) : ∀ u ∈ [Value.int .i64 a,Value.int .i64 b,Value.int .i64 c],u.oneCell' = true:=fun u hu => by
 simp only [List.mem_cons,List.mem_nil_iff,or_false] at hu
 rcases hu with rfl | rfl | rfl <;> rfl
theorem info_thing : (Tryd.prog.info? 88).map (fun i => (i.zero,i.size,i.bytes)) = some (some (.agg #[.int .i64 0,.int .i64 0,.int .i64 0]),3,24):=by kernel_rfl
theorem tg_new {st : List Th} {x : Th} {m r : Nat} (hm : m ≤ st.length) (hr : r < (st.take m ++ [x]).length) : (r < m ∧ tg (st.take m ++ [x]) r = tg st r) ∨ tg (st.take m ++ [x]) r = x:=by
 have hl : (st.take m).length = m:=by rw [List.length_take];omega
 rw [List.length_append,hl] at hr
 have hr : r < m + 1:=hr
 unfold tg
 rw [List.getD_eq_getElem?_getD,List.getD_eq_getElem?_getD]
 by_cases h : r < m
 ·left
  refine ⟨h, ?_⟩
  rw [List.getElem?_append_left (by omega),List.getElem?_take_of_lt h]
 ·right
  obtain rfl : r = m:=by omega
  rw [List.getElem?_append_right (by omega),hl,Nat.sub_self]
  rfl
/-- the walk's memory: old blocks bear 0, the stack's 1, the others 2 -/
structure Ckm (w0 : World) (o : Nat → Nat) (wr : World) (v : Value) (st : List Th) : Prop where
 row : Ro wr o 1 88 3 v st.length (ths st)
 turn : Turn (fun l => l ≠ 0) w0 (fun _ => 0) wr o
section
variable {w0 wr w' : World} {o : Nat → Nat} {v : Value} {st : List Th}
theorem Ckm.below (h : Ckm w0 o wr v st) : Below w0.heap.size w0 wr:=h.turn.below (fun _ _ => by simp) (Nat.le_refl _)
theorem Ckm.drewN (h : Ckm w0 o wr v st) (n : Nat) : Ckm w0 o (wr.drewN n) v st:=⟨h.row.drewN n,h.turn.drewN n⟩
theorem Ckm.kept (h : Ckm w0 o wr v st) (hb : Below wr.heap.size wr w') : Ckm w0 (relabel o wr.heap.size 2) w' v st:=by
 have t : Turn (fun _ => False) wr o w' (relabel o wr.heap.size 2):=⟨hb.os,hb.tape,hb.output,hb.size,fun k hk => relabel_old hk,fun k hk _ => hb.block k hk⟩
 exact ⟨h.row.turn t (fun hh => hh),h.turn.trans (t.mono fun l hl => hl.elim)⟩
end
def GoodI (i : InsD) : Prop:=U64 i.hi ∧ U64 i.lo ∧ (txI i).length ≤ 9223372036854775807
theorem tx_eq (i : InsD) : i.tx = ⟨(txI i).toArray⟩:=by unfold txI;simp
set_option maxRecDepth 100000 in
theorem neq_dec0 (b : Bool) (x y s : Int) (W : World) : (binOp .neq 41 (.agg #[.bool b,.int .u64 x,.int .u64 y,.int .i64 s]) (.agg #[.bool false,.int .u64 0,.int .u64 0,.int .i64 0])).run Tryd.prog W = .ok (.bool (!(!b && (x == 0 && (y == 0 && s == 0))))) W:=by
 go_simp
 by_cases h1 : x = 0 <;> by_cases h2 : y = 0 <;> by_cases h3 : s = 0 <;> cases b <;> simp [h1,h2,h3]
theorem check_long (is : List InsD) (v : Value) (b : Bool) (w : World) (h : Cod w v is) (hl : 300 < is.length) : Calls Tryd.prog 21 #[v,.bool b] w fun e w' => e = .returned (.int .i64 (chkP is b)) ∧ Below w.heap.size w w':=by
 have HR : Hid (chkP is b = 6):=Lib.hid (by unfold chkP;rw [if_pos hl])
 obtain ⟨A,C,rfl,h2,h3⟩:=h
 have hl2 : (300 : Int) < (is.length : Int):=by omega
 clear h3 h2
 go_enter Tryd.func21,Tryd.ntmps21
 go_wp2_with fail
 go_ret
 exact ⟨by rw [HR.out];rfl,Below.refl _ _⟩
set_option maxRecDepth 100000 in
set_option maxHeartbeats 8000000 in
theorem check_in (is : List InsD) (v : Value) (b : Bool) (w : World) (h : Cod w v is) (hg : ∀ r,r < is.length → GoodI (ig is r)) (hT : Tabs w) (hl : is.length ≤ 300) : Calls Tryd.prog 21 #[v,.bool b] w fun e w' => e = .returned (.int .i64 (chkP is b)) ∧ Below w.heap.size w w':=by
 obtain ⟨X,hX⟩ : ∃ X,X = cGo is is.length 0 [] 0:=⟨_,rfl⟩
 have HR : Hid (chkP is b = endC b X):=Lib.hid (by unfold chkP;rw [if_neg (by omega),hX])
 obtain ⟨R,hR⟩ : ∃ R,R = chkP is b:=⟨_,rfl⟩
 rw [← hR] at HR ⊢
 have HV:=Lib.hid hX.symm
 have HC:=Lib.hid h
 have HG:=Lib.hid hg
 have HT:=Lib.hid hT
 obtain ⟨A,C,rfl,h2,h3⟩:=h
 have hl2 : (is.length : Int) ≤ 300:=by omega
 clear h3 h2 hX hR hg hT
 go_enter Tryd.func21,Tryd.ntmps21
 go_wp2_with fail
 go_loopg [20,5,6] is.length (fun k i s5 s6 wr => ∃ (t : Nat) (st : List Th) (d : Int) (o : Nat → Nat),k + t = is.length ∧ i = .int .i64 t ∧ s6 = .int .i64 d ∧ Hid (Ckm w o wr s5 st) ∧ Hid (st.length ≤ t) ∧ Hid (∀ r,r < st.length → (tg st r).2.2 < t ∧ 0 ≤ (tg st r).2.1 ∧ (tg st r).2.1 ≤ t) ∧ Hid (0 ≤ d ∧ d ≤ 300) ∧ Hid (cGo is k t st d = X))
 case atStart => exact ⟨0,[],0,fun _ => 0,by omega,rfl,rfl,Lib.hid ⟨Ro.nil _ _ _ _ _,Turn.refl _ _ _⟩,Lib.hid (Nat.le_refl _),Lib.hid (fun r hr => absurd hr (Nat.not_lt_zero _)),Lib.hid ⟨by omega,by omega⟩,HV⟩
 case round =>
  obtain ⟨t,st,d,o,hk,rfl,rfl,HM,HL,HS,HD,HW⟩:=hrel
  have HK:=Lib.hid hk
  have htn : t ≤ is.length:=by omega
  clear HV
  by_cases hlt : t < is.length
  ·obtain ⟨b1,p1,rfl,hat⟩:=(HC.out.below HM.out.below).at hlt
   obtain ⟨gk',rfl⟩ : ∃ g',gk = g' + 1:=⟨gk - 1,by omega⟩
   clear hk
   obtain ⟨I,hI⟩ : ∃ I,I = ig is t:=⟨_,rfl⟩
   have hgI:=HG.out t hlt
   rw [← hI] at hat hgI
   have HI:=Lib.hid hI
   obtain ⟨g1,g2,g3⟩:=hgI
   have HP:=Lib.hid (plain_any I.op I.a (txI I) g3 I.ng I.hi I.lo I.sc I.dy g1 g2)
   unfold PlainPost at HP
   have HFT:=Lib.hid (fits_any I.op I.a I.tx I.ng I.hi I.lo I.sc I.dy)
   obtain ⟨op,a,tx,ng,hi,lo,sc,dy⟩:=I
   obtain ⟨a0,a1,a2,a3,a4,a5,a6,a7⟩:=hat.ins
   dsimp only at a0 a1 a2 a3 a4 a5 a6 a7 HP HFT
   obtain ⟨l,hl3⟩ : ∃ l,l = txI ⟨op,a,tx,ng,hi,lo,sc,dy⟩:=⟨_,rfl⟩
   have htx : tx = ⟨l.toArray⟩:=by rw [hl3];exact tx_eq ⟨op,a,tx,ng,hi,lo,sc,dy⟩
   rw [← hl3] at HP
   have HLX:=Lib.hid hl3
   subst htx
   clear hat hI g1 g2 g3 hl3
   have hle:=HM.out.below.size
   obtain ⟨A5,C5,hu5,hn5⟩:=HM.out.row.sl.is
   subst hu5
   unfold maxLen at hn5
   obtain ⟨n0,hn0⟩ : ∃ n0,n0 = st.length:=⟨_,rfl⟩
   obtain ⟨okv,hok⟩ : ∃ x,x = okP op l ng (cI hi lo) sc dy:=⟨_,rfl⟩
   obtain ⟨cT,hcT⟩ : ∃ x,x = clrT op l:=⟨_,rfl⟩
   obtain ⟨cB,hcB⟩ : ∃ x,x = clrB op ng:=⟨_,rfl⟩
   obtain ⟨cH,hcH⟩ : ∃ x,x = clrI op hi:=⟨_,rfl⟩
   obtain ⟨cL,hcL⟩ : ∃ x,x = clrI op lo:=⟨_,rfl⟩
   obtain ⟨cS,hcS⟩ : ∃ x,x = clrI op sc:=⟨_,rfl⟩
   obtain ⟨cD,hcD⟩ : ∃ x,x = clrD op dy:=⟨_,rfl⟩
   have HF : Hid (fldB op l ng hi lo sc dy = (okv && ((cT == []) && ((!cB && (cH == 0 && (cL == 0 && cS == 0))) && cD == 0)))):=Lib.hid (by rw [hok,hcT,hcB,hcH,hcL,hcS,hcD];unfold fldB;rw [nilP_eq])
   rw [← hok,← hcT,← hcB,← hcH,← hcL,← hcS,← hcD] at HP
   clear hok hcT hcB hcH hcL hcS hcD
   rw [← hn0] at hn5 ⊢
   have HN0:=Lib.hid hn0
   clear hn0
   go_upto_region 9 with (go_at_call 37;(with_reducible refine (HP.out _ (tabs_below HT.out (by have:=HM.out.below;(repeat' first|(with_reducible first|exact blR _ _|assumption|refine blD ?_|refine blN ?_ _)|((with_reducible first|refine blA ?_ ?_ _|refine blS ?_ ?_ _|refine blT (by assumption) ?_ ?_);focus (go_size;done)))))).mono ?_);rintro _ w2 ⟨rfl,hb2⟩)
   have hs2:=hb2.size
   simp only [World.size_alloc] at hs2
   have hB3 : Below wr.heap.size wr (w2.alloc (.cells #[.int .i64 op,.int .i64 a,.string ⟨cT.toArray⟩,.bool cB,.int .u64 cH,.int .u64 cL,.int .i64 cS,.int .i64 cD] 45)):=by (repeat' first|(with_reducible first|exact blR _ _|assumption|refine blD ?_|refine blN ?_ _)|((with_reducible first|refine blA ?_ ?_ _|refine blS ?_ ?_ _|refine blT (by assumption) ?_ ?_);focus (go_size;done)))
   have hM3:=HM.out.kept hB3
   have hK8 : Bk (w2.alloc (.cells #[.int .i64 op,.int .i64 a,.string ⟨cT.toArray⟩,.bool cB,.int .u64 cH,.int .u64 cL,.int .i64 cS,.int .i64 cD] 45)) wr.heap.size 45 [.int .i64 op,.int .i64 a,.string ⟨l.toArray⟩,.bool ng,.int .u64 hi,.int .u64 lo,.int .i64 sc,.int .i64 dy]:=by (repeat (first|(with_reducible assumption)|((with_reducible refine bkW ?_);(first|rfl|(simp only [wsA,wsS,wsD,wsN];done)))|(with_reducible first|refine bkA ?_ _|refine bkD ?_|refine bkN ?_ _)|((with_reducible refine bkF ?_ ?_ _);focus (simp only [];omega))|((with_reducible refine bkB (by assumption) ?_ ?_);focus (go_size;done))))
   have hK9:=Bk.new w2 45 [.int .i64 op,.int .i64 a,.string ⟨cT.toArray⟩,.bool cB,.int .u64 cH,.int .u64 cL,.int .i64 cS,.int .i64 cD]
   have hL8 : Hid (relabel o wr.heap.size 2 wr.heap.size = 2):=Lib.hid (relabel_new (Nat.le_refl _))
   obtain ⟨g8,hg8⟩ : ∃ g,g = wr.heap.size:=⟨_,rfl⟩
   obtain ⟨g9,hg9⟩ : ∃ g,g = w2.heap.size:=⟨_,rfl⟩
   rw [← hg8] at hM3 hK8 hL8
   rw [← hg9] at hK9
   rw [← hg8,← hg9]
   clear hs2 hB3 hb2 a0 a1 a2 a3 a4 a5 a6 a7 hg8 hg9 HM HP hle
   generalize w2.alloc (.cells #[.int .i64 op,.int .i64 a,.string ⟨cT.toArray⟩,.bool cB,.int .u64 cH,.int .u64 cL,.int .i64 cS,.int .i64 cD] 45) = w3 at hM3 hK8 hK9 ⊢
   generalize relabel o g8 2 = o3 at hM3 hL8
   have HM3:=Lib.hid hM3
   have HK8:=Lib.hid hK8
   have kc0:=hK8.cell 0 rfl
   have kc1:=hK8.cell 1 rfl
   have kc2:=hK8.cell 2 rfl
   have kc3:=hK8.cell 3 rfl
   have kc4:=hK8.cell 4 rfl
   have kc5:=hK8.cell 5 rfl
   have kc6:=hK8.cell 6 rfl
   have kc7:=hK8.cell 7 rfl
   have kf0:=hK8.frozen 0
   have kf1:=hK8.frozen 1
   have kf2:=hK8.frozen 2
   have kf3:=hK8.frozen 3
   have kf4:=hK8.frozen 4
   have kf5:=hK8.frozen 5
   have kf6:=hK8.frozen 6
   have kf7:=hK8.frozen 7
   have kl:=hK8.lt
   have jc0:=hK9.cell 0 rfl
   have jc1:=hK9.cell 1 rfl
   have jc2:=hK9.cell 2 rfl
   have jc3:=hK9.cell 3 rfl
   have jc4:=hK9.cell 4 rfl
   have jc5:=hK9.cell 5 rfl
   have jc6:=hK9.cell 6 rfl
   have jc7:=hK9.cell 7 rfl
   have jf0:=hK9.frozen 0
   have jf1:=hK9.frozen 1
   have jf2:=hK9.frozen 2
   have jf3:=hK9.frozen 3
   have jf4:=hK9.frozen 4
   have jf5:=hK9.frozen 5
   have jf6:=hK9.frozen 6
   have jf7:=hK9.frozen 7
   have jl:=hK9.lt
   clear hM3 hK8 hK9
   obtain ⟨z,hz⟩ : ∃ z,z = (fldB op l ng hi lo sc dy && (kidsB op a && decide (a ≤ (n0 : Int)))):=⟨_,rfl⟩
   have HZ:=Lib.hid hz
   have r1:=neq_dec0 cB cH cL cS
   clear hz
   go_cut [59] (fun s59 wx => ∃ o',s59 = .bool (!z) ∧ Hid (Ckm w o' wx (.slice A5 st.length C5) st) ∧ Hid (Lb wx o' 2 g8 45 [.int .i64 op,.int .i64 a,.string ⟨l.toArray⟩,.bool ng,.int .u64 hi,.int .u64 lo,.int .i64 sc,.int .i64 dy]))
   case first =>
    have HFI:=HF
    cases okv with
    | false =>
     go_wp2_with fail
     go_meet
     exact ⟨o3,by rw [HZ.out,HF.out];rfl,HM3,Lib.hid ⟨HK8.out,hL8.out⟩⟩
    | true =>
     by_cases hcT : cT = []
     ·subst hcT
      cases hn : (!cB && (cH == 0 && (cL == 0 && cS == 0))) with
      | false =>
       rw [hn] at r1
       go_wp2_with fail
       go_meet
       exact ⟨o3,by rw [HZ.out,HF.out,hn];rfl,HM3,Lib.hid ⟨HK8.out,hL8.out⟩⟩
      | true =>
       rw [hn] at r1
       by_cases hcD : cD = 0
       ·subst hcD
        go_wp2_with fail
        refine (HFT.out _).mono ?_
        rintro _ w4 ⟨rfl,hb4⟩
        have HM4:=Lib.hid (HM3.out.kept hb4)
        have HL4 : Hid (Lb w4 (relabel o3 w3.heap.size 2) 2 g8 45 [.int .i64 op,.int .i64 a,.string ⟨l.toArray⟩,.bool ng,.int .u64 hi,.int .u64 lo,.int .i64 sc,.int .i64 dy]):=Lib.hid ⟨HK8.out.below hb4 HK8.out.lt,(relabel_old kl).trans hL8.out⟩
        have q1:=HL4.out.1.cell 1 rfl
        cases hk9 : kidsB op a with
        | false =>
         go_wp2_with fail
         go_meet
         exact ⟨_,by rw [HZ.out,HF.out,hn,hk9];rfl,HM4,HL4⟩
        | true =>
         by_cases hle9 : a ≤ (n0 : Int)
         ·go_wp2_with fail
          go_meet
          exact ⟨_,by rw [HZ.out,HF.out,hn,hk9,decide_eq_true (show a ≤ (n0 : Int) by omega)];exact congrArg Value.bool (decide_eq_false (by omega)),HM4,HL4⟩
         ·have hle8 : (n0 : Int) < a:=by omega
          go_wp2_with fail
          go_meet
          exact ⟨_,by rw [HZ.out,HF.out,hn,hk9,decide_eq_false (show ¬ a ≤ (n0 : Int) by omega)];rfl,HM4,HL4⟩
       ·have hcd2 : (cD == 0) = false:=by rw [beq_eq_false_iff_ne];exact hcD
        go_wp2_with fail
        go_meet
        exact ⟨o3,by rw [HZ.out,HF.out,hn,hcd2];rfl,HM3,Lib.hid ⟨HK8.out,hL8.out⟩⟩
     ·have hcT2 : (cT == []) = false:=by rw [beq_eq_false_iff_ne];exact hcT
      go_wp2_with fail
      go_meet
      exact ⟨o3,by rw [HZ.out,HF.out,hcT2];rfl,HM3,Lib.hid ⟨HK8.out,hL8.out⟩⟩
   case rest =>
    obtain ⟨o4,rfl,HM4,HL4⟩:=hcut
    obtain ⟨w4,rfl⟩ : ∃ w4,w4 = wc:=⟨_,rfl⟩
    clear HM3 HK8 hL8 kc0 kc1 kc2 kc3 kc4 kc5 kc6 kc7 kf0 kf1 kf2 kf3 kf4 kf5 kf6 kf7 kl jc0 jc1 jc2 jc3 jc4 jc5 jc6 jc7 jf0 jf1 jf2 jf3 jf4 jf5 jf6 jf7 jl r1 HF HFT
    have HNP : Hid (nodeP is (ig is t) st ↔ z = true ∧ sortsP op (fun k => tg st (n0 - a.toNat + k)) a.toNat ∧ ¬ (op = 27 ∧ twF (fun r => (ig is (tg st (n0 - a.toNat + r)).2.2).tx) a.toNat = true)):=Lib.hid (by
     unfold nodeP partF cutN fldI
     rw [← HI.out]
     dsimp only
     rw [← HLX.out,HZ.out,← HN0.out,Bool.and_eq_true,Bool.and_eq_true,decide_eq_true_eq,and_assoc,and_assoc])
    cases z with
    | false =>
     have hr : R = 2:=by
      rw [HR.out,← HW.out,cGo_no (fun h => by
       have:=(HNP.out.1 h).1
       cases this)]
      rfl
     go_wp2_with fail
     go_ret
     exact ⟨by rw [hr];rfl,HM4.out.below⟩
    | true =>
     have hz:=HZ.out
     rw [eq_comm,Bool.and_eq_true,Bool.and_eq_true,decide_eq_true_eq] at hz
     obtain ⟨-,hz1,hz2⟩:=hz
     have hz3:=kids_pos hz1
     obtain ⟨an,rfl⟩ : ∃ an : Nat,a = (an : Int):=⟨a.toNat,by omega⟩
     rw [Int.toNat_natCast] at HNP
     have hcap:=HM4.out.row.cap
     rw [← HN0.out] at hcap
     obtain ⟨hc1,hc2⟩:=hcap
     unfold maxLen at hc2
     have han : an ≤ n0:=by omega
     have hl4:=HL4.out.1
     have q0:=hl4.cell 0 rfl
     have q1:=hl4.cell 1 rfl
     have hw1 : IntKind.i64.wrap ((n0 : Int) - (an : Int)) = ((n0 - an : Nat) : Int):=by rw [IntKind.wrap_i64];omega
     have hn300 : n0 ≤ 300:=by have:=HL.out;have:=HN0.out;omega
     clear hz1 hz2 hz3 hl4
     go_upto_region 11 with fail
     go_cut [11] (fun s11 wx => ∃ (A6 : Option Addr) (C6 : Nat),wx = w4 ∧ s11 = .slice A6 an C6 ∧ an ≤ C6 ∧ C6 ≤ maxLen ∧ Hid (Lsn 3 (fun k => thc (tg st (n0 - an + k))) w4 (.slice A6 an C6) an))
     case first =>
      by_cases hC : C5 = n0 - an
      ·have h0 : an = 0:=by omega
       subst h0
       obtain rfl : C5 = n0:=by omega
       clear hC han
       go_wp2_with fail
       go_meet
       exact ⟨A5,0,rfl,rfl,Nat.le_refl _,Nat.zero_le _,Lib.hid ⟨_,_,rfl,Nat.zero_le _,fun r hr => absurd hr (Nat.not_lt_zero _)⟩⟩
      ·obtain ⟨g5,rfl⟩:=HM4.out.row.addr (by omega)
       go_wp2_with fail
       go_meet
       exact ⟨some ⟨g5,(n0 - an) * 3,none⟩,C5 - (n0 - an),rfl,by rw [show n0 - (n0 - an) = an by omega],by omega,by unfold maxLen;omega,Lib.hid (Ro.part HM4.out.row HN0.out han _ (by unfold maxLen;omega))⟩
     case rest =>
      obtain ⟨A6,C6,rfl,rfl,hc6,hc7,HQ⟩:=hcut
      obtain ⟨w4,rfl⟩ : ∃ w4,w4 = wc:=⟨_,rfl⟩
      unfold maxLen at hc7
      obtain ⟨f,hf⟩ : ∃ f,f = fun k => tg st (n0 - an + k):=⟨_,rfl⟩
      rw [show (fun k => thc (tg st (n0 - an + k))) = fun k => thc (f k) by rw [hf]] at HQ
      have HF:=Lib.hid hf
      have HSF : Hid (∀ k,k < an → (f k).2.2 < t ∧ 0 ≤ (f k).2.1 ∧ (f k).2.1 ≤ t):=Lib.hid (fun k hk => by
       rw [hf]
       exact HS.out (n0 - an + k) (by have:=HN0.out;omega))
      have HWA:=Lib.hid (fun (k : Int) (W : World) => (wanted_any op k W).mono (fun e w' h => (⟨h.1,0,h.2.symm⟩ : e = .returned (.int .i64 (wantD op k)) ∧ ∃ nn,w' = W.drewN nn)))
      clear hf
      go_wp2_with fail
      obtain ⟨gk0,hgk0⟩ : ∃ g,g = gk':=⟨_,rfl⟩
      subst hgk0
      obtain ⟨wr0,hwr0⟩ : ∃ g,g = wr:=⟨_,rfl⟩
      subst hwr0
      go_loopg [69,12] an (fun k2 j s12 wx => ∃ u : Nat,k2 + u = an ∧ j = .int .i64 u ∧ s12 = .int .i64 (thDep f u) ∧ Hid (∀ k,k < u → (f k).1 = wantD op k) ∧ Hid (0 ≤ thDep f u ∧ thDep f u ≤ t) ∧ Hid (Below w4.heap.size w4 wx))
      case atStart => exact ⟨0,by omega,rfl,rfl,Lib.hid (fun r hr => absurd hr (Nat.not_lt_zero _)),Lib.hid ⟨Int.le_refl _,by show (0 : Int) ≤ t;omega⟩,Lib.hid (Below.refl _ _)⟩
      case round =>
       obtain ⟨u,hk,rfl,rfl,HU,HDP,HB2⟩:=hrel
       have HKK:=Lib.hid hk
       have hun : u ≤ an:=by omega
       clear hk
       by_cases hlu : u < an
       ·obtain ⟨b2,p2,rfl,a2⟩:=(HQ.out.below HB2.out).at hlu
        obtain ⟨y0,y1,y2⟩:=a2.th
        have hYl:=HSF.out u hlu
        obtain ⟨Y,hY⟩ : ∃ Y,Y = f u:=⟨_,rfl⟩
        rw [← hY] at y0 y1 y2 hYl
        have HY:=Lib.hid hY
        obtain ⟨Y1,Y2,Y3⟩:=Y
        dsimp only at y0 y1 y2 hYl
        have qb:=HL4.out.1.below HB2.out HL4.out.1.lt
        have q0':=qb.cell 0 rfl
        have ql:=qb.lt
        clear a2 hY qb
        go_upto_region 16 with fail
        have hB3 : Hid (Below w4.heap.size w4 (wr.alloc (.cells #[.int .i64 Y1,.int .i64 Y2,.int .i64 Y3] 88))):=Lib.hid (HB2.out.alloc HB2.out.size _)
        have hq : Below wr.heap.size wr (wr.alloc (.cells #[.int .i64 Y1,.int .i64 Y2,.int .i64 Y3] 88)):=by (repeat' first|(with_reducible first|exact blR _ _|assumption|refine blD ?_|refine blN ?_ _)|((with_reducible first|refine blA ?_ ?_ _|refine blS ?_ ?_ _|refine blT (by assumption) ?_ ?_);focus (go_size;done)))
        have q0'':=(hq.cell (p:=⟨g8,0,none⟩) ql).trans q0'
        have hn8:=Bk.new wr 88 [.int .i64 Y1,.int .i64 Y2,.int .i64 Y3]
        have k80:=hn8.cell 0 rfl
        have k81:=hn8.cell 1 rfl
        have hHB:=HB2
        clear hq q0' ql y0 y1 y2 hn8 HB2
        generalize hw8 : (wr.alloc (.cells #[.int .i64 Y1,.int .i64 Y2,.int .i64 Y3] 88)) = w8 at hB3 q0'' k80 k81 ⊢
        clear hw8 hHB
        obtain ⟨ws,hws⟩ : ∃ x,x = wantD op u:=⟨_,rfl⟩
        have HWU : Hid (∀ W,Calls Tryd.prog 39 #[.int .i64 op,.int .i64 u] W fun e w' => e = .returned (.int .i64 ws) ∧ ∃ nn,w' = W.drewN nn):=Lib.hid (fun W => by rw [hws];exact HWA.out u W)
        have HWS:=Lib.hid hws
        obtain ⟨dp,hdp⟩ : ∃ x,x = thDep f u:=⟨_,rfl⟩
        have HDPE:=Lib.hid hdp
        rw [← hdp] at HDP ⊢
        clear hws hdp
        by_cases he : Y1 = ws
        ·subst he
         go_wp2_with fail
         go_quiet ((go_at_call 39;(first | exact Calls.quiet_of (HWU.out _) | exact quiet_add (HWU.out _))))
         go_wp2_with fail
         have hmax : Hid (thDep f (u + 1) = max dp Y2):=Lib.hid (by
          show max (thDep f u) (f u).2.1 = _
          rw [← HDPE.out,← HY.out])
         go_roundg (gk - 1)
         case measure => have:=HKK.out;omega
         case rel => exact ⟨u + 1,by have:=HKK.out;omega,by go_num,by rw [hmax.out],Lib.hid (fun k hk => by
           by_cases e : k = u
           ·subst e;rw [← HWS.out,← HY.out]
           ·exact HU.out k (by omega)),Lib.hid (by rw [hmax.out];have:=HDP.out;omega),Lib.hid (below_drewN hB3.out _)⟩
        ·have hne : (Y1 != ws) = true:=by rw [bne_iff_ne];exact he
         go_wp2_with fail
         go_quiet ((go_at_call 39;(first | exact Calls.quiet_of (HWU.out _) | exact quiet_add (HWU.out _))))
         go_wp2_with fail
         go_ret
         have hr : R = 2:=by
          rw [HR.out,← HW.out,cGo_no (fun h => by
           have:=(HNP.out.1 h).2.1 u hlu
           rw [← HF.out,← HWS.out] at this
           exact he (by rw [← HY.out] at this;exact this))]
          rfl
         exact ⟨by rw [hr];rfl,below_drewN (HM4.out.below.trans (hB3.out.mono HM4.out.below.size)) _⟩
       ·obtain rfl : u = an:=by omega
        have qb:=HL4.out.1.below HB2.out HL4.out.1.lt
        have q0':=qb.cell 0 rfl
        have q1':=qb.cell 1 rfl
        clear qb
        obtain ⟨tw,htw⟩ : ∃ x,x = twF (fun r => (ig is (f r).2.2).tx) u:=⟨_,rfl⟩
        have HTW:=Lib.hid htw
        have HUN:=Lib.hid (fun (W : World) (hb : Below w4.heap.size w4 W) => unlike_any is _ W (HC.out.below (HM4.out.below.trans (hb.mono HM4.out.below.size))) A6 u C6 f (HQ.out.below hb) hc6 hc7 (fun r hr => by have:=(HSF.out r hr).1;omega))
        rw [← htw] at HUN
        clear htw
        obtain ⟨dp,hdp⟩ : ∃ x,x = thDep f u:=⟨_,rfl⟩
        have HDPE:=Lib.hid hdp
        rw [← hdp] at HDP ⊢
        clear hdp
        go_upto_region 20 with fail
        go_cut [94] (fun s94 wx => s94 = .bool (decide (op = 27) && tw) ∧ Hid (Below w4.heap.size w4 wx))
        case first =>
         by_cases h27 : op = 27
         ·subst h27
          go_wp2_with fail
          refine (HUN.out _ HB2.out).mono ?_
          rintro _ w9 ⟨rfl,hb9⟩
          cases tw
          all_goals go_wp2_with fail
          all_goals go_meet
          all_goals exact ⟨rfl,Lib.hid (HB2.out.trans (hb9.mono HB2.out.size))⟩
         ·have q27 : (op == 27) = false:=by rw [beq_eq_false_iff_ne];exact h27
          have q27' : decide (op = 27) = false:=decide_eq_false h27
          go_wp2_with fail
          go_meet
          exact ⟨by rw [q27'];rfl,HB2⟩
        case rest =>
         obtain ⟨rfl,HB9⟩:=hcut
         clear HB2 q0' q1' HUN
         obtain ⟨w5,rfl⟩ : ∃ w5,w5 = wc:=⟨_,rfl⟩
         cases hz : (decide (op = 27) && tw) with
         | true =>
          have hr : R = 2:=by
           rw [HR.out,← HW.out,cGo_no (fun h => by
            have h2:=(HNP.out.1 h).2.2
            rw [Bool.and_eq_true,decide_eq_true_eq] at hz
            refine h2 ⟨hz.1, ?_⟩
            have h3:=HTW.out
            rw [hz.2] at h3
            rw [HF.out] at h3
            exact h3.symm)]
           rfl
          go_wp2_with fail
          go_ret
          exact ⟨by rw [hr];rfl,HM4.out.below.trans (HB9.out.mono HM4.out.below.size)⟩
         | false =>
          have HNY : Hid (nodeP is (ig is t) st):=Lib.hid (HNP.out.2 ⟨trivial,(by rw [← HF.out];exact HU.out),(fun ⟨h1,h2⟩ => by
           have h3:=HTW.out
           rw [HF.out] at h3
           have h4 : tw = true:=h3.trans h2
           rw [h4,decide_eq_true h1] at hz
           cases hz)⟩)
          have hw9:=HW.out
          rw [cGo_yes HNY.out] at hw9
          have hpf : partF (ig is t) st = f:=by
           rw [HF.out,← HI.out]
           unfold partF cutN
           dsimp only
           rw [Int.toNat_natCast,← HN0.out]
          have hia : (ig is t).a.toNat = u:=by rw [← HI.out];exact Int.toNat_natCast u
          have hst : stepT (ig is t) t st = st.take (n0 - u) ++ [(sortD op,dp + 1,t)]:=by
           unfold stepT
           rw [hpf,hia,← HDPE.out]
           unfold cutN
           rw [hia,← HN0.out,← HI.out]
          rw [hst,hpf,hia,← HDPE.out] at hw9
          have HW9:=Lib.hid hw9
          have HM5:=Lib.hid (HM4.out.kept HB9.out)
          have HL5 : Hid (Lb w5 (relabel o4 w4.heap.size 2) 2 g8 45 [.int .i64 op,.int .i64 u,.string ⟨l.toArray⟩,.bool ng,.int .u64 hi,.int .u64 lo,.int .i64 sc,.int .i64 dy]):=Lib.hid ⟨HL4.out.1.below HB9.out HL4.out.1.lt,(relabel_old HL4.out.1.lt).trans HL4.out.2⟩
          have hdp:=HDP.out
          have hdd:=HD.out
          have hwd : IntKind.i64.wrap (dp + 1) = dp + 1:=by rw [IntKind.wrap_i64];omega
          generalize relabel o4 w4.heap.size 2 = o5 at HM5 HL5
          clear hw9 hpf hia hst hz HNP HW HU HQ HSF HWA HTW HB9
          go_upto_region 23 with fail
          have hl5:=HL5.out.1
          have c0:=hl5.cell 0 rfl
          have c1:=hl5.cell 1 rfl
          have l8:=hl5.lt
          clear hl5
          have HSO:=Lib.hid (sortOf_any op)
          have hrow0:=HM5.out.row.cut (m:=n0 - u) (by have:=HN0.out;omega)
          rw [ths_take] at hrow0
          have HROW:=Lib.hid hrow0
          clear hrow0
          have hb1 : n0 - u ≤ C5:=by omega
          have hb2 : n0 - u ≤ n0:=by omega
          refine wp_region_held_drew (S:=fun w' => w'.cell? ⟨g8,0,none⟩ = some (.int .i64 op) ∧ w'.cell? ⟨g8,1,none⟩ = some (.int .i64 u)) (by kernel_rfl) ⟨c0,c1⟩ (fun hHeld => ?_)
          refine wpAnyH_take (i:=0) (v:=?_) rfl (by kernel_rfl) (by kernel_rfl) (by kernel_rfl) (fun _ _ _ h => h) (Or.inl ⟨by rfl, ?_⟩) (by assumption) ?_
          rotate_left
          (focus (intro w hSw;(try dsimp only at hSw);go_simp;(try with_reducible rfl)))
          (try simp only [Act.put,List.setIfInBounds_toArray,List.set_cons_zero,List.set_cons_succ])
          refine wpAnyH_take (i:=1) (v:=?_) rfl (by kernel_rfl) (by kernel_rfl) (by kernel_rfl) (fun _ _ _ h => h) (Or.inl ⟨by rfl, ?_⟩) (by assumption) ?_
          rotate_left
          (focus (intro w hSw;(try dsimp only at hSw);go_simp;(try with_reducible rfl)))
          (try simp only [Act.put,List.setIfInBounds_toArray,List.set_cons_zero,List.set_cons_succ])
          refine wpAnyH_take (i:=2) (v:=?_) rfl (by kernel_rfl) (by kernel_rfl) (by kernel_rfl) (fun _ _ _ h => h) (Or.inl ⟨by rfl, ?_⟩) (by assumption) ?_
          rotate_left
          (focus (intro w hSw;(try dsimp only at hSw);go_simp;(try with_reducible rfl)))
          (try simp only [Act.put,List.setIfInBounds_toArray,List.set_cons_zero,List.set_cons_succ])
          refine wpAnyH_take (i:=3) (v:=?_) rfl (by kernel_rfl) (by kernel_rfl) (by kernel_rfl) (fun _ _ _ h => h) (Or.inl ⟨by rfl, ?_⟩) (by assumption) ?_
          rotate_left
          (focus (intro w hSw;(try dsimp only at hSw);go_simp;(try with_reducible rfl)))
          (try simp only [Act.put,List.setIfInBounds_toArray,List.set_cons_zero,List.set_cons_succ])
          refine wpAnyH_take (i:=4) (v:=?_) rfl (by kernel_rfl) (by kernel_rfl) (by kernel_rfl) (fun _ _ _ h => h) (Or.inl ⟨by rfl, ?_⟩) (by assumption) ?_
          rotate_left
          (focus (intro w hSw;(try dsimp only at hSw);go_simp;(try with_reducible rfl)))
          (try simp only [Act.put,List.setIfInBounds_toArray,List.set_cons_zero,List.set_cons_succ])
          refine wpAnyH_take (i:=5) (v:=?_) rfl (by kernel_rfl) (by kernel_rfl) (by kernel_rfl) (fun _ _ _ h => h) (Or.inl ⟨by rfl, ?_⟩) (by assumption) ?_
          rotate_left
          (focus (intro w hSw;(try dsimp only at hSw);go_simp;(try with_reducible rfl)))
          (try simp only [Act.put,List.setIfInBounds_toArray,List.set_cons_zero,List.set_cons_succ])
          refine wpAnyH_take (i:=6) (v:=?_) rfl (by kernel_rfl) (by kernel_rfl) (by kernel_rfl) (fun _ _ _ h => h) (Or.inl ⟨by rfl, ?_⟩) (by assumption) ?_
          rotate_left
          (focus (intro w hSw;(try dsimp only at hSw);go_simp;(try with_reducible rfl)))
          (try simp only [Act.put,List.setIfInBounds_toArray,List.set_cons_zero,List.set_cons_succ])
          refine wpAnyH_take (i:=7) (v:=?_) rfl (by kernel_rfl) (by kernel_rfl) (by kernel_rfl) (fun _ _ _ h => h) (Or.inl ⟨by rfl, ?_⟩) (by assumption) ?_
          rotate_left
          (focus (intro w hSw;(try dsimp only at hSw);go_simp;(try with_reducible rfl)))
          (try simp only [Act.put,List.setIfInBounds_toArray,List.set_cons_zero,List.set_cons_succ])
          refine wpAnyH_take (i:=8) (v:=?_) rfl (by kernel_rfl) (by kernel_rfl) (by kernel_rfl) (fun _ _ _ h => h) (Or.inl ⟨by rfl, ?_⟩) (by assumption) ?_
          rotate_left
          (focus (intro w hSw;(try dsimp only at hSw);go_simp;(try with_reducible rfl)))
          (try simp only [Act.put,List.setIfInBounds_toArray,List.set_cons_zero,List.set_cons_succ])
          refine wpAnyH_take (i:=10) (v:=?_) rfl (by kernel_rfl) (by kernel_rfl) (by kernel_rfl) (fun _ _ _ h => h) (Or.inl ⟨by rfl, ?_⟩) (by assumption) ?_
          rotate_left
          (focus (intro w hSw;(try dsimp only at hSw);go_simp;(try with_reducible rfl)))
          (try simp only [Act.put,List.setIfInBounds_toArray,List.set_cons_zero,List.set_cons_succ])
          refine wpAnyH_take (i:=11) (v:=?_) rfl (by kernel_rfl) (by kernel_rfl) (by kernel_rfl) (fun _ _ _ h => h) (Or.inl ⟨by rfl, ?_⟩) (by assumption) ?_
          rotate_left
          (focus (intro w hSw;(try dsimp only at hSw);go_simp;(try with_reducible rfl)))
          (try simp only [Act.put,List.setIfInBounds_toArray,List.set_cons_zero,List.set_cons_succ])
          refine wpAnyH_take (i:=12) (v:=?_) rfl (by kernel_rfl) (by kernel_rfl) (by kernel_rfl) (fun _ _ _ h => h) (Or.inl ⟨by rfl, ?_⟩) (by assumption) ?_
          rotate_left
          (focus (intro w hSw;(try dsimp only at hSw);go_simp;(try with_reducible rfl)))
          (try simp only [Act.put,List.setIfInBounds_toArray,List.set_cons_zero,List.set_cons_succ])
          refine wpAnyH_ready (rs:=[9]) (by kernel_rfl) (by simp) ?_
          refine AllReadyH.cons (by rw [List.getElem?_toArray];exact rfl) (fun K hK => ?_) AllReadyH.nil
          (have tok9 : True:=trivial;clear tok9;go_simp)
          refine (HSO.out _).mono ?_
          rintro _ _ ⟨rfl,rfl⟩
          dsimp only
          refine hK.out _ _ (by assumption) (fun hHeld => ?_)
          clear hK K
          (try simp only [Act.put,List.setIfInBounds_toArray,List.set_cons_zero,List.set_cons_succ])
          refine wpAnyH_take (i:=13) (v:=?_) rfl (by kernel_rfl) (by kernel_rfl) (by kernel_rfl) (fun _ _ _ h => h) (Or.inl ⟨by rfl, ?_⟩) (by assumption) ?_
          rotate_left
          (focus (intro w hSw;(try dsimp only at hSw);go_simp;(try with_reducible rfl)))
          (try simp only [Act.put,List.setIfInBounds_toArray,List.set_cons_zero,List.set_cons_succ])
          refine wpAnyH_ready (rs:=[14]) (by kernel_rfl) (by simp) ?_
          refine AllReadyH.cons (by rw [List.getElem?_toArray];exact rfl) (fun K hK => ?_) AllReadyH.nil
          (have tok14 : True:=trivial;clear tok14;go_simp)
          refine hK.out _ _ ?_ (fun hHeld => ?_)
          (focus (first | (first | (go_keep;done) | (simp [go_sem];done) | ((try dsimp only);(repeat' apply And.intro) <;> (first | (with_reducible assumption) | ((rw [World.cell?_alloc_lt _ _ _ (by show _ < _;omega)]);go_split_ands;(first | with_reducible assumption | (refine (World.cell?_alloc_lt _ _ _ (by show _ < _;omega)).symm.trans ?_;with_reducible assumption))) | ((rw [World.cell?_setCell_other _ _ _ _ (by intro e;injection e;omega)]);with_reducible assumption) | (go_keep;done) | (simp [go_sem];done) | (simp (disch:=go_size) [*,World.cell?_alloc_some,World.cell?_setCell_far];done))))))
          clear hK K
          (try simp only [Act.put,List.setIfInBounds_toArray,List.set_cons_zero,List.set_cons_succ])
          refine wpAnyH_ready (rs:=[15]) (by kernel_rfl) (by simp) ?_
          refine AllReadyH.cons (by rw [List.getElem?_toArray];exact rfl) (fun K hK => ?_) AllReadyH.nil
          refine step_pushR rfl _ _ 83 88 3 24 (.agg #[.int .i64 0,.int .i64 0,.int .i64 0]) rfl Tryd.underlying83 info_thing rfl (by decide) o5 1 (.slice A5 (n0 - u : Nat) C5) (n0 - u) (ths (st.take (n0 - u))) rfl (by first | with_reducible exact (HROW.out.alloc _).drew | with_reducible exact HROW.out.alloc _ | with_reducible exact HROW.out.drew.alloc _) ⟨_,0,none⟩ 1 1 [.int .i64 (sortD op),.int .i64 (dp + 1),.int .i64 (t : Int)] rfl rfl (by first | with_reducible exact news3_newd _ _ _ _ _ | with_reducible exact news3_new _ _ _ _ _) (three_cells _ _ _) (by decide) (by omega) (by unfold maxLen;omega) ?_
          intro g5 cap5 w9 hr5 ht5 hlt5
          have hw9:=Lb.turn (l:=2) (g:=g8) (t:=45) (by first | with_reducible exact (HL5.out.alloc _).drew | with_reducible exact HL5.out.alloc _ | with_reducible exact HL5.out.drew.alloc _) ht5 (by show ¬ (2 = _);omega)
          have cw0:=hw9.1.cell 0 rfl
          have cw1:=hw9.1.cell 1 rfl
          refine hK.out _ _ ⟨cw0,cw1⟩ (fun hHeld => ?_)
          clear hK K
          (try simp only [Act.put,List.setIfInBounds_toArray,List.set_cons_zero,List.set_cons_succ])
          refine wpAnyH_take (i:=16) (v:=?_) rfl (by kernel_rfl) (by kernel_rfl) (by kernel_rfl) (fun _ _ _ h => h) (Or.inl ⟨by rfl, ?_⟩) (by assumption) ?_
          rotate_left
          (focus (intro w hSw;(try dsimp only at hSw);go_simp;(try with_reducible rfl)))
          (try simp only [Act.put,List.setIfInBounds_toArray,List.set_cons_zero,List.set_cons_succ])
          refine wpAnyH_done (by kernel_rfl) ?_ _
          have hlen : (st.take (n0 - u) ++ [(sortD op,dp + 1,t)]).length = n0 - u + 1:=by
           rw [List.length_append,List.length_take,← HN0.out]
           show min _ _ + 1 = _
           omega
          rw [show ths (st.take (n0 - u)) ++ [Value.int .i64 (sortD op),.int .i64 (dp + 1),.int .i64 (t : Int)] = ths (st.take (n0 - u) ++ [(sortD op,dp + 1,t)]) by rw [ths_push];rfl] at hr5
          (first | (have hck:=(HM5.out.turn.alloc _).drew.trans (ht5.mono (S':=fun l => l ≠ 0) (fun l hl => by have hl' : l = 1:=hl;omega))) | (have hck:=(HM5.out.turn.alloc _).trans (ht5.mono (S':=fun l => l ≠ 0) (fun l hl => by have hl' : l = 1:=hl;omega))) | (have hck:=(HM5.out.turn.drew.alloc _).trans (ht5.mono (S':=fun l => l ≠ 0) (fun l hl => by have hl' : l = 1:=hl;omega))))
          have HNEW:=Lib.hid (Ckm.mk (by rw [hlen];exact hr5) hck)
          have HSN : Hid (∀ r,r < (st.take (n0 - u) ++ [(sortD op,dp + 1,t)]).length → (tg (st.take (n0 - u) ++ [(sortD op,dp + 1,t)]) r).2.2 < t + 1 ∧ 0 ≤ (tg (st.take (n0 - u) ++ [(sortD op,dp + 1,t)]) r).2.1 ∧ (tg (st.take (n0 - u) ++ [(sortD op,dp + 1,t)]) r).2.1 ≤ (t + 1 : Nat)):=Lib.hid (fun r hr => by
           have hd9:=HDP.out
           have hn9:=HN0.out
           rcases tg_new (x:=(sortD op,dp + 1,t)) (m:=n0 - u) (by omega) hr with ⟨h1,h2⟩ | h2
           ·rw [h2]
            have:=HS.out r (by omega)
            omega
           ·rw [h2]
            dsimp only
            omega)
          have HLN : Hid ((st.take (n0 - u) ++ [(sortD op,dp + 1,t)]).length ≤ t + 1):=Lib.hid (by rw [hlen];have:=HL.out;have:=HN0.out;omega)
          have HD2 : Hid (0 ≤ max d (dp + 1) ∧ max d (dp + 1) ≤ 300):=Lib.hid (by have:=HD.out;have:=HDP.out;omega)
          clear hr5 ht5 hck hw9 cw0 cw1 hlen HM5 HL5 HROW
          go_wp2_with fail
          go_roundg gk0
          case measure => omega
          case rel => exact ⟨t + 1,_,max d (dp + 1),_,by have:=HK.out;omega,by go_num,rfl,HNEW,HLN,HSN,HD2,HW9⟩
  ·obtain rfl : t = is.length:=by omega
   obtain rfl : gk = 0:=by omega
   have HX : Hid (R = endC b (some (st,d))):=Lib.hid (by rw [HR.out,← HW.out];rfl)
   obtain ⟨A5,C5,rfl,-⟩:=HM.out.row.sl.is
   clear hk HW HS HL HG HT HC
   by_cases h1 : st.length = 1
   ·obtain ⟨x,hx⟩ : ∃ x,x = (tg st 0).1:=⟨_,rfl⟩
    have c5 : ∃ g,A5 = some ⟨g,0,none⟩ ∧ wr.cell? ⟨g,0,none⟩ = some (.int .i64 x):=by
     obtain ⟨g,rfl⟩:=HM.out.row.addr (by have:=HM.out.row.cap;omega)
     obtain ⟨A',C',e1,_,_,h4⟩:=HM.out.row.sl
     obtain ⟨b',o',e2,h5⟩:=h4 0 (by omega)
     injection e1 with e1
     rw [← e1] at e2
     injection e2 with e2
     injection e2 with e2 e3
     subst e2 e3
     exact ⟨_,rfl,h5.trans (by rw [hx];exact (ths_get st 0 (by omega)).1)⟩
    obtain ⟨g,rfl,c5⟩:=c5
    have HX2 : Hid (R = if (b = true ∧ x ≠ 4 ∧ x ≠ 5) ∨ (b = false ∧ x ≠ 1) then 2 else if 40 < d then 7 else 0):=Lib.hid (by
     rw [HX.out,hx]
     unfold endC
     dsimp only
     by_cases hc : (b = true ∧ (tg st 0).1 ≠ 4 ∧ (tg st 0).1 ≠ 5) ∨ (b = false ∧ (tg st 0).1 ≠ 1)
     ·rw [if_pos (.inr hc),if_pos hc]
     ·rw [if_neg (fun h => h.elim (fun h => h h1) hc),if_neg hc])
    rw [h1]
    clear h1 hx HX
    cases b with
    | true =>
     by_cases h4 : x = 4
     ·subst h4
      have HX3 : Hid (R = if 40 < d then 7 else 0):=Lib.hid (HX2.out.trans (if_neg (by simp)))
      clear HX2
      by_cases hd : 40 < d
      ·have hr : R = 7:=HX3.out.trans (if_pos hd)
       go_wp2_with fail
       go_ret
       exact ⟨by first | rfl | (rw [hr];rfl),HM.out.below⟩
      ·have hr : R = 0:=HX3.out.trans (if_neg hd)
       go_wp2_with fail
       go_ret
       exact ⟨by first | rfl | (rw [hr];rfl),HM.out.below⟩
     ·have q4 : (x != 4) = true:=by rw [bne_iff_ne];exact h4
      by_cases h5 : x = 5
      ·subst h5
       have HX3 : Hid (R = if 40 < d then 7 else 0):=Lib.hid (HX2.out.trans (if_neg (by simp)))
       clear HX2
       by_cases hd : 40 < d
       ·have hr : R = 7:=HX3.out.trans (if_pos hd)
        go_wp2_with fail
        go_ret
        exact ⟨by first | rfl | (rw [hr];rfl),HM.out.below⟩
       ·have hr : R = 0:=HX3.out.trans (if_neg hd)
        go_wp2_with fail
        go_ret
        exact ⟨by first | rfl | (rw [hr];rfl),HM.out.below⟩
      ·have q5 : (x != 5) = true:=by rw [bne_iff_ne];exact h5
       have hr : R = 2:=HX2.out.trans (if_pos (.inl ⟨rfl,h4,h5⟩))
       go_wp2_with fail
       go_ret
       exact ⟨by first | rfl | (rw [hr];rfl),HM.out.below⟩
    | false =>
     by_cases h4 : x = 1
     ·subst h4
      have HX3 : Hid (R = if 40 < d then 7 else 0):=Lib.hid (HX2.out.trans (if_neg (by simp)))
      clear HX2
      by_cases hd : 40 < d
      ·have hr : R = 7:=HX3.out.trans (if_pos hd)
       go_wp2_with fail
       go_ret
       exact ⟨by first | rfl | (rw [hr];rfl),HM.out.below⟩
      ·have hr : R = 0:=HX3.out.trans (if_neg hd)
       go_wp2_with fail
       go_ret
       exact ⟨by first | rfl | (rw [hr];rfl),HM.out.below⟩
     ·have q4 : (x != 1) = true:=by rw [bne_iff_ne];exact h4
      have hr : R = 2:=HX2.out.trans (if_pos (.inr ⟨rfl,h4⟩))
      go_wp2_with fail
      go_ret
      exact ⟨by first | rfl | (rw [hr];rfl),HM.out.below⟩
   ·have hr : R = 2:=by
     rw [HX.out]
     unfold endC
     dsimp only
     rw [if_pos (.inl h1)]
    have hne : ((st.length : Int) != 1) = true:=by rw [bne_iff_ne];omega
    go_wp2_with fail
    go_ret
    exact ⟨by first | rfl | (rw [hr];rfl),HM.out.below⟩
end Go.Proofs.YtnhmplfonkjfoaaDoor



namespace Go.Proofs.YtnhmplfonkjfoaaDoor
open Go.RowKit

/-- Compile's memory: old blocks bear 0, the stack's 1, a node 2, the r-th piece 3 + r -/
structure Cpm (w0 : World) (o : Nat → Nat) (wr : World) (v : Value) (vs : List Value) (P : List (List InsD)) : Prop where
 row : Ro wr o 1 49 1 v P.length vs
 pcs : Pcs wr o 3 vs P
 turn : Turn (fun l => l ≠ 0) w0 (fun _ => 0) wr o
section
variable {w0 wr w' : World} {o : Nat → Nat} {v : Value} {vs : List Value} {P : List (List InsD)}
theorem Pcs.turn {S : Nat → Prop} {o' : Nat → Nat} {L : Nat} (h : Pcs wr o L vs P) (t : Turn S wr o w' o') (hs : ∀ r,r < P.length → ¬ S (L + r)) : Pcs w' o' L vs P :=
 ⟨h.len,fun r hr => (h.rows r hr).turn t (hs r hr),h.pos⟩
theorem Cpm.turn2 {o' : Nat → Nat} (h : Cpm w0 o wr v vs P) (t : Turn (fun _ => False) wr o w' o') : Cpm w0 o' w' v vs P :=
 ⟨h.row.turn t (fun h => h),h.pcs.turn t (fun _ _ h => h),h.turn.trans (t.mono fun l hl => hl.elim)⟩
theorem Cpm.below (h : Cpm w0 o wr v vs P) : Below w0.heap.size w0 wr:=h.turn.below (fun _ _ => by simp) (Nat.le_refl _)
theorem getD_drop {α : Type} (l : List α) (n r : Nat) (d : α) : (l.drop n).getD r d = l.getD (n + r) d:=by
 rw [List.getD_eq_getElem?_getD,List.getD_eq_getElem?_getD,List.getElem?_drop]
theorem getD_take {α : Type} (l : List α) (n r : Nat) (d : α) (h : r < n) : (l.take n).getD r d = l.getD r d:=by
 rw [List.getD_eq_getElem?_getD,List.getD_eq_getElem?_getD,List.getElem?_take_of_lt h]
theorem getD_last {α : Type} (l : List α) (x d : α) {n : Nat} (h : l.length = n) : (l ++ [x]).getD n d = x:=by
 subst h
 rw [List.getD_eq_getElem?_getD,List.getElem?_append_right (Nat.le_refl _),Nat.sub_self];rfl
theorem getD_left {α : Type} (l : List α) (x d : α) {r : Nat} (h : r < l.length) : (l ++ [x]).getD r d = l.getD r d:=by
 rw [List.getD_eq_getElem?_getD,List.getD_eq_getElem?_getD,List.getElem?_append_left h]
theorem Pcs.drop {L : Nat} (h : Pcs wr o L vs P) (n : Nat) (hn : n ≤ P.length) : Pcs wr o (L + n) (vs.drop n) (P.drop n):=by
 refine ⟨by rw [List.length_drop,List.length_drop,h.len],fun r hr => ?_,fun r hr => ?_⟩
 ·rw [List.length_drop] at hr
  have:=h.rows (n + r) (by omega)
  unfold pg at *
  rw [getD_drop,getD_drop]
  rw [Nat.add_assoc]
  exact this
 ·rw [List.length_drop] at hr
  have:=h.pos (n + r) (by omega)
  unfold pg at *
  rw [getD_drop]
  exact this
/-- the pieces that stay, and a new one -/
theorem Pcs.push {L n : Nat} {o' : Nat → Nat} {r : Value} {T : List InsD} (h : Pcs wr o L vs P) (hn : n ≤ P.length) (t : Turn (fun l => L + n ≤ l) wr o w' o') (hr : Ro w' o' (L + n) 43 8 r T.length (ics T)) (hp : 0 < T.length) : Pcs w' o' L (vs.take n ++ [r]) (P.take n ++ [T]):=by
 have l1 : (vs.take n).length = n:=by rw [List.length_take,h.len];omega
 have l2 : (P.take n).length = n:=by rw [List.length_take];omega
 refine ⟨by rw [List.length_append,List.length_append,l1,l2];rfl,fun k hk => ?_,fun k hk => ?_⟩
 ·rw [List.length_append,l2] at hk
  have hk : k < n + 1:=hk
  by_cases e : k < n
  ·have:=(h.rows k (by omega)).turn t (by show ¬ (L + n ≤ L + k);omega)
   unfold pg at *
   rw [getD_left _ _ _ (by omega),getD_left _ _ _ (by omega),getD_take _ _ _ _ e,getD_take _ _ _ _ e]
   exact this
  ·obtain rfl : k = n:=by omega
   unfold pg
   rw [getD_last _ _ _ l1,getD_last _ _ _ l2]
   exact hr
 ·rw [List.length_append,l2] at hk
  have hk : k < n + 1:=hk
  by_cases e : k < n
  ·have:=h.pos k (by omega)
   unfold pg at *
   rw [getD_left _ _ _ (by omega),getD_take _ _ _ _ e]
   exact this
  ·obtain rfl : k = n:=by omega
   unfold pg
   rw [getD_last _ _ _ l2]
   exact hp
end
theorem cut_run (A : Option Addr) (n C cut : Nat) (hA : 0 < C → ∃ g,A = some ⟨g,0,none⟩) (h1 : cut ≤ n) (h2 : n ≤ C) : ∃ A6 C6,(cut < n → ∃ g,A = some ⟨g,0,none⟩ ∧ A6 = some ⟨g,cut,none⟩) ∧ n - cut ≤ C6 ∧ C6 ≤ C ∧ ∀ W : World,(Instr.slice 48 (.slice A n C) (some (.int .i64 cut)) none none).run Tryd.prog W = .ok (.slice A6 (n - cut) C6) W:=by
 have hn : (cut : Int) ≤ (n : Int):=by omega
 by_cases hC : C = cut
 ·subst hC
  obtain rfl : n = C:=by omega
  refine ⟨A,0,fun h => by omega,by omega,by omega,fun W => ?_⟩
  go_simp
 ·obtain ⟨g,rfl⟩:=hA (by omega)
  refine ⟨some ⟨g,cut,none⟩,C - cut,fun _ => ⟨g,rfl,rfl⟩,by omega,by omega,fun W => ?_⟩
  go_simp
  try rw [if_pos (by omega),if_neg (by omega)]
/-- what Compile answers -/
noncomputable def cmpD (is : List InsD) (b : Bool) : List InsD:=if chkP is b = 0 then compD is else []
def CmpPost (is : List InsD) (b : Bool) (w : World) (e : Ending) (w' : World) : Prop:=∃ r o,e = .returned (.tuple #[r,.int .i64 (chkP is b)]) ∧ Turn (fun l => l ≠ 0) w (fun _ => 0) w' o ∧ Ro w' o 1 43 8 r (cmpD is b).length (ics (cmpD is b))
set_option maxHeartbeats 1000000 in
theorem compile_bad (is : List InsD) (v : Value) (b : Bool) (w : World) (hc : Calls Tryd.prog 21 #[v,.bool b] w fun e w' => e = .returned (.int .i64 (chkP is b)) ∧ Below w.heap.size w w') (h0 : chkP is b ≠ 0) : Calls Tryd.prog 11 #[v,.bool b] w (CmpPost is b w):=by
 have hD : cmpD is b = []:=if_neg h0
 unfold CmpPost
 rw [hD]
 obtain ⟨z,hz⟩ : ∃ z,z = chkP is b:=⟨_,rfl⟩
 rw [← hz] at hc h0 ⊢
 have hne : (z != 0) = true:=by rw [bne_iff_ne];exact h0
 have HC:=Lib.hid hc
 clear hc hz hD h0
 go_enter Tryd.func11,Tryd.ntmps11
 go_wp2_with (go_at_call 21;(with_reducible refine HC.out.mono ?_);rintro _ w2 ⟨rfl,hb2⟩)
 refine bodyPost_ret (by simp [results,Tryd.results11,go_sem, *];try rfl) rfl ?_
 exact ⟨.slice none 0 0,fun _ => 0,rfl,(Turn.of_below _ _ hb2),Ro.nil _ _ _ _ _⟩
end Go.Proofs.YtnhmplfonkjfoaaDoor



namespace Go.Proofs.YtnhmplfonkjfoaaDoor
open Go.RowKit

theorem chk_zero {is : List InsD} {b : Bool} (h : chkP is b = 0) : is.length ≤ 300 ∧ ∃ st d,cGo is is.length 0 [] 0 = some (st,d) ∧ st.length = 1:=by
 unfold chkP at h
 by_cases hl : 300 < is.length
 ·rw [if_pos hl] at h;cases h
 ·rw [if_neg hl] at h
  refine ⟨by omega, ?_⟩
  cases hx : cGo is is.length 0 [] 0 with
  | none => rw [hx] at h;cases h
  | some x =>
   obtain ⟨st,d⟩:=x
   refine ⟨st,d,rfl, ?_⟩
   rw [hx] at h
   unfold endC at h
   dsimp only at h
   by_cases hc : st.length = 1
   ·exact hc
   ·rw [if_pos (.inl hc)] at h;cases h
theorem kids_if {op a : Int} (h : kidsB op a = true) : (op = 21 → a = 3) ∧ (op = 23 → a = 2):=by
 have h:=of_decide_eq_true h
 constructor
 ·rintro rfl
  have e : arD 21 = (3,3):=by decide
  rw [e] at h
  have h1 : (3 : Int) ≤ a:=h.2.1
  have h2 : (3 : Int) = -1 ∨ a ≤ 3:=h.2.2
  omega
 ·rintro rfl
  have e : arD 23 = (2,2):=by decide
  rw [e] at h
  have h1 : (2 : Int) ≤ a:=h.2.1
  have h2 : (2 : Int) = -1 ∨ a ≤ 2:=h.2.2
  omega
theorem tell_any (op : Int) (a : Int) (tx : ByteArray) (ng : Bool) (hi lo sc dy : Int) (ps : List (List InsD)) (vs : List Value) (o : Nat → Nat) (L : Nat) (A : Option Addr) (C : Nat) (w : World) (hp : Pcs w o L vs ps) (hl : Pl w o L A vs) (hs : sumL ps ≤ 900000) (hm : ps.length ≤ 900000) (h1 : op = 21 → ps.length = 3) (h2 : op = 23 → ps.length = 2) :
  Calls Tryd.prog 22 #[.agg #[.int .i64 op,.int .i64 a,.string tx,.bool ng,.int .u64 hi,.int .u64 lo,.int .i64 sc,.int .i64 dy],.slice A ps.length C] w (TellPost (tellD ⟨op,a,tx,ng,hi,lo,sc,dy⟩ ps) o L w):=by
 unfold tellD
 dsimp only
 by_cases c1 : op = 21
 ·rw [if_pos c1,h1 c1]
  exact tell_if op a tx ng hi lo sc dy ps vs o L A C w hp hl hs (h1 c1) c1
 ·rw [if_neg c1]
  by_cases c2 : op = 23
  ·rw [if_pos c2,h2 c2]
   exact tell_in op a tx ng hi lo sc dy ps vs o L A C w hp hl hs (h2 c2) c2
  ·rw [if_neg c2]
   exact tell_all op a tx ng hi lo sc dy ps vs o L A C w hp hl hs hm c1 c2
theorem stack_pl {w : World} {o : Nat → Nat} {t : TypeId} {A A6 : Option Addr} {n C cut L : Nat} {vs : List Value} (h : Ro w o 1 t 1 (.slice A n C) n vs) (hL : 1 < L) (hc : cut < n → ∃ g,A = some ⟨g,0,none⟩ ∧ A6 = some ⟨g,cut,none⟩) : Pl w o L A6 (vs.drop cut):=fun r hr => by
 have hlen:=h.length
 rw [List.length_drop] at hr
 obtain ⟨g,rfl,rfl⟩:=hc (by omega)
 obtain ⟨A',C',e,-,-,h4⟩:=h.sl
 injection e with e
 obtain ⟨b,q,e2,h5⟩:=h4 (cut + r) (by omega)
 rw [← e] at e2
 injection e2 with e2
 injection e2 with e2 e3
 subst e2 e3
 refine ⟨g,cut,rfl,by rw [h.2 g rfl];exact hL, ?_⟩
 rw [Nat.zero_add] at h5
 rw [h5,getD_drop,List.getD_eq_getElem?_getD,List.getElem?_eq_getElem (by omega)]
 rfl
theorem info_piece : (Tryd.prog.info? 49).map (fun i => (i.zero,i.size,i.bytes)) = some (some (.slice none 0 0),1,24):=by kernel_rfl
set_option maxRecDepth 100000 in
set_option maxHeartbeats 2500000 in
theorem compile_good (is : List InsD) (v : Value) (b : Bool) (w : World) (h : Cod w v is) (hc : Calls Tryd.prog 21 #[v,.bool b] w fun e w' => e = .returned (.int .i64 (chkP is b)) ∧ Below w.heap.size w w') (h0 : chkP is b = 0) : Calls Tryd.prog 11 #[v,.bool b] w (CmpPost is b w):=by
 have hD : cmpD is b = compD is:=if_pos h0
 unfold CmpPost
 rw [hD,h0]
 rw [h0] at hc
 obtain ⟨hl,stF,dF,hgo,h1F⟩:=chk_zero h0
 obtain ⟨PF,hPF⟩ : ∃ PF,PF = compGo is is.length 0 []:=⟨_,rfl⟩
 have HR : Hid (compD is = pg PF 0):=Lib.hid (by rw [hPF];rfl)
 obtain ⟨R,hR⟩ : ∃ R,R = compD is:=⟨_,rfl⟩
 rw [← hR] at HR ⊢
 have HGO:=Lib.hid hgo
 have HPF:=Lib.hid hPF.symm
 have H1F:=Lib.hid h1F
 have HCK:=Lib.hid hc
 have HC:=Lib.hid h
 obtain ⟨A,C,rfl,-,-⟩:=h
 clear hD h0 hc hgo hPF hR h1F
 go_enter Tryd.func11,Tryd.ntmps11
 go_wp2_with (go_at_call 21;(with_reducible refine HCK.out.mono ?_);rintro _ w2 ⟨rfl,hb2⟩)
 have HB2:=Lib.hid hb2
 clear hb2 HCK
 go_loopg [7,19] is.length (fun k s7 i wr => ∃ (t : Nat) (P : List (List InsD)) (vs : List Value) (st : List Th) (d : Int) (o : Nat → Nat),k + t = is.length ∧ i = .int .i64 t ∧ Hid (Cpm w o wr s7 vs P) ∧ Hid (P.length = st.length) ∧ Hid (cGo is k t st d = some (stF,dF)) ∧ Hid (compGo is k t P = PF) ∧ Hid (sumL P ≤ 2 * t ∧ P.length ≤ t))
 case atStart => exact ⟨0,[],[],[],0,fun _ => 0,by omega,rfl,Lib.hid ⟨Ro.nil _ _ _ _ _,⟨rfl,fun r hr => absurd hr (Nat.not_lt_zero _),fun r hr => absurd hr (Nat.not_lt_zero _)⟩,Turn.of_below _ _ HB2.out⟩,Lib.hid rfl,HGO,HPF,Lib.hid ⟨Nat.le_refl _,Nat.le_refl _⟩⟩
 case round =>
  obtain ⟨t,P,vs,st,d,o,hk,rfl,HM,HPL,HW,HP,HSU⟩:=hrel
  have HK:=Lib.hid hk
  have htn : t ≤ is.length:=by omega
  clear HB2
  by_cases hlt : t < is.length
  ·obtain ⟨b1,p1,rfl,hat⟩:=(HC.out.below HM.out.below).at hlt
   obtain ⟨gk',rfl⟩ : ∃ g',gk = g' + 1:=⟨gk - 1,by omega⟩
   clear hk
   obtain ⟨I,hI⟩ : ∃ I,I = ig is t:=⟨_,rfl⟩
   rw [← hI] at hat
   have hNP : nodeP is (ig is t) st:=by
    rcases Classical.em (nodeP is (ig is t) st) with h | h
    ·exact h
    ·have:=HW.out
     rw [cGo_no h] at this
     cases this
   have HI:=Lib.hid hI
   have HNP:=Lib.hid hNP
   rw [← hI] at hNP
   obtain ⟨op,a,tx,ng,hi,lo,sc,dy⟩:=I
   obtain ⟨a0,a1,a2,a3,a4,a5,a6,a7⟩:=hat.ins
   dsimp only at a0 a1 a2 a3 a4 a5 a6 a7
   have hkb:=hNP.2.1
   have hal:=hNP.2.2.1
   dsimp only at hkb hal
   have hz3:=kids_pos hkb
   obtain ⟨an,rfl⟩ : ∃ an : Nat,a = (an : Int):=⟨a.toNat,by omega⟩
   obtain ⟨n0,hn0⟩ : ∃ n0,n0 = P.length:=⟨_,rfl⟩
   have hcut : an ≤ n0:=by have:=HPL.out;omega
   have hn300 : n0 ≤ 300:=by have:=HSU.out;omega
   have HKB:=Lib.hid (kids_if hkb)
   clear hat hI hNP hkb hal hz3
   obtain ⟨A5,C5,hu5,hn5⟩:=HM.out.row.sl.is
   subst hu5
   have hcap:=HM.out.row.cap
   rw [← hn0] at hn5 hcap ⊢
   obtain ⟨hc1,hc2⟩:=hcap
   unfold maxLen at hn5 hc2
   have HN0:=Lib.hid hn0
   have hw1 : IntKind.i64.wrap ((n0 : Int) - (an : Int)) = ((n0 - an : Nat) : Int):=by rw [IntKind.wrap_i64];omega
   obtain ⟨cut,hct⟩ : ∃ c,c = n0 - an:=⟨_,rfl⟩
   rw [← hct] at hw1
   obtain ⟨A6,C6,hq6,hc6,hc7,hsl⟩:=cut_run A5 n0 C5 cut (fun hC => HM.out.row.addr hC) (by omega) hc1
   rw [show n0 - cut = an by omega] at hsl hc6
   have HQ6:=Lib.hid hq6
   have HSL:=Lib.hid hsl
   have hcn : cut ≤ n0:=by omega
   have hcC : cut ≤ C5:=by omega
   have HCT:=Lib.hid hct
   clear hn0 hq6 hsl hct
   go_upto_region 9 with fail
   clear a0 a1 a2 a3 a4 a5 a6 a7 hw1
   have ht1 : Turn (fun _ => False) wr o (wr.alloc (.cells #[.int .i64 op,.int .i64 an,.string tx,.bool ng,.int .u64 hi,.int .u64 lo,.int .i64 sc,.int .i64 dy] 45)).drew (relabel o wr.heap.size 2):=((Turn.refl _ _ _).alloc _).drew.relabel (Nat.le_refl _) _
   have hL8 : Lb (wr.alloc (.cells #[.int .i64 op,.int .i64 an,.string tx,.bool ng,.int .u64 hi,.int .u64 lo,.int .i64 sc,.int .i64 dy] 45)).drew (relabel o wr.heap.size 2) 2 wr.heap.size 45 [.int .i64 op,.int .i64 an,.string tx,.bool ng,.int .u64 hi,.int .u64 lo,.int .i64 sc,.int .i64 dy]:=(Lb.new o 2 _ [.int .i64 op,.int .i64 an,.string tx,.bool ng,.int .u64 hi,.int .u64 lo,.int .i64 sc,.int .i64 dy] (Nat.le_refl _)).drew
   have hM1:=HM.out.turn2 ht1
   have hk:=hL8.1
   refine wp_region_held_drew (S:=fun w' => w'.cell? ⟨wr.heap.size,0,none⟩ = some (.int .i64 op) ∧ w'.cell? ⟨wr.heap.size,1,none⟩ = some (.int .i64 an) ∧ w'.cell? ⟨wr.heap.size,2,none⟩ = some (.string tx) ∧ w'.cell? ⟨wr.heap.size,3,none⟩ = some (.bool ng) ∧ w'.cell? ⟨wr.heap.size,4,none⟩ = some (.int .u64 hi) ∧ w'.cell? ⟨wr.heap.size,5,none⟩ = some (.int .u64 lo) ∧ w'.cell? ⟨wr.heap.size,6,none⟩ = some (.int .i64 sc) ∧ w'.cell? ⟨wr.heap.size,7,none⟩ = some (.int .i64 dy)) (by kernel_rfl) ⟨hk.cell 0 rfl,hk.cell 1 rfl,hk.cell 2 rfl,hk.cell 3 rfl,hk.cell 4 rfl,hk.cell 5 rfl,hk.cell 6 rfl,hk.cell 7 rfl⟩ (fun hHeld => ?_)
   generalize (wr.alloc (.cells #[.int .i64 op,.int .i64 an,.string tx,.bool ng,.int .u64 hi,.int .u64 lo,.int .i64 sc,.int .i64 dy] 45)).drew = w1 at ht1 hL8 hM1 hHeld ⊢
   generalize relabel o wr.heap.size 2 = o1 at ht1 hL8 hM1
   have HM1:=Lib.hid hM1
   have HL8:=Lib.hid hL8
   clear ht1 hL8 hM1 hk
   refine wpAnyH_take (i:=0) (v:=?_) rfl (by kernel_rfl) (by kernel_rfl) (by kernel_rfl) (fun _ _ _ h => h) (Or.inl ⟨by rfl, ?_⟩) (by assumption) ?_
   rotate_left
   (focus (intro w hSw;(try dsimp only at hSw);go_simp;(try with_reducible rfl)))
   (try simp only [Act.put,List.setIfInBounds_toArray,List.set_cons_zero,List.set_cons_succ])
   refine wpAnyH_take (i:=1) (v:=?_) rfl (by kernel_rfl) (by kernel_rfl) (by kernel_rfl) (fun _ _ _ h => h) (Or.inl ⟨by rfl, ?_⟩) (by assumption) ?_
   rotate_left
   (focus (intro w hSw;(try dsimp only at hSw);go_simp;(try with_reducible rfl)))
   (try simp only [Act.put,List.setIfInBounds_toArray,List.set_cons_zero,List.set_cons_succ])
   refine wpAnyH_take (i:=2) (v:=?_) rfl (by kernel_rfl) (by kernel_rfl) (by kernel_rfl) (fun _ _ _ h => h) (Or.inl ⟨by rfl, ?_⟩) (by assumption) ?_
   rotate_left
   (focus (intro w hSw;(try dsimp only at hSw);go_simp;(try with_reducible rfl)))
   (try simp only [Act.put,List.setIfInBounds_toArray,List.set_cons_zero,List.set_cons_succ])
   refine wpAnyH_take (i:=3) (v:=?_) rfl (by kernel_rfl) (by kernel_rfl) (by kernel_rfl) (fun _ _ _ h => h) (Or.inl ⟨by rfl, ?_⟩) (by assumption) ?_
   rotate_left
   (focus (intro w hSw;(try dsimp only at hSw);go_simp;(try with_reducible rfl)))
   (try simp only [Act.put,List.setIfInBounds_toArray,List.set_cons_zero,List.set_cons_succ])
   refine wpAnyH_take (i:=4) (v:=?_) rfl (by kernel_rfl) (by kernel_rfl) (by kernel_rfl) (fun _ _ _ h => h) (Or.inl ⟨by rfl, ?_⟩) (by assumption) ?_
   rotate_left
   (focus (intro w hSw;(try dsimp only at hSw);go_simp;(try with_reducible rfl)))
   (try simp only [Act.put,List.setIfInBounds_toArray,List.set_cons_zero,List.set_cons_succ])
   refine wpAnyH_take (i:=5) (v:=?_) rfl (by kernel_rfl) (by kernel_rfl) (by kernel_rfl) (fun _ _ _ h => h) (Or.inl ⟨by rfl, ?_⟩) (by assumption) ?_
   rotate_left
   (focus (intro w hSw;(try dsimp only at hSw);go_simp;(try with_reducible rfl)))
   (try simp only [Act.put,List.setIfInBounds_toArray,List.set_cons_zero,List.set_cons_succ])
   have hcr:=HSL.out
   refine wpAnyH_take (i:=6) (v:=?_) rfl (by kernel_rfl) (by kernel_rfl) (by kernel_rfl) (fun _ _ _ h => h) (Or.inl ⟨by rfl, ?_⟩) (by assumption) ?_
   rotate_left
   (focus (intro w hSw;(try dsimp only at hSw);go_simp;(try with_reducible rfl)))
   (try simp only [Act.put,List.setIfInBounds_toArray,List.set_cons_zero,List.set_cons_succ])
   clear hcr
   refine wpAnyH_ready (rs:=[7]) (by kernel_rfl) (by simp) ?_
   refine AllReadyH.cons (by rw [List.getElem?_toArray];exact rfl) (fun K hK => ?_) AllReadyH.nil
   (have tok7 : True:=trivial;clear tok7;go_simp)
   have hdl : (P.drop cut).length = an:=by rw [List.length_drop,← HN0.out,HCT.out];omega
   have htl:=tell_any op an tx ng hi lo sc dy (P.drop cut) (vs.drop cut) o1 (3 + cut) A6 C6 w1 (HM1.out.pcs.drop cut (by have:=HN0.out;omega)) (stack_pl (by rw [HN0.out];exact HM1.out.row) (by omega) HQ6.out) (by have h1:=sumL_take P cut;have h2:=HSU.out.1;omega) (by omega) (fun e => by have:=HKB.out.1 e;omega) (fun e => by have:=HKB.out.2 e;omega)
   rw [hdl] at htl
   refine htl.mono ?_
   rintro _ w2 ⟨r,rfl,ht2,hr2⟩
   dsimp only
   have hT0:=tellD_pos ⟨op,an,tx,ng,hi,lo,sc,dy⟩ (P.drop cut)
   have hTl:=tellD_length (i:=⟨op,an,tx,ng,hi,lo,sc,dy⟩) (P:=P.drop cut) (fun e => by have:=HKB.out.1 e;omega) (fun e => by have:=HKB.out.2 e;omega)
   have hTD : tellD ⟨op,an,tx,ng,hi,lo,sc,dy⟩ (P.drop cut) = tellD (ig is t) (P.drop cut):=by rw [← HI.out]
   obtain ⟨T,hT⟩ : ∃ T,T = tellD ⟨op,an,tx,ng,hi,lo,sc,dy⟩ (P.drop cut):=⟨_,rfl⟩
   rw [← hT] at hr2 hT0 hTl hTD
   have HTD:=Lib.hid hTD
   clear hTD
   obtain ⟨Ar,Cr,rfl,-⟩:=hr2.sl.is
   obtain ⟨o2,ho2⟩ : ∃ o2,o2 = relabel o1 w1.heap.size (3 + cut):=⟨_,rfl⟩
   rw [← ho2] at ht2 hr2
   have LK:=HL8.out.turn ht2 (by show ¬ (3 + cut ≤ 2);omega)
   have hPC:=HM1.out.pcs.push (by have:=HN0.out;omega) ht2 hr2 (List.length_pos_iff.2 hT0)
   have hrow:=(HM1.out.row.cut (m:=cut) (by have:=HN0.out;omega)).turn ht2 (by show ¬ (3 + cut ≤ 1);omega)
   rw [Nat.mul_one] at hrow
   have hTN:=HM1.out.turn.trans (ht2.mono (S':=fun l => l ≠ 0) (fun l hl => by have hl' : 3 + cut ≤ l:=hl;omega))
   clear ht2 hr2 htl hdl hT ho2
   refine hK.out _ _ ⟨LK.1.cell 0 rfl,LK.1.cell 1 rfl,LK.1.cell 2 rfl,LK.1.cell 3 rfl,LK.1.cell 4 rfl,LK.1.cell 5 rfl,LK.1.cell 6 rfl,LK.1.cell 7 rfl⟩ (fun hHeld => ?_)
   clear hK K
   (try simp only [Act.put,List.setIfInBounds_toArray,List.set_cons_zero,List.set_cons_succ])
   refine wpAnyH_ready (rs:=[8]) (by kernel_rfl) (by simp) ?_
   refine AllReadyH.cons (by rw [List.getElem?_toArray];exact rfl) (fun K hK => ?_) AllReadyH.nil
   (have tok8 : True:=trivial;clear tok8;go_simp)
   have LK2:=LK.alloc (.cells #[.slice Ar T.length Cr] 49)
   refine hK.out _ _ ⟨LK2.1.cell 0 rfl,LK2.1.cell 1 rfl,LK2.1.cell 2 rfl,LK2.1.cell 3 rfl,LK2.1.cell 4 rfl,LK2.1.cell 5 rfl,LK2.1.cell 6 rfl,LK2.1.cell 7 rfl⟩ (fun hHeld => ?_)
   clear hK K
   (try simp only [Act.put,List.setIfInBounds_toArray,List.set_cons_zero,List.set_cons_succ])
   refine wpAnyH_ready (rs:=[9]) (by kernel_rfl) (by simp) ?_
   refine AllReadyH.cons (by rw [List.getElem?_toArray];exact rfl) (fun K hK => ?_) AllReadyH.nil
   refine step_pushR rfl _ _ 48 49 1 24 (.slice none 0 0) rfl Tryd.underlying48 info_piece rfl (by decide) o2 1 (.slice A5 cut C5) cut (vs.take cut) rfl (hrow.alloc _) ⟨w2.heap.size,0,none⟩ 1 1 [.slice Ar T.length Cr] rfl rfl (news_bk (Bk.new w2 _ [.slice Ar T.length Cr])) (fun u hu => by rw [List.mem_singleton.1 hu];rfl) (by decide) (by omega) (by unfold maxLen;omega) ?_
   intro g5 cap5 w9 hr5 ht5 hlt5
   have LK9:=LK2.turn ht5 (by show ¬ (2 = 1);decide)
   refine hK.out _ _ ⟨LK9.1.cell 0 rfl,LK9.1.cell 1 rfl,LK9.1.cell 2 rfl,LK9.1.cell 3 rfl,LK9.1.cell 4 rfl,LK9.1.cell 5 rfl,LK9.1.cell 6 rfl,LK9.1.cell 7 rfl⟩ (fun hHeld => ?_)
   clear hK K
   (try simp only [Act.put,List.setIfInBounds_toArray,List.set_cons_zero,List.set_cons_succ])
   refine wpAnyH_take (i:=10) (v:=?_) rfl (by kernel_rfl) (by kernel_rfl) (by kernel_rfl) (fun _ _ _ h => h) (Or.inl ⟨by rfl, ?_⟩) (by assumption) ?_
   rotate_left
   (focus (intro w hSw;(try dsimp only at hSw);go_simp;(try with_reducible rfl)))
   (try simp only [Act.put,List.setIfInBounds_toArray,List.set_cons_zero,List.set_cons_succ])
   refine wpAnyH_done (by kernel_rfl) ?_ _
   (try simp only [List.getElem_toArray,List.getElem_cons_succ,List.getElem_cons_zero,List.setIfInBounds_toArray,List.set_cons_zero,List.set_cons_succ])
   have hlen : (P.take cut ++ [T]).length = cut + 1:=by
    rw [List.length_append,List.length_take,← HN0.out]
    show min _ _ + 1 = _
    omega
   have hNEW : Cpm w _ w9 (.slice (some ⟨g5,0,none⟩) (cut + 1) cap5) (vs.take cut ++ [.slice Ar T.length Cr]) (P.take cut ++ [T]):=⟨by rw [hlen];exact hr5,(hPC.turn ((Turn.refl (fun _ => False) _ _).alloc _) (fun _ _ h => h)).turn ht5 (fun r _ => by show ¬ (3 + r = 1);omega),(hTN.alloc _).trans (ht5.mono (fun l hl => by have hl' : l = 1:=hl;omega))⟩
   have HNEW:=Lib.hid hNEW
   have HPL2 : Hid ((P.take cut ++ [T]).length = (stepT (ig is t) t st).length):=Lib.hid (by
    rw [hlen]
    unfold stepT cutN
    rw [← HI.out]
    dsimp only
    rw [Int.toNat_natCast,List.length_append,List.length_take,← HPL.out,← HN0.out]
    show cut + 1 = min _ _ + 1
    have:=HCT.out
    omega)
   have HW2:=HW.out
   rw [cGo_yes HNP.out] at HW2
   have HW3:=Lib.hid HW2
   have HP2 : Hid (compGo is gk' (t + 1) (P.take cut ++ [T]) = PF):=Lib.hid (by
    rw [← HP.out]
    show _ = compGo is gk' (t + 1) (stepP (ig is t) P)
    unfold stepP cutP
    rw [HTD.out]
    have e : P.length - (ig is t).a.toNat = cut:=by
     rw [← HI.out,HCT.out,HN0.out]
     rfl
    rw [e])
   have HSU2 : Hid (sumL (P.take cut ++ [T]) ≤ 2 * (t + 1) ∧ (P.take cut ++ [T]).length ≤ t + 1):=Lib.hid (by
    have h1:=sumL_take P cut
    have h2:=HSU.out
    have h3:=HN0.out
    refine ⟨?_,by rw [hlen];omega⟩
    rw [sumL_append]
    show _ + (T.length + 0) ≤ _
    omega)
   clear hr5 ht5 hPC hrow hTN LK LK2 LK9 hHeld hNEW HW2 hlen hT0 hTl
   go_wp2_with fail
   go_roundg gk'
   case measure => omega
   case rel => exact ⟨t + 1,_,_,_,_,_,by have:=HK.out;omega,by go_num,HNEW,HPL2,HW3,HP2,HSU2⟩
  ·obtain rfl : t = is.length:=by omega
   obtain rfl : gk = 0:=by omega
   have hPF : P = PF:=HP.out
   have hst : st = stF:=by
    have:=HW.out
    have h : some (st,d) = some (stF,dF):=this
    injection h with h
    injection h
   have hP1 : P.length = 1:=by rw [HPL.out,hst];exact H1F.out
   have hrow:=HM.out.row
   obtain ⟨g,cap,cur,rfl,hc1,-,hc3,hc4,hc5⟩:=hrow.form (by omega)
   have hp:=HM.out.pcs.rows 0 (by omega)
   have hRE : R = pg P 0:=by rw [hPF];exact HR.out
   rw [← hRE] at hp
   obtain ⟨v0,hv0⟩ : ∃ v,v = vs.getD 0 undef:=⟨_,rfl⟩
   rw [← hv0] at hp
   have hvl : vs.length = 1:=by rw [HM.out.pcs.len];exact hP1
   have c0 : wr.cell? ⟨g,0,none⟩ = some v0:=by
    refine hc4.1.cell 0 ?_
    have h9 : (cur.take (P.length * 1))[0]? = vs[0]?:=by rw [hc5]
    rw [List.getElem?_take_of_lt (by omega)] at h9
    rw [h9,hv0,List.getD_eq_getElem?_getD,List.getElem?_eq_getElem (by omega)]
    rfl
   have hnew : ∀ g,o g = 3 + 0 → w.heap.size ≤ g:=fun g hg => by
    rcases Nat.lt_or_ge g w.heap.size with h | h
    ·have:=HM.out.turn.num g h
     rw [this] at hg
     cases hg
    ·exact h
   obtain ⟨A0,C0,rfl,-⟩:=hp.sl.is
   have HQ:=Lib.hid (hp.renum hnew (fun _ => 0) 1)
   have HTQ:=Lib.hid (turn_renum HM.out.turn 1)
   rw [hP1]
   clear hk hp hrow hc1 hc3 hc4 hc5 hv0 hvl hnew hPF hst hRE hP1 HP HW HPL HSU HM HC HR
   go_wp2_with fail
   refine bodyPost_ret (by simp [results,Tryd.results11,go_sem, *];try rfl) rfl ?_
   exact ⟨_,_,rfl,HTQ.out,HQ.out⟩
end Go.Proofs.YtnhmplfonkjfoaaDoor

