/- The contracts of the functions that the law reaches, part 2: what each returns and what becomes of memory. -/
import Derived.Test.YtanjbdhjnmmfdaaDoorSh
import Derived.Shelf.Spec.BitsCarry
import Derived.Lib.Hide
import Derived.Deep.DeepCutAuto
import Derived.RegionTactic
import Derived.BigRegion
import Derived.Deep.RegionHeld3
import Derived.IntWalk
import Derived.BigQuiet
import Derived.Test.YtanjbdhjnmmfdaaDoorM1
set_option linter.unusedSimpArgs false
set_option linter.unusedVariables false
namespace Go.Proofs.YtanjbdhjnmmfdaaDoor
open Go.RowKit

def bs (x : List UInt8) : ByteArray := ⟨x.toArray⟩
theorem bs_inj {x y : List UInt8} (h : bs x = bs y) : x = y := by
  have := congrArg (fun z : ByteArray => z.data.toList) h
  simpa [bs] using this
/-- names, none twice -/
def namesB (l : List (List UInt8)) : Bool := decide (∀ i, i < l.length → nam (ng l i) = true ∧ ∀ k, k < i → ng l k ≠ ng l i)
theorem ng_bs {l : List (List UInt8)} {j : Nat} (h : j < l.length) : (l.map bs).getD j ByteArray.empty = bs (ng l j) := by
  unfold ng
  rw [List.getD_eq_getElem?_getD, List.getElem?_map, List.getD_eq_getElem?_getD, List.getElem?_eq_getElem h]; rfl
def twiceB (l : List (List UInt8)) (i : Nat) : Bool := decide (∃ k, k < i ∧ ng l k = ng l i)
theorem contains_is {l : List (List UInt8)} {i : Nat} (hi : i < l.length) : Lib.containsS ((l.map bs).take i) (bs (ng l i)) = twiceB l i := by
  rw [Bool.eq_iff_iff, Lib.containsS_iff, twiceB, decide_eq_true_eq]
  constructor
  · intro h
    obtain ⟨k, hk, e⟩ := List.mem_iff_getElem.1 h
    rw [List.length_take, List.length_map] at hk
    rw [List.getElem_take, List.getElem_map] at e
    refine ⟨k, by omega, ?_⟩
    have : ng l k = l[k]'(by omega) := by unfold ng; rw [List.getD_eq_getElem?_getD, List.getElem?_eq_getElem (by omega)]; rfl
    rw [this]
    exact bs_inj e
  · rintro ⟨k, hk, e⟩
    refine List.mem_iff_getElem.2 ⟨k, by rw [List.length_take, List.length_map]; omega, ?_⟩
    rw [List.getElem_take, List.getElem_map, ← e]
    unfold ng
    rw [List.getD_eq_getElem?_getD, List.getElem?_eq_getElem (by omega)]; rfl
set_option maxHeartbeats 1000000 in
theorem vnames_any (l : List (List UInt8)) (N : Value) (w : World) (h : Nms w N l) :
    Calls Tryd.prog 42 #[N] w fun e w' => e = .returned (.bool (namesB l)) ∧ w = w' := by
  have HN := Lib.hid h
  obtain ⟨A, C, rfl, hl⟩ := h.is
  obtain ⟨hc1, hc2⟩ := h.caps
  clear h
  obtain ⟨z, hz⟩ : ∃ z, z = namesB l := ⟨_, rfl⟩
  rw [← hz]
  have HZ : Hid (z = true ↔ ∀ i, i < l.length → nam (ng l i) = true ∧ ∀ k, k < i → ng l k ≠ ng l i) := Lib.hid (by rw [hz, namesB, decide_eq_true_eq])
  clear hz
  go_enter Tryd.func42, Tryd.ntmps42
  go_wp2_with fail
  go_loopg [7] l.length (fun k i wr => ∃ t : Nat, k + t = l.length ∧ i = .int .i64 t ∧ Hid (∀ i, i < t → nam (ng l i) = true ∧ ∀ k, k < i → ng l k ≠ ng l i) ∧ w = wr)
  case atStart => exact ⟨0, by omega, rfl, Lib.hid (fun i hi => absurd hi (Nat.not_lt_zero _)), rfl⟩
  case round =>
    obtain ⟨t, hk, rfl, HA, rfl⟩ := hrel
    have HK := Lib.hid hk
    have htn : t ≤ l.length := by omega
    clear hk
    by_cases hlt : t < l.length
    · obtain ⟨b, o, rfl, hcell, hlen⟩ := HN.out.at hlt
      have HNM := Lib.hid (name_any (ng l t) (by omega) w)
      have hcon := Tryd.slices_Contains_string b o t C (l.map bs) (bs (ng l t)) w (by rw [List.length_map]; omega) (by omega) (fun j hj => by
        rw [List.length_map] at hj
        obtain ⟨b', o', e, hc, _⟩ := HN.out.at hj
        injection e with e
        injection e with e1 e2
        subst e1 e2
        rw [ng_bs hj]; exact hc)
      rw [contains_is hlt] at hcon
      have htc : (t : Int) ≤ (C : Int) := by omega
      obtain ⟨y, hy⟩ : ∃ y, y = nam (ng l t) := ⟨_, rfl⟩
      obtain ⟨d, hd⟩ : ∃ d, d = twiceB l t := ⟨_, rfl⟩
      rw [← hy] at HNM
      rw [← hd] at hcon
      have HCN : Hid (Calls Tryd.prog 59 #[.slice (some ⟨b, o, none⟩) t C, .string ⟨(ng l t).toArray⟩] w fun e w' => e = .returned (.bool d) ∧ w' = w) := Lib.hid hcon
      have HY := Lib.hid hy
      have HD : Hid (d = true ↔ ∃ k, k < t ∧ ng l k = ng l t) := Lib.hid (by rw [hd, twiceB, decide_eq_true_eq])
      obtain ⟨x, hx⟩ : ∃ x, x = ng l t := ⟨_, rfl⟩
      rw [← hx] at hcell HNM HCN
      have HX := Lib.hid hx
      clear hcon hy hd hx hlen
      cases y with
      | false =>
        have hz : z = false := by
          cases z with
          | false => rfl
          | true =>
            have := (HZ.out.1 rfl t hlt).1
            rw [← HY.out] at this; exact Bool.noConfusion this
        subst hz
        go_wp2_with fail
        refine HNM.out.mono ?_
        rintro _ _ ⟨rfl, rfl⟩
        go_wp2_with fail
        go_ret
        exact ⟨rfl, rfl⟩
      | true =>
        cases d with
        | true =>
          have hz : z = false := by
            cases z with
            | false => rfl
            | true =>
              obtain ⟨k, hk, e⟩ := HD.out.1 rfl
              exact absurd e ((HZ.out.1 rfl t hlt).2 k hk)
          subst hz
          go_wp2_with fail
          refine HNM.out.mono ?_
          rintro _ _ ⟨rfl, rfl⟩
          go_wp2_with fail
          refine HCN.out.mono ?_
          rintro _ _ ⟨rfl, rfl⟩
          go_wp2_with fail
          go_ret
          exact ⟨rfl, rfl⟩
        | false =>
          go_wp2_with fail
          refine HNM.out.mono ?_
          rintro _ _ ⟨rfl, rfl⟩
          go_wp2_with fail
          refine HCN.out.mono ?_
          rintro _ _ ⟨rfl, rfl⟩
          go_wp2_with fail
          go_roundg (gk - 1)
          case measure => have := HK.out; omega
          case rel => exact ⟨t + 1, by have := HK.out; omega, by go_num, Lib.hid (fun i hi => by
            by_cases e : i = t
            · subst e
              refine ⟨HY.out.symm, fun k hk e => ?_⟩
              exact Bool.noConfusion (HD.out.2 ⟨k, hk, e⟩)
            · exact HA.out i (by omega)), rfl⟩
    · obtain rfl : t = l.length := by omega
      have hz : z = true := HZ.out.2 HA.out
      subst hz
      go_wp2_with fail
      go_ret
      exact ⟨rfl, rfl⟩
end Go.Proofs.YtanjbdhjnmmfdaaDoor

set_option linter.unusedSimpArgs false
set_option linter.unusedVariables false
namespace Go.Proofs.YtanjbdhjnmmfdaaDoor
open Go.RowKit

/-- the library's two tables lie as its text lays them -/
abbrev Tabs (w : World) : Prop := Lib.Utf8Tabs 0 1 w
theorem tabs_below {w w' : World} (h : Tabs w) (hb : Below w.heap.size w w') : Tabs w' := by
  have key : ∀ (a : Addr) v, w.cell? a = some v → w'.cell? a = some v := fun a v hv => by
    have hlt : a.block < w.heap.size := by
      rcases Nat.lt_or_ge a.block w.heap.size with h1 | h1
      · exact h1
      · simp [World.cell?, Array.getElem?_eq_none h1] at hv
    rw [hb.cell hlt]; exact hv
  exact ⟨fun c hc => key _ _ (h.1 c hc), fun i hi => ⟨key _ _ (h.2 i hi).1, key _ _ (h.2 i hi).2⟩⟩
theorem tabs_drewN {w : World} (h : Tabs w) (n : Nat) : Tabs (w.drewN n) := h
theorem bool_lt {i : Int} : decide (i < 0) = true ∨ decide (i < 0) = false := by
  cases decide (i < 0) <;> simp
set_option maxHeartbeats 1000000 in
theorem valid_any (l : List UInt8) (hl : l.length ≤ 9223372036854775807) (w : World) (hT : Tabs w) :
    Calls Tryd.prog 41 #[.string ⟨l.toArray⟩] w fun e w' => e = .returned (.bool (ztxt l)) ∧ Below w.heap.size w w' := by
  have HV := Lib.hid (Tryd.utf8_ValidString ⟨l.toArray⟩ w (by show l.toArray.size ≤ _; simpa using hl) hT)
  have HI := Lib.hid (fun W => Tryd.strings_IndexFunc 56 #[] (enters_of Tryd.func56 (by kernel_rfl) rfl) (fun r => !chr r) ⟨l.toArray⟩ W (closure_chr W))
  have he := ztxt_is ⟨l.toArray⟩
  obtain ⟨a, ha⟩ : ∃ a, a = Lib.validD l := ⟨_, rfl⟩
  obtain ⟨i, hi⟩ : ∃ i, i = Lib.idxFunc (fun r => !chr r) true ⟨l.toArray⟩ := ⟨_, rfl⟩
  have he2 : ztxt l = (a && decide (i < 0)) := by rw [ha, hi]; exact he.symm
  have HE := Lib.hid he2
  rw [← hi] at HI
  have ha2 : ∀ x, Lib.validD (⟨l.toArray⟩ : ByteArray).data.toList = x → Lib.validD l = x := fun _ h => h
  have HV2 : Hid (Calls Tryd.prog 54 #[.string ⟨l.toArray⟩] w fun e w' => e = .returned (.bool a) ∧ Below w.heap.size w w') := Lib.hid (by rw [ha]; exact HV.out)
  clear he he2 hT ha hi ha2 HV
  cases a with
  | false =>
    go_enter Tryd.func41, Tryd.ntmps41
    go_wp2_with fail
    refine HV2.out.mono ?_
    rintro _ w1 ⟨rfl, hb1⟩
    go_wp2_with fail
    go_ret
    exact ⟨ret_bool (by rw [HE.out]; rfl), hb1⟩
  | true =>
    go_enter Tryd.func41, Tryd.ntmps41
    go_wp2_with fail
    refine HV2.out.mono ?_
    rintro _ w1 ⟨rfl, hb1⟩
    go_wp2_with fail
    refine (HI.out _).mono ?_
    rintro _ w2 ⟨rfl, hb2⟩
    go_wp2_with fail
    go_ret
    exact ⟨ret_bool (by rw [HE.out]; simp), hb1.trans (hb2.mono hb1.size)⟩
end Go.Proofs.YtanjbdhjnmmfdaaDoor

set_option linter.unusedSimpArgs false
set_option linter.unusedVariables false
namespace Go.Proofs.YtanjbdhjnmmfdaaDoor
open Go.RowKit

/-- a word and a carry: s + 2^64 k is t -/
def Carry (s k t : Int) : Prop := s + 18446744073709551616 * k = t ∧ 0 ≤ s ∧ s < 18446744073709551616 ∧ 0 ≤ k ∧ k ≤ 1
theorem add64_ex (x y c : Int) (hx0 : 0 ≤ x) (hx : x < 18446744073709551616) (hy0 : 0 ≤ y) (hy : y < 18446744073709551616) (hc0 : 0 ≤ c) (hc : c ≤ 1) :
    ∃ s k : Int, (∀ W : World, (callFunc 77 #[.int .u64 x, .int .u64 y, .int .u64 c]).run Tryd.prog W = .ok (.value (.tuple #[.int .u64 s, .int .u64 k])) W) ∧ Carry s k (x + y + c) := by
  refine ⟨(x + y + c) % 18446744073709551616, (x + y + c) / 18446744073709551616, fun W => ?_, ?_⟩
  · rw [run_callFunc_extern Tryd.func77 (by kernel_rfl) (by kernel_rfl) (by kernel_rfl) (e := add64Entry) (by kernel_rfl), run_add64 x y c hx0 hy0 hc0 hc]
    rfl
  · unfold Carry; omega
/-- a difference and a borrow: s - 2^64 k is t -/
def Borrow (s k t : Int) : Prop := s - 18446744073709551616 * k = t ∧ 0 ≤ s ∧ s < 18446744073709551616 ∧ 0 ≤ k ∧ k ≤ 1
/-- a product's two words -/
def Two (h l t : Int) : Prop := h * 18446744073709551616 + l = t ∧ 0 ≤ h ∧ h < 18446744073709551616 ∧ 0 ≤ l ∧ l < 18446744073709551616
theorem mul64_ex (x y : Int) (hx0 : 0 ≤ x) (hx : x < 18446744073709551616) (hy0 : 0 ≤ y) (hy : y < 18446744073709551616) :
    ∃ h l : Int, (∀ w : World, Calls Tryd.prog 76 #[.int .u64 x, .int .u64 y] w fun e w' => e = .returned (.tuple #[.int .u64 h, .int .u64 l]) ∧ ∃ nn, w' = w.drewN nn) ∧ Two h l (x * y) := by
  obtain ⟨x, rfl⟩ := Int.eq_ofNat_of_zero_le hx0
  obtain ⟨y, rfl⟩ := Int.eq_ofNat_of_zero_le hy0
  refine ⟨((x * y / 18446744073709551616 : Nat) : Int), ((x * y % 18446744073709551616 : Nat) : Int), fun w => (Tryd.bits_Mul64 x y (by omega) (by omega) w).mono fun e w' h => ⟨h.1, 0, h.2⟩, ?_⟩
  have hlt : x * y < 340282366920938463463374607431768211456 := by
    have h1 : x * y ≤ 18446744073709551615 * 18446744073709551615 := Nat.mul_le_mul (by omega) (by omega)
    omega
  unfold Two
  rw [← Int.natCast_mul]
  generalize x * y = p at *
  omega
end Go.Proofs.YtanjbdhjnmmfdaaDoor

set_option linter.unusedSimpArgs false
set_option linter.unusedVariables false
namespace Go.Proofs.YtanjbdhjnmmfdaaDoor
open Go.RowKit

theorem lz10 (w : World) : Calls Tryd.prog 75 #[.int .u64 10] w fun e w' => e = .returned (.int .i64 60) ∧ ∃ nn, w' = w.drewN nn :=
  (Tryd.bits_LeadingZeros64 10 w (by decide) (by decide)).mono fun e w' h => ⟨by rw [h.1]; rfl, 0, h.2⟩

theorem or_gen (i a b : Nat) (hb : b < 2 ^ i) : a * 2 ^ i ||| b = a * 2 ^ i + b := by
  rw [Nat.mul_comm]; exact (Nat.two_pow_add_eq_or_of_lt hb a).symm
theorem or_sum (x b : Nat) (hx : x < 18446744073709551616) (hb : b < 18446744073709551616) (h : x ||| b = x + b) : bits .or .u64 (x : Int) (b : Int) = (x : Int) + b := by
  rw [bits_or_u64_nat x b hx hb, h]; omega
theorem or_top (h l : Int) (h0 : 0 ≤ h) (h9 : h ≤ 9) (l0 : 0 ≤ l) (l1 : l < 18446744073709551616) : bits .or .u64 (h * 1152921504606846976) (l / 16) = h * 1152921504606846976 + l / 16 := by
  obtain ⟨a, rfl⟩ := Int.eq_ofNat_of_zero_le h0
  obtain ⟨b, rfl⟩ := Int.eq_ofNat_of_zero_le l0
  obtain ⟨x, hx⟩ : ∃ x : Nat, (x : Int) = (a : Int) * 1152921504606846976 := ⟨((a : Int) * 1152921504606846976).toNat, by omega⟩
  have e : ((b / 16 : Nat) : Int) = (b : Int) / 16 := by omega
  have h2 : x ||| b / 16 = x + b / 16 := by
    have h3 := or_gen 60 a (b / 16) (by omega)
    have h4 : a * 2 ^ 60 = x := by omega
    rw [h4] at h3; exact h3
  rw [← hx, ← e]
  exact or_sum x (b / 16) (by omega) (by omega) h2
theorem and_low (z : Int) (k : Int) (hz : z = k * 1152921504606846976) (h0 : 0 ≤ k) (h1 : k < 16) : bits .and .u64 z 4294967295 = 0 := by
  rw [and_low32 z (by omega) (by omega)]; omega
/-- a number of two words by ten -/
def Ten (q r t : Int) : Prop := 10 * q + r = t ∧ 0 ≤ q ∧ q < 18446744073709551616 ∧ 0 ≤ r ∧ r ≤ 9
theorem ten_last (h l u q r s p t : Int) (hu : u = h * 1152921504606846976 + l / 16) (hq : u = q * 2684354560 + r) (hr0 : 0 ≤ r) (hr : r < 2684354560)
    (hs : s = r * 4294967296 + l % 16 * 268435456) (hp : s = p * 2684354560 + t) (ht0 : 0 ≤ t) (ht : t < 2684354560) (h9 : h ≤ 9) (h0 : 0 ≤ h) (l0 : 0 ≤ l) (l1 : l < 18446744073709551616) :
    Ten (q * 4294967296 + p) (t / 268435456) (h * 18446744073709551616 + l) := by
  unfold Ten; omega

set_option maxHeartbeats 1000000 in
theorem div10_big (h l : Int) (h0 : 1 ≤ h) (h9 : h ≤ 9) (l0 : 0 ≤ l) (l1 : l < 18446744073709551616) :
    ∃ q r : Int, (∀ w : World, Calls Tryd.prog 72 #[.int .u64 h, .int .u64 l, .int .u64 10] w fun e w' => e = .returned (.tuple #[.int .u64 q, .int .u64 r]) ∧ ∃ nn, w' = w.drewN nn) ∧ Ten q r (h * 18446744073709551616 + l) := by
  have g1 : (h == 0) = false := by simp; omega
  obtain ⟨u, hu⟩ : ∃ u, u = h * 1152921504606846976 + l / 16 := ⟨_, rfl⟩
  obtain ⟨q, hq⟩ : ∃ q, q = u / 2684354560 := ⟨_, rfl⟩
  obtain ⟨r, hr⟩ : ∃ r, r = u % 2684354560 := ⟨_, rfl⟩
  obtain ⟨s, hs⟩ : ∃ s, s = r * 4294967296 + l % 16 * 268435456 := ⟨_, rfl⟩
  obtain ⟨p, hp⟩ : ∃ p, p = s / 2684354560 := ⟨_, rfl⟩
  obtain ⟨t, ht⟩ : ∃ t, t = s % 2684354560 := ⟨_, rfl⟩
  refine ⟨q * 4294967296 + p, t / 268435456, fun w => ?_, ten_last h l u q r s p t hu (by omega) (by omega) (by omega) hs (by omega) (by omega) (by omega) h9 (by omega) l0 l1⟩
  have E10 : bits .and .u64 11529215046068469760 4294967295 = 0 := by decide
  have E11 := or_top h l (by omega) h9 l0 l1
  rw [← hu] at E11
  have E12 : IntKind.u64.wrap (l * 1152921504606846976) = l % 16 * 1152921504606846976 := by rw [IntKind.wrap_u64]; omega
  have E13 : l % 16 * 1152921504606846976 / 4294967296 = l % 16 * 268435456 := by omega
  have E14 : bits .and .u64 (l % 16 * 1152921504606846976) 4294967295 = 0 := and_low _ (l % 16) rfl (by omega) (by omega)
  have E15 : IntKind.u64.wrap (u.tdiv 2684354560) = q := by rw [IntKind.wrap_u64, Int.tdiv_eq_ediv_of_nonneg (by omega)]; omega
  have E16 : IntKind.u64.wrap (u - IntKind.u64.wrap (q * 2684354560)) = r := by rw [IntKind.wrap_u64, IntKind.wrap_u64]; omega
  have E21 : IntKind.u64.wrap (IntKind.u64.wrap (IntKind.u64.wrap (u * 4294967296) + l % 16 * 268435456) - IntKind.u64.wrap (q * 11529215046068469760)) = s := by simp only [IntKind.wrap_u64]; omega
  have E22 : IntKind.u64.wrap (s.tdiv 2684354560) = p := by rw [IntKind.wrap_u64, Int.tdiv_eq_ediv_of_nonneg (by omega)]; omega
  have E23 : IntKind.u64.wrap (s - IntKind.u64.wrap (p * 2684354560)) = t := by simp only [IntKind.wrap_u64]; omega
  have E24 : IntKind.u64.wrap (IntKind.u64.wrap (IntKind.u64.wrap (s * 4294967296)) - IntKind.u64.wrap (p * 11529215046068469760)) / 1152921504606846976 = t / 268435456 := by simp only [IntKind.wrap_u64]; omega
  have J4 := Lib.hid E24
  have J1 := Lib.hid E21
  have J2 := Lib.hid E22
  have J3 := Lib.hid E23
  clear E21 E22 E23 E24
  have q0 : 0 ≤ q := by omega
  have q1 : q < 4294967296 := by omega
  have r0 : 0 ≤ r := by omega
  have r1 : r < 2684354560 := by omega
  have s0 : 0 ≤ s := by omega
  have s1 : s < 11529215046068469760 := by omega
  have p0 : 0 ≤ p := by omega
  have p1 : p < 4294967296 := by omega
  have t0 : 0 ≤ t := by omega
  have t1 : t < 2684354560 := by omega
  have m0 : 0 ≤ l % 16 * 268435456 := by omega
  have m1 : l % 16 * 268435456 < 4294967296 := by omega
  have H1 := Lib.hid E10
  have H2 := Lib.hid E11
  have H3 := Lib.hid E12
  have H4 := Lib.hid E13
  have H5 := Lib.hid E14
  have H6 := Lib.hid E15
  have H7 := Lib.hid E16
  have G1 := Lib.hid hu
  have G2 := Lib.hid hq
  have G3 := Lib.hid hr
  have G4 := Lib.hid hs
  have G5 := Lib.hid hp
  have G6 := Lib.hid ht
  clear E10 E11 E12 E13 E14 E15 E16 hu hq hr hs hp ht
  go_enter Tryd.func72, Tryd.ntmps72
  go_wp2_with ((go_at_call 75; with_reducible refine (lz10 _).mono ?_); rintro _ _ ⟨rfl, n1, rfl⟩)
  rw [H1.out, H2.out, H3.out, H4.out, H5.out, H6.out, H7.out]
  refine wp_loop_rounds 1 ?_
  rw [rounds_succ]
  go_wp2
  rw [J1.out, J2.out, J3.out]
  refine wp_loop_rounds 1 ?_
  rw [rounds_succ]
  go_wp2
  go_ret2
  refine ⟨?_, _, rfl⟩
  show Ending.returned (.tuple #[.int .u64 _, .int .u64 _]) = _
  rw [J4.out]
set_option maxHeartbeats 1000000 in
theorem div10_small (l : Int) (l0 : 0 ≤ l) (l1 : l < 18446744073709551616) (w : World) :
    Calls Tryd.prog 72 #[.int .u64 0, .int .u64 l, .int .u64 10] w fun e w' => e = .returned (.tuple #[.int .u64 (l / 10), .int .u64 (l % 10)]) ∧ ∃ nn, w' = w.drewN nn := by
  go_enter Tryd.func72, Tryd.ntmps72
  go_wp2_with fail
  go_quiet (fail)
  go_wp2_with fail
  go_ret2
  exact ⟨rfl, _, rfl⟩
theorem div10_ex (h l : Int) (h0 : 0 ≤ h) (h9 : h ≤ 9) (l0 : 0 ≤ l) (l1 : l < 18446744073709551616) :
    ∃ q r : Int, (∀ w : World, Calls Tryd.prog 72 #[.int .u64 h, .int .u64 l, .int .u64 10] w fun e w' => e = .returned (.tuple #[.int .u64 q, .int .u64 r]) ∧ ∃ nn, w' = w.drewN nn) ∧ Ten q r (h * 18446744073709551616 + l) := by
  by_cases hz : h = 0
  · subst hz
    exact ⟨_, _, div10_small l l0 l1, by unfold Ten; omega⟩
  · exact div10_big h l (by omega) h9 l0 l1
end Go.Proofs.YtanjbdhjnmmfdaaDoor

set_option linter.unusedSimpArgs false
set_option linter.unusedVariables false
namespace Go.Proofs.YtanjbdhjnmmfdaaDoor
open Go.RowKit

def cmpI (a b c d : Int) : Int := if a = c ∧ b = d then 0 else if a < c ∨ (a = c ∧ b < d) then -1 else 1
/-- -1, 0, 1: below, equal, above -/
def cmpN (n m : Nat) : Int := if n = m then 0 else if n < m then -1 else 1
theorem cmp_eq (n m : Nat) (hn : n < 2 ^ 128) (hm : m < 2 ^ 128) : cmpI (wd n 1) (wd n 0) (wd m 1) (wd m 0) = cmpN n m := by
  have h1 := wd_two hn
  have h2 := wd_two hm
  have h3 := wd_nn n 0
  have h4 := wd_lt n 0
  have h5 := wd_nn m 0
  have h6 := wd_lt m 0
  unfold cmpI cmpN
  split <;> split <;> (try split) <;> (try split) <;> omega
set_option maxHeartbeats 1000000 in
theorem cmp_int (a b c d : Int) (w : World) : Calls Tryd.prog 50 #[.agg #[.int .u64 a, .int .u64 b], .agg #[.int .u64 c, .int .u64 d]] w fun e w' => e = .returned (.int .i64 (cmpI a b c d)) ∧ Below w.heap.size w w' := by
  go_enter Tryd.func50, Tryd.ntmps50
  go_wp2
  all_goals go_ret
  all_goals refine ⟨?_, by (repeat' (first | (with_reducible exact Below.refl _ _) | (with_reducible assumption) | (with_reducible refine Below.drew ?_) | (with_reducible refine below_drewN ?_ _) | ((with_reducible refine Below.alloc ?_ ?_ _); rotate_left; focus (go_size; done)) | ((with_reducible refine Below.setCell ?_ ?_ _); rotate_left; focus (go_size; done)) | ((with_reducible refine Below.trans ?_ (Below.mono (by with_reducible assumption) ?_)); rotate_left; focus (go_size; done))))⟩
  all_goals simp [cmpI]
  all_goals (first | done | omega | (simp_all; done) | (simp_all; omega))
theorem cmp_any (n m : Nat) (hn : n < 2 ^ 128) (hm : m < 2 ^ 128) (w : World) : Calls Tryd.prog 50 #[.agg #[.int .u64 (wd n 1), .int .u64 (wd n 0)], .agg #[.int .u64 (wd m 1), .int .u64 (wd m 0)]] w fun e w' => e = .returned (.int .i64 (cmpN n m)) ∧ Below w.heap.size w w' := by
  rw [← cmp_eq n m hn hm]
  exact cmp_int _ _ _ _ w

def over (n : Nat) : Int := if n < 2 ^ 128 then 0 else 3
def fitW (n : Nat) : Nat := if n < 2 ^ 128 then n else 0
def under (n m : Nat) : Int := if n < m then 3 else 0
def lessW (n m : Nat) : Nat := if n < m then n + 2 ^ 128 - m else n - m
def borrowW (n m : Nat) : Int := if n < m then 1 else 0
def subW (n m : Nat) : Nat := if n < m then 0 else n - m
set_option maxHeartbeats 1000000 in
theorem narrow_any (n : Nat) (hn : n < 2 ^ 256) (w : World) : Calls Tryd.prog 73 #[.agg #[.int .u64 (wd n 0), .int .u64 (wd n 1), .int .u64 (wd n 2), .int .u64 (wd n 3)]] w fun e w' => e = .returned (.tuple #[.agg #[.int .u64 (wd (fitW n) 1), .int .u64 (wd (fitW n) 0)], .int .i64 (over n)]) ∧ Below w.heap.size w w' := by
  have hi := wd_low4 hn
  by_cases h : n < 2 ^ 128
  · have e1 : over n = 0 := by unfold over; rw [if_pos h]
    have e2 : fitW n = n := by unfold fitW; rw [if_pos h]
    obtain ⟨e3, e4⟩ := hi.2 h
    rw [e1, e2]
    have g3 : (wd n 2 == 0) = true := by simp [e3]
    have g4 : (wd n 3 == 0) = true := by simp [e4]
    have g5 : (wd n 2 != 0) = false := by simp [e3]
    have g6 : (wd n 3 != 0) = false := by simp [e4]
    clear e1 e2 e3 e4 hi h hn
    generalize wd n 0 = x0 at *
    generalize wd n 1 = x1 at *
    generalize wd n 2 = x2 at *
    generalize wd n 3 = x3 at *
    go_enter Tryd.func73, Tryd.ntmps73
    go_wp2
    refine bodyPost_ret (by simp [results, Tryd.results73, go_sem, *]; try rfl) rfl ?_
    exact ⟨rfl, by (repeat' (first | (with_reducible exact Below.refl _ _) | (with_reducible assumption) | (with_reducible refine Below.drew ?_) | (with_reducible refine below_drewN ?_ _) | ((with_reducible refine Below.alloc ?_ ?_ _); rotate_left; focus (go_size; done)) | ((with_reducible refine Below.setCell ?_ ?_ _); rotate_left; focus (go_size; done)) | ((with_reducible refine Below.trans ?_ (Below.mono (by with_reducible assumption) ?_)); rotate_left; focus (go_size; done))))⟩
  · have e1 : over n = 3 := by unfold over; rw [if_neg h]
    have e2 : fitW n = 0 := by unfold fitW; rw [if_neg h]
    rw [e1, e2, wd_zero, wd_zero]
    have hi' : ¬ (wd n 2 = 0 ∧ wd n 3 = 0) := fun x => h (hi.1 x)
    have H := Lib.hid hi'
    clear e1 e2 hi hi' h hn
    generalize wd n 0 = x0 at *
    generalize wd n 1 = x1 at *
    generalize wd n 2 = x2 at *
    generalize wd n 3 = x3 at *
    go_enter Tryd.func73, Tryd.ntmps73
    go_wp2
    all_goals first
      | (exfalso; have := H.out; simp_all; done)
      | (refine bodyPost_ret (by simp [results, Tryd.results73, go_sem, *]; try rfl) rfl ?_
         exact ⟨rfl, by (repeat' (first | (with_reducible exact Below.refl _ _) | (with_reducible assumption) | (with_reducible refine Below.drew ?_) | (with_reducible refine below_drewN ?_ _) | ((with_reducible refine Below.alloc ?_ ?_ _); rotate_left; focus (go_size; done)) | ((with_reducible refine Below.setCell ?_ ?_ _); rotate_left; focus (go_size; done)) | ((with_reducible refine Below.trans ?_ (Below.mono (by with_reducible assumption) ?_)); rotate_left; focus (go_size; done))))⟩)
set_option maxHeartbeats 2000000 in
theorem tenth_any (n : Nat) (hn : n < 2 ^ 256) (w : World) : Calls Tryd.prog 64 #[.agg #[.int .u64 (wd n 0), .int .u64 (wd n 1), .int .u64 (wd n 2), .int .u64 (wd n 3)]] w fun e w' => e = .returned (.tuple #[.agg #[.int .u64 (wd (n / 10) 0), .int .u64 (wd (n / 10) 1), .int .u64 (wd (n / 10) 2), .int .u64 (wd (n / 10) 3)], .int .u64 ((n % 10 : Nat) : Int)]) ∧ Below w.heap.size w w' := by
  have h := wd_four hn
  have a0 := wd_nn n 0
  have a1 := wd_lt n 0
  have b0 := wd_nn n 1
  have b1 := wd_lt n 1
  have c0 := wd_nn n 2
  have c1 := wd_lt n 2
  have d0 := wd_nn n 3
  have d1 := wd_lt n 3
  obtain ⟨q3, r3, f3, H3⟩ := div10_ex 0 (wd n 3) (by decide) (by decide) d0 d1
  have G3 := H3
  unfold Ten at G3
  obtain ⟨q2, r2, f2, H2⟩ := div10_ex r3 (wd n 2) (by omega) (by omega) c0 c1
  have G2 := H2
  unfold Ten at G2
  obtain ⟨q1, r1, f1, H1⟩ := div10_ex r2 (wd n 1) (by omega) (by omega) b0 b1
  have G1 := H1
  unfold Ten at G1
  obtain ⟨q0, r0, f0, H0⟩ := div10_ex r1 (wd n 0) (by omega) (by omega) a0 a1
  have G0 := H0
  unfold Ten at G0
  have e := wd_of4 (n / 10) q0 q1 q2 q3 (by omega) (by omega) (by omega) (by omega) (by omega) (by omega) (by omega) (by omega) (by omega)
  obtain ⟨e0, e1, e2, e3⟩ := e
  have er : ((n % 10 : Nat) : Int) = r0 := by omega
  rw [er, ← e0, ← e1, ← e2, ← e3]
  have F0 := Lib.hid f0
  have F1 := Lib.hid f1
  have F2 := Lib.hid f2
  have F3 := Lib.hid f3
  clear f0 f1 f2 f3 e0 e1 e2 e3 er H0 H1 H2 H3 G0 G1 G2 G3 h a0 a1 b0 b1 c0 c1 d0 d1 hn
  generalize wd n 0 = x0 at *
  generalize wd n 1 = x1 at *
  generalize wd n 2 = x2 at *
  generalize wd n 3 = x3 at *
  go_enter Tryd.func64, Tryd.ntmps64
  go_wp2_with fail
  refine wp_loop_rounds 5 ?_
  rw [rounds_succ]
  go_wp2_with ((go_at_call 72; with_reducible refine (F3.out _).mono ?_); rintro _ _ ⟨rfl, n1, rfl⟩)
  rw [rounds_succ]
  go_wp2_with ((go_at_call 72; with_reducible refine (F2.out _).mono ?_); rintro _ _ ⟨rfl, n2, rfl⟩)
  rw [rounds_succ]
  go_wp2_with ((go_at_call 72; with_reducible refine (F1.out _).mono ?_); rintro _ _ ⟨rfl, n3, rfl⟩)
  rw [rounds_succ]
  go_wp2_with ((go_at_call 72; with_reducible refine (F0.out _).mono ?_); rintro _ _ ⟨rfl, n4, rfl⟩)
  rw [rounds_succ]
  go_wp2_with fail
  refine bodyPost_ret (by simp [results, Tryd.results64, go_sem, *]; try rfl) rfl ?_
  exact ⟨rfl, by (repeat' (first | (with_reducible exact Below.refl _ _) | (with_reducible assumption) | (with_reducible refine Below.drew ?_) | (with_reducible refine below_drewN ?_ _) | ((with_reducible refine Below.alloc ?_ ?_ _); rotate_left; focus (go_size; done)) | ((with_reducible refine Below.setCell ?_ ?_ _); rotate_left; focus (go_size; done)) | ((with_reducible refine Below.trans ?_ (Below.mono (by with_reducible assumption) ?_)); rotate_left; focus (go_size; done))))⟩
end Go.Proofs.YtanjbdhjnmmfdaaDoor

set_option linter.unusedSimpArgs false
set_option linter.unusedVariables false
namespace Go.Proofs.YtanjbdhjnmmfdaaDoor
open Go.RowKit

/-- N / d to the nearest, half to even -/
def near (N d : Nat) : Nat := N / d + if 2 * (N % d) > d ∨ (2 * (N % d) = d ∧ N / d % 2 = 1) then 1 else 0
def lastD (N n : Nat) : Int := if n = 0 then 0 else ((N / 10 ^ (n - 1) % 10 : Nat) : Int)
def belD (N n : Nat) : Bool := decide (n ≠ 0 ∧ N % 10 ^ (n - 1) ≠ 0)
theorem lastD_succ (N n : Nat) : lastD N (n + 1) = ((N / 10 ^ n % 10 : Nat) : Int) := by
  unfold lastD; rw [if_neg (by omega), Nat.add_sub_cancel]
theorem lastD_bd (N n : Nat) : 0 ≤ lastD N n ∧ lastD N n ≤ 9 := by
  unfold lastD; split <;> omega
theorem mod_step (N n : Nat) : N % 10 ^ (n + 1) = N % 10 ^ n + 10 ^ n * (N / 10 ^ n % 10) := by
  rw [Nat.pow_succ, Nat.mod_mul]
theorem belD_succ (N n : Nat) : belD N (n + 1) = (belD N n || (lastD N n != 0)) := by
  rw [Bool.eq_iff_iff]
  simp only [belD, Bool.or_eq_true, decide_eq_true_eq, bne_iff_ne, Nat.add_sub_cancel]
  cases n with
  | zero => simp [lastD]; omega
  | succ m =>
    rw [lastD_succ, mod_step]
    have hp : 0 < 10 ^ m := Nat.pow_pos (by decide)
    constructor
    · rintro ⟨_, h⟩
      by_cases h0 : N % 10 ^ m = 0
      · right; intro hz
        have hz' : N / 10 ^ m % 10 = 0 := by omega
        rw [h0, hz'] at h; exact h rfl
      · left; exact ⟨by omega, by simpa using h0⟩
    · rintro (⟨_, h⟩ | h)
      · refine ⟨by omega, ?_⟩
        simp only [Nat.add_sub_cancel] at h
        omega
      · refine ⟨by omega, fun hz => h ?_⟩
        have h1 : 10 ^ m * (N / 10 ^ m % 10) = 0 := by omega
        rcases Nat.mul_eq_zero.1 h1 with h2 | h2 <;> omega
theorem near_of (N n : Nat) (up : Prop) [Decidable up] (h : up ↔ (lastD N n > 5 ∨ (lastD N n = 5 ∧ (belD N n = true ∨ N / 10 ^ n % 2 = 1)))) :
    near N (10 ^ n) = N / 10 ^ n + if up then 1 else 0 := by
  unfold near
  congr 1
  have key : (2 * (N % 10 ^ n) > 10 ^ n ∨ (2 * (N % 10 ^ n) = 10 ^ n ∧ N / 10 ^ n % 2 = 1)) ↔ up := by
    rw [h]
    cases n with
    | zero => simp [lastD, Nat.mod_one]
    | succ m =>
      rw [lastD_succ, mod_step]
      simp only [belD, decide_eq_true_eq, Nat.add_sub_cancel]
      have hp : 0 < 10 ^ m := Nat.pow_pos (by decide)
      have hl : N % 10 ^ m < 10 ^ m := Nat.mod_lt _ hp
      have hd : N / 10 ^ m % 10 < 10 := Nat.mod_lt _ (by decide)
      generalize N / 10 ^ (m + 1) % 2 = par
      generalize N / 10 ^ m % 10 = d at *
      rw [Nat.pow_succ]
      generalize N % 10 ^ m = low at *
      generalize 10 ^ m = P at *
      have hc : d = 0 ∨ d = 1 ∨ d = 2 ∨ d = 3 ∨ d = 4 ∨ d = 5 ∨ d = 6 ∨ d = 7 ∨ d = 8 ∨ d = 9 := by omega
      rcases hc with rfl | rfl | rfl | rfl | rfl | rfl | rfl | rfl | rfl | rfl <;> simp <;> omega
  by_cases hu : up
  · rw [if_pos hu, if_pos (key.2 hu)]
  · rw [if_neg hu, if_neg (fun x => hu (key.1 x))]
theorem div_lt_256 {N : Nat} (hN : N < 2 ^ 256) (d : Nat) : N / d < 2 ^ 256 := Nat.lt_of_le_of_lt (Nat.div_le_self _ _) hN

theorem wd_odd (X : Nat) : bits .and .u64 (wd X 0) 1 = ((X % 2 : Nat) : Int) := by
  have h := bits_and_u64_nat (X % 18446744073709551616) 1 (by omega) (by omega)
  rw [Nat.and_one_is_mod] at h
  have e : ((1 : Nat) : Int) = 1 := rfl
  rw [e] at h
  rw [wd0, h]
  omega
end Go.Proofs.YtanjbdhjnmmfdaaDoor

set_option linter.unusedSimpArgs false
set_option linter.unusedVariables false
namespace Go.Proofs.YtanjbdhjnmmfdaaDoor
open Go.RowKit

def B34 : Nat := 10 ^ 34
theorem B34_lt : B34 < 2 ^ 128 := by unfold B34; decide
theorem B34_pos : 0 < B34 := by unfold B34; decide
/-- c / 10^s without the noughts behind the point: the coefficient, the scale -/
def stripC : Nat → Nat → Nat
  | c, 0 => c
  | c, s + 1 => if c % 10 = 0 then stripC (c / 10) s else c
def stripS : Nat → Nat → Nat
  | _, 0 => 0
  | c, s + 1 => if c % 10 = 0 then stripS (c / 10) s else s + 1
theorem strip_ten (c s : Nat) : stripC (c * 10) (s + 1) = stripC c s ∧ stripS (c * 10) (s + 1) = stripS c s := by
  unfold stripC stripS
  rw [if_pos (Nat.mul_mod_left _ _), if_pos (Nat.mul_mod_left _ _), Nat.mul_div_cancel _ (by decide)]
  exact ⟨by cases s <;> rfl, by cases s <;> rfl⟩
theorem strip_pow (c s j : Nat) : stripC (c * 10 ^ j) (s + j) = stripC c s ∧ stripS (c * 10 ^ j) (s + j) = stripS c s := by
  induction j with
  | zero => rw [Nat.pow_zero, Nat.mul_one]; exact ⟨rfl, rfl⟩
  | succ j ih =>
    have h := strip_ten (c * 10 ^ j) (s + j)
    rw [Nat.pow_succ, ← Nat.mul_assoc]
    exact ⟨h.1.trans ih.1, h.2.trans ih.2⟩
theorem strip_nil (s : Nat) : stripC 0 s = 0 ∧ stripS 0 s = 0 := by
  induction s with
  | zero => exact ⟨rfl, rfl⟩
  | succ s ih => have h := strip_ten 0 s; exact ⟨h.1.trans ih.1, h.2.trans ih.2⟩
theorem strip_yes {c : Nat} (h : c % 10 = 0) (s : Nat) : stripC c (s + 1) = stripC (c / 10) s ∧ stripS c (s + 1) = stripS (c / 10) s := by
  have e : c = c / 10 * 10 := by omega
  have := strip_ten (c / 10) s
  rwa [← e] at this
theorem strip_no {c : Nat} (h : c % 10 ≠ 0) (s : Nat) : stripC c s = c ∧ stripS c s = s := by
  cases s with
  | zero => exact ⟨rfl, rfl⟩
  | succ s => unfold stripC stripS; rw [if_neg h, if_neg h]; exact ⟨rfl, rfl⟩
theorem strip_val (c s : Nat) : stripC c s * 10 ^ (s - stripS c s) = c ∧ stripS c s ≤ s := by
  induction s generalizing c with
  | zero => exact ⟨Nat.mul_one _, Nat.le_refl _⟩
  | succ s ih =>
    by_cases h : c % 10 = 0
    · rw [(strip_yes h s).1, (strip_yes h s).2]
      obtain ⟨h1, h2⟩ := ih (c / 10)
      refine ⟨?_, by omega⟩
      rw [show s + 1 - stripS (c / 10) s = s - stripS (c / 10) s + 1 by omega, Nat.pow_succ, ← Nat.mul_assoc, h1]
      omega
    · rw [(strip_no h _).1, (strip_no h _).2, Nat.sub_self]
      exact ⟨Nat.mul_one _, Nat.le_refl _⟩
theorem stripC_le (c s : Nat) : stripC c s ≤ c := by
  have h := (strip_val c s).1
  have hp : 0 < 10 ^ (s - stripS c s) := Nat.pow_pos (by decide)
  calc stripC c s ≤ stripC c s * 10 ^ (s - stripS c s) := Nat.le_mul_of_pos_right _ hp
    _ = c := h
theorem stripC_zero {c s : Nat} : stripC c s = 0 ↔ c = 0 := by
  constructor
  · intro h; have := (strip_val c s).1; rw [h, Nat.zero_mul] at this; exact this.symm
  · rintro rfl; exact (strip_nil s).1
theorem strip_end (c s : Nat) : stripS c s = 0 ∨ stripC c s % 10 ≠ 0 := by
  induction s generalizing c with
  | zero => exact .inl rfl
  | succ s ih =>
    by_cases h : c % 10 = 0
    · rw [(strip_yes h s).1, (strip_yes h s).2]; exact ih _
    · rw [(strip_no h _).1, (strip_no h _).2]; exact .inr h
/-- what Trim cuts off tells it -/
theorem strip_trim (T k s : Nat) (hT : T % 10 ≠ 0) : (k ≤ s → stripC (T * 10 ^ k) s = T ∧ stripS (T * 10 ^ k) s = s - k) ∧ (s ≤ k → stripC (T * 10 ^ k) s = T * 10 ^ (k - s) ∧ stripS (T * 10 ^ k) s = 0) := by
  constructor
  · intro h
    have e := strip_pow T (s - k) k
    rw [show s - k + k = s by omega] at e
    rw [e.1, e.2]
    exact strip_no hT _
  · intro h
    have e := strip_pow (T * 10 ^ (k - s)) 0 s
    rw [Nat.mul_assoc, ← Nat.pow_add, show k - s + s = k by omega, Nat.zero_add] at e
    exact e
theorem strip_fix {c s : Nat} (h : s = 0 ∨ c % 10 ≠ 0) : stripC c s = c ∧ stripS c s = s := by
  rcases h with rfl | h
  · exact ⟨rfl, rfl⟩
  · exact strip_no h s

/-- the sign of what may be nought -/
def sg (neg : Bool) (c : Nat) : Bool := neg && decide (c ≠ 0)
theorem sg_zero (neg : Bool) : sg neg 0 = false := by unfold sg; simp
theorem sg_pos {neg : Bool} {c : Nat} (h : c ≠ 0) : sg neg c = neg := by unfold sg; simp [h]
/-- is it in form? -/
def dform (neg : Bool) (c : Nat) (s : Int) : Bool := decide (c < B34) && (decide (0 ≤ s) && (decide (s ≤ 18) && (if c = 0 then !neg && decide (s = 0) else decide (s = 0) || decide (c % 10 ≠ 0))))
def DForm (neg : Bool) (c s : Nat) : Prop := c < B34 ∧ s ≤ 18 ∧ (c = 0 → neg = false ∧ s = 0) ∧ (s = 0 ∨ c % 10 ≠ 0)
theorem dform_iff (neg : Bool) (c : Nat) (s : Int) : dform neg c s = true ↔ ∃ t : Nat, s = (t : Int) ∧ DForm neg c t := by
  unfold dform DForm
  by_cases h0 : c = 0
  · subst h0
    simp only [Bool.and_eq_true, decide_eq_true_eq, if_pos]
    constructor
    · rintro ⟨h1, h2, h3, h4, h5⟩
      refine ⟨0, by omega, h1, by omega, fun _ => ⟨by simpa using h4, rfl⟩, .inl rfl⟩
    · rintro ⟨t, rfl, h1, h2, h3, h4⟩
      obtain ⟨h5, h6⟩ := h3 trivial
      subst h6
      simp [h5, h1]
  · simp only [Bool.and_eq_true, decide_eq_true_eq, if_neg h0, Bool.or_eq_true]
    constructor
    · rintro ⟨h1, h2, h3, h4⟩
      refine ⟨s.toNat, by omega, h1, by omega, fun h => absurd h h0, ?_⟩
      rcases h4 with h4 | h4
      · left; omega
      · right; exact h4
    · rintro ⟨t, rfl, h1, h2, h3, h4⟩
      refine ⟨h1, by omega, by omega, ?_⟩
      rcases h4 with h4 | h4
      · left; omega
      · right; exact h4

/-- the nearest -/
theorem near_scale (a b k : Nat) (hk : 0 < k) : near (a * k) (b * k) = near a b := by
  unfold near
  rw [Nat.mul_div_mul_right _ _ hk, Nat.mul_mod_mul_right]
  have e1 : 2 * (a % b * k) > b * k ↔ 2 * (a % b) > b := by
    rw [← Nat.mul_assoc]; exact Nat.mul_lt_mul_right hk
  have e2 : 2 * (a % b * k) = b * k ↔ 2 * (a % b) = b := by
    rw [← Nat.mul_assoc]; exact Nat.mul_left_inj (Nat.ne_of_gt hk)
  simp only [e1, e2]
theorem near_exact (q d : Nat) (hd : 0 < d) : near (q * d) d = q := by
  unfold near
  rw [Nat.mul_div_cancel _ hd, Nat.mul_mod_left]
  simp; omega
theorem near_pow (n s t : Nat) (h : s ≤ t) : near (n * 10 ^ s) (10 ^ t) = near n (10 ^ (t - s)) := by
  rw [show 10 ^ t = 10 ^ (t - s) * 10 ^ s by rw [← Nat.pow_add]; congr 1; omega]
  exact near_scale _ _ _ (Nat.pow_pos (by decide))
theorem near_high (n t j : Nat) : near (n * 10 ^ (t + j)) (10 ^ t) = n * 10 ^ j := by
  rw [Nat.pow_add, Nat.mul_comm (10 ^ t), ← Nat.mul_assoc]
  exact near_exact _ _ (Nat.pow_pos (by decide))

/-- n / d fitted, trying the scales below k -/
def fitK (n d : Nat) : Nat → Nat × Nat × Int
  | 0 => (0, 0, 3)
  | s + 1 => if near (n * 10 ^ s) d < B34 then (near (n * 10 ^ s) d, s, 0) else fitK n d s
def fin (r : Nat × Nat × Int) : Nat × Nat × Int := (stripC r.1 r.2.1, stripS r.1 r.2.1, r.2.2)
/-- nineteen, and nothing that the kernel counts out -/
def K19 (n : Nat) : Nat := 19 + 0 * n
theorem K19_eq (n : Nat) : K19 n = 19 := by unfold K19; omega
def FitC (n d : Nat) : Nat := (fin (fitK n d (K19 n))).1
def FitS (n d : Nat) : Nat := (fin (fitK n d (K19 n))).2.1
def FitE (n d : Nat) : Int := (fin (fitK n d (K19 n))).2.2
theorem fitK_yes {n d s : Nat} (h : near (n * 10 ^ s) d < B34) : fitK n d (s + 1) = (near (n * 10 ^ s) d, s, 0) := by rw [fitK, if_pos h]
theorem fitK_no {n d s : Nat} (h : ¬ near (n * 10 ^ s) d < B34) : fitK n d (s + 1) = fitK n d s := by rw [fitK, if_neg h]
theorem fitK_up (n t j : Nat) : fin (fitK n (10 ^ t) (t + j + 1)) = fin (fitK n (10 ^ t) (t + 1)) := by
  induction j with
  | zero => rfl
  | succ j ih =>
    have e := near_high n t (j + 1)
    have e0 := near_high n t 0
    rw [Nat.pow_zero, Nat.mul_one, Nat.add_zero] at e0
    by_cases h : near (n * 10 ^ (t + (j + 1))) (10 ^ t) < B34
    · have h0 : near (n * 10 ^ t) (10 ^ t) < B34 := by
        rw [e0]; rw [e] at h
        exact Nat.lt_of_le_of_lt (Nat.le_mul_of_pos_right _ (Nat.pow_pos (by decide))) h
      rw [fitK_yes h, fitK_yes h0, e, e0]
      have hs := strip_pow n t (j + 1)
      unfold fin
      simp only [hs.1, hs.2]
    · rw [fitK_no h]; exact ih
theorem fit_top (n t : Nat) (h : t ≤ 18) : fin (fitK n (10 ^ t) (K19 n)) = fin (fitK n (10 ^ t) (t + 1)) := by
  have e := fitK_up n t (18 - t)
  rwa [show t + (18 - t) + 1 = K19 n by rw [K19_eq]; omega] at e
theorem fitK_scale (n d k : Nat) (hk : 0 < k) (s : Nat) : fitK (n * k) (d * k) s = fitK n d s := by
  induction s with
  | zero => rfl
  | succ s ih =>
    have e : near (n * k * 10 ^ s) (d * k) = near (n * 10 ^ s) d := by
      rw [Nat.mul_right_comm]; exact near_scale _ _ _ hk
    rw [fitK, fitK, e, ih]
theorem fit_scale (n d k : Nat) (hk : 0 < k) : FitC (n * k) (d * k) = FitC n d ∧ FitS (n * k) (d * k) = FitS n d ∧ FitE (n * k) (d * k) = FitE n d := by
  unfold FitC FitS FitE
  rw [fitK_scale n d k hk, show K19 (n * k) = K19 n by rw [K19_eq, K19_eq]]
  exact ⟨rfl, rfl, rfl⟩
theorem fitK_lt (n d k : Nat) : (fitK n d k).1 < B34 ∧ ((fitK n d k).2.1 < k ∨ (fitK n d k).2.1 = 0) ∧ ((fitK n d k).2.2 = 0 ∨ ((fitK n d k).2.2 = 3 ∧ (fitK n d k).1 = 0)) := by
  induction k with
  | zero => exact ⟨B34_pos, .inr rfl, .inr ⟨rfl, rfl⟩⟩
  | succ s ih =>
    by_cases h : near (n * 10 ^ s) d < B34
    · rw [fitK_yes h]; exact ⟨h, .inl (Nat.lt_succ_self _), .inl rfl⟩
    · rw [fitK_no h]; exact ⟨ih.1, by omega, ih.2.2⟩
theorem fit_form (neg : Bool) (n d : Nat) : DForm (sg neg (FitC n d)) (FitC n d) (FitS n d) := by
  obtain ⟨h1, h2, _⟩ := fitK_lt n d (K19 n)
  have h19 := K19_eq n
  refine ⟨Nat.lt_of_le_of_lt (stripC_le _ _) h1, Nat.le_trans (strip_val _ _).2 (by omega), ?_, strip_end _ _⟩
  intro h0
  refine ⟨by rw [h0]; exact sg_zero neg, ?_⟩
  have hz : (fitK n d (K19 n)).1 = 0 := stripC_zero.1 h0
  show stripS (fitK n d (K19 n)).1 _ = 0
  rw [hz]; exact (strip_nil _).2
theorem fit_err (n d : Nat) : FitE n d = 0 ∨ (FitE n d = 3 ∧ FitC n d = 0 ∧ FitS n d = 0) := by
  obtain ⟨h1, h2, h3⟩ := fitK_lt n d (K19 n)
  rcases h3 with h3 | ⟨h3, h4⟩
  · exact .inl h3
  · refine .inr ⟨h3, ?_, ?_⟩
    · show stripC (fitK n d (K19 n)).1 _ = 0; rw [h4]; exact (strip_nil _).1
    · show stripS (fitK n d (K19 n)).1 _ = 0; rw [h4]; exact (strip_nil _).2
end Go.Proofs.YtanjbdhjnmmfdaaDoor

set_option linter.unusedSimpArgs false
set_option linter.unusedVariables false
namespace Go.Proofs.YtanjbdhjnmmfdaaDoor
open Go.RowKit

/-- one step of the product: a product of words, a word that is there, a carry -/
theorem mul_step (x y o c : Int) (hx0 : 0 ≤ x) (hx : x < 18446744073709551616) (hy0 : 0 ≤ y) (hy : y < 18446744073709551616) (ho0 : 0 ≤ o) (ho : o < 18446744073709551616) (hc0 : 0 ≤ c) (hc : c < 18446744073709551616) :
    ∃ h l s k t j : Int, Hid (∀ w : World, Calls Tryd.prog 76 #[.int .u64 x, .int .u64 y] w fun e w' => e = .returned (.tuple #[.int .u64 h, .int .u64 l]) ∧ ∃ nn, w' = w.drewN nn) ∧
      (∀ W : World, (callFunc 77 #[.int .u64 l, .int .u64 o, .int .u64 0]).run Tryd.prog W = .ok (.value (.tuple #[.int .u64 s, .int .u64 k])) W) ∧
      (∀ W : World, (callFunc 77 #[.int .u64 s, .int .u64 c, .int .u64 0]).run Tryd.prog W = .ok (.value (.tuple #[.int .u64 t, .int .u64 j])) W) ∧
      Hid (t + 18446744073709551616 * (h + k + j) = x * y + o + c) ∧ 0 ≤ h ∧ h + k < 18446744073709551616 ∧ 0 ≤ k ∧ 0 ≤ j ∧ 0 ≤ t ∧ t < 18446744073709551616 ∧ h + k + j < 18446744073709551616 := by
  obtain ⟨h, l, f, H⟩ := mul64_ex x y hx0 hx hy0 hy
  unfold Two at H
  obtain ⟨s, k, g, K⟩ := add64_ex l o 0 (by omega) (by omega) ho0 ho (by decide) (by decide)
  unfold Carry at K
  obtain ⟨t, j, e, J⟩ := add64_ex s c 0 (by omega) (by omega) hc0 hc (by decide) (by decide)
  unfold Carry at J
  have hm : x * y ≤ 18446744073709551615 * 18446744073709551615 := Int.mul_le_mul (by omega) (by omega) hy0 (by decide)
  have hn : 0 ≤ x * y := Int.mul_nonneg hx0 hy0
  generalize x * y = p at *
  exact ⟨h, l, s, k, t, j, f, g, e, by show t + 18446744073709551616 * (h + k + j) = p + o + c; omega, by omega, by omega, by omega, by omega, by omega, by omega, by omega⟩

theorem two_at (n t : Nat) (h : t < 2) : [Value.int .u64 (wd n 0), .int .u64 (wd n 1)][t]? = some (.int .u64 (wd n t)) := by
  have hc : t = 0 ∨ t = 1 := by omega
  rcases hc with rfl | rfl <;> rfl
theorem mul_low {n m t : Nat} (hm : m < 2 ^ 128) : n % 2 ^ (64 * t) * m < 2 ^ (64 * (t + 2)) := by
  rw [show 64 * (t + 2) = 64 * t + 128 by omega, Nat.pow_add]
  have h1 : n % 2 ^ (64 * t) < 2 ^ (64 * t) := Nat.mod_lt _ (Nat.two_pow_pos _)
  exact Nat.mul_lt_mul'' h1 hm
theorem mul_inv {V V' O t s : Nat} {cc X Y Z h k1 k3 s3 M M' : Int}
    (i1 : (V : Int) + cc * ((2 ^ (64 * (t + s)) : Nat) : Int) = O + X * M * ((2 ^ (64 * t) : Nat) : Int))
    (i2 : (V' : Int) = V + (s3 - Z) * ((2 ^ (64 * (t + s)) : Nat) : Int))
    (i3 : s3 + 18446744073709551616 * (h + k1 + k3) = X * Y + Z + cc)
    (i4 : M' = M + Y * ((2 ^ (64 * s) : Nat) : Int)) :
    (V' : Int) + (h + k1 + k3) * ((2 ^ (64 * (t + (s + 1))) : Nat) : Int) = O + X * M' * ((2 ^ (64 * t) : Nat) : Int) := by
  have e1 : ((2 ^ (64 * (t + (s + 1))) : Nat) : Int) = ((2 ^ (64 * (t + s)) : Nat) : Int) * 18446744073709551616 := by
    rw [show 64 * (t + (s + 1)) = 64 * (t + s) + 64 by omega, Nat.pow_add, Int.natCast_mul]; rfl
  have e2 : ((2 ^ (64 * (t + s)) : Nat) : Int) = ((2 ^ (64 * t) : Nat) : Int) * ((2 ^ (64 * s) : Nat) : Int) := by
    rw [show 64 * (t + s) = 64 * t + 64 * s by omega, Nat.pow_add, Int.natCast_mul]
  rw [e1, i2, i4]
  rw [e2] at i1 ⊢
  generalize ((2 ^ (64 * t) : Nat) : Int) = P at *
  generalize ((2 ^ (64 * s) : Nat) : Int) = Q at *
  grind
theorem mul_end {n m t V V' O : Nat} {cc : Int} (hm : m < 2 ^ 128) (eO : O = n % 2 ^ (64 * t) * m)
    (i1 : (V : Int) + cc * ((2 ^ (64 * (t + 2)) : Nat) : Int) = O + wd n t * ((m % 2 ^ (64 * 2) : Nat) : Int) * ((2 ^ (64 * t) : Nat) : Int))
    (i2 : (V' : Int) = V + (cc - wd V (t + 2)) * ((2 ^ (64 * (t + 2)) : Nat) : Int)) (i3 : wd V (t + 2) = 0) : n % 2 ^ (64 * (t + 1)) * m = V' := by
  rw [i3, Int.sub_zero, i1, Nat.mod_eq_of_lt hm, eO] at i2
  have e := wd_mod_succ n t
  have : ((n % 2 ^ (64 * (t + 1)) * m : Nat) : Int) = (V' : Int) := by
    rw [i2, Int.natCast_mul, e, Int.natCast_mul]
    generalize ((2 ^ (64 * t) : Nat) : Int) = P
    generalize ((n % 2 ^ (64 * t) : Nat) : Int) = Q
    grind
  exact_mod_cast this
set_option maxHeartbeats 4000000 in
theorem mul_any (n m : Nat) (hn : n < 2 ^ 128) (hm : m < 2 ^ 128) (w : World) : Calls Tryd.prog 74 #[.agg #[.int .u64 (wd n 1), .int .u64 (wd n 0)], .agg #[.int .u64 (wd m 1), .int .u64 (wd m 0)]] w fun e w' => e = .returned (.agg #[.int .u64 (wd (n * m) 0), .int .u64 (wd (n * m) 1), .int .u64 (wd (n * m) 2), .int .u64 (wd (n * m) 3)]) ∧ Below w.heap.size w w' := by
  have HN := Far.mk hn
  have HM := Far.mk hm
  have a0 := wd_nn n 0
  have a1 := wd_lt n 0
  have b0 := wd_nn n 1
  have b1 := wd_lt n 1
  have c0 := wd_nn m 0
  have c1 := wd_lt m 0
  have d0 := wd_nn m 1
  have d1 := wd_lt m 1
  clear hn hm
  go_enter Tryd.func74, Tryd.ntmps74
  go_wp2_with fail
  go_region_held3 (fun w' => w'.cell? ⟨w.heap.size, 0, none⟩ = some (.int .u64 (wd n 1)) ∧ w'.cell? ⟨w.heap.size, 1, none⟩ = some (.int .u64 (wd n 0)) ∧ w'.cell? ⟨w.heap.size + 1, 0, none⟩ = some (.int .u64 (wd m 1)) ∧ w'.cell? ⟨w.heap.size + 1, 1, none⟩ = some (.int .u64 (wd m 0))) (first | (go_keep; done) | (simp [go_sem]; done) | ((try dsimp only); (repeat' apply And.intro) <;> (first | (with_reducible assumption) | ((rw [World.cell?_alloc_lt _ _ _ (by show _ < _; omega)]); go_split_ands; (first | with_reducible assumption | (refine (World.cell?_alloc_lt _ _ _ (by show _ < _; omega)).symm.trans ?_; with_reducible assumption))) | ((rw [World.cell?_setCell_other _ _ _ _ (by intro e; injection e; omega)]); with_reducible assumption) | (go_keep; done) | (simp [go_sem]; done) | (simp (disch := go_size) [*, World.cell?_alloc_some, World.cell?_setCell_far]; done)))) (fail)
  · go_wp2_with fail
    clear a0 a1 b0 b1 c0 c1 d0 d1
    go_loopg [24] 2 (fun k i wr => ∃ t : Nat, k + t = 2 ∧ i = .int .i64 t ∧ Bk wr (w.heap.size + 1 + 1 + 1) 85 (lcells (n % 2 ^ (64 * t) * m)) ∧ Bk wr (w.heap.size + 1 + 1 + 1 + 1) 107 [.int .u64 (wd n 0), .int .u64 (wd n 1)] ∧ Bk wr (w.heap.size + 1 + 1 + 1 + 1 + 1) 107 [.int .u64 (wd m 0), .int .u64 (wd m 1)] ∧
      Bk wr (w.heap.size + 1 + 1) 85 [.int .u64 0, .int .u64 0, .int .u64 0, .int .u64 0] ∧ w.heap.size + 6 ≤ wr.heap.size ∧ Below w.heap.size w wr)
    case atStart =>
      refine ⟨0, rfl, rfl, ?_, by (repeat (first | (with_reducible assumption) | ((with_reducible refine Bk.new_ ?_); (first | rfl | (simp only [World.size_alloc, World.size_setCell, World.size_drew, World.heap_drewN]; done))) | (with_reducible refine Bk.alloc ?_ _) | (with_reducible refine Bk.drew ?_) | (with_reducible refine Bk.drewN ?_ _) | ((with_reducible refine Bk.far ?_ ?_ _); rotate_left; focus (simp only []; omega)) | ((with_reducible refine Bk.below ?_ (by with_reducible assumption) ?_); rotate_left; focus (go_size; done)))), by (repeat (first | (with_reducible assumption) | ((with_reducible refine Bk.new_ ?_); (first | rfl | (simp only [World.size_alloc, World.size_setCell, World.size_drew, World.heap_drewN]; done))) | (with_reducible refine Bk.alloc ?_ _) | (with_reducible refine Bk.drew ?_) | (with_reducible refine Bk.drewN ?_ _) | ((with_reducible refine Bk.far ?_ ?_ _); rotate_left; focus (simp only []; omega)) | ((with_reducible refine Bk.below ?_ (by with_reducible assumption) ?_); rotate_left; focus (go_size; done)))), by (repeat (first | (with_reducible assumption) | ((with_reducible refine Bk.new_ ?_); (first | rfl | (simp only [World.size_alloc, World.size_setCell, World.size_drew, World.heap_drewN]; done))) | (with_reducible refine Bk.alloc ?_ _) | (with_reducible refine Bk.drew ?_) | (with_reducible refine Bk.drewN ?_ _) | ((with_reducible refine Bk.far ?_ ?_ _); rotate_left; focus (simp only []; omega)) | ((with_reducible refine Bk.below ?_ (by with_reducible assumption) ?_); rotate_left; focus (go_size; done)))), by go_size, by (repeat' (first | (with_reducible exact Below.refl _ _) | (with_reducible assumption) | (with_reducible refine Below.drew ?_) | (with_reducible refine below_drewN ?_ _) | ((with_reducible refine Below.alloc ?_ ?_ _); rotate_left; focus (go_size; done)) | ((with_reducible refine Below.setCell ?_ ?_ _); rotate_left; focus (go_size; done)) | ((with_reducible refine Below.trans ?_ (Below.mono (by with_reducible assumption) ?_)); rotate_left; focus (go_size; done))))⟩
      rw [Nat.mul_zero, Nat.pow_zero, Nat.mod_one, Nat.zero_mul]
      show Bk _ _ _ [.int .u64 0, .int .u64 0, .int .u64 0, .int .u64 0]
      (repeat (first | (with_reducible assumption) | ((with_reducible refine Bk.new_ ?_); (first | rfl | (simp only [World.size_alloc, World.size_setCell, World.size_drew, World.heap_drewN]; done))) | (with_reducible refine Bk.alloc ?_ _) | (with_reducible refine Bk.drew ?_) | (with_reducible refine Bk.drewN ?_ _) | ((with_reducible refine Bk.far ?_ ?_ _); rotate_left; focus (simp only []; omega)) | ((with_reducible refine Bk.below ?_ (by with_reducible assumption) ?_); rotate_left; focus (go_size; done))))
    case round =>
      obtain ⟨t, hk, rfl, bo, bx, by_, b4, hsz, hbel⟩ := hrel
      have HK := Lib.hid hk
      have BO := Lib.hid bo
      have BX := Lib.hid bx
      have BY := Lib.hid by_
      have B4 := Lib.hid b4
      have t2 : t ≤ 2 := by omega
      clear hk bo bx by_ b4
      (try have : w.heap.size < wr.heap.size := by omega); (try have : w.heap.size + 1 < wr.heap.size := by omega); (try have : w.heap.size + 1 + 1 < wr.heap.size := by omega); (try have : w.heap.size + 1 + 1 + 1 < wr.heap.size := by omega)
      by_cases hlt : t < 2
      · go_wp2_with fail
        obtain ⟨wo, hwo⟩ : ∃ wo : World, wo = wr := ⟨_, rfl⟩
        clear hwo
        obtain ⟨go, hgo⟩ : ∃ go : Nat, go = gk := ⟨_, rfl⟩
        rw [← hgo] at HK
        have HGO := Lib.hid hgo
        clear hgo
        have hO : n % 2 ^ (64 * t) * m < 2 ^ (64 * (t + 2)) := mul_low HM.out
        have hO2 : n % 2 ^ (64 * t) * m < 2 ^ 256 := Nat.lt_of_lt_of_le hO (Nat.pow_le_pow_right (by decide) (by omega))
        obtain ⟨O, eO⟩ : ∃ O, O = n % 2 ^ (64 * t) * m := ⟨_, rfl⟩
        rw [← eO] at hO hO2 BO
        have EO := Far.mk eO
        have H1 := Far.mk hO
        have H2 := Far.mk hO2
        clear eO hO hO2
        go_loopg [9, 27] 2 (fun k c j wr => ∃ (s : Nat) (cc : Int) (V : Nat), k + s = 2 ∧ j = .int .i64 s ∧ c = .int .u64 cc ∧ 0 ≤ cc ∧ cc < 18446744073709551616 ∧ V < 2 ^ 256 ∧
          (V : Int) + cc * ((2 ^ (64 * (t + s)) : Nat) : Int) = O + wd n t * ((m % 2 ^ (64 * s) : Nat) : Int) * ((2 ^ (64 * t) : Nat) : Int) ∧ (∀ j, t + 2 ≤ j → j < 4 → wd V j = 0) ∧
          Bk wr (w.heap.size + 1 + 1 + 1) 85 (lcells V) ∧ Bk wr (w.heap.size + 1 + 1 + 1 + 1) 107 [.int .u64 (wd n 0), .int .u64 (wd n 1)] ∧ Bk wr (w.heap.size + 1 + 1 + 1 + 1 + 1) 107 [.int .u64 (wd m 0), .int .u64 (wd m 1)] ∧
          Bk wr (w.heap.size + 1 + 1) 85 [.int .u64 0, .int .u64 0, .int .u64 0, .int .u64 0] ∧ w.heap.size + 6 ≤ wr.heap.size ∧ Below w.heap.size w wr)
        case atStart =>
          refine ⟨0, 0, O, rfl, rfl, rfl, by omega, by omega, H2.out, ?_, ?_, BO.out, BX.out, BY.out, B4.out, hsz, hbel⟩
          · rw [Nat.mul_zero, Nat.pow_zero, Nat.mod_one, Int.zero_mul, Int.natCast_zero, Int.mul_zero, Int.zero_mul]
          · intro j hj _
            exact wd_past H1.out hj
        case round =>
          obtain ⟨s, cc, V, hk, rfl, rfl, hc0, hc1, hV, heq, hz, bo, bx, by_, b4, hsz, hbel⟩ := hrel
          have HK2 := Lib.hid hk
          have HV := Far.mk hV
          have HE := Far.mk heq
          have HZ := Lib.hid hz
          have BO := Lib.hid bo
          have BX := Lib.hid bx
          have BY := Lib.hid by_
          have B4 := Lib.hid b4
          have s2 : s ≤ 2 := by omega
          clear hk hV heq hz bo bx by_ b4
          (try have : w.heap.size < wr.heap.size := by omega); (try have : w.heap.size + 1 < wr.heap.size := by omega); (try have : w.heap.size + 1 + 1 < wr.heap.size := by omega); (try have : w.heap.size + 1 + 1 + 1 < wr.heap.size := by omega)
          by_cases hls : s < 2
          · have cx : wr.cell? ⟨(w.heap.size + 1 + 1 + 1 + 1), t, none⟩ = some (.int .u64 (wd n t)) := BX.out.cell t (two_at n t hlt)
            have cy : wr.cell? ⟨(w.heap.size + 1 + 1 + 1 + 1 + 1), s, none⟩ = some (.int .u64 (wd m s)) := BY.out.cell s (two_at m s hls)
            have co : wr.cell? ⟨w.heap.size + 1 + 1 + 1, t + s, none⟩ = some (.int .u64 (wd V (t + s))) := BO.out.cell _ (lcells_at V _ (by omega))
            have fo := BO.out.frozen (t + s)
            obtain ⟨h, l, s1, k1, s3, k3, f, g, e, HS, p1, p2, p3, p4, p5, p6, p7⟩ := mul_step (wd n t) (wd m s) (wd V (t + s)) cc (wd_nn n t) (wd_lt n t) (wd_nn m s) (wd_lt m s) (wd_nn V _) (wd_lt V _) hc0 hc1
            obtain ⟨V', v1, v2, v3, v4, v5⟩ := lcells_set V (t + s) (by omega) HV.out s3 p5 p6
            have L1 := Far.mk v1
            have L2 := Far.mk v2
            have L3 := Lib.hid v3
            have L4 := Lib.hid v4
            clear v1 v2 v3 v4 v5
            obtain ⟨X, hX⟩ : ∃ X, X = wd n t := ⟨_, rfl⟩
            obtain ⟨Y, hY⟩ : ∃ Y, Y = wd m s := ⟨_, rfl⟩
            obtain ⟨Z, hZ⟩ : ∃ Z, Z = wd V (t + s) := ⟨_, rfl⟩
            rw [← hX] at cx f HS HE
            rw [← hY] at cy f HS
            rw [← hZ] at co g HS L2
            have EX := Lib.hid hX
            have EY := Lib.hid hY
            clear hX hY hZ
            go_wp2_with fail
            go_quiet ((go_at_call 76; (first | exact Calls.quiet_of (f.out _) | exact quiet_add (f.out _))))
            go_wp2_with fail
            go_roundg (gk - 1)
            case measure => have := HK2.out; omega
            case rel =>
              have bx := BX.out
              have by_ := BY.out
              have b4 := B4.out
              refine ⟨s + 1, h + k1 + k3, V', by have := HK2.out; omega, by go_num, rfl, by omega, p7, L1.out, ?_, ?_, ?_, by (repeat (first | (with_reducible assumption) | ((with_reducible refine Bk.new_ ?_); (first | rfl | (simp only [World.size_alloc, World.size_setCell, World.size_drew, World.heap_drewN]; done))) | (with_reducible refine Bk.alloc ?_ _) | (with_reducible refine Bk.drew ?_) | (with_reducible refine Bk.drewN ?_ _) | ((with_reducible refine Bk.far ?_ ?_ _); rotate_left; focus (simp only []; omega)) | ((with_reducible refine Bk.below ?_ (by with_reducible assumption) ?_); rotate_left; focus (go_size; done)))), by (repeat (first | (with_reducible assumption) | ((with_reducible refine Bk.new_ ?_); (first | rfl | (simp only [World.size_alloc, World.size_setCell, World.size_drew, World.heap_drewN]; done))) | (with_reducible refine Bk.alloc ?_ _) | (with_reducible refine Bk.drew ?_) | (with_reducible refine Bk.drewN ?_ _) | ((with_reducible refine Bk.far ?_ ?_ _); rotate_left; focus (simp only []; omega)) | ((with_reducible refine Bk.below ?_ (by with_reducible assumption) ?_); rotate_left; focus (go_size; done)))), by (repeat (first | (with_reducible assumption) | ((with_reducible refine Bk.new_ ?_); (first | rfl | (simp only [World.size_alloc, World.size_setCell, World.size_drew, World.heap_drewN]; done))) | (with_reducible refine Bk.alloc ?_ _) | (with_reducible refine Bk.drew ?_) | (with_reducible refine Bk.drewN ?_ _) | ((with_reducible refine Bk.far ?_ ?_ _); rotate_left; focus (simp only []; omega)) | ((with_reducible refine Bk.below ?_ (by with_reducible assumption) ?_); rotate_left; focus (go_size; done)))), by go_size, by (repeat' (first | (with_reducible exact Below.refl _ _) | (with_reducible assumption) | (with_reducible refine Below.drew ?_) | (with_reducible refine below_drewN ?_ _) | ((with_reducible refine Below.alloc ?_ ?_ _); rotate_left; focus (go_size; done)) | ((with_reducible refine Below.setCell ?_ ?_ _); rotate_left; focus (go_size; done)) | ((with_reducible refine Below.trans ?_ (Below.mono (by with_reducible assumption) ?_)); rotate_left; focus (go_size; done))))⟩
              · have i1 := HE.out
                have i2 := L2.out
                have i3 := HS.out
                have i4 := wd_mod_succ m s
                rw [← EY.out] at i4
                rw [← EX.out]
                exact mul_inv i1 i2 i3 i4
              · intro j hj h4
                rw [L4.out j h4 (by omega)]
                exact HZ.out j hj h4
              · rw [← L3.out]
                exact (BO.out.drewN _).set_ _ _
          · obtain rfl : s = 2 := by omega
            have co : wr.cell? ⟨w.heap.size + 1 + 1 + 1, t + 2, none⟩ = some (.int .u64 (wd V (t + 2))) := BO.out.cell _ (lcells_at V _ (by omega))
            have fo := BO.out.frozen (t + 2)
            obtain ⟨V', v1, v2, v3, v4, v5⟩ := lcells_set V (t + 2) (by omega) HV.out cc hc0 hc1
            have L2 := Far.mk v2
            have L3 := Lib.hid v3
            clear v1 v2 v3 v4 v5
            go_wp2_with fail
            go_roundg (go - 1)
            case measure => have := HK.out; have := HGO.out; omega
            case rel =>
              have bx := BX.out
              have by_ := BY.out
              have b4 := B4.out
              refine ⟨t + 1, by have := HK.out; omega, by go_num, ?_, by (repeat (first | (with_reducible assumption) | ((with_reducible refine Bk.new_ ?_); (first | rfl | (simp only [World.size_alloc, World.size_setCell, World.size_drew, World.heap_drewN]; done))) | (with_reducible refine Bk.alloc ?_ _) | (with_reducible refine Bk.drew ?_) | (with_reducible refine Bk.drewN ?_ _) | ((with_reducible refine Bk.far ?_ ?_ _); rotate_left; focus (simp only []; omega)) | ((with_reducible refine Bk.below ?_ (by with_reducible assumption) ?_); rotate_left; focus (go_size; done)))), by (repeat (first | (with_reducible assumption) | ((with_reducible refine Bk.new_ ?_); (first | rfl | (simp only [World.size_alloc, World.size_setCell, World.size_drew, World.heap_drewN]; done))) | (with_reducible refine Bk.alloc ?_ _) | (with_reducible refine Bk.drew ?_) | (with_reducible refine Bk.drewN ?_ _) | ((with_reducible refine Bk.far ?_ ?_ _); rotate_left; focus (simp only []; omega)) | ((with_reducible refine Bk.below ?_ (by with_reducible assumption) ?_); rotate_left; focus (go_size; done)))), by (repeat (first | (with_reducible assumption) | ((with_reducible refine Bk.new_ ?_); (first | rfl | (simp only [World.size_alloc, World.size_setCell, World.size_drew, World.heap_drewN]; done))) | (with_reducible refine Bk.alloc ?_ _) | (with_reducible refine Bk.drew ?_) | (with_reducible refine Bk.drewN ?_ _) | ((with_reducible refine Bk.far ?_ ?_ _); rotate_left; focus (simp only []; omega)) | ((with_reducible refine Bk.below ?_ (by with_reducible assumption) ?_); rotate_left; focus (go_size; done)))), by go_size, by (repeat' (first | (with_reducible exact Below.refl _ _) | (with_reducible assumption) | (with_reducible refine Below.drew ?_) | (with_reducible refine below_drewN ?_ _) | ((with_reducible refine Below.alloc ?_ ?_ _); rotate_left; focus (go_size; done)) | ((with_reducible refine Below.setCell ?_ ?_ _); rotate_left; focus (go_size; done)) | ((with_reducible refine Below.trans ?_ (Below.mono (by with_reducible assumption) ?_)); rotate_left; focus (go_size; done))))⟩
              have i1 := HE.out
              have i2 := L2.out
              have i3 := HZ.out (t + 2) (Nat.le_refl _) (by omega)
              have e : n % 2 ^ (64 * (t + 1)) * m = V' := mul_end HM.out EO.out i1 i2 i3
              rw [e, ← L3.out]
              exact BO.out.set_ _ _
      · obtain rfl : t = 2 := by omega
        have e : n % 2 ^ (64 * 2) * m = n * m := by rw [Nat.mod_eq_of_lt HN.out]
        rw [e] at BO
        obtain ⟨z, hz⟩ : ∃ z, z = n * m := ⟨_, rfl⟩
        rw [← hz] at BO
        have EZ := Lib.hid hz
        clear hz
        have bo := BO.out
        rw [lcells_eq] at bo
        have c0 := bo.cell 0 rfl
        have c1 := bo.cell 1 rfl
        have c2 := bo.cell 2 rfl
        have c3 := bo.cell 3 rfl
        have d0 := B4.out.cell 0 rfl
        have d1 := B4.out.cell 1 rfl
        have d2 := B4.out.cell 2 rfl
        have d3 := B4.out.cell 3 rfl
        have f0 := B4.out.frozen 0
        have f1 := B4.out.frozen 1
        have f2 := B4.out.frozen 2
        have f3 := B4.out.frozen 3
        clear bo e
        go_wp2_with fail
        refine bodyPost_ret (by simp [results, Tryd.results74, go_sem, *]; try rfl) rfl ?_
        exact ⟨by rw [EZ.out], by (repeat' (first | (with_reducible exact Below.refl _ _) | (with_reducible assumption) | (with_reducible refine Below.drew ?_) | (with_reducible refine below_drewN ?_ _) | ((with_reducible refine Below.alloc ?_ ?_ _); rotate_left; focus (go_size; done)) | ((with_reducible refine Below.setCell ?_ ?_ _); rotate_left; focus (go_size; done)) | ((with_reducible refine Below.trans ?_ (Below.mono (by with_reducible assumption) ?_)); rotate_left; focus (go_size; done))))⟩
  · go_wp2_with fail
    clear a0 a1 b0 b1 c0 c1 d0 d1
    go_loopg [24] 2 (fun k i wr => ∃ t : Nat, k + t = 2 ∧ i = .int .i64 t ∧ Bk wr (w.heap.size + 1 + 1 + 1) 85 (lcells (n % 2 ^ (64 * t) * m)) ∧ Bk wr (w.heap.size + 1 + 1 + 1 + 1 + 1) 107 [.int .u64 (wd n 0), .int .u64 (wd n 1)] ∧ Bk wr (w.heap.size + 1 + 1 + 1 + 1) 107 [.int .u64 (wd m 0), .int .u64 (wd m 1)] ∧
      Bk wr (w.heap.size + 1 + 1) 85 [.int .u64 0, .int .u64 0, .int .u64 0, .int .u64 0] ∧ w.heap.size + 6 ≤ wr.heap.size ∧ Below w.heap.size w wr)
    case atStart =>
      refine ⟨0, rfl, rfl, ?_, by (repeat (first | (with_reducible assumption) | ((with_reducible refine Bk.new_ ?_); (first | rfl | (simp only [World.size_alloc, World.size_setCell, World.size_drew, World.heap_drewN]; done))) | (with_reducible refine Bk.alloc ?_ _) | (with_reducible refine Bk.drew ?_) | (with_reducible refine Bk.drewN ?_ _) | ((with_reducible refine Bk.far ?_ ?_ _); rotate_left; focus (simp only []; omega)) | ((with_reducible refine Bk.below ?_ (by with_reducible assumption) ?_); rotate_left; focus (go_size; done)))), by (repeat (first | (with_reducible assumption) | ((with_reducible refine Bk.new_ ?_); (first | rfl | (simp only [World.size_alloc, World.size_setCell, World.size_drew, World.heap_drewN]; done))) | (with_reducible refine Bk.alloc ?_ _) | (with_reducible refine Bk.drew ?_) | (with_reducible refine Bk.drewN ?_ _) | ((with_reducible refine Bk.far ?_ ?_ _); rotate_left; focus (simp only []; omega)) | ((with_reducible refine Bk.below ?_ (by with_reducible assumption) ?_); rotate_left; focus (go_size; done)))), by (repeat (first | (with_reducible assumption) | ((with_reducible refine Bk.new_ ?_); (first | rfl | (simp only [World.size_alloc, World.size_setCell, World.size_drew, World.heap_drewN]; done))) | (with_reducible refine Bk.alloc ?_ _) | (with_reducible refine Bk.drew ?_) | (with_reducible refine Bk.drewN ?_ _) | ((with_reducible refine Bk.far ?_ ?_ _); rotate_left; focus (simp only []; omega)) | ((with_reducible refine Bk.below ?_ (by with_reducible assumption) ?_); rotate_left; focus (go_size; done)))), by go_size, by (repeat' (first | (with_reducible exact Below.refl _ _) | (with_reducible assumption) | (with_reducible refine Below.drew ?_) | (with_reducible refine below_drewN ?_ _) | ((with_reducible refine Below.alloc ?_ ?_ _); rotate_left; focus (go_size; done)) | ((with_reducible refine Below.setCell ?_ ?_ _); rotate_left; focus (go_size; done)) | ((with_reducible refine Below.trans ?_ (Below.mono (by with_reducible assumption) ?_)); rotate_left; focus (go_size; done))))⟩
      rw [Nat.mul_zero, Nat.pow_zero, Nat.mod_one, Nat.zero_mul]
      show Bk _ _ _ [.int .u64 0, .int .u64 0, .int .u64 0, .int .u64 0]
      (repeat (first | (with_reducible assumption) | ((with_reducible refine Bk.new_ ?_); (first | rfl | (simp only [World.size_alloc, World.size_setCell, World.size_drew, World.heap_drewN]; done))) | (with_reducible refine Bk.alloc ?_ _) | (with_reducible refine Bk.drew ?_) | (with_reducible refine Bk.drewN ?_ _) | ((with_reducible refine Bk.far ?_ ?_ _); rotate_left; focus (simp only []; omega)) | ((with_reducible refine Bk.below ?_ (by with_reducible assumption) ?_); rotate_left; focus (go_size; done))))
    case round =>
      obtain ⟨t, hk, rfl, bo, bx, by_, b4, hsz, hbel⟩ := hrel
      have HK := Lib.hid hk
      have BO := Lib.hid bo
      have BX := Lib.hid bx
      have BY := Lib.hid by_
      have B4 := Lib.hid b4
      have t2 : t ≤ 2 := by omega
      clear hk bo bx by_ b4
      (try have : w.heap.size < wr.heap.size := by omega); (try have : w.heap.size + 1 < wr.heap.size := by omega); (try have : w.heap.size + 1 + 1 < wr.heap.size := by omega); (try have : w.heap.size + 1 + 1 + 1 < wr.heap.size := by omega)
      by_cases hlt : t < 2
      · go_wp2_with fail
        obtain ⟨wo, hwo⟩ : ∃ wo : World, wo = wr := ⟨_, rfl⟩
        clear hwo
        obtain ⟨go, hgo⟩ : ∃ go : Nat, go = gk := ⟨_, rfl⟩
        rw [← hgo] at HK
        have HGO := Lib.hid hgo
        clear hgo
        have hO : n % 2 ^ (64 * t) * m < 2 ^ (64 * (t + 2)) := mul_low HM.out
        have hO2 : n % 2 ^ (64 * t) * m < 2 ^ 256 := Nat.lt_of_lt_of_le hO (Nat.pow_le_pow_right (by decide) (by omega))
        obtain ⟨O, eO⟩ : ∃ O, O = n % 2 ^ (64 * t) * m := ⟨_, rfl⟩
        rw [← eO] at hO hO2 BO
        have EO := Far.mk eO
        have H1 := Far.mk hO
        have H2 := Far.mk hO2
        clear eO hO hO2
        go_loopg [9, 27] 2 (fun k c j wr => ∃ (s : Nat) (cc : Int) (V : Nat), k + s = 2 ∧ j = .int .i64 s ∧ c = .int .u64 cc ∧ 0 ≤ cc ∧ cc < 18446744073709551616 ∧ V < 2 ^ 256 ∧
          (V : Int) + cc * ((2 ^ (64 * (t + s)) : Nat) : Int) = O + wd n t * ((m % 2 ^ (64 * s) : Nat) : Int) * ((2 ^ (64 * t) : Nat) : Int) ∧ (∀ j, t + 2 ≤ j → j < 4 → wd V j = 0) ∧
          Bk wr (w.heap.size + 1 + 1 + 1) 85 (lcells V) ∧ Bk wr (w.heap.size + 1 + 1 + 1 + 1 + 1) 107 [.int .u64 (wd n 0), .int .u64 (wd n 1)] ∧ Bk wr (w.heap.size + 1 + 1 + 1 + 1) 107 [.int .u64 (wd m 0), .int .u64 (wd m 1)] ∧
          Bk wr (w.heap.size + 1 + 1) 85 [.int .u64 0, .int .u64 0, .int .u64 0, .int .u64 0] ∧ w.heap.size + 6 ≤ wr.heap.size ∧ Below w.heap.size w wr)
        case atStart =>
          refine ⟨0, 0, O, rfl, rfl, rfl, by omega, by omega, H2.out, ?_, ?_, BO.out, BX.out, BY.out, B4.out, hsz, hbel⟩
          · rw [Nat.mul_zero, Nat.pow_zero, Nat.mod_one, Int.zero_mul, Int.natCast_zero, Int.mul_zero, Int.zero_mul]
          · intro j hj _
            exact wd_past H1.out hj
        case round =>
          obtain ⟨s, cc, V, hk, rfl, rfl, hc0, hc1, hV, heq, hz, bo, bx, by_, b4, hsz, hbel⟩ := hrel
          have HK2 := Lib.hid hk
          have HV := Far.mk hV
          have HE := Far.mk heq
          have HZ := Lib.hid hz
          have BO := Lib.hid bo
          have BX := Lib.hid bx
          have BY := Lib.hid by_
          have B4 := Lib.hid b4
          have s2 : s ≤ 2 := by omega
          clear hk hV heq hz bo bx by_ b4
          (try have : w.heap.size < wr.heap.size := by omega); (try have : w.heap.size + 1 < wr.heap.size := by omega); (try have : w.heap.size + 1 + 1 < wr.heap.size := by omega); (try have : w.heap.size + 1 + 1 + 1 < wr.heap.size := by omega)
          by_cases hls : s < 2
          · have cx : wr.cell? ⟨(w.heap.size + 1 + 1 + 1 + 1 + 1), t, none⟩ = some (.int .u64 (wd n t)) := BX.out.cell t (two_at n t hlt)
            have cy : wr.cell? ⟨(w.heap.size + 1 + 1 + 1 + 1), s, none⟩ = some (.int .u64 (wd m s)) := BY.out.cell s (two_at m s hls)
            have co : wr.cell? ⟨w.heap.size + 1 + 1 + 1, t + s, none⟩ = some (.int .u64 (wd V (t + s))) := BO.out.cell _ (lcells_at V _ (by omega))
            have fo := BO.out.frozen (t + s)
            obtain ⟨h, l, s1, k1, s3, k3, f, g, e, HS, p1, p2, p3, p4, p5, p6, p7⟩ := mul_step (wd n t) (wd m s) (wd V (t + s)) cc (wd_nn n t) (wd_lt n t) (wd_nn m s) (wd_lt m s) (wd_nn V _) (wd_lt V _) hc0 hc1
            obtain ⟨V', v1, v2, v3, v4, v5⟩ := lcells_set V (t + s) (by omega) HV.out s3 p5 p6
            have L1 := Far.mk v1
            have L2 := Far.mk v2
            have L3 := Lib.hid v3
            have L4 := Lib.hid v4
            clear v1 v2 v3 v4 v5
            obtain ⟨X, hX⟩ : ∃ X, X = wd n t := ⟨_, rfl⟩
            obtain ⟨Y, hY⟩ : ∃ Y, Y = wd m s := ⟨_, rfl⟩
            obtain ⟨Z, hZ⟩ : ∃ Z, Z = wd V (t + s) := ⟨_, rfl⟩
            rw [← hX] at cx f HS HE
            rw [← hY] at cy f HS
            rw [← hZ] at co g HS L2
            have EX := Lib.hid hX
            have EY := Lib.hid hY
            clear hX hY hZ
            go_wp2_with fail
            go_quiet ((go_at_call 76; (first | exact Calls.quiet_of (f.out _) | exact quiet_add (f.out _))))
            go_wp2_with fail
            go_roundg (gk - 1)
            case measure => have := HK2.out; omega
            case rel =>
              have bx := BX.out
              have by_ := BY.out
              have b4 := B4.out
              refine ⟨s + 1, h + k1 + k3, V', by have := HK2.out; omega, by go_num, rfl, by omega, p7, L1.out, ?_, ?_, ?_, by (repeat (first | (with_reducible assumption) | ((with_reducible refine Bk.new_ ?_); (first | rfl | (simp only [World.size_alloc, World.size_setCell, World.size_drew, World.heap_drewN]; done))) | (with_reducible refine Bk.alloc ?_ _) | (with_reducible refine Bk.drew ?_) | (with_reducible refine Bk.drewN ?_ _) | ((with_reducible refine Bk.far ?_ ?_ _); rotate_left; focus (simp only []; omega)) | ((with_reducible refine Bk.below ?_ (by with_reducible assumption) ?_); rotate_left; focus (go_size; done)))), by (repeat (first | (with_reducible assumption) | ((with_reducible refine Bk.new_ ?_); (first | rfl | (simp only [World.size_alloc, World.size_setCell, World.size_drew, World.heap_drewN]; done))) | (with_reducible refine Bk.alloc ?_ _) | (with_reducible refine Bk.drew ?_) | (with_reducible refine Bk.drewN ?_ _) | ((with_reducible refine Bk.far ?_ ?_ _); rotate_left; focus (simp only []; omega)) | ((with_reducible refine Bk.below ?_ (by with_reducible assumption) ?_); rotate_left; focus (go_size; done)))), by (repeat (first | (with_reducible assumption) | ((with_reducible refine Bk.new_ ?_); (first | rfl | (simp only [World.size_alloc, World.size_setCell, World.size_drew, World.heap_drewN]; done))) | (with_reducible refine Bk.alloc ?_ _) | (with_reducible refine Bk.drew ?_) | (with_reducible refine Bk.drewN ?_ _) | ((with_reducible refine Bk.far ?_ ?_ _); rotate_left; focus (simp only []; omega)) | ((with_reducible refine Bk.below ?_ (by with_reducible assumption) ?_); rotate_left; focus (go_size; done)))), by go_size, by (repeat' (first | (with_reducible exact Below.refl _ _) | (with_reducible assumption) | (with_reducible refine Below.drew ?_) | (with_reducible refine below_drewN ?_ _) | ((with_reducible refine Below.alloc ?_ ?_ _); rotate_left; focus (go_size; done)) | ((with_reducible refine Below.setCell ?_ ?_ _); rotate_left; focus (go_size; done)) | ((with_reducible refine Below.trans ?_ (Below.mono (by with_reducible assumption) ?_)); rotate_left; focus (go_size; done))))⟩
              · have i1 := HE.out
                have i2 := L2.out
                have i3 := HS.out
                have i4 := wd_mod_succ m s
                rw [← EY.out] at i4
                rw [← EX.out]
                exact mul_inv i1 i2 i3 i4
              · intro j hj h4
                rw [L4.out j h4 (by omega)]
                exact HZ.out j hj h4
              · rw [← L3.out]
                exact (BO.out.drewN _).set_ _ _
          · obtain rfl : s = 2 := by omega
            have co : wr.cell? ⟨w.heap.size + 1 + 1 + 1, t + 2, none⟩ = some (.int .u64 (wd V (t + 2))) := BO.out.cell _ (lcells_at V _ (by omega))
            have fo := BO.out.frozen (t + 2)
            obtain ⟨V', v1, v2, v3, v4, v5⟩ := lcells_set V (t + 2) (by omega) HV.out cc hc0 hc1
            have L2 := Far.mk v2
            have L3 := Lib.hid v3
            clear v1 v2 v3 v4 v5
            go_wp2_with fail
            go_roundg (go - 1)
            case measure => have := HK.out; have := HGO.out; omega
            case rel =>
              have bx := BX.out
              have by_ := BY.out
              have b4 := B4.out
              refine ⟨t + 1, by have := HK.out; omega, by go_num, ?_, by (repeat (first | (with_reducible assumption) | ((with_reducible refine Bk.new_ ?_); (first | rfl | (simp only [World.size_alloc, World.size_setCell, World.size_drew, World.heap_drewN]; done))) | (with_reducible refine Bk.alloc ?_ _) | (with_reducible refine Bk.drew ?_) | (with_reducible refine Bk.drewN ?_ _) | ((with_reducible refine Bk.far ?_ ?_ _); rotate_left; focus (simp only []; omega)) | ((with_reducible refine Bk.below ?_ (by with_reducible assumption) ?_); rotate_left; focus (go_size; done)))), by (repeat (first | (with_reducible assumption) | ((with_reducible refine Bk.new_ ?_); (first | rfl | (simp only [World.size_alloc, World.size_setCell, World.size_drew, World.heap_drewN]; done))) | (with_reducible refine Bk.alloc ?_ _) | (with_reducible refine Bk.drew ?_) | (with_reducible refine Bk.drewN ?_ _) | ((with_reducible refine Bk.far ?_ ?_ _); rotate_left; focus (simp only []; omega)) | ((with_reducible refine Bk.below ?_ (by with_reducible assumption) ?_); rotate_left; focus (go_size; done)))), by (repeat (first | (with_reducible assumption) | ((with_reducible refine Bk.new_ ?_); (first | rfl | (simp only [World.size_alloc, World.size_setCell, World.size_drew, World.heap_drewN]; done))) | (with_reducible refine Bk.alloc ?_ _) | (with_reducible refine Bk.drew ?_) | (with_reducible refine Bk.drewN ?_ _) | ((with_reducible refine Bk.far ?_ ?_ _); rotate_left; focus (simp only []; omega)) | ((with_reducible refine Bk.below ?_ (by with_reducible assumption) ?_); rotate_left; focus (go_size; done)))), by go_size, by (repeat' (first | (with_reducible exact Below.refl _ _) | (with_reducible assumption) | (with_reducible refine Below.drew ?_) | (with_reducible refine below_drewN ?_ _) | ((with_reducible refine Below.alloc ?_ ?_ _); rotate_left; focus (go_size; done)) | ((with_reducible refine Below.setCell ?_ ?_ _); rotate_left; focus (go_size; done)) | ((with_reducible refine Below.trans ?_ (Below.mono (by with_reducible assumption) ?_)); rotate_left; focus (go_size; done))))⟩
              have i1 := HE.out
              have i2 := L2.out
              have i3 := HZ.out (t + 2) (Nat.le_refl _) (by omega)
              have e : n % 2 ^ (64 * (t + 1)) * m = V' := mul_end HM.out EO.out i1 i2 i3
              rw [e, ← L3.out]
              exact BO.out.set_ _ _
      · obtain rfl : t = 2 := by omega
        have e : n % 2 ^ (64 * 2) * m = n * m := by rw [Nat.mod_eq_of_lt HN.out]
        rw [e] at BO
        obtain ⟨z, hz⟩ : ∃ z, z = n * m := ⟨_, rfl⟩
        rw [← hz] at BO
        have EZ := Lib.hid hz
        clear hz
        have bo := BO.out
        rw [lcells_eq] at bo
        have c0 := bo.cell 0 rfl
        have c1 := bo.cell 1 rfl
        have c2 := bo.cell 2 rfl
        have c3 := bo.cell 3 rfl
        have d0 := B4.out.cell 0 rfl
        have d1 := B4.out.cell 1 rfl
        have d2 := B4.out.cell 2 rfl
        have d3 := B4.out.cell 3 rfl
        have f0 := B4.out.frozen 0
        have f1 := B4.out.frozen 1
        have f2 := B4.out.frozen 2
        have f3 := B4.out.frozen 3
        clear bo e
        go_wp2_with fail
        refine bodyPost_ret (by simp [results, Tryd.results74, go_sem, *]; try rfl) rfl ?_
        exact ⟨by rw [EZ.out], by (repeat' (first | (with_reducible exact Below.refl _ _) | (with_reducible assumption) | (with_reducible refine Below.drew ?_) | (with_reducible refine below_drewN ?_ _) | ((with_reducible refine Below.alloc ?_ ?_ _); rotate_left; focus (go_size; done)) | ((with_reducible refine Below.setCell ?_ ?_ _); rotate_left; focus (go_size; done)) | ((with_reducible refine Below.trans ?_ (Below.mono (by with_reducible assumption) ?_)); rotate_left; focus (go_size; done))))⟩
end Go.Proofs.YtanjbdhjnmmfdaaDoor

set_option linter.unusedSimpArgs false
set_option linter.unusedVariables false
namespace Go.Proofs.YtanjbdhjnmmfdaaDoor
open Go.RowKit

theorem ten_38 {k : Nat} (h : k ≤ 38) : 10 ^ k < 2 ^ 128 := Nat.lt_of_le_of_lt (Nat.pow_le_pow_right (by decide) h) (by decide)
set_option maxHeartbeats 1000000 in
theorem ten_bad (k : Int) (hk : k < 0 ∨ 38 < k) (w : World) : Calls Tryd.prog 71 #[.int .i64 k] w fun e w' => e = .returned (.tuple #[.agg #[.int .u64 0, .int .u64 0], .int .i64 1]) ∧ Below w.heap.size w w' := by
  rcases hk with hk | hk
  · go_enter Tryd.func71, Tryd.ntmps71
    go_wp2_with fail
    refine bodyPost_ret (by simp [results, Tryd.results71, go_sem, *]; try rfl) rfl ?_
    exact ⟨rfl, by (repeat' (first | (with_reducible exact Below.refl _ _) | (with_reducible assumption) | (with_reducible refine Below.drew ?_) | (with_reducible refine below_drewN ?_ _) | ((with_reducible refine Below.alloc ?_ ?_ _); rotate_left; focus (go_size; done)) | ((with_reducible refine Below.setCell ?_ ?_ _); rotate_left; focus (go_size; done)) | ((with_reducible refine Below.trans ?_ (Below.mono (by with_reducible assumption) ?_)); rotate_left; focus (go_size; done))))⟩
  · have h0 : ¬ k < 0 := by omega
    go_enter Tryd.func71, Tryd.ntmps71
    go_wp2_with fail
    refine bodyPost_ret (by simp [results, Tryd.results71, go_sem, *]; try rfl) rfl ?_
    exact ⟨rfl, by (repeat' (first | (with_reducible exact Below.refl _ _) | (with_reducible assumption) | (with_reducible refine Below.drew ?_) | (with_reducible refine below_drewN ?_ _) | ((with_reducible refine Below.alloc ?_ ?_ _); rotate_left; focus (go_size; done)) | ((with_reducible refine Below.setCell ?_ ?_ _); rotate_left; focus (go_size; done)) | ((with_reducible refine Below.trans ?_ (Below.mono (by with_reducible assumption) ?_)); rotate_left; focus (go_size; done))))⟩
theorem mul_ten (X : Nat) (hX : X < 2 ^ 128) (W : World) : Calls Tryd.prog 74 #[.agg #[.int .u64 (wd X 1), .int .u64 (wd X 0)], .agg #[.int .u64 0, .int .u64 10]] W fun e w' => e = .returned (.agg #[.int .u64 (wd (X * 10) 0), .int .u64 (wd (X * 10) 1), .int .u64 (wd (X * 10) 2), .int .u64 (wd (X * 10) 3)]) ∧ Below W.heap.size W w' := by
  have h := mul_any X 10 hX (by decide) W
  have b0 : wd 10 0 = 10 := by rw [wd0]; rfl
  have b1 : wd 10 1 = 0 := by rw [wd1]; rfl
  rw [b0, b1] at h
  exact h
theorem fit_id {X : Nat} (h : X < 2 ^ 128) : fitW X = X := by unfold fitW; rw [if_pos h]
theorem over_id {X : Nat} (h : X < 2 ^ 128) : over X = 0 := by unfold over; rw [if_pos h]
set_option maxHeartbeats 4000000 in
theorem ten_any (k : Nat) (hk : k ≤ 38) (w : World) : Calls Tryd.prog 71 #[.int .i64 k] w fun e w' => e = .returned (.tuple #[.agg #[.int .u64 (wd (10 ^ k) 1), .int .u64 (wd (10 ^ k) 0)], .int .i64 0]) ∧ Below w.heap.size w w' := by
  have k0 : (0 : Int) ≤ (k : Int) := by omega
  have k1 : (k : Int) ≤ 38 := by omega
  go_enter Tryd.func71, Tryd.ntmps71
  go_wp2_with fail
  go_loopg [14] k (fun kk i wr => ∃ t : Nat, kk + t = k ∧ i = .int .i64 t ∧ Bk wr (w.heap.size + 1) 24 [.int .u64 (wd (10 ^ t) 1), .int .u64 (wd (10 ^ t) 0)] ∧ Bk wr w.heap.size 24 [.int .u64 0, .int .u64 0] ∧ w.heap.size + 2 ≤ wr.heap.size ∧ Below w.heap.size w wr)
  case atStart =>
    refine ⟨0, by omega, rfl, ?_, by (repeat (first | (with_reducible assumption) | ((with_reducible refine Bk.new_ ?_); (first | rfl | (simp only [World.size_alloc, World.size_setCell, World.size_drew, World.heap_drewN]; done))) | (with_reducible refine Bk.alloc ?_ _) | (with_reducible refine Bk.drew ?_) | (with_reducible refine Bk.drewN ?_ _) | ((with_reducible refine Bk.far ?_ ?_ _); rotate_left; focus (simp only []; omega)) | ((with_reducible refine Bk.below ?_ (by with_reducible assumption) ?_); rotate_left; focus (go_size; done)))), by go_size, by (repeat' (first | (with_reducible exact Below.refl _ _) | (with_reducible assumption) | (with_reducible refine Below.drew ?_) | (with_reducible refine below_drewN ?_ _) | ((with_reducible refine Below.alloc ?_ ?_ _); rotate_left; focus (go_size; done)) | ((with_reducible refine Below.setCell ?_ ?_ _); rotate_left; focus (go_size; done)) | ((with_reducible refine Below.trans ?_ (Below.mono (by with_reducible assumption) ?_)); rotate_left; focus (go_size; done))))⟩
    have b0 : wd (10 ^ 0) 0 = 1 := by rw [wd0]; rfl
    have b1 : wd (10 ^ 0) 1 = 0 := by rw [wd1]; rfl
    rw [b0, b1]
    (repeat (first | (with_reducible assumption) | ((with_reducible refine Bk.new_ ?_); (first | rfl | (simp only [World.size_alloc, World.size_setCell, World.size_drew, World.heap_drewN]; done))) | (with_reducible refine Bk.alloc ?_ _) | (with_reducible refine Bk.drew ?_) | (with_reducible refine Bk.drewN ?_ _) | ((with_reducible refine Bk.far ?_ ?_ _); rotate_left; focus (simp only []; omega)) | ((with_reducible refine Bk.below ?_ (by with_reducible assumption) ?_); rotate_left; focus (go_size; done))))
  case round =>
    obtain ⟨t, hn, rfl, b1, b0, hsz, hbel⟩ := hrel
    have HK := Lib.hid hn
    have ht : t ≤ k := by omega
    have c0 := b1.cell 0 rfl
    have c1 := b1.cell 1 rfl
    have f0 := b1.frozen 0
    have f1 := b1.frozen 1
    have d0 := b0.cell 0 rfl
    have d1 := b0.cell 1 rfl
    have e0 := b0.frozen 0
    have e1 := b0.frozen 1
    have B0 := Lib.hid b0
    have B1 := Lib.hid b1
    (try have : w.heap.size < wr.heap.size := by omega); (try have : w.heap.size + 1 < wr.heap.size := by omega); (try have : w.heap.size + 1 + 1 < wr.heap.size := by omega); (try have : w.heap.size + 1 + 1 + 1 < wr.heap.size := by omega)
    clear hn b0 b1
    by_cases hlt : t < k
    · have hx : 10 ^ t < 2 ^ 128 := ten_38 (by omega)
      have hy : 10 ^ t * 10 < 2 ^ 128 := by rw [← Nat.pow_succ]; exact ten_38 (by omega)
      have HM := Lib.hid (fun W => mul_ten (10 ^ t) hx W)
      have HN := Lib.hid (fun W => narrow_any (10 ^ t * 10) (Nat.lt_trans hy (by decide)) W)
      rw [fit_id hy, over_id hy] at HN
      obtain ⟨X, hX⟩ : ∃ X, X = 10 ^ t := ⟨_, rfl⟩
      obtain ⟨Y, hY⟩ : ∃ Y, Y = X * 10 := ⟨_, rfl⟩
      rw [← hX] at c0 c1 HM HN
      rw [← hY] at HM HN
      have EX := Far.mk hX
      have EY := Far.mk hY
      clear hX hY hx hy
      go_wp2_with (first
        | ((go_at_call 74; with_reducible refine (HM.out _).mono ?_); rintro _ w1 ⟨rfl, hb1⟩; have hb1s := hb1.size; (try simp only [World.size_alloc, World.size_setCell, World.size_drew, World.heap_drewN] at hb1s); obtain ⟨hb1c, hb1f⟩ := bcell hb1; (try have : w.heap.size < w1.heap.size := by omega); (try have : w.heap.size + 1 < w1.heap.size := by omega); (try have : w.heap.size + 1 + 1 < w1.heap.size := by omega); (try have : w.heap.size + 1 + 1 + 1 < w1.heap.size := by omega))
        | ((go_at_call 73; with_reducible refine (HN.out _).mono ?_); rintro _ w2 ⟨rfl, hb2⟩; have hb2s := hb2.size; (try simp only [World.size_alloc, World.size_setCell, World.size_drew, World.heap_drewN] at hb2s); obtain ⟨hb2c, hb2f⟩ := bcell hb2; (try have : w.heap.size < w2.heap.size := by omega); (try have : w.heap.size + 1 < w2.heap.size := by omega); (try have : w.heap.size + 1 + 1 < w2.heap.size := by omega); (try have : w.heap.size + 1 + 1 + 1 < w2.heap.size := by omega); (try have : w1.heap.size < w2.heap.size := by omega); (try have : w1.heap.size + 1 < w2.heap.size := by omega); (try have : w1.heap.size + 1 + 1 < w2.heap.size := by omega); (try have : w1.heap.size + 1 + 1 + 1 < w2.heap.size := by omega)))
      go_roundg (gk - 1)
      case measure => have := HK.out; omega
      case rel =>
        have b0 := B0.out
        have b1 := B1.out
        refine ⟨t + 1, by have := HK.out; omega, by go_num, ?_, by (repeat (first | (with_reducible assumption) | ((with_reducible refine Bk.new_ ?_); (first | rfl | (simp only [World.size_alloc, World.size_setCell, World.size_drew, World.heap_drewN]; done))) | (with_reducible refine Bk.alloc ?_ _) | (with_reducible refine Bk.drew ?_) | (with_reducible refine Bk.drewN ?_ _) | ((with_reducible refine Bk.far ?_ ?_ _); rotate_left; focus (simp only []; omega)) | ((with_reducible refine Bk.below ?_ (by with_reducible assumption) ?_); rotate_left; focus (go_size; done)))), by go_size, by (repeat' (first | (with_reducible exact Below.refl _ _) | (with_reducible assumption) | (with_reducible refine Below.drew ?_) | (with_reducible refine below_drewN ?_ _) | ((with_reducible refine Below.alloc ?_ ?_ _); rotate_left; focus (go_size; done)) | ((with_reducible refine Below.setCell ?_ ?_ _); rotate_left; focus (go_size; done)) | ((with_reducible refine Below.trans ?_ (Below.mono (by with_reducible assumption) ?_)); rotate_left; focus (go_size; done))))⟩
        have e : 10 ^ (t + 1) = Y := by rw [EY.out, EX.out, Nat.pow_succ]
        rw [e]
        refine ((?_ : Bk w2 _ _ [.int .u64 (wd (10 ^ t) 1), .int .u64 (wd (10 ^ t) 0)]).set_ 0 _).set_ 1 _
        (repeat (first | (with_reducible assumption) | ((with_reducible refine Bk.new_ ?_); (first | rfl | (simp only [World.size_alloc, World.size_setCell, World.size_drew, World.heap_drewN]; done))) | (with_reducible refine Bk.alloc ?_ _) | (with_reducible refine Bk.drew ?_) | (with_reducible refine Bk.drewN ?_ _) | ((with_reducible refine Bk.far ?_ ?_ _); rotate_left; focus (simp only []; omega)) | ((with_reducible refine Bk.below ?_ (by with_reducible assumption) ?_); rotate_left; focus (go_size; done))))
    · obtain rfl : t = k := by omega
      obtain ⟨X, hX⟩ : ∃ X, X = 10 ^ t := ⟨_, rfl⟩
      rw [← hX] at c0 c1
      have EX := Far.mk hX
      clear hX
      go_wp2_with fail
      refine bodyPost_ret (by simp [results, Tryd.results71, go_sem, *]; try rfl) rfl ?_
      exact ⟨by rw [EX.out], by (repeat' (first | (with_reducible exact Below.refl _ _) | (with_reducible assumption) | (with_reducible refine Below.drew ?_) | (with_reducible refine below_drewN ?_ _) | ((with_reducible refine Below.alloc ?_ ?_ _); rotate_left; focus (go_size; done)) | ((with_reducible refine Below.setCell ?_ ?_ _); rotate_left; focus (go_size; done)) | ((with_reducible refine Below.trans ?_ (Below.mono (by with_reducible assumption) ?_)); rotate_left; focus (go_size; done))))⟩
end Go.Proofs.YtanjbdhjnmmfdaaDoor

set_option linter.unusedSimpArgs false
set_option linter.unusedVariables false
namespace Go.Proofs.YtanjbdhjnmmfdaaDoor
open Go.RowKit

/-- N is T and k noughts behind it -/
def IsTz (N T k : Nat) : Prop := N = T * 10 ^ k ∧ T % 10 ≠ 0
theorem tz_upto (N b : Nat) (h0 : N ≠ 0) (h : N < 10 ^ b) : ∃ T k, IsTz N T k := by
  induction b generalizing N with
  | zero => simp at h; omega
  | succ b ih =>
    by_cases hd : N % 10 = 0
    · obtain ⟨T, k, e, ht⟩ := ih (N / 10) (by omega) (by rw [Nat.pow_succ] at h; omega)
      refine ⟨T, k + 1, ?_, ht⟩
      rw [Nat.pow_succ, ← Nat.mul_assoc, ← e]; omega
    · exact ⟨N, 0, by simp, hd⟩
theorem IsTz.k_le {N T k : Nat} (h : IsTz N T k) (hN : N < 2 ^ 128) : k ≤ 38 := by
  obtain ⟨e, ht⟩ := h
  have h1 : 1 ≤ T := by
    rcases Nat.eq_zero_or_pos T with h0 | h0
    · subst h0; exact absurd rfl ht
    · exact h0
  have h2 : 10 ^ k ≤ N := by rw [e]; exact Nat.le_mul_of_pos_left _ h1
  have h3 : (10 : Nat) ^ k < 10 ^ 39 := Nat.lt_of_le_of_lt h2 (Nat.lt_trans hN (by decide))
  have := pow_lt10 h3
  omega
theorem IsTz.at_ {N T k t : Nat} (h : IsTz N T k) (ht : t ≤ k) : N / 10 ^ t = T * 10 ^ (k - t) := by
  have e : 10 ^ k = 10 ^ (k - t) * 10 ^ t := by rw [← Nat.pow_add]; congr 1; omega
  rw [h.1, e, ← Nat.mul_assoc, Nat.mul_div_cancel _ (Nat.pow_pos (by decide))]
theorem IsTz.mod_lt {N T k t : Nat} (h : IsTz N T k) (ht : t < k) : N / 10 ^ t % 10 = 0 := by
  rw [h.at_ (by omega), show k - t = k - t - 1 + 1 by omega, Nat.pow_succ, ← Nat.mul_assoc, Nat.mul_mod_left]
theorem IsTz.mod_eq {N T k : Nat} (h : IsTz N T k) : N / 10 ^ k = T := by
  rw [h.at_ (Nat.le_refl _), Nat.sub_self, Nat.pow_zero, Nat.mul_one]
set_option maxHeartbeats 1000000 in
theorem trim_zero (w : World) : Calls Tryd.prog 53 #[.agg #[.int .u64 0, .int .u64 0]] w fun e w' => e = .returned (.tuple #[.agg #[.int .u64 0, .int .u64 0], .int .i64 0]) ∧ Below w.heap.size w w' := by
  go_enter Tryd.func53, Tryd.ntmps53
  go_wp2_with fail
  refine bodyPost_ret (by simp [results, Tryd.results53, go_sem, *]; try rfl) rfl ?_
  exact ⟨rfl, by (repeat' (first | (with_reducible exact Below.refl _ _) | (with_reducible assumption) | (with_reducible refine Below.drew ?_) | (with_reducible refine below_drewN ?_ _) | ((with_reducible refine Below.alloc ?_ ?_ _); rotate_left; focus (go_size; done)) | ((with_reducible refine Below.setCell ?_ ?_ _); rotate_left; focus (go_size; done)) | ((with_reducible refine Below.trans ?_ (Below.mono (by with_reducible assumption) ?_)); rotate_left; focus (go_size; done))))⟩
set_option maxHeartbeats 1000000 in
theorem trim_any (N T k : Nat) (hN : N < 2 ^ 128) (h : IsTz N T k) (w : World) : Calls Tryd.prog 53 #[.agg #[.int .u64 (wd N 1), .int .u64 (wd N 0)]] w fun e w' => e = .returned (.tuple #[.agg #[.int .u64 (wd T 1), .int .u64 (wd T 0)], .int .i64 k]) ∧ Below w.heap.size w w' := by
  have hk38 := h.k_le hN
  have h0 : N ≠ 0 := by
    rintro rfl
    have h1 := h.1
    have h2 := h.2
    rcases Nat.mul_eq_zero.1 h1.symm with h3 | h3
    · subst h3; exact h2 rfl
    · exact absurd h3 (Nat.ne_of_gt (Nat.pow_pos (by decide)))
  have qz : ∀ W, (binOp .eql 24 (.agg #[.int .u64 (wd N 1), .int .u64 (wd N 0)]) (.agg #[.int .u64 0, .int .u64 0])).run Tryd.prog W = .ok (.bool false) W := fun W => by
    rw [eq_wide]
    have e := wd_eq_iff hN (show 0 < 2 ^ 128 by decide)
    rw [wd_zero, wd_zero] at e
    rw [e, decide_eq_false h0]
  have e2 : wd N 2 = 0 := wd_past (k := 2) (by simpa using hN) (Nat.le_refl _)
  have e3 : wd N 3 = 0 := wd_past (k := 3) (Nat.lt_of_lt_of_le hN (Nat.pow_le_pow_right (by decide) (by decide))) (Nat.le_refl _)
  have E2 := Lib.hid e2
  have E3 := Lib.hid e3
  have HN := Far.mk hN
  have HZ := Far.mk h
  clear hN h h0 e2 e3
  go_enter Tryd.func53, Tryd.ntmps53
  go_wp2_with fail
  go_loopg [5] k (fun kk c wr => ∃ t : Nat, kk + t = k ∧ c = .int .i64 t ∧ Bk wr (w.heap.size + 1 + 1) 85 (lcells (N / 10 ^ t)) ∧ Bk wr (w.heap.size + 1) 24 [.int .u64 0, .int .u64 0] ∧ w.heap.size + 3 ≤ wr.heap.size ∧ Below w.heap.size w wr)
  case atStart =>
    refine ⟨0, by omega, rfl, ?_, by (repeat (first | (with_reducible assumption) | ((with_reducible refine Bk.new_ ?_); (first | rfl | (simp only [World.size_alloc, World.size_setCell, World.size_drew, World.heap_drewN]; done))) | (with_reducible refine Bk.alloc ?_ _) | (with_reducible refine Bk.drew ?_) | (with_reducible refine Bk.drewN ?_ _) | ((with_reducible refine Bk.far ?_ ?_ _); rotate_left; focus (simp only []; omega)) | ((with_reducible refine Bk.below ?_ (by with_reducible assumption) ?_); rotate_left; focus (go_size; done)))), by go_size, by (repeat' (first | (with_reducible exact Below.refl _ _) | (with_reducible assumption) | (with_reducible refine Below.drew ?_) | (with_reducible refine below_drewN ?_ _) | ((with_reducible refine Below.alloc ?_ ?_ _); rotate_left; focus (go_size; done)) | ((with_reducible refine Below.setCell ?_ ?_ _); rotate_left; focus (go_size; done)) | ((with_reducible refine Below.trans ?_ (Below.mono (by with_reducible assumption) ?_)); rotate_left; focus (go_size; done))))⟩
    rw [Nat.pow_zero, Nat.div_one, lcells_eq, E2.out, E3.out]
    (repeat (first | (with_reducible assumption) | ((with_reducible refine Bk.new_ ?_); (first | rfl | (simp only [World.size_alloc, World.size_setCell, World.size_drew, World.heap_drewN]; done))) | (with_reducible refine Bk.alloc ?_ _) | (with_reducible refine Bk.drew ?_) | (with_reducible refine Bk.drewN ?_ _) | ((with_reducible refine Bk.far ?_ ?_ _); rotate_left; focus (simp only []; omega)) | ((with_reducible refine Bk.below ?_ (by with_reducible assumption) ?_); rotate_left; focus (go_size; done))))
  case round =>
    obtain ⟨t, hn, rfl, b2, b1, hsz, hbel⟩ := hrel
    have HK := Lib.hid hn
    have ht : t ≤ k := by omega
    have B2 := Lib.hid b2
    have B1 := Lib.hid b1
    have b2' := b2
    rw [lcells_eq] at b2'
    have c0 := b2'.cell 0 rfl
    have c1 := b2'.cell 1 rfl
    have c2 := b2'.cell 2 rfl
    have c3 := b2'.cell 3 rfl
    have f0 := b2.frozen 0
    have f1 := b2.frozen 1
    have f2 := b2.frozen 2
    have f3 := b2.frozen 3
    have d0 := b1.cell 0 rfl
    have d1 := b1.cell 1 rfl
    have g0 := b1.frozen 0
    have g1 := b1.frozen 1
    (try have : w.heap.size < wr.heap.size := by omega); (try have : w.heap.size + 1 < wr.heap.size := by omega); (try have : w.heap.size + 1 + 1 < wr.heap.size := by omega); (try have : w.heap.size + 1 + 1 + 1 < wr.heap.size := by omega)
    have HT := Lib.hid (fun W => tenth_any (N / 10 ^ t) (Nat.lt_of_le_of_lt (Nat.div_le_self _ _) (Nat.lt_trans HN.out (by decide))) W)
    clear hn b2 b1 b2'
    by_cases hlt : t < k
    · have hm := HZ.out.mod_lt hlt
      rw [hm] at HT
      obtain ⟨X, hX⟩ : ∃ X, X = N / 10 ^ t := ⟨_, rfl⟩
      rw [← hX] at HT c0 c1 c2 c3 B2
      have EX := Far.mk hX
      clear hX hm
      go_wp2_with ((go_at_call 64; with_reducible refine (HT.out _).mono ?_); rintro _ w1 ⟨rfl, hb1⟩; have hb1s := hb1.size; (try simp only [World.size_alloc, World.size_setCell, World.size_drew, World.heap_drewN] at hb1s); obtain ⟨hb1c, hb1f⟩ := bcell hb1; (try have : w.heap.size < w1.heap.size := by omega); (try have : w.heap.size + 1 < w1.heap.size := by omega); (try have : w.heap.size + 1 + 1 < w1.heap.size := by omega); (try have : w.heap.size + 1 + 1 + 1 < w1.heap.size := by omega))
      go_roundg (gk - 1)
      case measure => have := HK.out; omega
      case rel =>
        have b1 := B1.out
        refine ⟨t + 1, by have := HK.out; omega, by go_num, ?_, by (repeat (first | (with_reducible assumption) | ((with_reducible refine Bk.new_ ?_); (first | rfl | (simp only [World.size_alloc, World.size_setCell, World.size_drew, World.heap_drewN]; done))) | (with_reducible refine Bk.alloc ?_ _) | (with_reducible refine Bk.drew ?_) | (with_reducible refine Bk.drewN ?_ _) | ((with_reducible refine Bk.far ?_ ?_ _); rotate_left; focus (simp only []; omega)) | ((with_reducible refine Bk.below ?_ (by with_reducible assumption) ?_); rotate_left; focus (go_size; done)))), by go_size, by (repeat' (first | (with_reducible exact Below.refl _ _) | (with_reducible assumption) | (with_reducible refine Below.drew ?_) | (with_reducible refine below_drewN ?_ _) | ((with_reducible refine Below.alloc ?_ ?_ _); rotate_left; focus (go_size; done)) | ((with_reducible refine Below.setCell ?_ ?_ _); rotate_left; focus (go_size; done)) | ((with_reducible refine Below.trans ?_ (Below.mono (by with_reducible assumption) ?_)); rotate_left; focus (go_size; done))))⟩
        have e : N / 10 ^ (t + 1) = X / 10 := by rw [EX.out, Nat.div_div_eq_div_mul, Nat.pow_succ]
        rw [e, lcells_eq]
        refine Bk.alloc ?_ _
        refine ((((?_ : Bk w1 _ _ [.int .u64 (wd X 0), .int .u64 (wd X 1), .int .u64 (wd X 2), .int .u64 (wd X 3)]).set_ 0 _).set_ 1 _).set_ 2 _).set_ 3 _
        have b2 := B2.out
        rw [lcells_eq] at b2
        (repeat (first | (with_reducible assumption) | ((with_reducible refine Bk.new_ ?_); (first | rfl | (simp only [World.size_alloc, World.size_setCell, World.size_drew, World.heap_drewN]; done))) | (with_reducible refine Bk.alloc ?_ _) | (with_reducible refine Bk.drew ?_) | (with_reducible refine Bk.drewN ?_ _) | ((with_reducible refine Bk.far ?_ ?_ _); rotate_left; focus (simp only []; omega)) | ((with_reducible refine Bk.below ?_ (by with_reducible assumption) ?_); rotate_left; focus (go_size; done))))
    · obtain rfl : t = k := by omega
      have hm := HZ.out.mod_eq
      rw [hm] at HT c0 c1 c2 c3 B2
      have hne : (((T % 10 : Nat) : Int) != 0) = true := by
        have := HZ.out.2
        simp; omega
      obtain ⟨dd, hdd⟩ : ∃ dd : Int, dd = ((T % 10 : Nat) : Int) := ⟨_, rfl⟩
      rw [← hdd] at HT hne
      clear hm hdd
      go_wp2_with ((go_at_call 64; with_reducible refine (HT.out _).mono ?_); rintro _ w1 ⟨rfl, hb1⟩; have hb1s := hb1.size; (try simp only [World.size_alloc, World.size_setCell, World.size_drew, World.heap_drewN] at hb1s); obtain ⟨hb1c, hb1f⟩ := bcell hb1; (try have : w.heap.size < w1.heap.size := by omega); (try have : w.heap.size + 1 < w1.heap.size := by omega); (try have : w.heap.size + 1 + 1 < w1.heap.size := by omega); (try have : w.heap.size + 1 + 1 + 1 < w1.heap.size := by omega))
      refine bodyPost_ret (by simp [results, Tryd.results53, go_sem, *]; try rfl) rfl ?_
      exact ⟨rfl, by (repeat' (first | (with_reducible exact Below.refl _ _) | (with_reducible assumption) | (with_reducible refine Below.drew ?_) | (with_reducible refine below_drewN ?_ _) | ((with_reducible refine Below.alloc ?_ ?_ _); rotate_left; focus (go_size; done)) | ((with_reducible refine Below.setCell ?_ ?_ _); rotate_left; focus (go_size; done)) | ((with_reducible refine Below.trans ?_ (Below.mono (by with_reducible assumption) ?_)); rotate_left; focus (go_size; done))))⟩
end Go.Proofs.YtanjbdhjnmmfdaaDoor

set_option linter.unusedSimpArgs false
set_option linter.unusedVariables false
namespace Go.Proofs.YtanjbdhjnmmfdaaDoor
open Go.RowKit

set_option maxHeartbeats 1000000 in
theorem power_any (k : Nat) (hk : k ≤ 38) (w : World) : Calls Tryd.prog 63 #[.int .i64 k] w fun e w' => e = .returned (.agg #[.int .u64 (wd (10 ^ k) 1), .int .u64 (wd (10 ^ k) 0)]) ∧ Below w.heap.size w w' := by
  have HT := Lib.hid (fun W => ten_any k hk W)
  generalize wd (10 ^ k) 0 = x0 at *
  generalize wd (10 ^ k) 1 = x1 at *
  go_enter Tryd.func63, Tryd.ntmps63
  go_wp2_with ((go_at_call 71; with_reducible refine (HT.out _).mono ?_); rintro _ w1 ⟨rfl, hb1⟩; have hb1s := hb1.size; (try simp only [World.size_alloc, World.size_setCell, World.size_drew, World.heap_drewN] at hb1s); obtain ⟨hb1c, hb1f⟩ := bcell hb1; (try have : w.heap.size < w1.heap.size := by omega); (try have : w.heap.size + 1 < w1.heap.size := by omega); (try have : w.heap.size + 1 + 1 < w1.heap.size := by omega); (try have : w.heap.size + 1 + 1 + 1 < w1.heap.size := by omega))
  refine bodyPost_ret (by simp [results, Tryd.results63, go_sem, *]; try rfl) rfl ?_
  exact ⟨rfl, by (repeat' (first | (with_reducible exact Below.refl _ _) | (with_reducible assumption) | (with_reducible refine Below.drew ?_) | (with_reducible refine below_drewN ?_ _) | ((with_reducible refine Below.alloc ?_ ?_ _); rotate_left; focus (go_size; done)) | ((with_reducible refine Below.setCell ?_ ?_ _); rotate_left; focus (go_size; done)) | ((with_reducible refine Below.trans ?_ (Below.mono (by with_reducible assumption) ?_)); rotate_left; focus (go_size; done))))⟩
set_option maxHeartbeats 1000000 in
theorem bound_any (w : World) : Calls Tryd.prog 51 #[] w fun e w' => e = .returned (.agg #[.int .u64 (wd B34 1), .int .u64 (wd B34 0)]) ∧ Below w.heap.size w w' := by
  have HT : Hid (∀ W, Calls Tryd.prog 63 #[.int .i64 34] W fun e w' => e = .returned (.agg #[.int .u64 (wd B34 1), .int .u64 (wd B34 0)]) ∧ Below W.heap.size W w') := Lib.hid (fun W => power_any 34 (by decide) W)
  generalize wd B34 0 = x0 at *
  generalize wd B34 1 = x1 at *
  go_enter Tryd.func51, Tryd.ntmps51
  go_wp2_with ((go_at_call 63; with_reducible refine (HT.out _).mono ?_); rintro _ w1 ⟨rfl, hb1⟩; have hb1s := hb1.size; (try simp only [World.size_alloc, World.size_setCell, World.size_drew, World.heap_drewN] at hb1s); obtain ⟨hb1c, hb1f⟩ := bcell hb1; (try have : w.heap.size < w1.heap.size := by omega); (try have : w.heap.size + 1 < w1.heap.size := by omega); (try have : w.heap.size + 1 + 1 < w1.heap.size := by omega); (try have : w.heap.size + 1 + 1 + 1 < w1.heap.size := by omega))
  refine bodyPost_ret (by simp [results, Tryd.results51, go_sem, *]; try rfl) rfl ?_
  exact ⟨rfl, by (repeat' (first | (with_reducible exact Below.refl _ _) | (with_reducible assumption) | (with_reducible refine Below.drew ?_) | (with_reducible refine below_drewN ?_ _) | ((with_reducible refine Below.alloc ?_ ?_ _); rotate_left; focus (go_size; done)) | ((with_reducible refine Below.setCell ?_ ?_ _); rotate_left; focus (go_size; done)) | ((with_reducible refine Below.trans ?_ (Below.mono (by with_reducible assumption) ?_)); rotate_left; focus (go_size; done))))⟩
theorem wd_hi2 {n : Nat} (h : n < 2 ^ 128) : wd n 2 = 0 ∧ wd n 3 = 0 := (wd_low4 (Nat.lt_trans h (by decide))).2 h
theorem eq_nil {n : Nat} (h : n < 2 ^ 128) : ((wd n 1 == 0) && (wd n 0 == 0)) = decide (n = 0) := by
  have e := wd_eq_iff h (show 0 < 2 ^ 128 by decide)
  rwa [wd_zero, wd_zero] at e
set_option maxHeartbeats 1000000 in
theorem zero_any (b : Bool) (c : Nat) (s : Int) (h : c < 2 ^ 128) (w : World) : Calls Tryd.prog 52 #[.agg #[.bool b, .int .u64 (wd (c) 1), .int .u64 (wd (c) 0), .int .i64 s]] w fun e w' => e = .returned (.bool (decide (c = 0))) ∧ Below w.heap.size w w' := by
  have qz : ∀ W, (binOp .eql 24 (.agg #[.int .u64 (wd c 1), .int .u64 (wd c 0)]) (.agg #[.int .u64 0, .int .u64 0])).run Tryd.prog W = .ok (.bool (decide (c = 0))) W := fun W => by rw [eq_wide, eq_nil h]
  clear h
  generalize decide (c = 0) = z at *
  generalize wd c 0 = x0 at *
  generalize wd c 1 = x1 at *
  go_enter Tryd.func52, Tryd.ntmps52
  go_wp2_with fail
  refine bodyPost_ret (by simp [results, Tryd.results52, go_sem, *]; try rfl) rfl ?_
  exact ⟨rfl, by (repeat' (first | (with_reducible exact Below.refl _ _) | (with_reducible assumption) | (with_reducible refine Below.drew ?_) | (with_reducible refine below_drewN ?_ _) | ((with_reducible refine Below.alloc ?_ ?_ _); rotate_left; focus (go_size; done)) | ((with_reducible refine Below.setCell ?_ ?_ _); rotate_left; focus (go_size; done)) | ((with_reducible refine Below.trans ?_ (Below.mono (by with_reducible assumption) ?_)); rotate_left; focus (go_size; done))))⟩
end Go.Proofs.YtanjbdhjnmmfdaaDoor

set_option linter.unusedSimpArgs false
set_option linter.unusedVariables false
namespace Go.Proofs.YtanjbdhjnmmfdaaDoor
open Go.RowKit

theorem dform_hi {b : Bool} {c : Nat} {s : Int} (h : ¬ c < B34) : dform b c s = false := by unfold dform; rw [decide_eq_false h]; rfl
theorem dform_neg {b : Bool} {c : Nat} {s : Int} (h : s < 0) : dform b c s = false := by unfold dform; rw [decide_eq_false (show ¬ 0 ≤ s by omega)]; simp
theorem dform_deep {b : Bool} {c : Nat} {s : Int} (h : 18 < s) : dform b c s = false := by unfold dform; rw [decide_eq_false (show ¬ s ≤ 18 by omega)]; simp
theorem dform_in {b : Bool} {c : Nat} {s : Int} (h : c < B34) (h0 : 0 ≤ s) (h1 : s ≤ 18) : dform b c s = if c = 0 then !b && decide (s = 0) else decide (s = 0) || decide (c % 10 ≠ 0) := by
  unfold dform; rw [decide_eq_true h, decide_eq_true h0, decide_eq_true h1]; rfl
theorem cmp_bound {c : Nat} (h : c < B34) : cmpN c B34 < 0 := by unfold cmpN; rw [if_neg (by omega), if_pos h]; decide
theorem cmp_bound' {c : Nat} (h : ¬ c < B34) : 0 ≤ cmpN c B34 := by unfold cmpN; rw [if_neg h]; split <;> decide
set_option maxHeartbeats 4000000 in
theorem form_any (b : Bool) (c : Nat) (s : Int) (hc : c < 2 ^ 128) (w : World) : Calls Tryd.prog 40 #[.agg #[.bool b, .int .u64 (wd (c) 1), .int .u64 (wd (c) 0), .int .i64 s]] w fun e w' => e = .returned (.bool (dform b c s)) ∧ Below w.heap.size w w' := by
  have HC := Lib.hid (fun W => cmp_any c B34 hc B34_lt W)
  have HB := Lib.hid (fun W => bound_any W)
  have HZ := Lib.hid (fun W => zero_any b c s hc W)
  generalize wd B34 0 = p0 at *
  generalize wd B34 1 = p1 at *
  by_cases hb : c < B34
  · have g1 := cmp_bound hb
    have g1' : decide (0 ≤ cmpN c B34) = false := by simp; omega
    by_cases h0 : s < 0
    · rw [dform_neg h0]
      generalize cmpN c B34 = cc at *
      generalize wd c 0 = x0 at *
      generalize wd c 1 = x1 at *
      clear hc hb
      generalize decide (c = 0) = zz at *
      go_enter Tryd.func40, Tryd.ntmps40
      go_wp2_with fail
      first | (go_region_with (first | ((go_at_call 51; with_reducible refine (HB.out _).mono ?_); rintro _ w1 ⟨rfl, hb1⟩; have hb1s := hb1.size; (try simp only [World.size_alloc, World.size_setCell, World.size_drew, World.heap_drewN] at hb1s); obtain ⟨hb1c, hb1f⟩ := bcell hb1; (try have : w.heap.size < w1.heap.size := by omega); (try have : w.heap.size + 1 < w1.heap.size := by omega); (try have : w.heap.size + 1 + 1 < w1.heap.size := by omega); (try have : w.heap.size + 1 + 1 + 1 < w1.heap.size := by omega)) | ((go_at_call 50; with_reducible refine (HC.out _).mono ?_); rintro _ w2 ⟨rfl, hb2⟩; have hb2s := hb2.size; (try simp only [World.size_alloc, World.size_setCell, World.size_drew, World.heap_drewN] at hb2s); obtain ⟨hb2c, hb2f⟩ := bcell hb2; (try have : w.heap.size < w2.heap.size := by omega); (try have : w.heap.size + 1 < w2.heap.size := by omega); (try have : w.heap.size + 1 + 1 < w2.heap.size := by omega); (try have : w.heap.size + 1 + 1 + 1 < w2.heap.size := by omega); (try have : w1.heap.size < w2.heap.size := by omega); (try have : w1.heap.size + 1 < w2.heap.size := by omega); (try have : w1.heap.size + 1 + 1 < w2.heap.size := by omega); (try have : w1.heap.size + 1 + 1 + 1 < w2.heap.size := by omega)))) | fail
      all_goals
        go_wp2_with fail
        go_ret
        exact ⟨rfl, by (repeat' (first | (with_reducible exact Below.refl _ _) | (with_reducible assumption) | (with_reducible refine Below.drew ?_) | (with_reducible refine below_drewN ?_ _) | ((with_reducible refine Below.alloc ?_ ?_ _); rotate_left; focus (go_size; done)) | ((with_reducible refine Below.setCell ?_ ?_ _); rotate_left; focus (go_size; done)) | ((with_reducible refine Below.trans ?_ (Below.mono (by with_reducible assumption) ?_)); rotate_left; focus (go_size; done))))⟩
    · by_cases h1 : 18 < s
      · rw [dform_deep h1]
        have g3 : decide (s < 0) = false := by simp; omega
        generalize cmpN c B34 = cc at *
        generalize wd c 0 = x0 at *
        generalize wd c 1 = x1 at *
        clear hc hb
        generalize decide (c = 0) = zz at *
        go_enter Tryd.func40, Tryd.ntmps40
        go_wp2_with fail
        first | (go_region_held3 (fun w' => w'.cell? ⟨w.heap.size, 1, none⟩ = some (.int .u64 x1) ∧ w'.cell? ⟨w.heap.size, 2, none⟩ = some (.int .u64 x0) ∧ w'.cell? ⟨w.heap.size, 3, none⟩ = some (.int .i64 s)) (first | (first | (go_keep; done) | (simp [go_sem]; done) | ((try dsimp only); (repeat' apply And.intro) <;> (first | (with_reducible assumption) | ((rw [World.cell?_alloc_lt _ _ _ (by show _ < _; omega)]); go_split_ands; (first | with_reducible assumption | (refine (World.cell?_alloc_lt _ _ _ (by show _ < _; omega)).symm.trans ?_; with_reducible assumption))) | ((rw [World.cell?_setCell_other _ _ _ _ (by intro e; injection e; omega)]); with_reducible assumption) | (go_keep; done) | (simp [go_sem]; done) | (simp (disch := go_size) [*, World.cell?_alloc_some, World.cell?_setCell_far]; done))))) (first | ((go_at_call 51; with_reducible refine (HB.out _).mono ?_); rintro _ w1 ⟨rfl, hb1⟩; have hb1s := hb1.size; (try simp only [World.size_alloc, World.size_setCell, World.size_drew, World.heap_drewN] at hb1s); obtain ⟨hb1c, hb1f⟩ := bcell hb1; (try have : w.heap.size < w1.heap.size := by omega); (try have : w.heap.size + 1 < w1.heap.size := by omega); (try have : w.heap.size + 1 + 1 < w1.heap.size := by omega); (try have : w.heap.size + 1 + 1 + 1 < w1.heap.size := by omega)) | ((go_at_call 50; with_reducible refine (HC.out _).mono ?_); rintro _ w2 ⟨rfl, hb2⟩; have hb2s := hb2.size; (try simp only [World.size_alloc, World.size_setCell, World.size_drew, World.heap_drewN] at hb2s); obtain ⟨hb2c, hb2f⟩ := bcell hb2; (try have : w.heap.size < w2.heap.size := by omega); (try have : w.heap.size + 1 < w2.heap.size := by omega); (try have : w.heap.size + 1 + 1 < w2.heap.size := by omega); (try have : w.heap.size + 1 + 1 + 1 < w2.heap.size := by omega); (try have : w1.heap.size < w2.heap.size := by omega); (try have : w1.heap.size + 1 < w2.heap.size := by omega); (try have : w1.heap.size + 1 + 1 < w2.heap.size := by omega); (try have : w1.heap.size + 1 + 1 + 1 < w2.heap.size := by omega)))) | fail
        all_goals
          go_wp2_with fail
          go_ret
          exact ⟨rfl, by (repeat' (first | (with_reducible exact Below.refl _ _) | (with_reducible assumption) | (with_reducible refine Below.drew ?_) | (with_reducible refine below_drewN ?_ _) | ((with_reducible refine Below.alloc ?_ ?_ _); rotate_left; focus (go_size; done)) | ((with_reducible refine Below.setCell ?_ ?_ _); rotate_left; focus (go_size; done)) | ((with_reducible refine Below.trans ?_ (Below.mono (by with_reducible assumption) ?_)); rotate_left; focus (go_size; done))))⟩
      · rw [dform_in hb (by omega) (by omega)]
        have g3 : decide (s < 0) = false := by simp; omega
        have g4 : decide (18 < s) = false := by simp; omega
        by_cases hz : c = 0
        · rw [if_pos hz]
          rw [decide_eq_true hz] at HZ
          have g2 : (s == 0) = decide (s = 0) := by rw [Bool.eq_iff_iff]; simp
          generalize cmpN c B34 = cc at *
          generalize wd c 0 = x0 at *
          generalize wd c 1 = x1 at *
          clear hc hb
          generalize decide (s = 0) = sz at *
          clear hz
          cases b
          · go_enter Tryd.func40, Tryd.ntmps40
            go_wp2_with fail
            first | (go_region_held3 (fun w' => w'.cell? ⟨w.heap.size, 1, none⟩ = some (.int .u64 x1) ∧ w'.cell? ⟨w.heap.size, 2, none⟩ = some (.int .u64 x0) ∧ w'.cell? ⟨w.heap.size, 3, none⟩ = some (.int .i64 s)) (first | (first | (go_keep; done) | (simp [go_sem]; done) | ((try dsimp only); (repeat' apply And.intro) <;> (first | (with_reducible assumption) | ((rw [World.cell?_alloc_lt _ _ _ (by show _ < _; omega)]); go_split_ands; (first | with_reducible assumption | (refine (World.cell?_alloc_lt _ _ _ (by show _ < _; omega)).symm.trans ?_; with_reducible assumption))) | ((rw [World.cell?_setCell_other _ _ _ _ (by intro e; injection e; omega)]); with_reducible assumption) | (go_keep; done) | (simp [go_sem]; done) | (simp (disch := go_size) [*, World.cell?_alloc_some, World.cell?_setCell_far]; done))))) (first | ((go_at_call 51; with_reducible refine (HB.out _).mono ?_); rintro _ w1 ⟨rfl, hb1⟩; have hb1s := hb1.size; (try simp only [World.size_alloc, World.size_setCell, World.size_drew, World.heap_drewN] at hb1s); obtain ⟨hb1c, hb1f⟩ := bcell hb1; (try have : w.heap.size < w1.heap.size := by omega); (try have : w.heap.size + 1 < w1.heap.size := by omega); (try have : w.heap.size + 1 + 1 < w1.heap.size := by omega); (try have : w.heap.size + 1 + 1 + 1 < w1.heap.size := by omega)) | ((go_at_call 50; with_reducible refine (HC.out _).mono ?_); rintro _ w2 ⟨rfl, hb2⟩; have hb2s := hb2.size; (try simp only [World.size_alloc, World.size_setCell, World.size_drew, World.heap_drewN] at hb2s); obtain ⟨hb2c, hb2f⟩ := bcell hb2; (try have : w.heap.size < w2.heap.size := by omega); (try have : w.heap.size + 1 < w2.heap.size := by omega); (try have : w.heap.size + 1 + 1 < w2.heap.size := by omega); (try have : w.heap.size + 1 + 1 + 1 < w2.heap.size := by omega); (try have : w1.heap.size < w2.heap.size := by omega); (try have : w1.heap.size + 1 < w2.heap.size := by omega); (try have : w1.heap.size + 1 + 1 < w2.heap.size := by omega); (try have : w1.heap.size + 1 + 1 + 1 < w2.heap.size := by omega)))) | fail
            all_goals
              go_wp2_with ((go_at_call 52; with_reducible refine (HZ.out _).mono ?_); rintro _ w3 ⟨rfl, hb3⟩; have hb3s := hb3.size; (try simp only [World.size_alloc, World.size_setCell, World.size_drew, World.heap_drewN] at hb3s); obtain ⟨hb3c, hb3f⟩ := bcell hb3; (try have : w.heap.size < w3.heap.size := by omega); (try have : w.heap.size + 1 < w3.heap.size := by omega); (try have : w.heap.size + 1 + 1 < w3.heap.size := by omega); (try have : w.heap.size + 1 + 1 + 1 < w3.heap.size := by omega); (try have : w1.heap.size < w3.heap.size := by omega); (try have : w1.heap.size + 1 < w3.heap.size := by omega); (try have : w1.heap.size + 1 + 1 < w3.heap.size := by omega); (try have : w1.heap.size + 1 + 1 + 1 < w3.heap.size := by omega); (try have : w2.heap.size < w3.heap.size := by omega); (try have : w2.heap.size + 1 < w3.heap.size := by omega); (try have : w2.heap.size + 1 + 1 < w3.heap.size := by omega); (try have : w2.heap.size + 1 + 1 + 1 < w3.heap.size := by omega))
              go_ret
              exact ⟨by simp, by (repeat' (first | (with_reducible exact Below.refl _ _) | (with_reducible assumption) | (with_reducible refine Below.drew ?_) | (with_reducible refine below_drewN ?_ _) | ((with_reducible refine Below.alloc ?_ ?_ _); rotate_left; focus (go_size; done)) | ((with_reducible refine Below.setCell ?_ ?_ _); rotate_left; focus (go_size; done)) | ((with_reducible refine Below.trans ?_ (Below.mono (by with_reducible assumption) ?_)); rotate_left; focus (go_size; done))))⟩
          · go_enter Tryd.func40, Tryd.ntmps40
            go_wp2_with fail
            first | (go_region_held3 (fun w' => w'.cell? ⟨w.heap.size, 1, none⟩ = some (.int .u64 x1) ∧ w'.cell? ⟨w.heap.size, 2, none⟩ = some (.int .u64 x0) ∧ w'.cell? ⟨w.heap.size, 3, none⟩ = some (.int .i64 s)) (first | (first | (go_keep; done) | (simp [go_sem]; done) | ((try dsimp only); (repeat' apply And.intro) <;> (first | (with_reducible assumption) | ((rw [World.cell?_alloc_lt _ _ _ (by show _ < _; omega)]); go_split_ands; (first | with_reducible assumption | (refine (World.cell?_alloc_lt _ _ _ (by show _ < _; omega)).symm.trans ?_; with_reducible assumption))) | ((rw [World.cell?_setCell_other _ _ _ _ (by intro e; injection e; omega)]); with_reducible assumption) | (go_keep; done) | (simp [go_sem]; done) | (simp (disch := go_size) [*, World.cell?_alloc_some, World.cell?_setCell_far]; done))))) (first | ((go_at_call 51; with_reducible refine (HB.out _).mono ?_); rintro _ w1 ⟨rfl, hb1⟩; have hb1s := hb1.size; (try simp only [World.size_alloc, World.size_setCell, World.size_drew, World.heap_drewN] at hb1s); obtain ⟨hb1c, hb1f⟩ := bcell hb1; (try have : w.heap.size < w1.heap.size := by omega); (try have : w.heap.size + 1 < w1.heap.size := by omega); (try have : w.heap.size + 1 + 1 < w1.heap.size := by omega); (try have : w.heap.size + 1 + 1 + 1 < w1.heap.size := by omega)) | ((go_at_call 50; with_reducible refine (HC.out _).mono ?_); rintro _ w2 ⟨rfl, hb2⟩; have hb2s := hb2.size; (try simp only [World.size_alloc, World.size_setCell, World.size_drew, World.heap_drewN] at hb2s); obtain ⟨hb2c, hb2f⟩ := bcell hb2; (try have : w.heap.size < w2.heap.size := by omega); (try have : w.heap.size + 1 < w2.heap.size := by omega); (try have : w.heap.size + 1 + 1 < w2.heap.size := by omega); (try have : w.heap.size + 1 + 1 + 1 < w2.heap.size := by omega); (try have : w1.heap.size < w2.heap.size := by omega); (try have : w1.heap.size + 1 < w2.heap.size := by omega); (try have : w1.heap.size + 1 + 1 < w2.heap.size := by omega); (try have : w1.heap.size + 1 + 1 + 1 < w2.heap.size := by omega)))) | fail
            all_goals
              go_wp2_with ((go_at_call 52; with_reducible refine (HZ.out _).mono ?_); rintro _ w3 ⟨rfl, hb3⟩; have hb3s := hb3.size; (try simp only [World.size_alloc, World.size_setCell, World.size_drew, World.heap_drewN] at hb3s); obtain ⟨hb3c, hb3f⟩ := bcell hb3; (try have : w.heap.size < w3.heap.size := by omega); (try have : w.heap.size + 1 < w3.heap.size := by omega); (try have : w.heap.size + 1 + 1 < w3.heap.size := by omega); (try have : w.heap.size + 1 + 1 + 1 < w3.heap.size := by omega); (try have : w1.heap.size < w3.heap.size := by omega); (try have : w1.heap.size + 1 < w3.heap.size := by omega); (try have : w1.heap.size + 1 + 1 < w3.heap.size := by omega); (try have : w1.heap.size + 1 + 1 + 1 < w3.heap.size := by omega); (try have : w2.heap.size < w3.heap.size := by omega); (try have : w2.heap.size + 1 < w3.heap.size := by omega); (try have : w2.heap.size + 1 + 1 < w3.heap.size := by omega); (try have : w2.heap.size + 1 + 1 + 1 < w3.heap.size := by omega))
              go_ret
              exact ⟨by simp, by (repeat' (first | (with_reducible exact Below.refl _ _) | (with_reducible assumption) | (with_reducible refine Below.drew ?_) | (with_reducible refine below_drewN ?_ _) | ((with_reducible refine Below.alloc ?_ ?_ _); rotate_left; focus (go_size; done)) | ((with_reducible refine Below.setCell ?_ ?_ _); rotate_left; focus (go_size; done)) | ((with_reducible refine Below.trans ?_ (Below.mono (by with_reducible assumption) ?_)); rotate_left; focus (go_size; done))))⟩
        · rw [if_neg hz]
          rw [decide_eq_false hz] at HZ
          obtain ⟨T, k, ht⟩ := tz_upto c 34 hz hb
          have HT := Lib.hid (fun W => trim_any c T k hc ht W)
          have hk : decide (c % 10 ≠ 0) = decide ((k : Int) = 0) := by
            rw [Bool.eq_iff_iff]
            simp only [decide_eq_true_eq]
            constructor
            · intro h
              rcases Nat.eq_zero_or_pos k with h0 | h0
              · omega
              · exact absurd (by have := ht.mod_lt (t := 0) h0; rwa [Nat.pow_zero, Nat.div_one] at this) h
            · intro h
              obtain rfl : k = 0 := by omega
              have := ht.2
              have e := ht.1
              rw [Nat.pow_zero, Nat.mul_one] at e
              rw [e]; exact this
          rw [hk]
          have k0 : (0 : Int) ≤ (k : Int) := by omega
          generalize cmpN c B34 = cc at *
          generalize wd c 0 = x0 at *
          generalize wd c 1 = x1 at *
          clear hc hb
          generalize wd T 0 = y0 at *
          generalize wd T 1 = y1 at *
          clear hz ht hk
          by_cases hs : s = 0
          · have g2 : (s == 0) = true := by simpa using hs
            rw [decide_eq_true hs]
            have HS := Lib.hid hs
            clear hs
            go_enter Tryd.func40, Tryd.ntmps40
            go_wp2_with fail
            first | (go_region_held3 (fun w' => w'.cell? ⟨w.heap.size, 1, none⟩ = some (.int .u64 x1) ∧ w'.cell? ⟨w.heap.size, 2, none⟩ = some (.int .u64 x0) ∧ w'.cell? ⟨w.heap.size, 3, none⟩ = some (.int .i64 s)) (first | (first | (go_keep; done) | (simp [go_sem]; done) | ((try dsimp only); (repeat' apply And.intro) <;> (first | (with_reducible assumption) | ((rw [World.cell?_alloc_lt _ _ _ (by show _ < _; omega)]); go_split_ands; (first | with_reducible assumption | (refine (World.cell?_alloc_lt _ _ _ (by show _ < _; omega)).symm.trans ?_; with_reducible assumption))) | ((rw [World.cell?_setCell_other _ _ _ _ (by intro e; injection e; omega)]); with_reducible assumption) | (go_keep; done) | (simp [go_sem]; done) | (simp (disch := go_size) [*, World.cell?_alloc_some, World.cell?_setCell_far]; done))))) (first | ((go_at_call 51; with_reducible refine (HB.out _).mono ?_); rintro _ w1 ⟨rfl, hb1⟩; have hb1s := hb1.size; (try simp only [World.size_alloc, World.size_setCell, World.size_drew, World.heap_drewN] at hb1s); obtain ⟨hb1c, hb1f⟩ := bcell hb1; (try have : w.heap.size < w1.heap.size := by omega); (try have : w.heap.size + 1 < w1.heap.size := by omega); (try have : w.heap.size + 1 + 1 < w1.heap.size := by omega); (try have : w.heap.size + 1 + 1 + 1 < w1.heap.size := by omega)) | ((go_at_call 50; with_reducible refine (HC.out _).mono ?_); rintro _ w2 ⟨rfl, hb2⟩; have hb2s := hb2.size; (try simp only [World.size_alloc, World.size_setCell, World.size_drew, World.heap_drewN] at hb2s); obtain ⟨hb2c, hb2f⟩ := bcell hb2; (try have : w.heap.size < w2.heap.size := by omega); (try have : w.heap.size + 1 < w2.heap.size := by omega); (try have : w.heap.size + 1 + 1 < w2.heap.size := by omega); (try have : w.heap.size + 1 + 1 + 1 < w2.heap.size := by omega); (try have : w1.heap.size < w2.heap.size := by omega); (try have : w1.heap.size + 1 < w2.heap.size := by omega); (try have : w1.heap.size + 1 + 1 < w2.heap.size := by omega); (try have : w1.heap.size + 1 + 1 + 1 < w2.heap.size := by omega)))) | fail
            all_goals
              go_wp2_with (first | ((go_at_call 52; with_reducible refine (HZ.out _).mono ?_); rintro _ w3 ⟨rfl, hb3⟩; have hb3s := hb3.size; (try simp only [World.size_alloc, World.size_setCell, World.size_drew, World.heap_drewN] at hb3s); obtain ⟨hb3c, hb3f⟩ := bcell hb3; (try have : w.heap.size < w3.heap.size := by omega); (try have : w.heap.size + 1 < w3.heap.size := by omega); (try have : w.heap.size + 1 + 1 < w3.heap.size := by omega); (try have : w.heap.size + 1 + 1 + 1 < w3.heap.size := by omega); (try have : w1.heap.size < w3.heap.size := by omega); (try have : w1.heap.size + 1 < w3.heap.size := by omega); (try have : w1.heap.size + 1 + 1 < w3.heap.size := by omega); (try have : w1.heap.size + 1 + 1 + 1 < w3.heap.size := by omega); (try have : w2.heap.size < w3.heap.size := by omega); (try have : w2.heap.size + 1 < w3.heap.size := by omega); (try have : w2.heap.size + 1 + 1 < w3.heap.size := by omega); (try have : w2.heap.size + 1 + 1 + 1 < w3.heap.size := by omega)) | ((go_at_call 53; with_reducible refine (HT.out _).mono ?_); rintro _ w4 ⟨rfl, hb4⟩; have hb4s := hb4.size; (try simp only [World.size_alloc, World.size_setCell, World.size_drew, World.heap_drewN] at hb4s); obtain ⟨hb4c, hb4f⟩ := bcell hb4; (try have : w.heap.size < w4.heap.size := by omega); (try have : w.heap.size + 1 < w4.heap.size := by omega); (try have : w.heap.size + 1 + 1 < w4.heap.size := by omega); (try have : w.heap.size + 1 + 1 + 1 < w4.heap.size := by omega); (try have : w1.heap.size < w4.heap.size := by omega); (try have : w1.heap.size + 1 < w4.heap.size := by omega); (try have : w1.heap.size + 1 + 1 < w4.heap.size := by omega); (try have : w1.heap.size + 1 + 1 + 1 < w4.heap.size := by omega); (try have : w2.heap.size < w4.heap.size := by omega); (try have : w2.heap.size + 1 < w4.heap.size := by omega); (try have : w2.heap.size + 1 + 1 < w4.heap.size := by omega); (try have : w2.heap.size + 1 + 1 + 1 < w4.heap.size := by omega); (try have : w3.heap.size < w4.heap.size := by omega); (try have : w3.heap.size + 1 < w4.heap.size := by omega); (try have : w3.heap.size + 1 + 1 < w4.heap.size := by omega); (try have : w3.heap.size + 1 + 1 + 1 < w4.heap.size := by omega)))
              go_ret
              exact ⟨rfl, by (repeat' (first | (with_reducible exact Below.refl _ _) | (with_reducible assumption) | (with_reducible refine Below.drew ?_) | (with_reducible refine below_drewN ?_ _) | ((with_reducible refine Below.alloc ?_ ?_ _); rotate_left; focus (go_size; done)) | ((with_reducible refine Below.setCell ?_ ?_ _); rotate_left; focus (go_size; done)) | ((with_reducible refine Below.trans ?_ (Below.mono (by with_reducible assumption) ?_)); rotate_left; focus (go_size; done))))⟩
          · have g2 : (s == 0) = false := by simpa using hs
            rw [decide_eq_false hs]
            clear hs
            go_enter Tryd.func40, Tryd.ntmps40
            go_wp2_with fail
            first | (go_region_held3 (fun w' => w'.cell? ⟨w.heap.size, 1, none⟩ = some (.int .u64 x1) ∧ w'.cell? ⟨w.heap.size, 2, none⟩ = some (.int .u64 x0) ∧ w'.cell? ⟨w.heap.size, 3, none⟩ = some (.int .i64 s)) (first | (first | (go_keep; done) | (simp [go_sem]; done) | ((try dsimp only); (repeat' apply And.intro) <;> (first | (with_reducible assumption) | ((rw [World.cell?_alloc_lt _ _ _ (by show _ < _; omega)]); go_split_ands; (first | with_reducible assumption | (refine (World.cell?_alloc_lt _ _ _ (by show _ < _; omega)).symm.trans ?_; with_reducible assumption))) | ((rw [World.cell?_setCell_other _ _ _ _ (by intro e; injection e; omega)]); with_reducible assumption) | (go_keep; done) | (simp [go_sem]; done) | (simp (disch := go_size) [*, World.cell?_alloc_some, World.cell?_setCell_far]; done))))) (first | ((go_at_call 51; with_reducible refine (HB.out _).mono ?_); rintro _ w1 ⟨rfl, hb1⟩; have hb1s := hb1.size; (try simp only [World.size_alloc, World.size_setCell, World.size_drew, World.heap_drewN] at hb1s); obtain ⟨hb1c, hb1f⟩ := bcell hb1; (try have : w.heap.size < w1.heap.size := by omega); (try have : w.heap.size + 1 < w1.heap.size := by omega); (try have : w.heap.size + 1 + 1 < w1.heap.size := by omega); (try have : w.heap.size + 1 + 1 + 1 < w1.heap.size := by omega)) | ((go_at_call 50; with_reducible refine (HC.out _).mono ?_); rintro _ w2 ⟨rfl, hb2⟩; have hb2s := hb2.size; (try simp only [World.size_alloc, World.size_setCell, World.size_drew, World.heap_drewN] at hb2s); obtain ⟨hb2c, hb2f⟩ := bcell hb2; (try have : w.heap.size < w2.heap.size := by omega); (try have : w.heap.size + 1 < w2.heap.size := by omega); (try have : w.heap.size + 1 + 1 < w2.heap.size := by omega); (try have : w.heap.size + 1 + 1 + 1 < w2.heap.size := by omega); (try have : w1.heap.size < w2.heap.size := by omega); (try have : w1.heap.size + 1 < w2.heap.size := by omega); (try have : w1.heap.size + 1 + 1 < w2.heap.size := by omega); (try have : w1.heap.size + 1 + 1 + 1 < w2.heap.size := by omega)))) | fail
            all_goals
              go_wp2_with (first | ((go_at_call 52; with_reducible refine (HZ.out _).mono ?_); rintro _ w3 ⟨rfl, hb3⟩; have hb3s := hb3.size; (try simp only [World.size_alloc, World.size_setCell, World.size_drew, World.heap_drewN] at hb3s); obtain ⟨hb3c, hb3f⟩ := bcell hb3; (try have : w.heap.size < w3.heap.size := by omega); (try have : w.heap.size + 1 < w3.heap.size := by omega); (try have : w.heap.size + 1 + 1 < w3.heap.size := by omega); (try have : w.heap.size + 1 + 1 + 1 < w3.heap.size := by omega); (try have : w1.heap.size < w3.heap.size := by omega); (try have : w1.heap.size + 1 < w3.heap.size := by omega); (try have : w1.heap.size + 1 + 1 < w3.heap.size := by omega); (try have : w1.heap.size + 1 + 1 + 1 < w3.heap.size := by omega); (try have : w2.heap.size < w3.heap.size := by omega); (try have : w2.heap.size + 1 < w3.heap.size := by omega); (try have : w2.heap.size + 1 + 1 < w3.heap.size := by omega); (try have : w2.heap.size + 1 + 1 + 1 < w3.heap.size := by omega)) | ((go_at_call 53; with_reducible refine (HT.out _).mono ?_); rintro _ w4 ⟨rfl, hb4⟩; have hb4s := hb4.size; (try simp only [World.size_alloc, World.size_setCell, World.size_drew, World.heap_drewN] at hb4s); obtain ⟨hb4c, hb4f⟩ := bcell hb4; (try have : w.heap.size < w4.heap.size := by omega); (try have : w.heap.size + 1 < w4.heap.size := by omega); (try have : w.heap.size + 1 + 1 < w4.heap.size := by omega); (try have : w.heap.size + 1 + 1 + 1 < w4.heap.size := by omega); (try have : w1.heap.size < w4.heap.size := by omega); (try have : w1.heap.size + 1 < w4.heap.size := by omega); (try have : w1.heap.size + 1 + 1 < w4.heap.size := by omega); (try have : w1.heap.size + 1 + 1 + 1 < w4.heap.size := by omega); (try have : w2.heap.size < w4.heap.size := by omega); (try have : w2.heap.size + 1 < w4.heap.size := by omega); (try have : w2.heap.size + 1 + 1 < w4.heap.size := by omega); (try have : w2.heap.size + 1 + 1 + 1 < w4.heap.size := by omega); (try have : w3.heap.size < w4.heap.size := by omega); (try have : w3.heap.size + 1 < w4.heap.size := by omega); (try have : w3.heap.size + 1 + 1 < w4.heap.size := by omega); (try have : w3.heap.size + 1 + 1 + 1 < w4.heap.size := by omega)))
              go_ret
              exact ⟨ret_bool (by rw [Bool.eq_iff_iff]; simp), by (repeat' (first | (with_reducible exact Below.refl _ _) | (with_reducible assumption) | (with_reducible refine Below.drew ?_) | (with_reducible refine below_drewN ?_ _) | ((with_reducible refine Below.alloc ?_ ?_ _); rotate_left; focus (go_size; done)) | ((with_reducible refine Below.setCell ?_ ?_ _); rotate_left; focus (go_size; done)) | ((with_reducible refine Below.trans ?_ (Below.mono (by with_reducible assumption) ?_)); rotate_left; focus (go_size; done))))⟩
  · have g1 := cmp_bound' hb
    have g1' : decide (0 ≤ cmpN c B34) = true := by simp; omega
    rw [dform_hi hb]
    generalize cmpN c B34 = cc at *
    generalize wd c 0 = x0 at *
    generalize wd c 1 = x1 at *
    clear hc hb
    generalize decide (c = 0) = zz at *
    go_enter Tryd.func40, Tryd.ntmps40
    go_wp2_with fail
    first | (go_region_with (first | ((go_at_call 51; with_reducible refine (HB.out _).mono ?_); rintro _ w1 ⟨rfl, hb1⟩; have hb1s := hb1.size; (try simp only [World.size_alloc, World.size_setCell, World.size_drew, World.heap_drewN] at hb1s); obtain ⟨hb1c, hb1f⟩ := bcell hb1; (try have : w.heap.size < w1.heap.size := by omega); (try have : w.heap.size + 1 < w1.heap.size := by omega); (try have : w.heap.size + 1 + 1 < w1.heap.size := by omega); (try have : w.heap.size + 1 + 1 + 1 < w1.heap.size := by omega)) | ((go_at_call 50; with_reducible refine (HC.out _).mono ?_); rintro _ w2 ⟨rfl, hb2⟩; have hb2s := hb2.size; (try simp only [World.size_alloc, World.size_setCell, World.size_drew, World.heap_drewN] at hb2s); obtain ⟨hb2c, hb2f⟩ := bcell hb2; (try have : w.heap.size < w2.heap.size := by omega); (try have : w.heap.size + 1 < w2.heap.size := by omega); (try have : w.heap.size + 1 + 1 < w2.heap.size := by omega); (try have : w.heap.size + 1 + 1 + 1 < w2.heap.size := by omega); (try have : w1.heap.size < w2.heap.size := by omega); (try have : w1.heap.size + 1 < w2.heap.size := by omega); (try have : w1.heap.size + 1 + 1 < w2.heap.size := by omega); (try have : w1.heap.size + 1 + 1 + 1 < w2.heap.size := by omega)))) | fail
    all_goals
      go_wp2_with fail
      go_ret
      exact ⟨rfl, by (repeat' (first | (with_reducible exact Below.refl _ _) | (with_reducible assumption) | (with_reducible refine Below.drew ?_) | (with_reducible refine below_drewN ?_ _) | ((with_reducible refine Below.alloc ?_ ?_ _); rotate_left; focus (go_size; done)) | ((with_reducible refine Below.setCell ?_ ?_ _); rotate_left; focus (go_size; done)) | ((with_reducible refine Below.trans ?_ (Below.mono (by with_reducible assumption) ?_)); rotate_left; focus (go_size; done))))⟩
end Go.Proofs.YtanjbdhjnmmfdaaDoor

set_option linter.unusedSimpArgs false
set_option linter.unusedVariables false
namespace Go.Proofs.YtanjbdhjnmmfdaaDoor
open Go.RowKit

/-- what the kind asks of its own fields -/
def kindB (s : VS) (ll : Nat) (nm : List (List UInt8)) : Bool :=
  if s.kind = 0 ∨ s.kind = 1 ∨ s.kind = 5 then true
  else if s.kind = 2 then dform s.neg s.coef s.sc
  else if s.kind = 3 then decide (s.text.length ≤ 1000) && ztxt s.text
  else if s.kind = 4 then dayB s.day
  else if s.kind = 6 then decide (nm.length = ll) && namesB nm
  else false
def ownB (s : VS) (ll : Nat) (nm : List (List UInt8)) : Bool := bareQ s ll nm.length (s.kind = 5 ∨ s.kind = 6) && kindB s ll nm
mutual
def okV : VD → Bool
  | .mk s l nm => ownB s l.length nm && oks l
def oks : List VD → Bool
  | [] => true
  | x :: r => okV x && oks r
end
theorem okV_eq (d : VD) : okV d = (ownB d.s d.list.length d.names && oks d.list) := by cases d; rfl
theorem oks_append : ∀ (a b : List VD), oks (a ++ b) = (oks a && oks b)
  | [], b => by simp [oks]
  | x :: r, b => by rw [List.cons_append, oks, oks, oks_append r b, Bool.and_assoc]
theorem oks_take {l : List VD} {t : Nat} (h : t < l.length) : oks (l.take (t + 1)) = (oks (l.take t) && okV (vg l t)) := by
  rw [take_vg h, oks_append]; simp [oks]
def ShapeOf (R : World → Value → Value → VD → Prop) : Prop := ∀ (x : VD) (L N : Value) (w : World), Tabs w → x.size ≤ 1000000 → R w L N x →
  Calls Tryd.prog 31 #[vagg x.s L N] w fun e w' => e = .returned (.tuple #[.int .i64 x.deep, .bool (okV x)]) ∧ Below w.heap.size w w'
set_option maxRecDepth 100000 in
set_option maxHeartbeats 4000000 in
theorem shape_step (R : World → Value → Value → VD → Prop) (hR : ∀ w w' L N x, R w L N x → Below w.heap.size w w' → R w' L N x) (H : ShapeOf R)
    (s : VS) (l : List VD) (nm : List (List UInt8)) (A : Option Addr) (C : Nat) (A2 : Option Addr) (C2 : Nat) (w : World) (hok : s.ok) (hT : Tabs w) (hsz : sizes l ≤ 999999) (hv : Vls (R w) w (.slice A l.length C) l) (hn : Nms w (.slice A2 nm.length C2) nm) :
    Calls Tryd.prog 31 #[vagg s (.slice A l.length C) (.slice A2 nm.length C2)] w fun e w' => e = .returned (.tuple #[.int .i64 ((deeps l + 1 : Nat) : Int), .bool (ownB s l.length nm && oks l)]) ∧ Below w.heap.size w w' := by
  obtain ⟨_, _, _, hll⟩ := hv.is
  obtain ⟨_, _, _, hnl⟩ := hn.is
  have HV := Lib.hid hv
  have HN := Lib.hid hn
  have HH := Lib.hid H
  have HR := Lib.hid hR
  have HT := Lib.hid hT
  have HB := Lib.hid (fun W => vbare_any s l nm A C A2 C2 hll hnl W)
  have hown : ownB s l.length nm = (bareQ s l.length nm.length (s.kind = 5 ∨ s.kind = 6) && kindB s l.length nm) := rfl
  obtain ⟨b0, hb0⟩ : ∃ b0, b0 = bareQ s l.length nm.length (s.kind = 5 ∨ s.kind = 6) := ⟨_, rfl⟩
  obtain ⟨z, hz⟩ : ∃ z, z = ownB s l.length nm := ⟨_, rfl⟩
  rw [← hb0] at HB hown
  rw [← hz] at hown ⊢
  obtain ⟨kind, yes, neg, coef, sc, text, day⟩ := s
  obtain ⟨hc, ht⟩ := hok
  dsimp only at hc ht
  have HC := Lib.hid hc
  have HTX := Lib.hid ht
  unfold vagg at HB ⊢
  unfold kindB at hown
  dsimp only at HB hown ⊢
  have HO := Lib.hid hown
  have HSZ := Lib.hid hsz
  have HLL := Lib.hid hll
  have HNL := Lib.hid hnl
  have hll2 : (l.length : Int) ≤ 1048576 := by omega
  have hnl2 : (nm.length : Int) ≤ 1048576 := by omega
  clear hown hb0 hz hc ht hv hn H hR hT hsz hll hnl
  obtain ⟨x1, hx1⟩ : ∃ x1, x1 = wd coef 1 := ⟨_, rfl⟩
  obtain ⟨x0, hx0⟩ : ∃ x0, x0 = wd coef 0 := ⟨_, rfl⟩
  rw [← hx1, ← hx0] at HB
  rw [← hx1, ← hx0]
  have HX1 := Lib.hid hx1
  have HX0 := Lib.hid hx0
  clear hx1 hx0
  go_enter Tryd.func31, Tryd.ntmps31
  go_upto_block 0 with ((go_at_call 39; with_reducible refine (HB.out _).mono ?_); rintro _ w1 ⟨rfl, hb1⟩; have hb1s := hb1.size; (try simp only [World.size_alloc, World.size_setCell, World.size_drew, World.heap_drewN] at hb1s); obtain ⟨hb1c, hb1f⟩ := bcell hb1; (try have : w.heap.size < w1.heap.size := by omega); (try have : w.heap.size + 1 < w1.heap.size := by omega); (try have : w.heap.size + 1 + 1 < w1.heap.size := by omega); (try have : w.heap.size + 1 + 1 + 1 < w1.heap.size := by omega))
  go_cut [4] (fun s4 wx => s4 = .bool z ∧ wx.cell? ⟨w.heap.size, 8, none⟩ = some (.slice A l.length C) ∧ w.heap.size < wx.heap.size ∧ Below w.heap.size w wx)
  case first =>
    have hk : kind = 0 ∨ kind = 1 ∨ kind = 5 ∨ kind = 2 ∨ kind = 3 ∨ kind = 4 ∨ kind = 6 ∨ (kind ≠ 0 ∧ kind ≠ 1 ∧ kind ≠ 5 ∧ kind ≠ 2 ∧ kind ≠ 3 ∧ kind ≠ 4 ∧ kind ≠ 6) := by omega
    rcases hk with rfl | rfl | rfl | rfl | rfl | rfl | rfl | hk
    · obtain rfl : z = b0 := by rw [HO.out]; simp
      go_wp2_with fail
      go_meet
      case rel => exact ⟨rfl, by go_simp, by omega, by (repeat' (first | (with_reducible exact Below.refl _ _) | (with_reducible assumption) | (with_reducible refine Below.drew ?_) | (with_reducible refine below_drewN ?_ _) | ((with_reducible refine Below.alloc ?_ ?_ _); rotate_left; focus (go_size; done)) | ((with_reducible refine Below.setCell ?_ ?_ _); rotate_left; focus (go_size; done)) | ((with_reducible refine Below.trans ?_ (Below.mono (by with_reducible assumption) ?_)); rotate_left; focus (go_size; done))))⟩
    · obtain rfl : z = b0 := by rw [HO.out]; simp
      go_wp2_with fail
      go_meet
      case rel => exact ⟨rfl, by go_simp, by omega, by (repeat' (first | (with_reducible exact Below.refl _ _) | (with_reducible assumption) | (with_reducible refine Below.drew ?_) | (with_reducible refine below_drewN ?_ _) | ((with_reducible refine Below.alloc ?_ ?_ _); rotate_left; focus (go_size; done)) | ((with_reducible refine Below.setCell ?_ ?_ _); rotate_left; focus (go_size; done)) | ((with_reducible refine Below.trans ?_ (Below.mono (by with_reducible assumption) ?_)); rotate_left; focus (go_size; done))))⟩
    · obtain rfl : z = b0 := by rw [HO.out]; simp
      go_wp2_with fail
      go_meet
      case rel => exact ⟨rfl, by go_simp, by omega, by (repeat' (first | (with_reducible exact Below.refl _ _) | (with_reducible assumption) | (with_reducible refine Below.drew ?_) | (with_reducible refine below_drewN ?_ _) | ((with_reducible refine Below.alloc ?_ ?_ _); rotate_left; focus (go_size; done)) | ((with_reducible refine Below.setCell ?_ ?_ _); rotate_left; focus (go_size; done)) | ((with_reducible refine Below.trans ?_ (Below.mono (by with_reducible assumption) ?_)); rotate_left; focus (go_size; done))))⟩
    · have hzz : z = (b0 && dform neg coef sc) := by rw [HO.out]; simp
      have HF := Lib.hid (fun W => form_any neg coef sc HC.out W)
      rw [← HX1.out, ← HX0.out] at HF
      generalize dform neg coef sc = q at HF hzz
      cases b0 with
      | false =>
        obtain rfl : z = false := hzz
        go_wp2_with fail
        go_meet
        case rel => exact ⟨rfl, by go_simp, by omega, by (repeat' (first | (with_reducible exact Below.refl _ _) | (with_reducible assumption) | (with_reducible refine Below.drew ?_) | (with_reducible refine below_drewN ?_ _) | ((with_reducible refine Below.alloc ?_ ?_ _); rotate_left; focus (go_size; done)) | ((with_reducible refine Below.setCell ?_ ?_ _); rotate_left; focus (go_size; done)) | ((with_reducible refine Below.trans ?_ (Below.mono (by with_reducible assumption) ?_)); rotate_left; focus (go_size; done))))⟩
      | true =>
        obtain rfl : z = q := hzz
        go_wp2_with ((go_at_call 40; with_reducible refine (HF.out _).mono ?_); rintro _ w2 ⟨rfl, hb2⟩; have hb2s := hb2.size; (try simp only [World.size_alloc, World.size_setCell, World.size_drew, World.heap_drewN] at hb2s); obtain ⟨hb2c, hb2f⟩ := bcell hb2; (try have : w.heap.size < w2.heap.size := by omega); (try have : w.heap.size + 1 < w2.heap.size := by omega); (try have : w.heap.size + 1 + 1 < w2.heap.size := by omega); (try have : w.heap.size + 1 + 1 + 1 < w2.heap.size := by omega))
        go_meet
        case rel => exact ⟨rfl, by go_simp, by omega, by (repeat' (first | (with_reducible exact Below.refl _ _) | (with_reducible assumption) | (with_reducible refine Below.drew ?_) | (with_reducible refine below_drewN ?_ _) | ((with_reducible refine Below.alloc ?_ ?_ _); rotate_left; focus (go_size; done)) | ((with_reducible refine Below.setCell ?_ ?_ _); rotate_left; focus (go_size; done)) | ((with_reducible refine Below.trans ?_ (Below.mono (by with_reducible assumption) ?_)); rotate_left; focus (go_size; done))))⟩
    · have hzz : z = (b0 && (decide (text.length ≤ 1000) && ztxt text)) := by rw [HO.out]; simp
      have HF := Lib.hid (fun W hW => valid_any text (by have := HTX.out; omega) W hW)
      generalize ztxt text = q at HF hzz
      cases b0 with
      | false =>
        obtain rfl : z = false := hzz
        go_wp2_with fail
        go_meet
        case rel => exact ⟨rfl, by go_simp, by omega, by (repeat' (first | (with_reducible exact Below.refl _ _) | (with_reducible assumption) | (with_reducible refine Below.drew ?_) | (with_reducible refine below_drewN ?_ _) | ((with_reducible refine Below.alloc ?_ ?_ _); rotate_left; focus (go_size; done)) | ((with_reducible refine Below.setCell ?_ ?_ _); rotate_left; focus (go_size; done)) | ((with_reducible refine Below.trans ?_ (Below.mono (by with_reducible assumption) ?_)); rotate_left; focus (go_size; done))))⟩
      | true =>
        by_cases h1 : text.length ≤ 1000
        · rw [decide_eq_true h1] at hzz
          obtain rfl : z = q := hzz
          have h1' : (text.length : Int) ≤ 1000 := by omega
          clear h1
          go_wp2_with ((go_at_call 41; with_reducible refine (HF.out _ (tabs_below HT.out (by (repeat' (first | (with_reducible exact Below.refl _ _) | (with_reducible assumption) | (with_reducible refine Below.drew ?_) | (with_reducible refine below_drewN ?_ _) | ((with_reducible refine Below.alloc ?_ ?_ _); rotate_left; focus (go_size; done)) | ((with_reducible refine Below.setCell ?_ ?_ _); rotate_left; focus (go_size; done)) | ((with_reducible refine Below.trans ?_ (Below.mono (by with_reducible assumption) ?_)); rotate_left; focus (go_size; done))))))).mono ?_); rintro _ w2 ⟨rfl, hb2⟩; have hb2s := hb2.size; (try simp only [World.size_alloc, World.size_setCell, World.size_drew, World.heap_drewN] at hb2s); obtain ⟨hb2c, hb2f⟩ := bcell hb2; (try have : w.heap.size < w2.heap.size := by omega); (try have : w.heap.size + 1 < w2.heap.size := by omega); (try have : w.heap.size + 1 + 1 < w2.heap.size := by omega); (try have : w.heap.size + 1 + 1 + 1 < w2.heap.size := by omega))
          go_meet
          case rel => exact ⟨rfl, by go_simp, by omega, by (repeat' (first | (with_reducible exact Below.refl _ _) | (with_reducible assumption) | (with_reducible refine Below.drew ?_) | (with_reducible refine below_drewN ?_ _) | ((with_reducible refine Below.alloc ?_ ?_ _); rotate_left; focus (go_size; done)) | ((with_reducible refine Below.setCell ?_ ?_ _); rotate_left; focus (go_size; done)) | ((with_reducible refine Below.trans ?_ (Below.mono (by with_reducible assumption) ?_)); rotate_left; focus (go_size; done))))⟩
        · rw [decide_eq_false h1] at hzz
          obtain rfl : z = false := hzz
          have h1' : ¬ (text.length : Int) ≤ 1000 := by omega
          clear h1
          go_wp2_with fail
          go_meet
          case rel => exact ⟨rfl, by go_simp, by omega, by (repeat' (first | (with_reducible exact Below.refl _ _) | (with_reducible assumption) | (with_reducible refine Below.drew ?_) | (with_reducible refine below_drewN ?_ _) | ((with_reducible refine Below.alloc ?_ ?_ _); rotate_left; focus (go_size; done)) | ((with_reducible refine Below.setCell ?_ ?_ _); rotate_left; focus (go_size; done)) | ((with_reducible refine Below.trans ?_ (Below.mono (by with_reducible assumption) ?_)); rotate_left; focus (go_size; done))))⟩
    · have hzz : z = (b0 && dayB day) := by rw [HO.out]; simp
      cases b0 with
      | false =>
        obtain rfl : z = false := hzz
        go_wp2_with fail
        go_meet
        case rel => exact ⟨rfl, by go_simp, by omega, by (repeat' (first | (with_reducible exact Below.refl _ _) | (with_reducible assumption) | (with_reducible refine Below.drew ?_) | (with_reducible refine below_drewN ?_ _) | ((with_reducible refine Below.alloc ?_ ?_ _); rotate_left; focus (go_size; done)) | ((with_reducible refine Below.setCell ?_ ?_ _); rotate_left; focus (go_size; done)) | ((with_reducible refine Below.trans ?_ (Below.mono (by with_reducible assumption) ?_)); rotate_left; focus (go_size; done))))⟩
      | true =>
        by_cases h1 : 1 ≤ day
        · by_cases h2 : day ≤ 3652059
          · obtain rfl : z = true := by rw [hzz]; unfold dayB; rw [decide_eq_true ⟨h1, h2⟩]; rfl
            clear hzz
            go_wp2_with fail
            go_meet
            case rel => exact ⟨rfl, by go_simp, by omega, by (repeat' (first | (with_reducible exact Below.refl _ _) | (with_reducible assumption) | (with_reducible refine Below.drew ?_) | (with_reducible refine below_drewN ?_ _) | ((with_reducible refine Below.alloc ?_ ?_ _); rotate_left; focus (go_size; done)) | ((with_reducible refine Below.setCell ?_ ?_ _); rotate_left; focus (go_size; done)) | ((with_reducible refine Below.trans ?_ (Below.mono (by with_reducible assumption) ?_)); rotate_left; focus (go_size; done))))⟩
          · obtain rfl : z = false := by rw [hzz]; unfold dayB; rw [decide_eq_false (fun h => h2 h.2)]; rfl
            clear hzz
            go_wp2_with fail
            go_meet
            case rel => exact ⟨rfl, by go_simp, by omega, by (repeat' (first | (with_reducible exact Below.refl _ _) | (with_reducible assumption) | (with_reducible refine Below.drew ?_) | (with_reducible refine below_drewN ?_ _) | ((with_reducible refine Below.alloc ?_ ?_ _); rotate_left; focus (go_size; done)) | ((with_reducible refine Below.setCell ?_ ?_ _); rotate_left; focus (go_size; done)) | ((with_reducible refine Below.trans ?_ (Below.mono (by with_reducible assumption) ?_)); rotate_left; focus (go_size; done))))⟩
        · obtain rfl : z = false := by rw [hzz]; unfold dayB; rw [decide_eq_false (fun h => h1 h.1)]; rfl
          clear hzz
          go_wp2_with fail
          go_meet
          case rel => exact ⟨rfl, by go_simp, by omega, by (repeat' (first | (with_reducible exact Below.refl _ _) | (with_reducible assumption) | (with_reducible refine Below.drew ?_) | (with_reducible refine below_drewN ?_ _) | ((with_reducible refine Below.alloc ?_ ?_ _); rotate_left; focus (go_size; done)) | ((with_reducible refine Below.setCell ?_ ?_ _); rotate_left; focus (go_size; done)) | ((with_reducible refine Below.trans ?_ (Below.mono (by with_reducible assumption) ?_)); rotate_left; focus (go_size; done))))⟩
    · have hzz : z = (b0 && (decide (nm.length = l.length) && namesB nm)) := by rw [HO.out]; simp
      have HF := Lib.hid (fun W hW => vnames_any nm (.slice A2 nm.length C2) W hW)
      generalize namesB nm = q at HF hzz
      cases b0 with
      | false =>
        obtain rfl : z = false := hzz
        go_wp2_with fail
        go_meet
        case rel => exact ⟨rfl, by go_simp, by omega, by (repeat' (first | (with_reducible exact Below.refl _ _) | (with_reducible assumption) | (with_reducible refine Below.drew ?_) | (with_reducible refine below_drewN ?_ _) | ((with_reducible refine Below.alloc ?_ ?_ _); rotate_left; focus (go_size; done)) | ((with_reducible refine Below.setCell ?_ ?_ _); rotate_left; focus (go_size; done)) | ((with_reducible refine Below.trans ?_ (Below.mono (by with_reducible assumption) ?_)); rotate_left; focus (go_size; done))))⟩
      | true =>
        by_cases h1 : nm.length = l.length
        · rw [decide_eq_true h1] at hzz
          obtain rfl : z = q := hzz
          have h1' : ((nm.length : Int) == (l.length : Int)) = true := by rw [beq_iff_eq]; omega
          have H1 := Lib.hid h1
          clear h1
          go_wp2_with (go_at_call 42; (with_reducible refine (HF.out _ (HN.out.below (by (repeat' (first | (with_reducible exact Below.refl _ _) | (with_reducible assumption) | (with_reducible refine Below.drew ?_) | (with_reducible refine below_drewN ?_ _) | ((with_reducible refine Below.alloc ?_ ?_ _); rotate_left; focus (go_size; done)) | ((with_reducible refine Below.setCell ?_ ?_ _); rotate_left; focus (go_size; done)) | ((with_reducible refine Below.trans ?_ (Below.mono (by with_reducible assumption) ?_)); rotate_left; focus (go_size; done))))))).mono ?_); rintro _ w2 ⟨rfl, rfl⟩)
          go_meet
          case rel => exact ⟨rfl, by go_simp, by omega, by (repeat' (first | (with_reducible exact Below.refl _ _) | (with_reducible assumption) | (with_reducible refine Below.drew ?_) | (with_reducible refine below_drewN ?_ _) | ((with_reducible refine Below.alloc ?_ ?_ _); rotate_left; focus (go_size; done)) | ((with_reducible refine Below.setCell ?_ ?_ _); rotate_left; focus (go_size; done)) | ((with_reducible refine Below.trans ?_ (Below.mono (by with_reducible assumption) ?_)); rotate_left; focus (go_size; done))))⟩
        · rw [decide_eq_false h1] at hzz
          obtain rfl : z = false := hzz
          have h1' : ((nm.length : Int) == (l.length : Int)) = false := by rw [beq_eq_false_iff_ne]; omega
          clear h1
          go_wp2_with fail
          go_meet
          case rel => exact ⟨rfl, by go_simp, by omega, by (repeat' (first | (with_reducible exact Below.refl _ _) | (with_reducible assumption) | (with_reducible refine Below.drew ?_) | (with_reducible refine below_drewN ?_ _) | ((with_reducible refine Below.alloc ?_ ?_ _); rotate_left; focus (go_size; done)) | ((with_reducible refine Below.setCell ?_ ?_ _); rotate_left; focus (go_size; done)) | ((with_reducible refine Below.trans ?_ (Below.mono (by with_reducible assumption) ?_)); rotate_left; focus (go_size; done))))⟩
    · obtain ⟨k0, k1, k5, k2, k3, k4, k6⟩ := hk
      obtain rfl : z = false := by
        rw [HO.out, if_neg (by rintro (h | h | h); exact k0 h; exact k1 h; exact k5 h), if_neg k2, if_neg k3, if_neg k4, if_neg k6, Bool.and_false]
      have e0 : (kind == 0) = false := by rw [beq_eq_false_iff_ne]; exact k0
      have e1 : (kind == 1) = false := by rw [beq_eq_false_iff_ne]; exact k1
      have e5 : (kind == 5) = false := by rw [beq_eq_false_iff_ne]; exact k5
      have e2 : (kind == 2) = false := by rw [beq_eq_false_iff_ne]; exact k2
      have e3 : (kind == 3) = false := by rw [beq_eq_false_iff_ne]; exact k3
      have e4 : (kind == 4) = false := by rw [beq_eq_false_iff_ne]; exact k4
      have e6 : (kind == 6) = false := by rw [beq_eq_false_iff_ne]; exact k6
      clear k0 k1 k5 k2 k3 k4 k6
      go_wp2_with fail
      go_meet
      case rel => exact ⟨rfl, by go_simp, by omega, by (repeat' (first | (with_reducible exact Below.refl _ _) | (with_reducible assumption) | (with_reducible refine Below.drew ?_) | (with_reducible refine below_drewN ?_ _) | ((with_reducible refine Below.alloc ?_ ?_ _); rotate_left; focus (go_size; done)) | ((with_reducible refine Below.setCell ?_ ?_ _); rotate_left; focus (go_size; done)) | ((with_reducible refine Below.trans ?_ (Below.mono (by with_reducible assumption) ?_)); rotate_left; focus (go_size; done))))⟩
  case rest =>
    obtain ⟨rfl, c8, hsz1, hbel1⟩ := hcut
    clear HO HB HX1 HX0 HC HTX HN HNL
    obtain ⟨w5, rfl⟩ : ∃ w5 : World, w5 = wc := ⟨_, rfl⟩
    go_wp2_with fail
    go_loopg [4, 5, 73] l.length (fun k s4 s5 s73 wr => ∃ (t n : Nat) (y : Bool), k + t = l.length ∧ s73 = .int .i64 t ∧ s5 = .int .i64 n ∧ s4 = .bool y ∧ Hid (n = deeps (l.take t)) ∧ n ≤ 1000000 ∧ Hid (y = (z && oks (l.take t))) ∧ w.heap.size < wr.heap.size ∧ Below w.heap.size w wr)
    case atStart => exact ⟨0, 0, z, by omega, rfl, rfl, rfl, Lib.hid (by rw [List.take_zero]; rfl), by omega, Lib.hid (by rw [List.take_zero]; simp [oks]), by omega, by (repeat' (first | (with_reducible exact Below.refl _ _) | (with_reducible assumption) | (with_reducible refine Below.drew ?_) | (with_reducible refine below_drewN ?_ _) | ((with_reducible refine Below.alloc ?_ ?_ _); rotate_left; focus (go_size; done)) | ((with_reducible refine Below.setCell ?_ ?_ _); rotate_left; focus (go_size; done)) | ((with_reducible refine Below.trans ?_ (Below.mono (by with_reducible assumption) ?_)); rotate_left; focus (go_size; done))))⟩
    case round =>
      obtain ⟨t, n, y, hk, rfl, rfl, rfl, HD, n2, HY, hsz, hbel⟩ := hrel
      have HK := Lib.hid hk
      have htn : t ≤ l.length := by omega
      clear hk c8 hbel1 hsz1
      by_cases hlt : t < l.length
      · obtain ⟨b, o, B1, D1, B2, D2, rfl, hat, hx⟩ := (HV.out.below hbel (fun _ _ _ h => HR.out _ _ _ _ _ h hbel)).at hlt
        obtain ⟨a0, a1, a2, a3, a4, a5, a6, a7, a8, a9⟩ := hat.val
        have lb := vcell_lt a0
        have hst := deeps_take hlt
        have hso := oks_take hlt
        have hs2 := vg_size hlt
        have hd := deep_size (vg l t)
        have hle : deeps (l.take (t + 1)) ≤ sizes l := Nat.le_trans (deeps_sizes _) (sizes_le (t + 1))
        have hsz9 := HSZ.out
        obtain ⟨x, hxx⟩ : ∃ x, x = vg l t := ⟨_, rfl⟩
        rw [← hxx] at hx a0 a1 a2 a3 a4 a5 a6 a7 a8 a9 hst hs2 hd hso
        obtain ⟨n1', hn1⟩ : ∃ n1', n1' = x.list.length := ⟨_, rfl⟩
        obtain ⟨n2', hn2⟩ : ∃ n2', n2' = x.names.length := ⟨_, rfl⟩
        rw [← hn1] at a8 hx
        rw [← hn2] at a9 hx
        have HX := Lib.hid hx
        have HC := Lib.hid (fun W hW hT => HH.out x (.slice B1 n1' D1) (.slice B2 n2' D2) W hT (by omega) (HR.out _ _ _ _ _ HX.out hW))
        obtain ⟨q, hq⟩ : ∃ q, q = x.deep := ⟨_, rfl⟩
        obtain ⟨v, hv⟩ : ∃ v, v = okV x := ⟨_, rfl⟩
        rw [← hq, ← hv] at HC
        rw [← hq] at hst hd
        rw [← hv] at hso
        have hq2 : q ≤ 1000000 := by omega
        have HQ := Lib.hid hst
        have HO := Lib.hid hso
        clear hat hx hxx hn1 hn2 hst hd hs2 hq hle hv hso hsz9
        rcases Int.lt_or_le (n : Int) (q : Int) with hm | hm
        · cases y with
          | false =>
            go_wp2_with (go_at_call 31; (with_reducible refine (HC.out _ (by (repeat' (first | (with_reducible exact Below.refl _ _) | (with_reducible assumption) | (with_reducible refine Below.drew ?_) | (with_reducible refine below_drewN ?_ _) | ((with_reducible refine Below.alloc ?_ ?_ _); rotate_left; focus (go_size; done)) | ((with_reducible refine Below.setCell ?_ ?_ _); rotate_left; focus (go_size; done)) | ((with_reducible refine Below.trans ?_ (Below.mono (by with_reducible assumption) ?_)); rotate_left; focus (go_size; done))))) (tabs_below HT.out (by (repeat' (first | (with_reducible exact Below.refl _ _) | (with_reducible assumption) | (with_reducible refine Below.drew ?_) | (with_reducible refine below_drewN ?_ _) | ((with_reducible refine Below.alloc ?_ ?_ _); rotate_left; focus (go_size; done)) | ((with_reducible refine Below.setCell ?_ ?_ _); rotate_left; focus (go_size; done)) | ((with_reducible refine Below.trans ?_ (Below.mono (by with_reducible assumption) ?_)); rotate_left; focus (go_size; done))))))).mono ?_); rintro _ w2 ⟨rfl, hb2⟩; have hb2s := hb2.size; (try simp only [World.size_alloc, World.size_setCell, World.size_drew, World.heap_drewN] at hb2s); obtain ⟨hb2c, hb2f⟩ := bcell hb2; (try have : w.heap.size < w2.heap.size := by omega); (try have : w.heap.size + 1 < w2.heap.size := by omega); (try have : w.heap.size + 1 + 1 < w2.heap.size := by omega); (try have : w.heap.size + 1 + 1 + 1 < w2.heap.size := by omega))
            go_roundg (gk - 1)
            case measure => have := HK.out; omega
            case rel => exact ⟨t + 1, q, false, by have := HK.out; omega, by go_num, by (congr 1; omega), rfl, Lib.hid (by rw [HQ.out, ← HD.out]; omega), hq2, Lib.hid (by rw [HO.out, ← Bool.and_assoc, ← HY.out]; rfl), by omega, by (repeat' (first | (with_reducible exact Below.refl _ _) | (with_reducible assumption) | (with_reducible refine Below.drew ?_) | (with_reducible refine below_drewN ?_ _) | ((with_reducible refine Below.alloc ?_ ?_ _); rotate_left; focus (go_size; done)) | ((with_reducible refine Below.setCell ?_ ?_ _); rotate_left; focus (go_size; done)) | ((with_reducible refine Below.trans ?_ (Below.mono (by with_reducible assumption) ?_)); rotate_left; focus (go_size; done))))⟩
          | true =>
            go_wp2_with (go_at_call 31; (with_reducible refine (HC.out _ (by (repeat' (first | (with_reducible exact Below.refl _ _) | (with_reducible assumption) | (with_reducible refine Below.drew ?_) | (with_reducible refine below_drewN ?_ _) | ((with_reducible refine Below.alloc ?_ ?_ _); rotate_left; focus (go_size; done)) | ((with_reducible refine Below.setCell ?_ ?_ _); rotate_left; focus (go_size; done)) | ((with_reducible refine Below.trans ?_ (Below.mono (by with_reducible assumption) ?_)); rotate_left; focus (go_size; done))))) (tabs_below HT.out (by (repeat' (first | (with_reducible exact Below.refl _ _) | (with_reducible assumption) | (with_reducible refine Below.drew ?_) | (with_reducible refine below_drewN ?_ _) | ((with_reducible refine Below.alloc ?_ ?_ _); rotate_left; focus (go_size; done)) | ((with_reducible refine Below.setCell ?_ ?_ _); rotate_left; focus (go_size; done)) | ((with_reducible refine Below.trans ?_ (Below.mono (by with_reducible assumption) ?_)); rotate_left; focus (go_size; done))))))).mono ?_); rintro _ w2 ⟨rfl, hb2⟩; have hb2s := hb2.size; (try simp only [World.size_alloc, World.size_setCell, World.size_drew, World.heap_drewN] at hb2s); obtain ⟨hb2c, hb2f⟩ := bcell hb2; (try have : w.heap.size < w2.heap.size := by omega); (try have : w.heap.size + 1 < w2.heap.size := by omega); (try have : w.heap.size + 1 + 1 < w2.heap.size := by omega); (try have : w.heap.size + 1 + 1 + 1 < w2.heap.size := by omega))
            go_roundg (gk - 1)
            case measure => have := HK.out; omega
            case rel => exact ⟨t + 1, q, v, by have := HK.out; omega, by go_num, by (congr 1; omega), rfl, Lib.hid (by rw [HQ.out, ← HD.out]; omega), hq2, Lib.hid (by rw [HO.out, ← Bool.and_assoc, ← HY.out]; rfl), by omega, by (repeat' (first | (with_reducible exact Below.refl _ _) | (with_reducible assumption) | (with_reducible refine Below.drew ?_) | (with_reducible refine below_drewN ?_ _) | ((with_reducible refine Below.alloc ?_ ?_ _); rotate_left; focus (go_size; done)) | ((with_reducible refine Below.setCell ?_ ?_ _); rotate_left; focus (go_size; done)) | ((with_reducible refine Below.trans ?_ (Below.mono (by with_reducible assumption) ?_)); rotate_left; focus (go_size; done))))⟩
        · cases y with
          | false =>
            go_wp2_with (go_at_call 31; (with_reducible refine (HC.out _ (by (repeat' (first | (with_reducible exact Below.refl _ _) | (with_reducible assumption) | (with_reducible refine Below.drew ?_) | (with_reducible refine below_drewN ?_ _) | ((with_reducible refine Below.alloc ?_ ?_ _); rotate_left; focus (go_size; done)) | ((with_reducible refine Below.setCell ?_ ?_ _); rotate_left; focus (go_size; done)) | ((with_reducible refine Below.trans ?_ (Below.mono (by with_reducible assumption) ?_)); rotate_left; focus (go_size; done))))) (tabs_below HT.out (by (repeat' (first | (with_reducible exact Below.refl _ _) | (with_reducible assumption) | (with_reducible refine Below.drew ?_) | (with_reducible refine below_drewN ?_ _) | ((with_reducible refine Below.alloc ?_ ?_ _); rotate_left; focus (go_size; done)) | ((with_reducible refine Below.setCell ?_ ?_ _); rotate_left; focus (go_size; done)) | ((with_reducible refine Below.trans ?_ (Below.mono (by with_reducible assumption) ?_)); rotate_left; focus (go_size; done))))))).mono ?_); rintro _ w2 ⟨rfl, hb2⟩; have hb2s := hb2.size; (try simp only [World.size_alloc, World.size_setCell, World.size_drew, World.heap_drewN] at hb2s); obtain ⟨hb2c, hb2f⟩ := bcell hb2; (try have : w.heap.size < w2.heap.size := by omega); (try have : w.heap.size + 1 < w2.heap.size := by omega); (try have : w.heap.size + 1 + 1 < w2.heap.size := by omega); (try have : w.heap.size + 1 + 1 + 1 < w2.heap.size := by omega))
            go_roundg (gk - 1)
            case measure => have := HK.out; omega
            case rel => exact ⟨t + 1, n, false, by have := HK.out; omega, by go_num, by (congr 1; omega), rfl, Lib.hid (by rw [HQ.out, ← HD.out]; omega), n2, Lib.hid (by rw [HO.out, ← Bool.and_assoc, ← HY.out]; rfl), by omega, by (repeat' (first | (with_reducible exact Below.refl _ _) | (with_reducible assumption) | (with_reducible refine Below.drew ?_) | (with_reducible refine below_drewN ?_ _) | ((with_reducible refine Below.alloc ?_ ?_ _); rotate_left; focus (go_size; done)) | ((with_reducible refine Below.setCell ?_ ?_ _); rotate_left; focus (go_size; done)) | ((with_reducible refine Below.trans ?_ (Below.mono (by with_reducible assumption) ?_)); rotate_left; focus (go_size; done))))⟩
          | true =>
            go_wp2_with (go_at_call 31; (with_reducible refine (HC.out _ (by (repeat' (first | (with_reducible exact Below.refl _ _) | (with_reducible assumption) | (with_reducible refine Below.drew ?_) | (with_reducible refine below_drewN ?_ _) | ((with_reducible refine Below.alloc ?_ ?_ _); rotate_left; focus (go_size; done)) | ((with_reducible refine Below.setCell ?_ ?_ _); rotate_left; focus (go_size; done)) | ((with_reducible refine Below.trans ?_ (Below.mono (by with_reducible assumption) ?_)); rotate_left; focus (go_size; done))))) (tabs_below HT.out (by (repeat' (first | (with_reducible exact Below.refl _ _) | (with_reducible assumption) | (with_reducible refine Below.drew ?_) | (with_reducible refine below_drewN ?_ _) | ((with_reducible refine Below.alloc ?_ ?_ _); rotate_left; focus (go_size; done)) | ((with_reducible refine Below.setCell ?_ ?_ _); rotate_left; focus (go_size; done)) | ((with_reducible refine Below.trans ?_ (Below.mono (by with_reducible assumption) ?_)); rotate_left; focus (go_size; done))))))).mono ?_); rintro _ w2 ⟨rfl, hb2⟩; have hb2s := hb2.size; (try simp only [World.size_alloc, World.size_setCell, World.size_drew, World.heap_drewN] at hb2s); obtain ⟨hb2c, hb2f⟩ := bcell hb2; (try have : w.heap.size < w2.heap.size := by omega); (try have : w.heap.size + 1 < w2.heap.size := by omega); (try have : w.heap.size + 1 + 1 < w2.heap.size := by omega); (try have : w.heap.size + 1 + 1 + 1 < w2.heap.size := by omega))
            go_roundg (gk - 1)
            case measure => have := HK.out; omega
            case rel => exact ⟨t + 1, n, v, by have := HK.out; omega, by go_num, by (congr 1; omega), rfl, Lib.hid (by rw [HQ.out, ← HD.out]; omega), n2, Lib.hid (by rw [HO.out, ← Bool.and_assoc, ← HY.out]; rfl), by omega, by (repeat' (first | (with_reducible exact Below.refl _ _) | (with_reducible assumption) | (with_reducible refine Below.drew ?_) | (with_reducible refine below_drewN ?_ _) | ((with_reducible refine Below.alloc ?_ ?_ _); rotate_left; focus (go_size; done)) | ((with_reducible refine Below.setCell ?_ ?_ _); rotate_left; focus (go_size; done)) | ((with_reducible refine Below.trans ?_ (Below.mono (by with_reducible assumption) ?_)); rotate_left; focus (go_size; done))))⟩
      · obtain rfl : t = l.length := by omega
        have hz : n = deeps l := by have := HD.out; rwa [List.take_length] at this
        have hy : y = (z && oks l) := by have := HY.out; rwa [List.take_length] at this
        have HZ1 := Lib.hid hz
        have HY1 := Lib.hid hy
        clear hz hy hlt
        go_wp2_with fail
        go_ret2
        exact ⟨by rw [← HZ1.out, ← HY1.out]; first | rfl | (congr 3; omega), by (repeat' (first | (with_reducible exact Below.refl _ _) | (with_reducible assumption) | (with_reducible refine Below.drew ?_) | (with_reducible refine below_drewN ?_ _) | ((with_reducible refine Below.alloc ?_ ?_ _); rotate_left; focus (go_size; done)) | ((with_reducible refine Below.setCell ?_ ?_ _); rotate_left; focus (go_size; done)) | ((with_reducible refine Below.trans ?_ (Below.mono (by with_reducible assumption) ?_)); rotate_left; focus (go_size; done))))⟩
theorem shape_any : ∀ n, ShapeOf (VR n)
  | 0, _, _, _, _, _, _, h => h.elim
  | n + 1, x, L, N, w, hT, h1, h => by
    obtain ⟨A, C, rfl, _⟩ := h.2.1.is
    obtain ⟨A2, C2, rfl, _⟩ := h.2.2.is
    rw [VD.deep_eq, okV_eq]
    exact shape_step (VR n) (fun _ _ _ _ _ h hb => h.below hb) (shape_any n) x.s x.list x.names A C A2 C2 w h.1 hT (by rw [VD.size_eq] at h1; omega) h.2.1 h.2.2
end Go.Proofs.YtanjbdhjnmmfdaaDoor

set_option linter.unusedSimpArgs false
set_option linter.unusedVariables false
namespace Go.Proofs.YtanjbdhjnmmfdaaDoor
open Go.RowKit

set_option maxHeartbeats 1000000 in
theorem rchar_any (r : Nat) (w : World) : Calls Tryd.prog 62 #[.int .i64 r] w fun e w' => e = .returned (.bool (chr r)) ∧ w = w' := by
  obtain ⟨z, hz⟩ : ∃ z, z = chr r := ⟨_, rfl⟩
  have hc : z = true ↔ chrP r := by rw [hz]; exact decide_eq_true_iff
  rw [← hz]
  have HC := Far.mk hc
  clear hz hc
  go_enter Tryd.func62, Tryd.ntmps62
  go_wp2
  all_goals go_ret
  all_goals refine ⟨ret_bool ?_, rfl⟩
  all_goals rw [Bool.eq_iff_iff, HC.out]
  all_goals clear HC
  all_goals simp [chrP]
  all_goals (first | done | omega | (simp_all; done) | (simp_all; omega))
set_option maxRecDepth 100000 in
theorem and192 : ∀ X : Fin 256, bits .and .u8 ((X.val : Nat) : Int) 192 = ((X.val / 64 * 64 : Nat) : Int) := by decide
set_option maxRecDepth 100000 in
theorem and63 : ∀ X : Fin 256, bits .and .u8 ((X.val : Nat) : Int) 63 = ((X.val % 64 : Nat) : Int) := by decide
/-- the document's tail -/
def tailL (l : List UInt8) (p : Nat) : Nat × Bool := if p < l.length ∧ (l.getD p 0).toNat / 64 = 2 then ((l.getD p 0).toNat % 64, true) else (0, false)
set_option maxHeartbeats 1000000 in
theorem tail_any (l : List UInt8) (hl : l.length ≤ 9223372036854775000) (p : Nat) (hp : p ≤ l.length + 10) (w : World) :
    Calls Tryd.prog 70 #[.string ⟨l.toArray⟩, .int .i64 p] w fun e w' => e = .returned (.tuple #[.int .i64 (tailL l p).1, .bool (tailL l p).2]) ∧ w = w' := by
  by_cases hlt : p < l.length
  · have hs : p < (⟨l.toArray⟩ : ByteArray).size := by show p < l.toArray.size; simpa using hlt
    have hc : (⟨l.toArray⟩ : ByteArray)[p] = l.getD p 0 := by
      rw [List.getD_eq_getElem?_getD, List.getElem?_eq_getElem hlt]; rfl
    have hu := UInt8.toNat_lt (l.getD p 0)
    have hg : l[p] = l.getD p 0 := by rw [List.getD_eq_getElem?_getD, List.getElem?_eq_getElem hlt]; rfl
    obtain ⟨c, hcc⟩ : ∃ c, c = (l.getD p 0).toNat := ⟨_, rfl⟩
    have b1 := and192 ⟨c, by omega⟩
    have b2 := and63 ⟨c, by omega⟩
    dsimp only at b1 b2
    by_cases ht : c / 64 = 2
    · have e : tailL l p = (c % 64, true) := by unfold tailL; rw [← hcc, if_pos ⟨hlt, ht⟩]
      rw [e]
      rw [ht] at b1
      have b1a : bits .and .u8 (l[p].toNat : Int) 192 = 128 := by rw [hg, ← hcc]; exact b1
      have b1b : bits .and .u8 ((⟨l.toArray⟩ : ByteArray)[p].toNat : Int) 192 = 128 := by rw [hc, ← hcc]; exact b1
      have b2a : bits .and .u8 (l[p].toNat : Int) 63 = ((c % 64 : Nat) : Int) := by rw [hg, ← hcc]; exact b2
      have b2b : bits .and .u8 ((⟨l.toArray⟩ : ByteArray)[p].toNat : Int) 63 = ((c % 64 : Nat) : Int) := by rw [hc, ← hcc]; exact b2
      have hlp : ¬ l.length ≤ p := by omega
      obtain ⟨d, hd⟩ : ∃ d, d = c % 64 := ⟨_, rfl⟩
      rw [← hd] at b2a b2b ⊢
      have hd2 : d ≤ 63 := by omega
      clear b1 b2 hc hg hcc e ht hd hu
      go_enter Tryd.func70, Tryd.ntmps70
      go_wp2_with fail
      go_ret2
      exact ⟨rfl, rfl⟩
    · have e : tailL l p = (0, false) := by unfold tailL; rw [← hcc, if_neg (fun h => ht h.2)]
      rw [e]
      obtain ⟨q, hq⟩ : ∃ q : Int, q = ((c / 64 * 64 : Nat) : Int) := ⟨_, rfl⟩
      have b1a : bits .and .u8 (l[p].toNat : Int) 192 = q := by rw [hg, ← hcc, hq]; exact b1
      have b1b : bits .and .u8 ((⟨l.toArray⟩ : ByteArray)[p].toNat : Int) 192 = q := by rw [hc, ← hcc, hq]; exact b1
      have hq2 : (q != 128) = true := by simp; omega
      have hlp : ¬ l.length ≤ p := by omega
      clear b1 b2 hc hg hcc e ht hu hq
      go_enter Tryd.func70, Tryd.ntmps70
      go_wp2_with fail
      go_ret2
      exact ⟨rfl, rfl⟩
  · have e : tailL l p = (0, false) := by unfold tailL; rw [if_neg (fun h => hlt h.1)]
    rw [e]
    have hge : (l.length : Int) ≤ (p : Int) := by omega
    go_enter Tryd.func70, Tryd.ntmps70
    go_wp2_with fail
    go_ret2
    exact ⟨rfl, rfl⟩
set_option maxRecDepth 100000 in
theorem and31 : ∀ X : Fin 256, bits .and .i64 ((X.val : Nat) : Int) 31 = ((X.val % 32 : Nat) : Int) := by decide
set_option maxRecDepth 100000 in
theorem and15 : ∀ X : Fin 256, bits .and .i64 ((X.val : Nat) : Int) 15 = ((X.val % 16 : Nat) : Int) := by decide
set_option maxRecDepth 100000 in
theorem and7 : ∀ X : Fin 256, bits .and .i64 ((X.val : Nat) : Int) 7 = ((X.val % 8 : Nat) : Int) := by decide
/-- the document's decoder at a place -/
def oneA (l : List UInt8) (i : Nat) : Nat × Nat × Bool := oneN (l.length - i) (l.getD i 0).toNat (l.getD (i + 1) 0).toNat (l.getD (i + 2) 0).toNat (l.getD (i + 3) 0).toNat
def okT (l : List UInt8) (i j : Nat) : Prop := i + j < l.length ∧ (l.getD (i + j) 0).toNat / 64 = 2
def accF (c : Nat) (l : List UInt8) (i : Nat) : Nat → Nat
  | 0 => c
  | j + 1 => accF c l i j * 64 + (l.getD (i + (j + 1)) 0).toNat % 64
theorem yes2 {l : List UInt8} {i : Nat} (hb : 192 ≤ (l.getD i 0).toNat ∧ (l.getD i 0).toNat < 224) (h : ∀ j, 1 ≤ j → j < 2 → okT l i j) : oneA l i = (accF ((l.getD i 0).toNat % 32) l i (2 - 1), 2, decide (128 ≤ accF ((l.getD i 0).toNat % 32) l i (2 - 1))) := by
  have h1 := h 1 (by omega) (by omega)
  unfold okT at h1
  unfold oneA oneN
  rw [if_neg (by omega), if_pos hb, if_pos ⟨by omega, h1.2⟩]; rfl
theorem yes3 {l : List UInt8} {i : Nat} (hb : 224 ≤ (l.getD i 0).toNat ∧ (l.getD i 0).toNat < 240) (h : ∀ j, 1 ≤ j → j < 3 → okT l i j) : oneA l i = (accF ((l.getD i 0).toNat % 16) l i (3 - 1), 3, decide (2048 ≤ accF ((l.getD i 0).toNat % 16) l i (3 - 1))) := by
  have h1 := h 1 (by omega) (by omega)
  have h2 := h 2 (by omega) (by omega)
  unfold okT at h1 h2
  unfold oneA oneN
  rw [if_neg (by omega), if_neg (by omega), if_pos hb, if_pos ⟨by omega, h1.2⟩, if_pos ⟨by omega, h2.2⟩]; rfl
theorem yes4 {l : List UInt8} {i : Nat} (hb : 240 ≤ (l.getD i 0).toNat ∧ (l.getD i 0).toNat < 248) (h : ∀ j, 1 ≤ j → j < 4 → okT l i j) : oneA l i = (accF ((l.getD i 0).toNat % 8) l i (4 - 1), 4, decide (65536 ≤ accF ((l.getD i 0).toNat % 8) l i (4 - 1))) := by
  have h1 := h 1 (by omega) (by omega)
  have h2 := h 2 (by omega) (by omega)
  have h3 := h 3 (by omega) (by omega)
  unfold okT at h1 h2 h3
  unfold oneA oneN
  rw [if_neg (by omega), if_neg (by omega), if_neg (by omega), if_pos hb, if_pos ⟨by omega, h1.2⟩, if_pos ⟨by omega, h2.2⟩, if_pos ⟨by omega, h3.2⟩]; rfl
theorem no2 {l : List UInt8} {i j : Nat} (hb : 192 ≤ (l.getD i 0).toNat ∧ (l.getD i 0).toNat < 224) (a : 1 ≤ j) (b : j < 2) (h : ¬ okT l i j) : oneA l i = (0, 0, false) := by
  obtain rfl : j = 1 := by omega
  unfold okT at h
  unfold oneA oneN
  rw [if_neg (by omega), if_pos hb, if_neg (fun hh => h ⟨by omega, hh.2⟩)]
theorem no3 {l : List UInt8} {i j : Nat} (hb : 224 ≤ (l.getD i 0).toNat ∧ (l.getD i 0).toNat < 240) (a : 1 ≤ j) (b : j < 3) (h : ¬ okT l i j) : oneA l i = (0, 0, false) := by
  unfold okT at h
  unfold oneA oneN
  rw [if_neg (by omega), if_neg (by omega), if_pos hb]
  have hj : j = 1 ∨ j = 2 := by omega
  rcases hj with rfl | rfl
  · rw [if_neg (fun hh => h ⟨by omega, hh.2⟩)]
  · rw [if_neg (c := 2 < l.length - i ∧ _) (fun hh => h ⟨by omega, hh.2⟩)]
    split <;> rfl
theorem no4 {l : List UInt8} {i j : Nat} (hb : 240 ≤ (l.getD i 0).toNat ∧ (l.getD i 0).toNat < 248) (a : 1 ≤ j) (b : j < 4) (h : ¬ okT l i j) : oneA l i = (0, 0, false) := by
  unfold okT at h
  unfold oneA oneN
  rw [if_neg (by omega), if_neg (by omega), if_neg (by omega), if_pos hb]
  have hj : j = 1 ∨ j = 2 ∨ j = 3 := by omega
  rcases hj with rfl | rfl | rfl
  · rw [if_neg (fun hh => h ⟨by omega, hh.2⟩)]
  · rw [if_neg (c := 2 < l.length - i ∧ _) (fun hh => h ⟨by omega, hh.2⟩)]
    split <;> rfl
  · rw [if_neg (c := 3 < l.length - i ∧ _) (fun hh => h ⟨by omega, hh.2⟩)]
    split
    · split <;> rfl
    · rfl
set_option maxRecDepth 100000 in
set_option maxHeartbeats 2000000 in
theorem chone_any (l : List UInt8) (hl : l.length ≤ 9223372036854770000) (i : Nat) (hi : i < l.length) (w : World) :
    Calls Tryd.prog 61 #[.string ⟨l.toArray⟩, .int .i64 i] w fun e w' => e = .returned (.tuple #[.int .i64 (oneA l i).1, .int .i64 (oneA l i).2.1, .bool (oneA l i).2.2]) ∧ w = w' := by
  have hs : i < (⟨l.toArray⟩ : ByteArray).size := by show i < l.toArray.size; simpa using hi
  have hc : (⟨l.toArray⟩ : ByteArray)[i] = l.getD i 0 := by
    rw [List.getD_eq_getElem?_getD, List.getElem?_eq_getElem hi]; rfl
  have hg : l[i] = l.getD i 0 := by rw [List.getD_eq_getElem?_getD, List.getElem?_eq_getElem hi]; rfl
  have hu := UInt8.toNat_lt (l.getD i 0)
  have hcase : ((l.getD i 0).toNat ≤ 127) ∨ (128 ≤ (l.getD i 0).toNat ∧ (l.getD i 0).toNat ≤ 191) ∨ (192 ≤ (l.getD i 0).toNat ∧ (l.getD i 0).toNat ≤ 223) ∨ (224 ≤ (l.getD i 0).toNat ∧ (l.getD i 0).toNat ≤ 239) ∨ (240 ≤ (l.getD i 0).toNat ∧ (l.getD i 0).toNat ≤ 247) ∨ (248 ≤ (l.getD i 0).toNat) := by omega
  rcases hcase with hcase | hcase | hcase | hcase | hcase | hcase
  · have e : oneA l i = ((l.getD i 0).toNat, 1, true) := by unfold oneA oneN; rw [if_pos (by omega)]
    rw [e]
    have x1 : (0 : Int) ≤ ((⟨l.toArray⟩ : ByteArray)[i].toNat : Int) := by rw [hc]; omega
    have x2 : ((⟨l.toArray⟩ : ByteArray)[i].toNat : Int) ≤ (127 : Int) := by rw [hc]; omega
    have x3 : (0 : Int) ≤ (l[i].toNat : Int) := by rw [hg]; omega
    have x4 : (l[i].toNat : Int) ≤ (127 : Int) := by rw [hg]; omega
    have HC := Lib.hid hc
    clear hc hg hcase e
    go_enter Tryd.func61, Tryd.ntmps61
    go_wp2_with fail
    go_ret3
    exact ⟨by rw [← HC.out]; rfl, rfl⟩
  · have e : oneA l i = (0, 0, false) := by unfold oneA oneN; rw [if_neg (by omega), if_neg (by omega), if_neg (by omega), if_neg (by omega)]
    rw [e]
    have x1 : (128 : Int) ≤ ((⟨l.toArray⟩ : ByteArray)[i].toNat : Int) := by rw [hc]; omega
    have x2 : ((⟨l.toArray⟩ : ByteArray)[i].toNat : Int) ≤ (191 : Int) := by rw [hc]; omega
    have x3 : (128 : Int) ≤ (l[i].toNat : Int) := by rw [hg]; omega
    have x4 : (l[i].toNat : Int) ≤ (191 : Int) := by rw [hg]; omega
    clear hc hg hcase e
    go_enter Tryd.func61, Tryd.ntmps61
    go_wp2_with fail
    go_ret3
    exact ⟨rfl, rfl⟩
  · have tk := trivial
    obtain ⟨c0, hc0⟩ : ∃ c0, c0 = (l.getD i 0).toNat % 32 := ⟨_, rfl⟩
    have m1 : bits .and .i64 ((⟨l.toArray⟩ : ByteArray)[i].toNat : Int) 31 = (c0 : Int) := by rw [hc, hc0]; exact and31 ⟨(l.getD i 0).toNat, UInt8.toNat_lt _⟩
    have m2 : bits .and .i64 (l[i].toNat : Int) 31 = (c0 : Int) := by rw [hg, hc0]; exact and31 ⟨(l.getD i 0).toNat, UInt8.toNat_lt _⟩
    have hcl : c0 < 32 := by omega
    have x1 : (192 : Int) ≤ ((⟨l.toArray⟩ : ByteArray)[i].toNat : Int) := by rw [hc]; omega
    have x2 : ((⟨l.toArray⟩ : ByteArray)[i].toNat : Int) ≤ (223 : Int) := by rw [hc]; omega
    have x3 : (192 : Int) ≤ (l[i].toNat : Int) := by rw [hg]; omega
    have x4 : (l[i].toNat : Int) ≤ (223 : Int) := by rw [hg]; omega
    have HYES : Far ((∀ j, 1 ≤ j → j < 2 → okT l i j) → oneA l i = (accF c0 l i (2 - 1), 2, decide (128 ≤ accF c0 l i (2 - 1)))) := Far.mk (fun h => by rw [hc0]; exact yes2 ⟨by omega, by omega⟩ h)
    have HNO : Far (∀ j, 1 ≤ j → j < 2 → ¬ okT l i j → oneA l i = (0, 0, false)) := Far.mk (fun j a b h => no2 ⟨by omega, by omega⟩ a b h)
    have y224a : ((⟨l.toArray⟩ : ByteArray)[i].toNat : Int) < 224 ↔ (223 : Int) < 224 := by rw [hc]; omega
    have y224b : (l[i].toNat : Int) < 224 ↔ (223 : Int) < 224 := by rw [hg]; omega
    have z224a : decide (((⟨l.toArray⟩ : ByteArray)[i].toNat : Int) < 224) = decide ((223 : Int) < 224) := by rw [decide_eq_decide]; exact y224a
    have z224b : decide ((l[i].toNat : Int) < 224) = decide ((223 : Int) < 224) := by rw [decide_eq_decide]; exact y224b
    simp at z224a z224b
    clear y224a y224b
    have y240a : ((⟨l.toArray⟩ : ByteArray)[i].toNat : Int) < 240 ↔ (223 : Int) < 240 := by rw [hc]; omega
    have y240b : (l[i].toNat : Int) < 240 ↔ (223 : Int) < 240 := by rw [hg]; omega
    have z240a : decide (((⟨l.toArray⟩ : ByteArray)[i].toNat : Int) < 240) = decide ((223 : Int) < 240) := by rw [decide_eq_decide]; exact y240a
    have z240b : decide ((l[i].toNat : Int) < 240) = decide ((223 : Int) < 240) := by rw [decide_eq_decide]; exact y240b
    simp at z240a z240b
    clear y240a y240b
    have y248a : ((⟨l.toArray⟩ : ByteArray)[i].toNat : Int) < 248 ↔ (223 : Int) < 248 := by rw [hc]; omega
    have y248b : (l[i].toNat : Int) < 248 ↔ (223 : Int) < 248 := by rw [hg]; omega
    have z248a : decide (((⟨l.toArray⟩ : ByteArray)[i].toNat : Int) < 248) = decide ((223 : Int) < 248) := by rw [decide_eq_decide]; exact y248a
    have z248b : decide ((l[i].toNat : Int) < 248) = decide ((223 : Int) < 248) := by rw [decide_eq_decide]; exact y248b
    simp at z248a z248b
    clear y248a y248b
    clear hc hg hc0 hcase
    go_enter Tryd.func61, Tryd.ntmps61
    go_wp2_with fail
    go_loopg [7, 10] (2 - 1) (fun k s7 s10 wr => ∃ t c : Nat, k + t = 2 ∧ 1 ≤ t ∧ s7 = .int .i64 c ∧ s10 = .int .i64 t ∧ Hid (c = accF c0 l i (t - 1)) ∧ Hid (c < 32 * 64 ^ (t - 1)) ∧ Hid (∀ j, 1 ≤ j → j < t → okT l i j) ∧ w = wr)
    case atStart => exact ⟨1, c0, by omega, Nat.le_refl _, rfl, rfl, Lib.hid rfl, Lib.hid hcl, Lib.hid (fun j a b => by omega), rfl⟩
    case round =>
      obtain ⟨t, c, hk, ht1, rfl, rfl, HCA, HCB, HOK, rfl⟩ := hrel
      have HK := Lib.hid hk
      have htn : t ≤ 2 := by omega
      have hcb : c < 8388608 := by
        have := HCB.out
        have h4 : t = 1 ∨ t = 2 ∨ t = 3 ∨ t = 4 := by omega
        rcases h4 with rfl | rfl | rfl | rfl <;> (simp at this; omega)
      clear hk
      by_cases hlt : t < 2
      · obtain ⟨p, hp⟩ : ∃ p, p = i + t := ⟨_, rfl⟩
        have hpi : (i : Int) + (t : Int) = (p : Int) := by omega
        have HT := Lib.hid (tail_any l (by omega) p (by omega) w)
        by_cases hok : okT l i t
        · have et : tailL l p = ((l.getD p 0).toNat % 64, true) := by unfold tailL; rw [if_pos (by rw [hp]; exact hok)]
          rw [et] at HT
          obtain ⟨x, hx⟩ : ∃ x, x = (l.getD p 0).toNat % 64 := ⟨_, rfl⟩
          rw [← hx] at HT
          have hx2 : x ≤ 63 := by omega
          have hca : Hid (c * 64 + x = accF c0 l i (t + 1 - 1)) := Lib.hid (by
            have e1 : t + 1 - 1 = (t - 1) + 1 := by omega
            rw [e1]
            show c * 64 + x = accF c0 l i (t - 1) * 64 + (l.getD (i + (t - 1 + 1)) 0).toNat % 64
            rw [← HCA.out, hx, hp, show t - 1 + 1 = t by omega])
          have hcb2 : Hid (c * 64 + x < 32 * 64 ^ (t + 1 - 1)) := Lib.hid (by
            have := HCB.out
            have e1 : t + 1 - 1 = (t - 1) + 1 := by omega
            rw [e1, Nat.pow_succ]
            generalize 64 ^ (t - 1) = q at *
            omega)
          have hok2 : Hid (∀ j, 1 ≤ j → j < t + 1 → okT l i j) := Lib.hid (fun j a b => by
            by_cases e : j = t
            · subst e; exact hok
            · exact HOK.out j a (by omega))
          clear hok et hx hp
          go_wp2_with fail
          refine HT.out.mono ?_
          rintro _ _ ⟨rfl, rfl⟩
          go_wp2_with fail
          go_roundg (gk - 1)
          case measure => have := HK.out; omega
          case rel => exact ⟨t + 1, c * 64 + x, by have := HK.out; omega, by omega, by go_num, by go_num, hca, hcb2, hok2, rfl⟩
        · have et : tailL l p = (0, false) := by unfold tailL; rw [if_neg (by rw [hp]; exact hok)]
          rw [et] at HT
          have HR := Lib.hid (HNO.out t ht1 hlt hok)
          clear hok et hp
          go_wp2_with fail
          refine HT.out.mono ?_
          rintro _ _ ⟨rfl, rfl⟩
          go_wp2_with fail
          go_ret3
          exact ⟨by rw [HR.out]; rfl, rfl⟩
      · obtain rfl : t = 2 := by omega
        have hr := HYES.out (fun j a b => HOK.out j a b)
        have hca := HCA.out
        rw [← hca] at hr
        have HR := Lib.hid hr
        clear hr hca
        go_wp2_with fail
        go_ret3
        exact ⟨by rw [HR.out]; simp <;> omega, rfl⟩
  · have tk := trivial
    obtain ⟨c0, hc0⟩ : ∃ c0, c0 = (l.getD i 0).toNat % 16 := ⟨_, rfl⟩
    have m1 : bits .and .i64 ((⟨l.toArray⟩ : ByteArray)[i].toNat : Int) 15 = (c0 : Int) := by rw [hc, hc0]; exact and15 ⟨(l.getD i 0).toNat, UInt8.toNat_lt _⟩
    have m2 : bits .and .i64 (l[i].toNat : Int) 15 = (c0 : Int) := by rw [hg, hc0]; exact and15 ⟨(l.getD i 0).toNat, UInt8.toNat_lt _⟩
    have hcl : c0 < 32 := by omega
    have x1 : (224 : Int) ≤ ((⟨l.toArray⟩ : ByteArray)[i].toNat : Int) := by rw [hc]; omega
    have x2 : ((⟨l.toArray⟩ : ByteArray)[i].toNat : Int) ≤ (239 : Int) := by rw [hc]; omega
    have x3 : (224 : Int) ≤ (l[i].toNat : Int) := by rw [hg]; omega
    have x4 : (l[i].toNat : Int) ≤ (239 : Int) := by rw [hg]; omega
    have HYES : Far ((∀ j, 1 ≤ j → j < 3 → okT l i j) → oneA l i = (accF c0 l i (3 - 1), 3, decide (2048 ≤ accF c0 l i (3 - 1)))) := Far.mk (fun h => by rw [hc0]; exact yes3 ⟨by omega, by omega⟩ h)
    have HNO : Far (∀ j, 1 ≤ j → j < 3 → ¬ okT l i j → oneA l i = (0, 0, false)) := Far.mk (fun j a b h => no3 ⟨by omega, by omega⟩ a b h)
    have y224a : ((⟨l.toArray⟩ : ByteArray)[i].toNat : Int) < 224 ↔ (239 : Int) < 224 := by rw [hc]; omega
    have y224b : (l[i].toNat : Int) < 224 ↔ (239 : Int) < 224 := by rw [hg]; omega
    have z224a : decide (((⟨l.toArray⟩ : ByteArray)[i].toNat : Int) < 224) = decide ((239 : Int) < 224) := by rw [decide_eq_decide]; exact y224a
    have z224b : decide ((l[i].toNat : Int) < 224) = decide ((239 : Int) < 224) := by rw [decide_eq_decide]; exact y224b
    simp at z224a z224b
    clear y224a y224b
    have y240a : ((⟨l.toArray⟩ : ByteArray)[i].toNat : Int) < 240 ↔ (239 : Int) < 240 := by rw [hc]; omega
    have y240b : (l[i].toNat : Int) < 240 ↔ (239 : Int) < 240 := by rw [hg]; omega
    have z240a : decide (((⟨l.toArray⟩ : ByteArray)[i].toNat : Int) < 240) = decide ((239 : Int) < 240) := by rw [decide_eq_decide]; exact y240a
    have z240b : decide ((l[i].toNat : Int) < 240) = decide ((239 : Int) < 240) := by rw [decide_eq_decide]; exact y240b
    simp at z240a z240b
    clear y240a y240b
    have y248a : ((⟨l.toArray⟩ : ByteArray)[i].toNat : Int) < 248 ↔ (239 : Int) < 248 := by rw [hc]; omega
    have y248b : (l[i].toNat : Int) < 248 ↔ (239 : Int) < 248 := by rw [hg]; omega
    have z248a : decide (((⟨l.toArray⟩ : ByteArray)[i].toNat : Int) < 248) = decide ((239 : Int) < 248) := by rw [decide_eq_decide]; exact y248a
    have z248b : decide ((l[i].toNat : Int) < 248) = decide ((239 : Int) < 248) := by rw [decide_eq_decide]; exact y248b
    simp at z248a z248b
    clear y248a y248b
    clear hc hg hc0 hcase
    go_enter Tryd.func61, Tryd.ntmps61
    go_wp2_with fail
    go_loopg [7, 10] (3 - 1) (fun k s7 s10 wr => ∃ t c : Nat, k + t = 3 ∧ 1 ≤ t ∧ s7 = .int .i64 c ∧ s10 = .int .i64 t ∧ Hid (c = accF c0 l i (t - 1)) ∧ Hid (c < 32 * 64 ^ (t - 1)) ∧ Hid (∀ j, 1 ≤ j → j < t → okT l i j) ∧ w = wr)
    case atStart => exact ⟨1, c0, by omega, Nat.le_refl _, rfl, rfl, Lib.hid rfl, Lib.hid hcl, Lib.hid (fun j a b => by omega), rfl⟩
    case round =>
      obtain ⟨t, c, hk, ht1, rfl, rfl, HCA, HCB, HOK, rfl⟩ := hrel
      have HK := Lib.hid hk
      have htn : t ≤ 3 := by omega
      have hcb : c < 8388608 := by
        have := HCB.out
        have h4 : t = 1 ∨ t = 2 ∨ t = 3 ∨ t = 4 := by omega
        rcases h4 with rfl | rfl | rfl | rfl <;> (simp at this; omega)
      clear hk
      by_cases hlt : t < 3
      · obtain ⟨p, hp⟩ : ∃ p, p = i + t := ⟨_, rfl⟩
        have hpi : (i : Int) + (t : Int) = (p : Int) := by omega
        have HT := Lib.hid (tail_any l (by omega) p (by omega) w)
        by_cases hok : okT l i t
        · have et : tailL l p = ((l.getD p 0).toNat % 64, true) := by unfold tailL; rw [if_pos (by rw [hp]; exact hok)]
          rw [et] at HT
          obtain ⟨x, hx⟩ : ∃ x, x = (l.getD p 0).toNat % 64 := ⟨_, rfl⟩
          rw [← hx] at HT
          have hx2 : x ≤ 63 := by omega
          have hca : Hid (c * 64 + x = accF c0 l i (t + 1 - 1)) := Lib.hid (by
            have e1 : t + 1 - 1 = (t - 1) + 1 := by omega
            rw [e1]
            show c * 64 + x = accF c0 l i (t - 1) * 64 + (l.getD (i + (t - 1 + 1)) 0).toNat % 64
            rw [← HCA.out, hx, hp, show t - 1 + 1 = t by omega])
          have hcb2 : Hid (c * 64 + x < 32 * 64 ^ (t + 1 - 1)) := Lib.hid (by
            have := HCB.out
            have e1 : t + 1 - 1 = (t - 1) + 1 := by omega
            rw [e1, Nat.pow_succ]
            generalize 64 ^ (t - 1) = q at *
            omega)
          have hok2 : Hid (∀ j, 1 ≤ j → j < t + 1 → okT l i j) := Lib.hid (fun j a b => by
            by_cases e : j = t
            · subst e; exact hok
            · exact HOK.out j a (by omega))
          clear hok et hx hp
          go_wp2_with fail
          refine HT.out.mono ?_
          rintro _ _ ⟨rfl, rfl⟩
          go_wp2_with fail
          go_roundg (gk - 1)
          case measure => have := HK.out; omega
          case rel => exact ⟨t + 1, c * 64 + x, by have := HK.out; omega, by omega, by go_num, by go_num, hca, hcb2, hok2, rfl⟩
        · have et : tailL l p = (0, false) := by unfold tailL; rw [if_neg (by rw [hp]; exact hok)]
          rw [et] at HT
          have HR := Lib.hid (HNO.out t ht1 hlt hok)
          clear hok et hp
          go_wp2_with fail
          refine HT.out.mono ?_
          rintro _ _ ⟨rfl, rfl⟩
          go_wp2_with fail
          go_ret3
          exact ⟨by rw [HR.out]; rfl, rfl⟩
      · obtain rfl : t = 3 := by omega
        have hr := HYES.out (fun j a b => HOK.out j a b)
        have hca := HCA.out
        rw [← hca] at hr
        have HR := Lib.hid hr
        clear hr hca
        go_wp2_with fail
        go_ret3
        exact ⟨by rw [HR.out]; simp <;> omega, rfl⟩
  · have tk := trivial
    obtain ⟨c0, hc0⟩ : ∃ c0, c0 = (l.getD i 0).toNat % 8 := ⟨_, rfl⟩
    have m1 : bits .and .i64 ((⟨l.toArray⟩ : ByteArray)[i].toNat : Int) 7 = (c0 : Int) := by rw [hc, hc0]; exact and7 ⟨(l.getD i 0).toNat, UInt8.toNat_lt _⟩
    have m2 : bits .and .i64 (l[i].toNat : Int) 7 = (c0 : Int) := by rw [hg, hc0]; exact and7 ⟨(l.getD i 0).toNat, UInt8.toNat_lt _⟩
    have hcl : c0 < 32 := by omega
    have x1 : (240 : Int) ≤ ((⟨l.toArray⟩ : ByteArray)[i].toNat : Int) := by rw [hc]; omega
    have x2 : ((⟨l.toArray⟩ : ByteArray)[i].toNat : Int) ≤ (247 : Int) := by rw [hc]; omega
    have x3 : (240 : Int) ≤ (l[i].toNat : Int) := by rw [hg]; omega
    have x4 : (l[i].toNat : Int) ≤ (247 : Int) := by rw [hg]; omega
    have HYES : Far ((∀ j, 1 ≤ j → j < 4 → okT l i j) → oneA l i = (accF c0 l i (4 - 1), 4, decide (65536 ≤ accF c0 l i (4 - 1)))) := Far.mk (fun h => by rw [hc0]; exact yes4 ⟨by omega, by omega⟩ h)
    have HNO : Far (∀ j, 1 ≤ j → j < 4 → ¬ okT l i j → oneA l i = (0, 0, false)) := Far.mk (fun j a b h => no4 ⟨by omega, by omega⟩ a b h)
    have y224a : ((⟨l.toArray⟩ : ByteArray)[i].toNat : Int) < 224 ↔ (247 : Int) < 224 := by rw [hc]; omega
    have y224b : (l[i].toNat : Int) < 224 ↔ (247 : Int) < 224 := by rw [hg]; omega
    have z224a : decide (((⟨l.toArray⟩ : ByteArray)[i].toNat : Int) < 224) = decide ((247 : Int) < 224) := by rw [decide_eq_decide]; exact y224a
    have z224b : decide ((l[i].toNat : Int) < 224) = decide ((247 : Int) < 224) := by rw [decide_eq_decide]; exact y224b
    simp at z224a z224b
    clear y224a y224b
    have y240a : ((⟨l.toArray⟩ : ByteArray)[i].toNat : Int) < 240 ↔ (247 : Int) < 240 := by rw [hc]; omega
    have y240b : (l[i].toNat : Int) < 240 ↔ (247 : Int) < 240 := by rw [hg]; omega
    have z240a : decide (((⟨l.toArray⟩ : ByteArray)[i].toNat : Int) < 240) = decide ((247 : Int) < 240) := by rw [decide_eq_decide]; exact y240a
    have z240b : decide ((l[i].toNat : Int) < 240) = decide ((247 : Int) < 240) := by rw [decide_eq_decide]; exact y240b
    simp at z240a z240b
    clear y240a y240b
    have y248a : ((⟨l.toArray⟩ : ByteArray)[i].toNat : Int) < 248 ↔ (247 : Int) < 248 := by rw [hc]; omega
    have y248b : (l[i].toNat : Int) < 248 ↔ (247 : Int) < 248 := by rw [hg]; omega
    have z248a : decide (((⟨l.toArray⟩ : ByteArray)[i].toNat : Int) < 248) = decide ((247 : Int) < 248) := by rw [decide_eq_decide]; exact y248a
    have z248b : decide ((l[i].toNat : Int) < 248) = decide ((247 : Int) < 248) := by rw [decide_eq_decide]; exact y248b
    simp at z248a z248b
    clear y248a y248b
    clear hc hg hc0 hcase
    go_enter Tryd.func61, Tryd.ntmps61
    go_wp2_with fail
    go_loopg [7, 10] (4 - 1) (fun k s7 s10 wr => ∃ t c : Nat, k + t = 4 ∧ 1 ≤ t ∧ s7 = .int .i64 c ∧ s10 = .int .i64 t ∧ Hid (c = accF c0 l i (t - 1)) ∧ Hid (c < 32 * 64 ^ (t - 1)) ∧ Hid (∀ j, 1 ≤ j → j < t → okT l i j) ∧ w = wr)
    case atStart => exact ⟨1, c0, by omega, Nat.le_refl _, rfl, rfl, Lib.hid rfl, Lib.hid hcl, Lib.hid (fun j a b => by omega), rfl⟩
    case round =>
      obtain ⟨t, c, hk, ht1, rfl, rfl, HCA, HCB, HOK, rfl⟩ := hrel
      have HK := Lib.hid hk
      have htn : t ≤ 4 := by omega
      have hcb : c < 8388608 := by
        have := HCB.out
        have h4 : t = 1 ∨ t = 2 ∨ t = 3 ∨ t = 4 := by omega
        rcases h4 with rfl | rfl | rfl | rfl <;> (simp at this; omega)
      clear hk
      by_cases hlt : t < 4
      · obtain ⟨p, hp⟩ : ∃ p, p = i + t := ⟨_, rfl⟩
        have hpi : (i : Int) + (t : Int) = (p : Int) := by omega
        have HT := Lib.hid (tail_any l (by omega) p (by omega) w)
        by_cases hok : okT l i t
        · have et : tailL l p = ((l.getD p 0).toNat % 64, true) := by unfold tailL; rw [if_pos (by rw [hp]; exact hok)]
          rw [et] at HT
          obtain ⟨x, hx⟩ : ∃ x, x = (l.getD p 0).toNat % 64 := ⟨_, rfl⟩
          rw [← hx] at HT
          have hx2 : x ≤ 63 := by omega
          have hca : Hid (c * 64 + x = accF c0 l i (t + 1 - 1)) := Lib.hid (by
            have e1 : t + 1 - 1 = (t - 1) + 1 := by omega
            rw [e1]
            show c * 64 + x = accF c0 l i (t - 1) * 64 + (l.getD (i + (t - 1 + 1)) 0).toNat % 64
            rw [← HCA.out, hx, hp, show t - 1 + 1 = t by omega])
          have hcb2 : Hid (c * 64 + x < 32 * 64 ^ (t + 1 - 1)) := Lib.hid (by
            have := HCB.out
            have e1 : t + 1 - 1 = (t - 1) + 1 := by omega
            rw [e1, Nat.pow_succ]
            generalize 64 ^ (t - 1) = q at *
            omega)
          have hok2 : Hid (∀ j, 1 ≤ j → j < t + 1 → okT l i j) := Lib.hid (fun j a b => by
            by_cases e : j = t
            · subst e; exact hok
            · exact HOK.out j a (by omega))
          clear hok et hx hp
          go_wp2_with fail
          refine HT.out.mono ?_
          rintro _ _ ⟨rfl, rfl⟩
          go_wp2_with fail
          go_roundg (gk - 1)
          case measure => have := HK.out; omega
          case rel => exact ⟨t + 1, c * 64 + x, by have := HK.out; omega, by omega, by go_num, by go_num, hca, hcb2, hok2, rfl⟩
        · have et : tailL l p = (0, false) := by unfold tailL; rw [if_neg (by rw [hp]; exact hok)]
          rw [et] at HT
          have HR := Lib.hid (HNO.out t ht1 hlt hok)
          clear hok et hp
          go_wp2_with fail
          refine HT.out.mono ?_
          rintro _ _ ⟨rfl, rfl⟩
          go_wp2_with fail
          go_ret3
          exact ⟨by rw [HR.out]; rfl, rfl⟩
      · obtain rfl : t = 4 := by omega
        have hr := HYES.out (fun j a b => HOK.out j a b)
        have hca := HCA.out
        rw [← hca] at hr
        have HR := Lib.hid hr
        clear hr hca
        go_wp2_with fail
        go_ret3
        exact ⟨by rw [HR.out]; simp <;> omega, rfl⟩
  · have e : oneA l i = (0, 0, false) := by unfold oneA oneN; rw [if_neg (by omega), if_neg (by omega), if_neg (by omega), if_neg (by omega)]
    rw [e]
    have x1 : (248 : Int) ≤ ((⟨l.toArray⟩ : ByteArray)[i].toNat : Int) := by rw [hc]; omega
    have x2 : ((⟨l.toArray⟩ : ByteArray)[i].toNat : Int) ≤ (255 : Int) := by rw [hc]; omega
    have x3 : (248 : Int) ≤ (l[i].toNat : Int) := by rw [hg]; omega
    have x4 : (l[i].toNat : Int) ≤ (255 : Int) := by rw [hg]; omega
    clear hc hg hcase e
    go_enter Tryd.func61, Tryd.ntmps61
    go_wp2_with fail
    go_ret3
    exact ⟨rfl, rfl⟩
end Go.Proofs.YtanjbdhjnmmfdaaDoor

set_option linter.unusedSimpArgs false
set_option linter.unusedVariables false
namespace Go.Proofs.YtanjbdhjnmmfdaaDoor
open Go.RowKit

theorem oneA_L (l : List UInt8) (i : Nat) (h : i ≤ l.length) : oneA l i = oneL (l.drop i) := by
  unfold oneA oneL
  have e : ∀ j, (l.drop i).getD j 0 = l.getD (i + j) 0 := fun j => by
    rw [List.getD_eq_getElem?_getD, List.getD_eq_getElem?_getD, List.getElem?_drop]
  rw [e, e, e, e, List.length_drop]; rfl
theorem txt_nil : ztxt [] = true := rfl
theorem txt_step {l : List UInt8} {i : Nat} (h : i < l.length) (a : (oneA l i).2.2 = true) (b : chr (oneA l i).1 = true) : ztxt (l.drop i) = ztxt (l.drop (i + (oneA l i).2.1)) ∧ 1 ≤ (oneA l i).2.1 := by
  rw [oneA_L l i (by omega)] at a b ⊢
  have hp : 1 ≤ (oneL (l.drop i)).2.1 := oneN_pos a
  have hl : (l.drop i).length = l.length - i := List.length_drop
  have hne : ¬ l.drop i = [] := fun e => by rw [e] at hl; simp at hl; omega
  refine ⟨?_, hp⟩
  obtain ⟨f, hf⟩ : ∃ f, (l.drop i).length = f + 1 := ⟨(l.drop i).length - 1, by omega⟩
  have e1 : ztxt (l.drop i) = ztxtF (f + 1) (l.drop i) := by unfold ztxt; rw [hf]
  rw [e1]
  show (if l.drop i = [] then true else if (oneL (l.drop i)).2.2 = true ∧ chrP (oneL (l.drop i)).1 then ztxtF f ((l.drop i).drop (oneL (l.drop i)).2.1) else false) = _
  rw [if_neg hne, if_pos ⟨a, of_decide_eq_true b⟩, List.drop_drop]
  exact txtF_eq f (by rw [List.length_drop]; omega)
theorem txt_stop {l : List UInt8} {i : Nat} (h : i < l.length) (a : (oneA l i).2.2 = false ∨ chr (oneA l i).1 = false) : ztxt (l.drop i) = false := by
  rw [oneA_L l i (by omega)] at a
  have hl : (l.drop i).length = l.length - i := List.length_drop
  have hne : ¬ l.drop i = [] := fun e => by rw [e] at hl; simp at hl; omega
  obtain ⟨f, hf⟩ : ∃ f, (l.drop i).length = f + 1 := ⟨(l.drop i).length - 1, by omega⟩
  have e1 : ztxt (l.drop i) = ztxtF (f + 1) (l.drop i) := by unfold ztxt; rw [hf]
  rw [e1]
  show (if l.drop i = [] then true else if (oneL (l.drop i)).2.2 = true ∧ chrP (oneL (l.drop i)).1 then ztxtF f ((l.drop i).drop (oneL (l.drop i)).2.1) else false) = _
  rw [if_neg hne, if_neg]
  rintro ⟨p, q⟩
  rcases a with a | a
  · rw [a] at p; exact Bool.noConfusion p
  · exact of_decide_eq_false a q
theorem oneN_le (n b0 b1 b2 b3 : Nat) (h : 1 ≤ n) : (oneN n b0 b1 b2 b3).2.1 ≤ n := by
  unfold oneN
  repeat' split
  all_goals dsimp only
  all_goals omega
theorem oneA_le {l : List UInt8} {i : Nat} (h : i < l.length) : i + (oneA l i).2.1 ≤ l.length := by
  have := oneN_le (l.length - i) (l.getD i 0).toNat (l.getD (i + 1) 0).toNat (l.getD (i + 2) 0).toNat (l.getD (i + 3) 0).toNat (by omega)
  unfold oneA
  omega
def CharsPost (l : List UInt8) (w : World) (e : Ending) (w' : World) : Prop := ∃ v, e = .returned (.tuple #[v, .bool (ztxt l)]) ∧ Below w.heap.size w w'
set_option maxHeartbeats 1000000 in
theorem chars_any (l : List UInt8) (hl : l.length ≤ 1048576) (w : World) : Calls Tryd.prog 44 #[.string ⟨l.toArray⟩] w (CharsPost l w) := by
  obtain ⟨z, hz⟩ : ∃ z, z = ztxt l := ⟨_, rfl⟩
  have HZ := Lib.hid hz
  have HP : Hid (∀ (v : Value) (w' : World), Below w.heap.size w w' → CharsPost l w (.returned (.tuple #[v, .bool z])) w') := Lib.hid (fun v w' h2 => ⟨v, by rw [hz], h2⟩)
  have HLEN := Lib.hid hl
  clear hz
  go_enter Tryd.func44, Tryd.ntmps44
  go_wp2_with fail
  go_loopg [4, 5] l.length (fun k v i wr => ∃ (t : Nat) (ds : List Int), t ≤ l.length ∧ k = l.length - t ∧ i = .int .i64 t ∧ wr.ownsRow w.heap.size 3 1 v ds.length (ds.map (Value.int .i64)) ∧ ds.length ≤ t ∧ Hid (z = ztxt (l.drop t)) ∧ Below w.heap.size w wr)
  case atStart => clear hl; exact ⟨0, [], by omega, by omega, rfl, World.ownsRow_nil _ _ _ _, by simp, Lib.hid (by rw [List.drop_zero]; exact HZ.out), by (repeat' (first | (with_reducible exact Below.refl _ _) | (with_reducible assumption) | (with_reducible refine Below.drew ?_) | (with_reducible refine below_drewN ?_ _) | ((with_reducible refine Below.alloc ?_ ?_ _); rotate_left; focus (go_size; done)) | ((with_reducible refine Below.setCell ?_ ?_ _); rotate_left; focus (go_size; done)) | ((with_reducible refine Below.trans ?_ (Below.mono (by with_reducible assumption) ?_)); rotate_left; focus (go_size; done))))⟩
  case round =>
    obtain ⟨t, ds, htl, hk, rfl, hown, hdl, HT, hbel⟩ := hrel
    have HK := Lib.hid hk
    have HDL := Lib.hid hdl
    clear hk hdl hl
    by_cases hlt : t < l.length
    · have HO := Lib.hid (chone_any l (by have := HLEN.out; omega) t hlt wr)
      have HLE := Lib.hid (oneA_le hlt)
      have HST := Lib.hid (fun a b => txt_step (l := l) (i := t) hlt a b)
      have HSP := Lib.hid (fun a => txt_stop (l := l) (i := t) hlt a)
      obtain ⟨c, hc⟩ : ∃ c, c = (oneA l t).1 := ⟨_, rfl⟩
      obtain ⟨m, hm⟩ : ∃ m, m = (oneA l t).2.1 := ⟨_, rfl⟩
      obtain ⟨ok, hok⟩ : ∃ ok, ok = (oneA l t).2.2 := ⟨_, rfl⟩
      rw [← hc, ← hm, ← hok] at HO
      rw [← hm] at HLE
      rw [← hc, ← hm, ← hok] at HST
      rw [← hc, ← hok] at HSP
      have HC := Lib.hid (rchar_any c wr)
      clear hc hm hok
      cases ok with
      | false =>
        have hz : z = false := by rw [HT.out]; exact HSP.out (.inl rfl)
        subst hz
        go_wp2_with fail
        refine HO.out.mono ?_
        rintro _ _ ⟨rfl, rfl⟩
        go_wp2_with fail
        go_ret2
        exact HP.out (.slice none 0 0) _ (by (repeat' (first | (with_reducible exact Below.refl _ _) | (with_reducible assumption) | (with_reducible refine Below.drew ?_) | (with_reducible refine below_drewN ?_ _) | ((with_reducible refine Below.alloc ?_ ?_ _); rotate_left; focus (go_size; done)) | ((with_reducible refine Below.setCell ?_ ?_ _); rotate_left; focus (go_size; done)) | ((with_reducible refine Below.trans ?_ (Below.mono (by with_reducible assumption) ?_)); rotate_left; focus (go_size; done)))))
      | true =>
        obtain ⟨y, hy⟩ : ∃ y, y = chr c := ⟨_, rfl⟩
        rw [← hy] at HC HST HSP
        clear hy
        cases y with
        | false =>
          have hz : z = false := by rw [HT.out]; exact HSP.out (.inr rfl)
          subst hz
          go_wp2_with fail
          refine HO.out.mono ?_
          rintro _ _ ⟨rfl, rfl⟩
          go_wp2_with fail
          refine HC.out.mono ?_
          rintro _ _ ⟨rfl, rfl⟩
          go_wp2_with fail
          go_ret2
          exact HP.out (.slice none 0 0) _ (by (repeat' (first | (with_reducible exact Below.refl _ _) | (with_reducible assumption) | (with_reducible refine Below.drew ?_) | (with_reducible refine below_drewN ?_ _) | ((with_reducible refine Below.alloc ?_ ?_ _); rotate_left; focus (go_size; done)) | ((with_reducible refine Below.setCell ?_ ?_ _); rotate_left; focus (go_size; done)) | ((with_reducible refine Below.trans ?_ (Below.mono (by with_reducible assumption) ?_)); rotate_left; focus (go_size; done)))))
        | true =>
          obtain ⟨h1, h2⟩ := HST.out rfl rfl
          have h3 := HLE.out
          have h4 : (t : Int) + (m : Int) ≤ 1048576 := by have := HLEN.out; omega
          have H1 := Lib.hid h1
          clear HST HSP h1
          go_wp2_with fail
          refine HO.out.mono ?_
          rintro _ _ ⟨rfl, rfl⟩
          go_wp2_with fail
          refine HC.out.mono ?_
          rintro _ wr ⟨rfl, rfl⟩
          go_wp2_with (at_builtin; refine wpList_push rfl (.tmp 27) (.tmp 29) rfl w.heap.size u4 ds rfl (hown.alloc _) wr.heap.size (t : Int) rfl ?hc ?hl ?hb ?_; rotate_left 3; intro v1 w1 hown1 hg1)
          case hc => simp [go_sem]
          case hl => have := HDL.out; have := HLEN.out; omega
          case hb => have := hbel.size; rw [World.size_alloc]; omega
          have hbp := below_push (hbel.alloc hbel.size _) (hown.alloc _) hg1 (by have := hbel.size; rw [World.size_alloc]; omega)
          go_wp2_with fail
          go_roundg (gk - m)
          case measure => have := HK.out; omega
          case rel => exact ⟨t + m, ds ++ [(t : Int)], h3, by have := HK.out; omega, by go_num, hown1, by rw [List.length_append, List.length_singleton]; have := HDL.out; omega, Lib.hid (by rw [HT.out, H1.out]), hbp⟩
    · obtain rfl : t = l.length := by omega
      have hz : z = true := by rw [HT.out, List.drop_length]; rfl
      subst hz
      clear hlt
      go_wp2_with (at_builtin; refine wpList_push rfl (.tmp 34) (.tmp 36) rfl w.heap.size u4 ds rfl (hown.alloc _) wr.heap.size (l.length : Int) rfl ?hc ?hl ?hb ?_; rotate_left 3; intro v1 w1 hown1 hg1)
      case hc => simp [go_sem]
      case hl => have := HDL.out; have := HLEN.out; omega
      case hb => have := hbel.size; rw [World.size_alloc]; omega
      have hbp := below_push (hbel.alloc hbel.size _) (hown.alloc _) hg1 (by have := hbel.size; rw [World.size_alloc]; omega)
      go_wp2_with fail
      go_ret2
      exact HP.out _ _ hbp
theorem rvalid_any (l : List UInt8) (hl : l.length ≤ 1048576) (w : World) : Calls Tryd.prog 34 #[.string ⟨l.toArray⟩] w fun e w' => e = .returned (.bool (ztxt l)) ∧ Below w.heap.size w w' := by
  have HC := Lib.hid (chars_any l hl w)
  obtain ⟨z, hz⟩ : ∃ z, z = ztxt l := ⟨_, rfl⟩
  unfold CharsPost at HC
  rw [← hz] at HC ⊢
  clear hz hl
  go_enter Tryd.func34, Tryd.ntmps34
  go_wp2_with fail
  refine HC.out.mono ?_
  rintro _ w1 ⟨v, rfl, hb⟩
  go_wp2_with fail
  go_ret
  exact ⟨rfl, hb⟩
end Go.Proofs.YtanjbdhjnmmfdaaDoor

set_option linter.unusedSimpArgs false
set_option linter.unusedVariables false
namespace Go.Proofs.YtanjbdhjnmmfdaaDoor
open Go.RowKit

/-- the size in units of 10^-18 -/
def unit (c s : Nat) : Nat := c * 10 ^ (18 - s)
def sgn (an : Bool) (x : Nat) (bn : Bool) (y : Nat) : Bool := if an = bn then an else if y ≤ x then an else bn
def sab (an : Bool) (x : Nat) (bn : Bool) (y : Nat) : Nat := if an = bn then x + y else if y ≤ x then x - y else y - x
theorem sgn_scale (an bn : Bool) (x y k : Nat) (hk : 0 < k) : sgn an (x * k) bn (y * k) = sgn an x bn y := by
  unfold sgn
  have e : y * k ≤ x * k ↔ y ≤ x := Nat.mul_le_mul_right_iff hk
  simp only [e]
theorem sab_scale (an bn : Bool) (x y k : Nat) (hk : 0 < k) : sab an (x * k) bn (y * k) = sab an x bn y * k := by
  unfold sab
  have e : y * k ≤ x * k ↔ y ≤ x := Nat.mul_le_mul_right_iff hk
  simp only [e]
  split
  · rw [Nat.add_mul]
  · split <;> rw [Nat.sub_mul]
theorem unit_split (c s m : Nat) (h : s ≤ m) (h18 : m ≤ 18) : unit c s = c * 10 ^ (m - s) * 10 ^ (18 - m) := by
  unfold unit
  rw [Nat.mul_assoc, ← Nat.pow_add]; congr 2; omega
theorem unit_lt {c s : Nat} (h : c < B34) : unit c s < 10 ^ 52 := by
  unfold unit
  have h1 : c * 10 ^ (18 - s) ≤ c * 10 ^ 18 := Nat.mul_le_mul_left _ (Nat.pow_le_pow_right (by decide) (by omega))
  have h2 : c * 10 ^ 18 < B34 * 10 ^ 18 := Nat.mul_lt_mul_of_pos_right h (by decide)
  have h3 : B34 * 10 ^ 18 = 10 ^ 52 := by unfold B34; decide
  omega
theorem scaled_lt {c s m : Nat} (h : c < B34) (hm : m ≤ 18) : c * 10 ^ (m - s) < 10 ^ 52 := by
  have h1 : c * 10 ^ (m - s) ≤ c * 10 ^ 18 := Nat.mul_le_mul_left _ (Nat.pow_le_pow_right (by decide) (by omega))
  have h2 : c * 10 ^ 18 < B34 * 10 ^ 18 := Nat.mul_lt_mul_of_pos_right h (by decide)
  have h3 : B34 * 10 ^ 18 = 10 ^ 52 := by unfold B34; decide
  omega
theorem sab_le (an bn : Bool) (x y : Nat) : sab an x bn y ≤ x + y := by unfold sab; split; omega; split <;> omega
/-- a fraction of a power of ten, in other units -/
theorem fit_units (u m : Nat) (h : m ≤ 18) : FitC (u * 10 ^ (18 - m)) (10 ^ 18) = FitC u (10 ^ m) ∧ FitS (u * 10 ^ (18 - m)) (10 ^ 18) = FitS u (10 ^ m) ∧ FitE (u * 10 ^ (18 - m)) (10 ^ 18) = FitE u (10 ^ m) := by
  have e : 10 ^ 18 = 10 ^ m * 10 ^ (18 - m) := by rw [← Nat.pow_add]; congr 1; omega
  rw [e]
  exact fit_scale u (10 ^ m) (10 ^ (18 - m)) (Nat.pow_pos (by decide))
theorem sum_units (an bn : Bool) (ca cb sa sb m : Nat) (ha : sa ≤ m) (hb : sb ≤ m) (h : m ≤ 18) :
    sgn an (unit ca sa) bn (unit cb sb) = sgn an (ca * 10 ^ (m - sa)) bn (cb * 10 ^ (m - sb)) ∧ sab an (unit ca sa) bn (unit cb sb) = sab an (ca * 10 ^ (m - sa)) bn (cb * 10 ^ (m - sb)) * 10 ^ (18 - m) := by
  rw [unit_split ca sa m ha h, unit_split cb sb m hb h]
  have hp : 0 < 10 ^ (18 - m) := Nat.pow_pos (by decide)
  exact ⟨sgn_scale _ _ _ _ _ hp, sab_scale _ _ _ _ _ hp⟩
/-- the order -/
def ordD (an : Bool) (x : Nat) (bn : Bool) (y : Nat) : Int := if an = bn then (if an = true then cmpN y x else cmpN x y) else if an = true then -1 else 1
theorem cmpN_scale (x y k : Nat) (hk : 0 < k) : cmpN (x * k) (y * k) = cmpN x y := by
  unfold cmpN
  have e1 : x * k = y * k ↔ x = y := Nat.mul_left_inj (Nat.ne_of_gt hk)
  have e2 : x * k < y * k ↔ x < y := Nat.mul_lt_mul_right hk
  simp only [e1, e2]
theorem ordD_scale (an bn : Bool) (x y k : Nat) (hk : 0 < k) : ordD an (x * k) bn (y * k) = ordD an x bn y := by
  unfold ordD; rw [cmpN_scale _ _ _ hk, cmpN_scale _ _ _ hk]
theorem ord_units (an bn : Bool) (ca cb sa sb m : Nat) (ha : sa ≤ m) (hb : sb ≤ m) (h : m ≤ 18) :
    ordD an (unit ca sa) bn (unit cb sb) = ordD an (ca * 10 ^ (m - sa)) bn (cb * 10 ^ (m - sb)) := by
  rw [unit_split ca sa m ha h, unit_split cb sb m hb h]
  exact ordD_scale _ _ _ _ _ (Nat.pow_pos (by decide))
/-- the difference's sign is the order -/
theorem ord_sum (an bn : Bool) (x y : Nat) (ha : x = 0 → an = false) (hb : y = 0 → bn = false) :
    ordD an x bn y = if sab an x (!bn) y = 0 then 0 else if sgn an x (!bn) y = true then -1 else 1 := by
  cases an <;> cases bn <;> simp [ordD, sab, sgn, cmpN] at * <;> (repeat' split) <;> omega
end Go.Proofs.YtanjbdhjnmmfdaaDoor

set_option linter.unusedSimpArgs false
set_option linter.unusedVariables false
namespace Go.Proofs.YtanjbdhjnmmfdaaDoor
open Go.RowKit

theorem mod_fit {N : Nat} (h : N < 2 ^ 128) : N % 2 ^ 256 = N := Nat.mod_eq_of_lt (Nat.lt_trans h (by decide))
theorem cmp_top {xs ys : List Int} (hx : Digs xs) (hy : Digs ys) (k : Nat) (h1 : k < xs.length) (h2 : k < ys.length) (he : xs.length = ys.length) (heq : xs.drop (k + 1) = ys.drop (k + 1)) (hlt : xs.getD k 0 < ys.getD k 0) : dval xs < dval ys := by
  have a := dval_append (xs.take k) (xs.drop k)
  have b := dval_append (ys.take k) (ys.drop k)
  rw [List.take_append_drop, List.length_take, Nat.min_eq_left (by omega), dval_drop xs k h1] at a
  rw [List.take_append_drop, List.length_take, Nat.min_eq_left (by omega), dval_drop ys k h2, ← heq] at b
  have ba := dval_bd (hx.take k)
  have bb := dval_bd (hy.take k)
  rw [List.length_take, Nat.min_eq_left (by omega)] at ba bb
  have hp := ten_pos k
  generalize dval (xs.drop (k + 1)) = T at *
  have hm : (10 : Int) ^ k * (xs.getD k 0 + 10 * T) + 10 ^ k ≤ 10 ^ k * (ys.getD k 0 + 10 * T) := by
    have : (10 : Int) ^ k * (xs.getD k 0 + 10 * T + 1) ≤ 10 ^ k * (ys.getD k 0 + 10 * T) := Int.mul_le_mul_of_nonneg_left (by omega) (by omega)
    rw [Int.mul_add, Int.mul_one] at this
    exact this
  omega
theorem cmp_long {xs ys : List Int} {n m : Nat} (hx : IsDg xs n) (hy : IsDg ys m) (h : xs.length < ys.length) : n < m := by
  have h1 := hx.lt_of_len (k := ys.length - 1) (by omega)
  have h2 := hy.le_of_ne (by intro e; subst e; simp at h)
  omega
end Go.Proofs.YtanjbdhjnmmfdaaDoor

set_option linter.unusedSimpArgs false
set_option linter.unusedVariables false
namespace Go.Proofs.YtanjbdhjnmmfdaaDoor
open Go.RowKit

theorem zrow_own (w : World) (n : Nat) (hn : n ≤ 1000000) : (w.alloc (.cells (zrow n).toArray 3)).ownsRow w.heap.size 3 1 (.slice (some ⟨w.heap.size, 0, none⟩) n n) (List.replicate n (0 : Int)).length ((List.replicate n (0 : Int)).map (Value.int .i64)) := by
  refine ⟨by simp, .inr ⟨w.heap.size, n, (zrow n).toArray, by simp, Nat.le_refl _, heap_alloc_new w _, by simp, by unfold maxLen; omega, by simp [zrow], by simp [zrow]⟩⟩
theorem IsDg.shift {l : List Int} {n : Nat} (h : IsDg l n) (hne : l ≠ []) (k : Nat) : IsDg (List.replicate k 0 ++ l) (n * 10 ^ k) := by
  refine ⟨(Digs.zeros k).append h.1, ?_, ?_⟩
  · have ht := h.2.1
    obtain ⟨i, x, rfl⟩ : ∃ i x, l = i ++ [x] := ⟨l.dropLast, l.getLast hne, (List.dropLast_concat_getLast hne).symm⟩
    unfold Top at *
    rw [← List.append_assoc]
    simpa using ht
  · rw [dval_append, dval_replicate, List.length_replicate, h.2.2, Int.zero_add, Int.natCast_mul, Int.natCast_pow, Int.mul_comm]; rfl
theorem dval_take_any (l : List Int) (n : Nat) : dval (l.take (n + 1)) = dval (l.take n) + 10 ^ n * l.getD n 0 := by
  by_cases h : n < l.length
  · exact dval_take_succ l n h
  · rw [List.take_of_length_le (by omega), List.take_of_length_le (by omega), List.getD_eq_getElem?_getD, List.getElem?_eq_none (by omega)]
    simp
theorem getD_past (l : List Int) (n : Nat) (h : l.length ≤ n) : l.getD n 0 = 0 := by
  rw [List.getD_eq_getElem?_getD, List.getElem?_eq_none h]; rfl
theorem plus_step (ds : List Int) (cc s : Int) (n : Nat) (xs ys : List Int) (hv : dval ds + 10 ^ n * cc = dval (xs.take n) + dval (ys.take n)) (hs : s = cc + xs.getD n 0 + ys.getD n 0) (hl : ds.length = n) :
    dval (ds ++ [s % 10]) + 10 ^ (n + 1) * (s / 10) = dval (xs.take (n + 1)) + dval (ys.take (n + 1)) := by
  rw [dval_snoc, hl, dval_take_any, dval_take_any, Int.pow_succ]
  have e1 := carry_step (10 ^ n) s
  have e2 : (10 : Int) ^ n * s = 10 ^ n * cc + 10 ^ n * xs.getD n 0 + 10 ^ n * ys.getD n 0 := by rw [hs, Int.mul_add, Int.mul_add]
  omega
end Go.Proofs.YtanjbdhjnmmfdaaDoor

set_option linter.unusedSimpArgs false
set_option linter.unusedVariables false
namespace Go.Proofs.YtanjbdhjnmmfdaaDoor
open Go.RowKit

theorem own_bk {w : World} {base : Nat} {v : Value} {xs : List Int} (h : w.ownsRow base 3 1 v xs.length (xs.map (Value.int .i64))) (hne : xs ≠ []) :
    ∃ g cap rest, v = .slice (some ⟨g, 0, none⟩) xs.length cap ∧ base ≤ g ∧ Bk w g 3 (xs.map (Value.int .i64) ++ rest) ∧ xs.length ≤ cap := by
  rcases h.2 with ⟨_, hn⟩ | ⟨g, cap, cur, rfl, hg, hh, r1, r2, r3, r4⟩
  · exact absurd (List.length_eq_zero_iff.1 hn) hne
  · refine ⟨g, cap, cur.toList.drop xs.length, rfl, hg, ?_, r1⟩
    unfold Bk
    rw [Nat.mul_one] at r4
    rw [← r4, List.take_append_drop]
    simpa using hh
theorem bk_at {w : World} {g : Nat} {zs : List Int} {rest : List Value} (h : Bk w g 3 (zs.map (Value.int .i64) ++ rest)) {k : Nat} (hk : k < zs.length) : w.cell? ⟨g, k, none⟩ = some (.int .i64 (zs.getD k 0)) := by
  refine h.cell _ ?_
  rw [List.getElem?_append_left (by simpa using hk), List.getElem?_map, List.getElem?_eq_getElem hk, getD_lt _ _ hk]; rfl
theorem bk_set {w : World} {g : Nat} {zs : List Int} {rest : List Value} (h : Bk w g 3 (zs.map (Value.int .i64) ++ rest)) {k : Nat} (hk : k < zs.length) (x : Int) : Bk (w.setCell ⟨g, k, none⟩ (.int .i64 x)) g 3 ((zs.set k x).map (Value.int .i64) ++ rest) := by
  have := h.set_ k (.int .i64 x)
  rwa [List.set_append_left _ _ (by simpa using hk), ← List.map_set] at this
theorem IsSl.of_bk2 {w : World} {g : Nat} {ds : List Int} {rest : List Value} {n c : Nat} (h : Bk w g 3 (ds.map (Value.int .i64) ++ rest)) (hn : ds.length = n) (hc : n ≤ c) : IsSl w (.slice (some ⟨g, 0, none⟩) n c) ds := by
  subst hn
  refine ⟨_, c, rfl, hc, fun hne => ⟨g, 0, _, rfl, h, fun j hj => ?_⟩⟩
  rw [Nat.zero_add, List.getElem?_append_left (by simpa using hj), List.getElem?_map, List.getElem?_eq_getElem hj, getD_lt _ _ hj]; rfl
theorem getD_set (l : List Int) (k j : Nat) (x : Int) (hk : k < l.length) : (l.set k x).getD j 0 = if j = k then x else l.getD j 0 := by
  rw [List.getD_eq_getElem?_getD, List.getElem?_set]
  by_cases h : j = k
  · subst h; rw [if_pos rfl, if_pos rfl, if_pos hk]; rfl
  · rw [if_neg (fun e => h e.symm), if_neg h, List.getD_eq_getElem?_getD]
theorem dval_set (l : List Int) (k : Nat) (x : Int) (hk : k < l.length) : dval (l.set k x) = dval l + 10 ^ k * (x - l.getD k 0) := by
  have a := dval_append (l.take k) (l.drop k)
  rw [List.take_append_drop, List.length_take, Nat.min_eq_left (by omega), dval_drop l k hk] at a
  have b := dval_append ((l.set k x).take k) ((l.set k x).drop k)
  rw [List.take_append_drop, List.length_take, List.length_set, Nat.min_eq_left (by omega), drop_set _ _ _ hk, List.take_set_of_le (by omega)] at b
  rw [a, b]
  show _ + 10 ^ k * (x + 10 * dval (l.drop (k + 1))) = _
  rw [Int.mul_add, Int.mul_add, Int.mul_sub]
  omega
theorem len_mono {xs ys : List Int} {n m : Nat} (hx : IsDg xs n) (hy : IsDg ys m) (h : m ≤ n) : ys.length ≤ xs.length := by
  rcases Nat.lt_or_ge xs.length ys.length with hlt | hge
  · have := cmp_long hx hy hlt; omega
  · exact hge
/-- behind the second loop all are digits: the value is not below nought -/
theorem digs_end (zs : List Int) (L : Nat) (hL : zs.length = L + 1) (h0 : ∀ j, j < L → 0 ≤ zs.getD j 0) (h9 : ∀ j, zs.getD j 0 ≤ 9) (hv : 0 ≤ dval zs) : Digs zs := by
  have hd : Digs (zs.take L) := by
    intro d hd
    obtain ⟨i, hi, rfl⟩ := List.getElem_of_mem hd
    rw [List.length_take] at hi
    rw [List.getElem_take, ← getD_lt _ _ (by omega)]
    exact ⟨h0 i (by omega), h9 i⟩
  have e := dval_take_succ zs L (by omega)
  rw [List.take_of_length_le (by omega)] at e
  have hb := dval_bd hd
  rw [List.length_take, Nat.min_eq_left (by omega)] at hb
  have htop : 0 ≤ zs.getD L 0 := by
    rcases Int.lt_or_le (zs.getD L 0) 0 with hlt | hge
    · have hm : (10 : Int) ^ L * zs.getD L 0 ≤ 10 ^ L * (-1) := Int.mul_le_mul_of_nonneg_left (by omega) (Int.le_of_lt (ten_pos L))
      omega
    · exact hge
  intro d hd'
  obtain ⟨i, hi, rfl⟩ := List.getElem_of_mem hd'
  rw [← getD_lt _ _ hi]
  by_cases hi2 : i < L
  · exact ⟨h0 i hi2, h9 i⟩
  · have : i = L := by omega
    subst this
    exact ⟨htop, h9 i⟩
end Go.Proofs.YtanjbdhjnmmfdaaDoor

set_option linter.unusedSimpArgs false
set_option linter.unusedVariables false
namespace Go.Proofs.YtanjbdhjnmmfdaaDoor
open Go.RowKit

theorem empty_own (w : World) : (w.alloc (.cells #[] 3)).ownsRow w.heap.size 3 1 (.slice (some ⟨w.heap.size, 0, none⟩) 0 0) ([] : List Int).length (([] : List Int).map (Value.int .i64)) :=
  World.ownsRow_made w #[] 0 (Nat.le_refl _) (by unfold maxLen; omega) (by simp)
/-- the digits of n, in memory of its own -/
def RetNew (n : Nat) (w : World) (e : Ending) (w' : World) : Prop := ∃ v, e = .returned v ∧ New w.heap.size v ∧ Dg w' v n ∧ Below w.heap.size w w'
end Go.Proofs.YtanjbdhjnmmfdaaDoor

set_option linter.unusedSimpArgs false
set_option linter.unusedVariables false
namespace Go.Proofs.YtanjbdhjnmmfdaaDoor
open Go.RowKit

/-- the digits n of xs lie above place k: what they are -/
theorem quo_head {xs : List Int} {N : Nat} (h : IsDg xs N) (k : Nat) (hk : k < xs.length) : N / 10 ^ k = 10 * (N / 10 ^ (k + 1)) + (xs.getD k 0).toNat := by
  have hd := dval_digit h.1 k hk
  have hg := h.get k
  rw [h.2.2] at hd
  have e : ((N / 10 ^ k % 10 : Nat) : Int) = xs.getD k 0 := by
    rw [hd, Int.natCast_emod, Int.natCast_ediv, Int.natCast_pow]; rfl
  have e2 : (xs.getD k 0).toNat = N / 10 ^ k % 10 := by rw [← e]; rfl
  rw [e2, Nat.pow_succ, ← Nat.div_div_eq_div_mul]
  omega
theorem quo_top {xs : List Int} {N : Nat} (h : IsDg xs N) : N / 10 ^ xs.length = 0 := Nat.div_eq_of_lt (h.lt_of_len (Nat.le_refl _))
/-- one digit more of the quotient -/
theorem quo_step (P M d t r : Nat) (hM : 0 < M) (hr : r < M) (h : 10 * (P % M) + d = t * M + r) : (10 * P + d) / M = 10 * (P / M) + t ∧ (10 * P + d) % M = r := by
  have e : 10 * P + d = r + M * (10 * (P / M) + t) := by
    have h1 := Nat.div_add_mod P M
    rw [Nat.mul_add, Nat.mul_comm M t, Nat.mul_left_comm]
    omega
  rw [e, Nat.add_mul_div_left _ _ hM, Nat.div_eq_of_lt hr, Nat.zero_add, Nat.add_mul_mod_self_left, Nat.mod_eq_of_lt hr]
  exact ⟨rfl, rfl⟩
theorem cons_dg {l : List Int} {n : Nat} (h : IsDg l n) (d : Int) (h0 : 0 ≤ d) (h9 : d ≤ 9) : Digs (d :: l) ∧ dval (d :: l) = ((10 * n + d.toNat : Nat) : Int) := by
  refine ⟨fun x hx => ?_, ?_⟩
  · rcases List.mem_cons.1 hx with rfl | hx
    · exact ⟨h0, h9⟩
    · exact h.1 x hx
  · simp only [dval, h.2.2]; omega
theorem below_trans_drewN {w w' : World} {n : Nat} (h : Below (w.drewN n).heap.size (w.drewN n) w') : Below w.heap.size w w' := (below_drewN (Below.refl _ w) n).trans h
theorem one_own (w : World) (d : Int) (hb : Bk w w.heap.size 3 [.int .i64 d]) : True := trivial
def RetTwo (n m : Nat) (w : World) (e : Ending) (w' : World) : Prop := ∃ u v, e = .returned (.tuple #[u, v]) ∧ Dg w' u n ∧ Dg w' v m ∧ Below w.heap.size w w'
theorem own_of_bk1 {w : World} {g B : Nat} {d : Int} (hg : B ≤ g) (h : Bk w g 3 [.int .i64 d]) : w.ownsRow B 3 1 (.slice (some ⟨g, 0, none⟩) 1 1) ([d] : List Int).length (([d] : List Int).map (Value.int .i64)) := by
  refine ⟨by simp, .inr ⟨g, 1, #[.int .i64 d], by simp, hg, h, by simp, by unfold maxLen; omega, by simp, by simp⟩⟩
end Go.Proofs.YtanjbdhjnmmfdaaDoor

set_option linter.unusedSimpArgs false
set_option linter.unusedVariables false
namespace Go.Proofs.YtanjbdhjnmmfdaaDoor
open Go.RowKit

theorem IsDg.one : IsDg [1] 1 := ⟨by intro d hd; rw [List.mem_singleton.1 hd]; decide, by simp [Top], rfl⟩
theorem dg_one {w : World} {g : Nat} (h : Bk w g 3 [.int .i64 1]) : Dg w (.slice (some ⟨g, 0, none⟩) 1 1) 1 :=
  ⟨[1], IsSl.of_bk (ds := [1]) h rfl (Nat.le_refl _), IsDg.one⟩
theorem near_up (N M : Nat) (h : M < N % M + N % M ∨ (N % M + N % M = M ∧ N / M % 2 = 1)) : near N M = N / M + 1 := by
  unfold near; rw [if_pos (by omega)]
theorem near_stay (N M : Nat) (h : N % M + N % M < M ∨ (N % M + N % M = M ∧ N / M % 2 = 0)) : near N M = N / M := by
  unfold near; rw [if_neg (by omega)]; rfl
theorem dg_first {w : World} {v : Value} {n : Nat} (h : Dg w v n) (hn : n ≠ 0) : ∃ g o k c, v = .slice (some ⟨g, o, none⟩) (k + 1) c ∧ k + 1 ≤ c ∧ w.cell? ⟨g, o, none⟩ = some (.int .i64 ((n % 10 : Nat) : Int)) ∧ g < w.heap.size := by
  obtain ⟨xs, ⟨A, c, rfl, hc, hs⟩, hd⟩ := h
  have hz := hd.zero_iff
  obtain ⟨k, hk⟩ : ∃ k, xs.length = k + 1 := ⟨xs.length - 1, by omega⟩
  obtain ⟨g, o, rfl, hg, hcell⟩ := hs.at_ (k := 0) (by omega)
  refine ⟨g, o, k, c, by rw [hk], by omega, ?_, hg⟩
  rw [Nat.add_zero] at hcell
  rw [hcell, dval_digit hd.1 0 (by omega), hd.2.2, Int.pow_zero, Int.ediv_one]
  rfl
/-- a bound that is a little nearer -/
def Tiny (n : Nat) : Prop := True → n < 10 ^ 999
theorem ten_lt (a b : Nat) (h : a < b) : (10 : Nat) ^ a < 10 ^ b := Nat.pow_lt_pow_right (by decide) h
theorem one_lt_ten (a : Nat) (h : 0 < a) : 1 < (10 : Nat) ^ a := Nat.one_lt_pow (by omega) (by decide)
theorem ten_next (a b : Nat) (h : b = a + 1) : (10 : Nat) ^ b = 10 * 10 ^ a := by rw [h, Nat.pow_succ, Nat.mul_comm]
theorem small_add {n m : Nat} (hn : Tiny n) (hm : Tiny m) : Small (n + m) := by
  intro _
  have e := ten_next 999 1000 rfl
  have h1 := hn trivial
  have h2 := hm trivial
  rw [e]
  generalize (10 : Nat) ^ 999 = T at *
  omega
theorem Tiny.of_le {n m : Nat} (h : Tiny n) (hm : m ≤ n) : Tiny m := fun t => Nat.lt_of_le_of_lt hm (h t)
theorem Tiny.small {n : Nat} (h : Tiny n) : Small n := fun t => Nat.lt_trans (h t) (ten_lt 999 1000 (by decide))
theorem near_le (N M : Nat) : near N M ≤ N + 1 := by
  unfold near
  have := Nat.div_le_self N M
  split <;> omega
end Go.Proofs.YtanjbdhjnmmfdaaDoor

set_option linter.unusedSimpArgs false
set_option linter.unusedVariables false
namespace Go.Proofs.YtanjbdhjnmmfdaaDoor
open Go.RowKit

theorem ten_le (a b : Nat) (h : a ≤ b) : (10 : Nat) ^ a ≤ 10 ^ b := Nat.pow_le_pow_right (by decide) h
theorem lt_256_tiny {N : Nat} (h : N < 2 ^ 256) : Tiny N := fun _ => by
  have h1 : (2 : Nat) ^ 256 ≤ 10 ^ 78 := by decide
  exact Nat.lt_of_lt_of_le h (Nat.le_trans h1 (ten_le 78 999 (by decide)))
theorem ten_tiny {k : Nat} (h : k < 999) : Tiny (10 ^ k) := fun _ => ten_lt k 999 h
theorem small_one : Small 1 := fun _ => one_lt_ten 1000 (by decide)
theorem near_small {N : Nat} (h : Tiny N) (M : Nat) : Small (near N M) := (small_add h (fun _ => one_lt_ten 999 (by decide))).of_le (near_le N M)
end Go.Proofs.YtanjbdhjnmmfdaaDoor

set_option linter.unusedSimpArgs false
set_option linter.unusedVariables false
namespace Go.Proofs.YtanjbdhjnmmfdaaDoor
open Go.RowKit

theorem mul_bd {d e : Int} (d0 : 0 ≤ d) (d9 : d ≤ 9) (e0 : 0 ≤ e) (e9 : e ≤ 9) : 0 ≤ d * e ∧ d * e ≤ 81 :=
  ⟨Int.mul_nonneg d0 e0, by have h := Int.mul_le_mul d9 e9 e0 (by omega : (0 : Int) ≤ 9); omega⟩
/-- where no place is below nought, the top place times its weight is not above the value -/
theorem dval_top_le (zs : List Int) (L : Nat) (hL : zs.length = L + 1) (h0 : ∀ j, 0 ≤ zs.getD j 0) : 10 ^ L * zs.getD L 0 ≤ dval zs := by
  have a := dval_append (zs.take L) (zs.drop L)
  rw [List.take_append_drop, List.length_take, Nat.min_eq_left (by omega), dval_drop zs L (by omega), List.drop_of_length_le (by omega)] at a
  have hb : 0 ≤ dval (zs.take L) := by
    have key : ∀ l : List Int, (∀ d ∈ l, 0 ≤ d) → 0 ≤ dval l := by
      intro l
      induction l with
      | nil => intro _; simp [dval]
      | cons d r ih =>
        intro h
        have h1 := h d List.mem_cons_self
        have h2 := ih fun x hx => h x (List.mem_cons_of_mem _ hx)
        simp only [dval]; omega
    refine key _ fun d hd => ?_
    obtain ⟨i, hi, rfl⟩ := List.getElem_of_mem hd
    rw [List.length_take] at hi
    rw [List.getElem_take, ← getD_lt _ _ (by omega)]
    exact h0 i
  rw [a]
  show _ ≤ dval (zs.take L) + 10 ^ L * (zs.getD L 0 + 10 * dval [])
  simp only [dval]
  have e : zs.getD L 0 + 10 * 0 = zs.getD L 0 := by omega
  rw [e]; omega
theorem digs_of (zs : List Int) (h : ∀ j, j < zs.length → 0 ≤ zs.getD j 0 ∧ zs.getD j 0 ≤ 9) : Digs zs := by
  intro d hd
  obtain ⟨i, hi, rfl⟩ := List.getElem_of_mem hd
  rw [← getD_lt _ _ hi]
  exact h i hi
theorem IsDg.getD_zero {l : List Int} {n : Nat} (h : IsDg l n) (j : Nat) : 0 ≤ l.getD j 0 ∧ l.getD j 0 ≤ 9 := h.get j
theorem rep_getD (n j : Nat) : (List.replicate n (0 : Int)).getD j 0 = 0 := by
  rw [List.getD_eq_getElem?_getD, List.getElem?_replicate]
  split <;> rfl
end Go.Proofs.YtanjbdhjnmmfdaaDoor

set_option linter.unusedSimpArgs false
set_option linter.unusedVariables false
namespace Go.Proofs.YtanjbdhjnmmfdaaDoor
open Go.RowKit

theorem lt_128_tiny {N : Nat} (h : N < 2 ^ 128) : Tiny N := lt_256_tiny (Nat.lt_of_lt_of_le h (Nat.pow_le_pow_right (by decide) (by decide)))
theorem mul_lt_256 {n m : Nat} (hn : n < 2 ^ 128) (hm : m < 2 ^ 128) : n * m < 2 ^ 256 := by
  have h := Nat.mul_lt_mul'' hn hm
  rwa [← Nat.pow_add] at h
end Go.Proofs.YtanjbdhjnmmfdaaDoor

set_option linter.unusedSimpArgs false
set_option linter.unusedVariables false
namespace Go.Proofs.YtanjbdhjnmmfdaaDoor
open Go.RowKit

/-- the digits' slice: empty at nought alone -/
theorem dg_len {w : World} {v : Value} {n : Nat} (h : Dg w v n) : ∃ (A : Option Addr) (k c : Nat), v = .slice A k c ∧ (k = 0 ↔ n = 0) ∧ k ≤ c := by
  obtain ⟨xs, ⟨A, c, rfl, hc, hs⟩, hd⟩ := h
  exact ⟨A, xs.length, c, rfl, hd.zero_iff, hc⟩
end Go.Proofs.YtanjbdhjnmmfdaaDoor

set_option linter.unusedSimpArgs false
set_option linter.unusedVariables false
namespace Go.Proofs.YtanjbdhjnmmfdaaDoor
open Go.RowKit

theorem IsDg.drop_zeros {l : List Int} {N : Nat} (h : IsDg l N) (k : Nat) (hk : k ≤ l.length) (hz : ∀ j, j < k → l.getD j 0 = 0) : IsDg (l.drop k) (N / 10 ^ k) ∧ N = N / 10 ^ k * 10 ^ k := by
  have e := dval_append (l.take k) (l.drop k)
  rw [List.take_append_drop, List.length_take, Nat.min_eq_left hk] at e
  have hz0 : dval (l.take k) = 0 := dval_zeros (fun d hd => by
    obtain ⟨i, hi, rfl⟩ := List.getElem_of_mem hd
    rw [List.length_take] at hi
    rw [List.getElem_take, ← getD_lt _ _ (by omega)]
    exact hz i (by omega))
  rw [hz0, Int.zero_add, h.2.2] at e
  have hb := dval_bd (h.1.drop k)
  obtain ⟨V, hV⟩ : ∃ V : Nat, dval (l.drop k) = (V : Int) := ⟨(dval (l.drop k)).toNat, by omega⟩
  rw [hV] at e
  have e2 : N = 10 ^ k * V := by exact_mod_cast e
  have e3 : N / 10 ^ k = V := by rw [e2, Nat.mul_div_cancel_left _ (Nat.pow_pos (by decide))]
  refine ⟨⟨h.1.drop k, ?_, by rw [hV, e3]⟩, by rw [e3, Nat.mul_comm]; exact e2⟩
  have ht := h.2.1
  unfold Top at *
  by_cases hlt : k < l.length
  · rw [List.getLast?_drop, if_neg (by omega)]; exact ht
  · rw [List.drop_of_length_le (by omega)]; simp
theorem tz_dig {l : List Int} {N T k : Nat} (h : IsDg l N) (hz : IsTz N T k) : k < l.length ∧ (∀ j, j < k → l.getD j 0 = 0) ∧ l.getD k 0 ≠ 0 := by
  have hk : k < l.length := by
    rcases Nat.lt_or_ge k l.length with hk | hk
    · exact hk
    · exfalso
      have h1 := h.lt_of_len hk
      have h2 : 1 ≤ T := by
        rcases Nat.eq_zero_or_pos T with h0 | h0
        · subst h0; exact absurd rfl hz.2
        · exact h0
      have h3 : 10 ^ k ≤ N := by rw [hz.1]; exact Nat.le_mul_of_pos_left _ h2
      omega
  have hd : ∀ j, j < l.length → l.getD j 0 = ((N / 10 ^ j % 10 : Nat) : Int) := fun j hj => by
    rw [dval_digit h.1 j hj, h.2.2, Int.natCast_emod, Int.natCast_ediv, Int.natCast_pow]; rfl
  refine ⟨hk, fun j hj => by rw [hd j (by omega), hz.mod_lt hj]; rfl, ?_⟩
  rw [hd k hk, hz.mod_eq]
  have := hz.2
  omega
theorem sl_drop {w : World} {g o t c : Nat} {xs : List Int} (h : Sl w (some ⟨g, o, none⟩) xs) (ht : t < xs.length) (hc : xs.length ≤ c) : IsSl w (.slice (some ⟨g, o + t, none⟩) (xs.length - t) (c - t)) (xs.drop t) := by
  refine ⟨_, _, by rw [List.length_drop], by rw [List.length_drop]; omega, fun _ => ?_⟩
  obtain ⟨g', o', cs, e, hb, hcs⟩ := h (by intro e; subst e; simp at ht)
  injection e with e
  injection e with e1 e2
  subst e1 e2
  refine ⟨g, o + t, cs, rfl, hb, fun j hj => ?_⟩
  rw [List.length_drop] at hj
  rw [Nat.add_assoc, hcs (t + j) (by omega), getD_lt _ _ (by omega), getD_lt _ _ (by rw [List.length_drop]; omega), List.getElem_drop]
end Go.Proofs.YtanjbdhjnmmfdaaDoor

set_option linter.unusedSimpArgs false
set_option linter.unusedVariables false
namespace Go.Proofs.YtanjbdhjnmmfdaaDoor
open Go.RowKit

theorem len_34 {l : List Int} {n : Nat} (h : IsDg l n) : l.length ≤ 34 ↔ n < B34 := ⟨fun hl => h.lt_of_len hl, fun hn => h.len_le hn⟩
theorem B34_small {n : Nat} (h : n < B34) : Tiny n := lt_128_tiny (Nat.lt_trans h B34_lt)
end Go.Proofs.YtanjbdhjnmmfdaaDoor

set_option linter.unusedSimpArgs false
set_option linter.unusedVariables false
namespace Go.Proofs.YtanjbdhjnmmfdaaDoor
open Go.RowKit

set_option maxHeartbeats 4000000 in
theorem rform_any (b : Bool) (c : Nat) (s : Int) (hc : c < 2 ^ 128) (w : World) : Calls Tryd.prog 33 #[.agg #[.bool b, .int .u64 (wd (c) 1), .int .u64 (wd (c) 0), .int .i64 s]] w fun e w' => e = .returned (.bool (dform b c s)) ∧ Below w.heap.size w w' := by
  have HO := Lib.hid (fun W => of_any c hc W)
  obtain ⟨x0, hx0⟩ : ∃ x, x = wd c 0 := ⟨_, rfl⟩
  obtain ⟨x1, hx1⟩ : ∃ x, x = wd c 1 := ⟨_, rfl⟩
  rw [← hx0, ← hx1] at HO
  rw [← hx0, ← hx1]
  obtain ⟨f, hf⟩ : ∃ f, f = dform b c s := ⟨_, rfl⟩
  rw [← hf]
  have HF := Far.mk hf
  clear hx0 hx1 hc hf
  go_enter Tryd.func33, Tryd.ntmps33
  go_wp2_with fail
  refine (HO.out _).mono ?_
  rintro _ w1 ⟨v1, rfl, d1, hb1⟩; have hb1s := hb1.size; (try simp only [World.size_alloc, World.size_setCell, World.size_drew, World.heap_drewN] at hb1s); obtain ⟨hb1c, hb1f⟩ := bcell hb1; (try have : w.heap.size < w1.heap.size := by omega); (try have : w.heap.size + 1 < w1.heap.size := by omega); (try have : w.heap.size + 1 + 1 < w1.heap.size := by omega); (try have : w.heap.size + 1 + 1 + 1 < w1.heap.size := by omega); have Hd1 := Lib.hid d1; clear d1
  have k0 : Bk w1 w.heap.size 26 [.bool b, .int .u64 x1, .int .u64 x0, .int .i64 s] := by (repeat (first | (with_reducible assumption) | ((with_reducible refine Bk.new_ ?_); (first | rfl | (simp only [World.size_alloc, World.size_setCell, World.size_drew, World.heap_drewN]; done))) | (with_reducible refine Bk.alloc ?_ _) | (with_reducible refine Bk.drew ?_) | (with_reducible refine Bk.drewN ?_ _) | ((with_reducible refine Bk.far ?_ ?_ _); rotate_left; focus (simp only []; omega)) | ((with_reducible refine Bk.below ?_ (by with_reducible assumption) ?_); rotate_left; focus (go_size; done))))
  have k0_0 := k0.cell 0 rfl
  have k0_1 := k0.cell 1 rfl
  have k0_2 := k0.cell 2 rfl
  have k0_3 := k0.cell 3 rfl
  have k0_4 := k0.frozen 0
  have k0_5 := k0.frozen 1
  have k0_6 := k0.frozen 2
  have k0_7 := k0.frozen 3
  have k0l := k0.lt
  have mb : Below w.heap.size w w1 := by (repeat' (first | (with_reducible exact Below.refl _ _) | (with_reducible assumption) | (with_reducible refine Below.drew ?_) | (with_reducible refine below_drewN ?_ _) | ((with_reducible refine Below.alloc ?_ ?_ _); rotate_left; focus (go_size; done)) | ((with_reducible refine Below.setCell ?_ ?_ _); rotate_left; focus (go_size; done)) | ((with_reducible refine Below.trans ?_ (Below.mono (by with_reducible assumption) ?_)); rotate_left; focus (go_size; done))))
  clear k0 hb1c hb1f hb1 hb1s
  obtain ⟨xs, ⟨A, k, rfl, hk, hs⟩, hd⟩ := Hd1.out
  have h34 := len_34 hd
  by_cases hb : c < B34
  · have hl : (xs.length : Int) ≤ 34 := by have := h34.2 hb; omega
    have hl' : ¬ (34 : Int) < (xs.length : Int) := by omega
    by_cases h0 : s < 0
    · have e := HF.out
      rw [dform_neg h0] at e
      subst e
      clear hb h34 hk hs hd
      go_wp2_with fail
      go_ret
      exact ⟨rfl, by (repeat' (first | (with_reducible exact Below.refl _ _) | (with_reducible assumption) | (with_reducible refine Below.drew ?_) | (with_reducible refine below_drewN ?_ _) | ((with_reducible refine Below.alloc ?_ ?_ _); rotate_left; focus (go_size; done)) | ((with_reducible refine Below.setCell ?_ ?_ _); rotate_left; focus (go_size; done)) | ((with_reducible refine Below.trans ?_ (Below.mono (by with_reducible assumption) ?_)); rotate_left; focus (go_size; done))))⟩
    · by_cases h1 : 18 < s
      · have e := HF.out
        rw [dform_deep h1] at e
        subst e
        clear hb h34 hk hs hd
        go_wp2_with fail
        go_ret
        exact ⟨rfl, by (repeat' (first | (with_reducible exact Below.refl _ _) | (with_reducible assumption) | (with_reducible refine Below.drew ?_) | (with_reducible refine below_drewN ?_ _) | ((with_reducible refine Below.alloc ?_ ?_ _); rotate_left; focus (go_size; done)) | ((with_reducible refine Below.setCell ?_ ?_ _); rotate_left; focus (go_size; done)) | ((with_reducible refine Below.trans ?_ (Below.mono (by with_reducible assumption) ?_)); rotate_left; focus (go_size; done))))⟩
      · have e := HF.out
        rw [dform_in hb (by omega) (by omega)] at e
        by_cases hz : c = 0
        · rw [if_pos hz] at e
          have hl0 : xs.length = 0 := hd.zero_iff.2 hz
          have E := Lib.hid e
          clear hb h34 hk hs hd hz e HF
          rw [hl0]
          cases b
          · go_wp2_with fail
            go_ret
            exact ⟨ret_bool (by rw [E.out]; simp; first | rfl | omega | (rw [Bool.eq_iff_iff]; simp)), by (repeat' (first | (with_reducible exact Below.refl _ _) | (with_reducible assumption) | (with_reducible refine Below.drew ?_) | (with_reducible refine below_drewN ?_ _) | ((with_reducible refine Below.alloc ?_ ?_ _); rotate_left; focus (go_size; done)) | ((with_reducible refine Below.setCell ?_ ?_ _); rotate_left; focus (go_size; done)) | ((with_reducible refine Below.trans ?_ (Below.mono (by with_reducible assumption) ?_)); rotate_left; focus (go_size; done))))⟩
          · go_wp2_with fail
            go_ret
            exact ⟨ret_bool (by rw [E.out]; rfl), by (repeat' (first | (with_reducible exact Below.refl _ _) | (with_reducible assumption) | (with_reducible refine Below.drew ?_) | (with_reducible refine below_drewN ?_ _) | ((with_reducible refine Below.alloc ?_ ?_ _); rotate_left; focus (go_size; done)) | ((with_reducible refine Below.setCell ?_ ?_ _); rotate_left; focus (go_size; done)) | ((with_reducible refine Below.trans ?_ (Below.mono (by with_reducible assumption) ?_)); rotate_left; focus (go_size; done))))⟩
        · rw [if_neg hz] at e
          have E := Lib.hid e
          obtain ⟨g, o, k', c', e', hkc, hcell, hg⟩ := dg_first Hd1.out hz
          injection e' with e1 e2 e3
          subst e1
          have hlp : ((xs.length : Int) == 0) = false := by rw [beq_eq_false_iff_ne]; omega
          have hlq : (0 : Int) < (xs.length : Int) := by omega
          obtain ⟨d, hdd⟩ : ∃ d : Int, d = ((c % 10 : Nat) : Int) := ⟨_, rfl⟩
          rw [← hdd] at hcell
          have HDD := Lib.hid hdd
          clear hb h34 hk hs hd hz e HF hdd e2 e3
          by_cases hs0 : s = 0
          · have g2 : (s == 0) = true := by simpa using hs0
            have HS := Lib.hid hs0
            clear hs0
            go_wp2_with fail
            go_ret
            exact ⟨ret_bool (by rw [E.out, HS.out]; rfl), by (repeat' (first | (with_reducible exact Below.refl _ _) | (with_reducible assumption) | (with_reducible refine Below.drew ?_) | (with_reducible refine below_drewN ?_ _) | ((with_reducible refine Below.alloc ?_ ?_ _); rotate_left; focus (go_size; done)) | ((with_reducible refine Below.setCell ?_ ?_ _); rotate_left; focus (go_size; done)) | ((with_reducible refine Below.trans ?_ (Below.mono (by with_reducible assumption) ?_)); rotate_left; focus (go_size; done))))⟩
          · have g2 : (s == 0) = false := by simpa using hs0
            have HS := Lib.hid hs0
            clear hs0
            go_wp2_with fail
            go_ret
            exact ⟨ret_bool (by rw [E.out, decide_eq_false HS.out, Bool.false_or, Bool.eq_iff_iff]; have := HDD.out; simp; omega), by (repeat' (first | (with_reducible exact Below.refl _ _) | (with_reducible assumption) | (with_reducible refine Below.drew ?_) | (with_reducible refine below_drewN ?_ _) | ((with_reducible refine Below.alloc ?_ ?_ _); rotate_left; focus (go_size; done)) | ((with_reducible refine Below.setCell ?_ ?_ _); rotate_left; focus (go_size; done)) | ((with_reducible refine Below.trans ?_ (Below.mono (by with_reducible assumption) ?_)); rotate_left; focus (go_size; done))))⟩
  · have e := HF.out
    rw [dform_hi hb] at e
    subst e
    have hl : (34 : Int) < (xs.length : Int) := by have := mt h34.1 hb; omega
    clear hb h34 hk hs hd
    go_wp2_with fail
    go_ret
    exact ⟨rfl, by (repeat' (first | (with_reducible exact Below.refl _ _) | (with_reducible assumption) | (with_reducible refine Below.drew ?_) | (with_reducible refine below_drewN ?_ _) | ((with_reducible refine Below.alloc ?_ ?_ _); rotate_left; focus (go_size; done)) | ((with_reducible refine Below.setCell ?_ ?_ _); rotate_left; focus (go_size; done)) | ((with_reducible refine Below.trans ?_ (Below.mono (by with_reducible assumption) ?_)); rotate_left; focus (go_size; done))))⟩
def RetUnits (b : Bool) (n : Nat) (w : World) (e : Ending) (w' : World) : Prop := ∃ v, e = .returned (.tuple #[.bool b, v]) ∧ Dg w' v n ∧ Below w.heap.size w w'
def RetSum (an : Bool) (x : Nat) (bn : Bool) (y : Nat) (w : World) (e : Ending) (w' : World) : Prop := ∃ v, e = .returned (.tuple #[.bool (sgn an x bn y), v]) ∧ Dg w' v (sab an x bn y) ∧ Below w.heap.size w w'
end Go.Proofs.YtanjbdhjnmmfdaaDoor

set_option linter.unusedSimpArgs false
set_option linter.unusedVariables false
namespace Go.Proofs.YtanjbdhjnmmfdaaDoor
open Go.RowKit

def inB (s : VS) (ll nl : Nat) : Bool := decide (0 ≤ s.kind) && decide (s.kind ≤ 6) && bareQ s ll nl (5 ≤ s.kind)
def kind3 (s : VS) : Bool := if s.kind = 2 then dform s.neg s.coef s.sc else if s.kind = 3 then ztxt s.text && decide (s.text.length ≤ 1000) else if s.kind = 4 then dayB s.day else true
def lens (s : VS) (ll nl : Nat) : Bool := decide (s.kind = 6 → nl = ll)
theorem namesB_nil : namesB [] = true := by unfold namesB; rw [decide_eq_true_eq]; intro i hi; simp at hi
theorem own_form (s : VS) (ll : Nat) (nm : List (List UInt8)) : ownB s ll nm = (inB s ll nm.length && kind3 s && lens s ll nm.length && namesB nm) := by
  unfold ownB inB kindB kind3 lens
  by_cases hk : 0 ≤ s.kind ∧ s.kind ≤ 6
  · obtain ⟨k0, k6⟩ := hk
    have e : bareQ s ll nm.length (5 ≤ s.kind) = bareQ s ll nm.length (s.kind = 5 ∨ s.kind = 6) := by
      rw [Bool.eq_iff_iff, bareQ_iff, bareQ_iff]
      have : 5 ≤ s.kind ↔ (s.kind = 5 ∨ s.kind = 6) := by omega
      rw [this]
    rw [e, decide_eq_true k0, decide_eq_true k6]
    cases hb : bareQ s ll nm.length (s.kind = 5 ∨ s.kind = 6) with
    | false => simp
    | true =>
      have h6 := (bareQ_iff.1 hb).2.2.2.2.2
      have hc : s.kind = 0 ∨ s.kind = 1 ∨ s.kind = 2 ∨ s.kind = 3 ∨ s.kind = 4 ∨ s.kind = 5 ∨ s.kind = 6 := by omega
      have hn : s.kind ≠ 6 → namesB nm = true := fun h => by
        have : nm = [] := List.length_eq_zero_iff.1 (h6.resolve_left h)
        rw [this]; exact namesB_nil
      rcases hc with h | h | h | h | h | h | h
      all_goals simp only [h]
      all_goals first | (rw [hn (by omega)]; simp; done) | (rw [hn (by omega)]; simp [Bool.and_comm]; done) | simp
  · have : ¬ (s.kind = 0 ∨ s.kind = 1 ∨ s.kind = 5) := by omega
    rw [if_neg this, if_neg (by omega), if_neg (by omega), if_neg (by omega), if_neg (by omega), Bool.and_false]
    have : (decide (0 ≤ s.kind) && decide (s.kind ≤ 6)) = false := by
      rw [Bool.and_eq_false_iff, decide_eq_false_iff_not, decide_eq_false_iff_not]; omega
    rw [this]; simp
def FormOf (R : World → Value → Value → VD → Prop) : Prop := ∀ (x : VD) (L N : Value) (w : World), x.size ≤ 1000000 → R w L N x →
  Calls Tryd.prog 25 #[vagg x.s L N] w fun e w' => e = .returned (.bool (okV x)) ∧ Below w.heap.size w w'
def Mem2 (w wx : World) (A : Option Addr) (n C : Nat) (A2 : Option Addr) (n2 C2 : Nat) : Prop := wx.cell? ⟨w.heap.size, 8, none⟩ = some (.slice A n C) ∧ wx.cell? ⟨w.heap.size, 9, none⟩ = some (.slice A2 n2 C2) ∧ w.heap.size < wx.heap.size ∧ Below w.heap.size w wx
theorem Mem2.below {w wx w' : World} {A : Option Addr} {n C : Nat} {A2 : Option Addr} {n2 C2 : Nat} (h : Mem2 w wx A n C A2 n2 C2) (hb : Below wx.heap.size wx w') : Mem2 w w' A n C A2 n2 C2 := by
  obtain ⟨h1, h2, h3, h4⟩ := h
  exact ⟨(hb.cell (p := ⟨w.heap.size, 8, none⟩) h3).trans h1, (hb.cell (p := ⟨w.heap.size, 9, none⟩) h3).trans h2, Nat.lt_of_lt_of_le h3 hb.size, h4.trans (hb.mono (Nat.le_of_lt h3))⟩
theorem Mem2.drewN {w wx : World} {A : Option Addr} {n C : Nat} {A2 : Option Addr} {n2 C2 : Nat} (h : Mem2 w wx A n C A2 n2 C2) (k : Nat) : Mem2 w (wx.drewN k) A n C A2 n2 C2 := ⟨h.1, h.2.1, h.2.2.1, below_drewN h.2.2.2 k⟩
set_option maxRecDepth 100000 in
set_option maxHeartbeats 4000000 in
theorem form_step (R : World → Value → Value → VD → Prop) (hR : ∀ w w' L N x, R w L N x → Below w.heap.size w w' → R w' L N x) (H : FormOf R)
    (s : VS) (l : List VD) (nm : List (List UInt8)) (A : Option Addr) (C : Nat) (A2 : Option Addr) (C2 : Nat) (w : World) (hok : s.ok) (hsz : sizes l ≤ 999999) (hv : Vls (R w) w (.slice A l.length C) l) (hn : Nms w (.slice A2 nm.length C2) nm) :
    Calls Tryd.prog 25 #[vagg s (.slice A l.length C) (.slice A2 nm.length C2)] w fun e w' => e = .returned (.bool (ownB s l.length nm && oks l)) ∧ Below w.heap.size w w' := by
  obtain ⟨_, _, _, hll⟩ := hv.is
  obtain ⟨_, _, _, hnl⟩ := hn.is
  have HV := Lib.hid hv
  have HN := Lib.hid hn
  have HH := Lib.hid H
  have HR := Lib.hid hR
  have HB := Lib.hid (fun W => rbare_any s l nm A C A2 C2 hll hnl W)
  have hown := own_form s l.length nm
  obtain ⟨b0, hb0⟩ : ∃ b0, b0 = bareQ s l.length nm.length (5 ≤ s.kind) := ⟨_, rfl⟩
  obtain ⟨a1, ha1⟩ : ∃ a1, a1 = inB s l.length nm.length := ⟨_, rfl⟩
  obtain ⟨a3, ha3⟩ : ∃ a3, a3 = kind3 s := ⟨_, rfl⟩
  obtain ⟨a5, ha5⟩ : ∃ a5, a5 = lens s l.length nm.length := ⟨_, rfl⟩
  obtain ⟨z, hz⟩ : ∃ z, z = (ownB s l.length nm && oks l) := ⟨_, rfl⟩
  rw [← ha1, ← ha3, ← ha5] at hown
  rw [hown] at hz
  rw [hown, ← hz]
  rw [← hb0] at HB
  unfold inB at ha1
  rw [← hb0] at ha1
  obtain ⟨kind, yes, neg, coef, sc, text, day⟩ := s
  obtain ⟨hc, ht⟩ := hok
  unfold kind3 at ha3
  unfold lens at ha5
  unfold vagg at HB ⊢
  dsimp only at hc ht ha1 ha3 ha5 HB ⊢
  have HC := Lib.hid hc
  have HTX := Lib.hid ht
  have HA1 := Lib.hid ha1
  have HA3 := Lib.hid ha3
  have HA5 := Lib.hid ha5
  have HZ := Lib.hid hz
  have HSZ := Lib.hid hsz
  have hll2 : (l.length : Int) ≤ 1048576 := by omega
  have hnl2 : (nm.length : Int) ≤ 1048576 := by omega
  clear hown hb0 hz hc ht hv hn H hR hsz ha1 ha3 ha5 hll hnl
  obtain ⟨x1, hx1⟩ : ∃ x1, x1 = wd coef 1 := ⟨_, rfl⟩
  obtain ⟨x0, hx0⟩ : ∃ x0, x0 = wd coef 0 := ⟨_, rfl⟩
  rw [← hx1, ← hx0] at HB
  rw [← hx1, ← hx0]
  have HX1 := Lib.hid hx1
  have HX0 := Lib.hid hx0
  clear hx1 hx0
  go_enter Tryd.func25, Tryd.ntmps25
  go_upto_region 1 with fail
  go_cut [18] (fun s18 wx => s18 = .bool (!a1) ∧ Hid (Mem2 w wx A l.length C A2 nm.length C2) ∧ wx.cell? ⟨w.heap.size, 0, none⟩ = some (.int .i64 kind) ∧ wx.cell? ⟨w.heap.size, 2, none⟩ = some (.bool neg) ∧ wx.cell? ⟨w.heap.size, 3, none⟩ = some (.int .u64 x1) ∧ wx.cell? ⟨w.heap.size, 4, none⟩ = some (.int .u64 x0) ∧ wx.cell? ⟨w.heap.size, 5, none⟩ = some (.int .i64 sc) ∧ wx.cell? ⟨w.heap.size, 6, none⟩ = some (.string ⟨text.toArray⟩) ∧ wx.cell? ⟨w.heap.size, 7, none⟩ = some (.int .i64 day))
  case first =>
    by_cases k0 : kind < 0
    · obtain rfl : a1 = false := by rw [HA1.out, decide_eq_false (by omega)]; rfl
      go_wp2_with fail
      go_meet
      case rel => exact ⟨rfl, Lib.hid ⟨by go_simp, by go_simp, by go_size, by (repeat' (first | (with_reducible exact Below.refl _ _) | (with_reducible assumption) | (with_reducible refine Below.drew ?_) | (with_reducible refine below_drewN ?_ _) | ((with_reducible refine Below.alloc ?_ ?_ _); rotate_left; focus (go_size; done)) | ((with_reducible refine Below.setCell ?_ ?_ _); rotate_left; focus (go_size; done)) | ((with_reducible refine Below.trans ?_ (Below.mono (by with_reducible assumption) ?_)); rotate_left; focus (go_size; done))))⟩, by go_simp, by go_simp, by go_simp, by go_simp, by go_simp, by go_simp, by go_simp⟩
    · by_cases k6 : 6 < kind
      · obtain rfl : a1 = false := by rw [HA1.out, decide_eq_false (show ¬ kind ≤ 6 by omega)]; simp
        go_wp2_with fail
        go_meet
        case rel => exact ⟨rfl, Lib.hid ⟨by go_simp, by go_simp, by go_size, by (repeat' (first | (with_reducible exact Below.refl _ _) | (with_reducible assumption) | (with_reducible refine Below.drew ?_) | (with_reducible refine below_drewN ?_ _) | ((with_reducible refine Below.alloc ?_ ?_ _); rotate_left; focus (go_size; done)) | ((with_reducible refine Below.setCell ?_ ?_ _); rotate_left; focus (go_size; done)) | ((with_reducible refine Below.trans ?_ (Below.mono (by with_reducible assumption) ?_)); rotate_left; focus (go_size; done))))⟩, by go_simp, by go_simp, by go_simp, by go_simp, by go_simp, by go_simp, by go_simp⟩
      · obtain rfl : a1 = b0 := by rw [HA1.out, decide_eq_true (by omega), decide_eq_true (by omega)]; simp
        go_wp2_with ((go_at_call 32; with_reducible refine (HB.out _).mono ?_); rintro _ w1 ⟨rfl, hb1⟩; have hb1s := hb1.size; (try simp only [World.size_alloc, World.size_setCell, World.size_drew, World.heap_drewN] at hb1s); obtain ⟨hb1c, hb1f⟩ := bcell hb1; (try have : w.heap.size < w1.heap.size := by omega); (try have : w.heap.size + 1 < w1.heap.size := by omega); (try have : w.heap.size + 1 + 1 < w1.heap.size := by omega); (try have : w.heap.size + 1 + 1 + 1 < w1.heap.size := by omega))
        go_meet
        case rel => exact ⟨rfl, Lib.hid ⟨by go_simp, by go_simp, by omega, by (repeat' (first | (with_reducible exact Below.refl _ _) | (with_reducible assumption) | (with_reducible refine Below.drew ?_) | (with_reducible refine below_drewN ?_ _) | ((with_reducible refine Below.alloc ?_ ?_ _); rotate_left; focus (go_size; done)) | ((with_reducible refine Below.setCell ?_ ?_ _); rotate_left; focus (go_size; done)) | ((with_reducible refine Below.trans ?_ (Below.mono (by with_reducible assumption) ?_)); rotate_left; focus (go_size; done))))⟩, by go_simp, by go_simp, by go_simp, by go_simp, by go_simp, by go_simp, by go_simp⟩
  case rest =>
    obtain ⟨rfl, HM, c0, c2, c3, c4, c5, c6, c7⟩ := hcut
    obtain ⟨w1, rfl⟩ : ∃ w1 : World, w1 = wc := ⟨_, rfl⟩
    clear HB HA1
    have hm3 := HM.out.2.2.1
    have hm4 := HM.out.2.2.2
    cases a1 with
    | false =>
      obtain rfl : z = false := by rw [HZ.out]; simp
      clear HZ HA3 HA5
      go_wp2_with fail
      go_ret
      exact ⟨rfl, by (repeat' (first | (with_reducible exact Below.refl _ _) | (with_reducible assumption) | (with_reducible refine Below.drew ?_) | (with_reducible refine below_drewN ?_ _) | ((with_reducible refine Below.alloc ?_ ?_ _); rotate_left; focus (go_size; done)) | ((with_reducible refine Below.setCell ?_ ?_ _); rotate_left; focus (go_size; done)) | ((with_reducible refine Below.trans ?_ (Below.mono (by with_reducible assumption) ?_)); rotate_left; focus (go_size; done))))⟩
    | true =>
      go_upto_region 3 with fail
      go_cut [55] (fun s55 wx => s55 = .bool (!a3) ∧ Hid (Mem2 w wx A l.length C A2 nm.length C2) ∧ wx.cell? ⟨w.heap.size, 0, none⟩ = some (.int .i64 kind))
      case first =>
        have hk : kind = 2 ∨ kind = 3 ∨ kind = 4 ∨ (kind ≠ 2 ∧ kind ≠ 3 ∧ kind ≠ 4) := by omega
        rcases hk with rfl | rfl | rfl | ⟨k2, k3, k4⟩
        · obtain rfl : a3 = dform neg coef sc := by rw [HA3.out]; simp
          have HF := Lib.hid (fun W => rform_any neg coef sc HC.out W)
          rw [← HX1.out, ← HX0.out] at HF
          clear HA3
          generalize dform neg coef sc = q at *
          cases q with
          | false =>
            go_wp2_with ((go_at_call 33; with_reducible refine (HF.out _).mono ?_); rintro _ w2 ⟨rfl, hb2⟩; have hb2s := hb2.size; (try simp only [World.size_alloc, World.size_setCell, World.size_drew, World.heap_drewN] at hb2s); obtain ⟨hb2c, hb2f⟩ := bcell hb2; (try have : w.heap.size < w2.heap.size := by omega); (try have : w.heap.size + 1 < w2.heap.size := by omega); (try have : w.heap.size + 1 + 1 < w2.heap.size := by omega); (try have : w.heap.size + 1 + 1 + 1 < w2.heap.size := by omega))
            go_meet
            case rel => exact ⟨rfl, Lib.hid (HM.out.below hb2), by go_simp⟩
          | true =>
            go_wp2_with ((go_at_call 33; with_reducible refine (HF.out _).mono ?_); rintro _ w2 ⟨rfl, hb2⟩; have hb2s := hb2.size; (try simp only [World.size_alloc, World.size_setCell, World.size_drew, World.heap_drewN] at hb2s); obtain ⟨hb2c, hb2f⟩ := bcell hb2; (try have : w.heap.size < w2.heap.size := by omega); (try have : w.heap.size + 1 < w2.heap.size := by omega); (try have : w.heap.size + 1 + 1 < w2.heap.size := by omega); (try have : w.heap.size + 1 + 1 + 1 < w2.heap.size := by omega))
            go_meet
            case rel => exact ⟨rfl, Lib.hid (HM.out.below hb2), by go_simp⟩
        · have hz3 : a3 = (ztxt text && decide (text.length ≤ 1000)) := by rw [HA3.out]; simp
          have HF := Lib.hid (fun W => rvalid_any text HTX.out W)
          generalize ztxt text = q at HF hz3
          cases q with
          | false =>
            obtain rfl : a3 = false := hz3
            go_wp2_with ((go_at_call 34; with_reducible refine (HF.out _).mono ?_); rintro _ w2 ⟨rfl, hb2⟩; have hb2s := hb2.size; (try simp only [World.size_alloc, World.size_setCell, World.size_drew, World.heap_drewN] at hb2s); obtain ⟨hb2c, hb2f⟩ := bcell hb2; (try have : w.heap.size < w2.heap.size := by omega); (try have : w.heap.size + 1 < w2.heap.size := by omega); (try have : w.heap.size + 1 + 1 < w2.heap.size := by omega); (try have : w.heap.size + 1 + 1 + 1 < w2.heap.size := by omega))
            go_meet
            case rel => exact ⟨rfl, Lib.hid (HM.out.below hb2), by go_simp⟩
          | true =>
            by_cases h1 : text.length ≤ 1000
            · obtain rfl : a3 = true := by rw [hz3, decide_eq_true h1]; rfl
              have h1' : ¬ 1000 < (text.length : Int) := by omega
              clear hz3 h1
              go_wp2_with ((go_at_call 34; with_reducible refine (HF.out _).mono ?_); rintro _ w2 ⟨rfl, hb2⟩; have hb2s := hb2.size; (try simp only [World.size_alloc, World.size_setCell, World.size_drew, World.heap_drewN] at hb2s); obtain ⟨hb2c, hb2f⟩ := bcell hb2; (try have : w.heap.size < w2.heap.size := by omega); (try have : w.heap.size + 1 < w2.heap.size := by omega); (try have : w.heap.size + 1 + 1 < w2.heap.size := by omega); (try have : w.heap.size + 1 + 1 + 1 < w2.heap.size := by omega))
              go_meet
              case rel => exact ⟨by first | rfl | (simp; omega), Lib.hid (HM.out.below hb2), by go_simp⟩
            · obtain rfl : a3 = false := by rw [hz3, decide_eq_false h1]; rfl
              have h1' : 1000 < (text.length : Int) := by omega
              clear hz3 h1
              go_wp2_with ((go_at_call 34; with_reducible refine (HF.out _).mono ?_); rintro _ w2 ⟨rfl, hb2⟩; have hb2s := hb2.size; (try simp only [World.size_alloc, World.size_setCell, World.size_drew, World.heap_drewN] at hb2s); obtain ⟨hb2c, hb2f⟩ := bcell hb2; (try have : w.heap.size < w2.heap.size := by omega); (try have : w.heap.size + 1 < w2.heap.size := by omega); (try have : w.heap.size + 1 + 1 < w2.heap.size := by omega); (try have : w.heap.size + 1 + 1 + 1 < w2.heap.size := by omega))
              go_meet
              case rel => exact ⟨by first | rfl | (simp; omega), Lib.hid (HM.out.below hb2), by go_simp⟩
        · obtain rfl : a3 = dayB day := by rw [HA3.out]; simp
          have HF := Lib.hid (fun W => ris_any day W)
          clear HA3
          generalize dayB day = q at *
          cases q with
          | false =>
            go_wp2_with (go_at_call 35; (with_reducible refine (HF.out _).mono ?_); rintro _ w2 ⟨rfl, rfl⟩)
            go_meet
            case rel => exact ⟨rfl, HM, by go_simp⟩
          | true =>
            go_wp2_with (go_at_call 35; (with_reducible refine (HF.out _).mono ?_); rintro _ w2 ⟨rfl, rfl⟩)
            go_meet
            case rel => exact ⟨rfl, HM, by go_simp⟩
        · obtain rfl : a3 = true := by rw [HA3.out, if_neg k2, if_neg k3, if_neg k4]
          have e2 : (kind == 2) = false := by rw [beq_eq_false_iff_ne]; exact k2
          have e3 : (kind == 3) = false := by rw [beq_eq_false_iff_ne]; exact k3
          have e4 : (kind == 4) = false := by rw [beq_eq_false_iff_ne]; exact k4
          clear HA3 k2 k3 k4
          go_wp2_with fail
          go_meet
          case rel => exact ⟨rfl, HM, by go_simp⟩
      case rest =>
        obtain ⟨rfl, HM, c0⟩ := hcut
        obtain ⟨w2, rfl⟩ : ∃ w2 : World, w2 = wc := ⟨_, rfl⟩
        clear HA3 c2 c3 c4 c5 c6 c7 HX1 HX0 HC HTX hm3 hm4
        obtain ⟨c8, c9, hm3, hm4⟩ := id HM.out
        cases a3 with
        | false =>
          obtain rfl : z = false := by rw [HZ.out]; simp
          clear HZ HA5
          go_wp2_with fail
          go_ret
          exact ⟨rfl, by (repeat' (first | (with_reducible exact Below.refl _ _) | (with_reducible assumption) | (with_reducible refine Below.drew ?_) | (with_reducible refine below_drewN ?_ _) | ((with_reducible refine Below.alloc ?_ ?_ _); rotate_left; focus (go_size; done)) | ((with_reducible refine Below.setCell ?_ ?_ _); rotate_left; focus (go_size; done)) | ((with_reducible refine Below.trans ?_ (Below.mono (by with_reducible assumption) ?_)); rotate_left; focus (go_size; done))))⟩
        | true =>
          go_upto_region 5 with fail
          go_cut [67] (fun s67 wx => s67 = .bool (!a5) ∧ wx = w2)
          case first =>
            by_cases k6 : kind = 6
            · subst k6
              by_cases hle : nm.length = l.length
              · obtain rfl : a5 = true := by rw [HA5.out, decide_eq_true (fun _ => hle)]
                have e1 : ((nm.length : Int) != (l.length : Int)) = false := by rw [bne_eq_false_iff_eq]; omega
                clear HA5 hle
                go_wp2_with fail
                go_meet
                case rel => exact ⟨rfl, rfl⟩
              · obtain rfl : a5 = false := by rw [HA5.out, decide_eq_false (fun h => hle (h rfl))]
                have e1 : ((nm.length : Int) != (l.length : Int)) = true := by rw [bne_iff_ne]; omega
                clear HA5 hle
                go_wp2_with fail
                go_meet
                case rel => exact ⟨rfl, rfl⟩
            · obtain rfl : a5 = true := by rw [HA5.out, decide_eq_true (fun h => absurd h k6)]
              have e6 : (kind == 6) = false := by rw [beq_eq_false_iff_ne]; exact k6
              clear HA5 k6
              go_wp2_with fail
              go_meet
              case rel => exact ⟨rfl, rfl⟩
          case rest =>
            obtain ⟨rfl, rfl⟩ := hcut
            obtain ⟨w2, rfl⟩ : ∃ w2 : World, w2 = wc := ⟨_, rfl⟩
            clear HA5 c0
            cases a5 with
            | false =>
              obtain rfl : z = false := by rw [HZ.out]; simp
              clear HZ
              go_wp2_with fail
              go_ret
              exact ⟨rfl, by (repeat' (first | (with_reducible exact Below.refl _ _) | (with_reducible assumption) | (with_reducible refine Below.drew ?_) | (with_reducible refine below_drewN ?_ _) | ((with_reducible refine Below.alloc ?_ ?_ _); rotate_left; focus (go_size; done)) | ((with_reducible refine Below.setCell ?_ ?_ _); rotate_left; focus (go_size; done)) | ((with_reducible refine Below.trans ?_ (Below.mono (by with_reducible assumption) ?_)); rotate_left; focus (go_size; done))))⟩
            | true =>
              obtain ⟨y, hy⟩ : ∃ y, y = namesB nm := ⟨_, rfl⟩
              obtain ⟨v, hv⟩ : ∃ v, v = oks l := ⟨_, rfl⟩
              have HZ2 : Hid (z = (y && v)) := Lib.hid (by rw [HZ.out, hy, hv]; simp)
              have HY : Hid (y = true ↔ ∀ i, i < nm.length → nam (ng nm i) = true ∧ ∀ k, k < i → ng nm k ≠ ng nm i) := Lib.hid (by rw [hy, namesB, decide_eq_true_eq])
              have HVV := Lib.hid hv
              clear HZ hy hv c8 c9
              go_wp2_with fail
              go_loopg [3] nm.length (fun k s3 wr => ∃ t : Nat, k + t = nm.length ∧ s3 = .int .i64 t ∧ Hid (∀ i, i < t → nam (ng nm i) = true ∧ ∀ k, k < i → ng nm k ≠ ng nm i) ∧ Hid (Mem2 w wr A l.length C A2 nm.length C2))
              case atStart => exact ⟨0, by omega, rfl, Lib.hid (fun i hi => absurd hi (Nat.not_lt_zero _)), HM⟩
              case round =>
                obtain ⟨t, hk, rfl, HA, HMW⟩ := hrel
                have HK := Lib.hid hk
                have htn : t ≤ nm.length := by omega
                clear hk HM hm3 hm4
                obtain ⟨c8, c9, hm3, hm4⟩ := id HMW.out
                by_cases hlt : t < nm.length
                · obtain ⟨b, o, rfl, ct, hlen⟩ := (HN.out.below hm4).at hlt
                  have lb := vcell_lt ct
                  have HNM := Lib.hid (fun W => rname4_any (ng nm t) (by omega) W)
                  obtain ⟨q, hq⟩ : ∃ q, q = nam (ng nm t) := ⟨_, rfl⟩
                  rw [← hq] at HNM
                  have HQ := Lib.hid hq
                  obtain ⟨x, hx⟩ : ∃ x, x = ng nm t := ⟨_, rfl⟩
                  rw [← hx] at HNM ct
                  have HX := Lib.hid hx
                  clear hq hx hlen
                  cases q with
                  | false =>
                    have hz : z = false := by
                      rw [HZ2.out]
                      cases y with
                      | false => rfl
                      | true =>
                        have := (HY.out.1 rfl t hlt).1
                        rw [← HQ.out] at this; exact Bool.noConfusion this
                    subst hz
                    go_wp2_with (go_at_call 36; (with_reducible refine (HNM.out _).mono ?_); rintro _ w3 ⟨rfl, rfl⟩)
                    go_ret
                    exact ⟨rfl, by (repeat' (first | (with_reducible exact Below.refl _ _) | (with_reducible assumption) | (with_reducible refine Below.drew ?_) | (with_reducible refine below_drewN ?_ _) | ((with_reducible refine Below.alloc ?_ ?_ _); rotate_left; focus (go_size; done)) | ((with_reducible refine Below.setCell ?_ ?_ _); rotate_left; focus (go_size; done)) | ((with_reducible refine Below.trans ?_ (Below.mono (by with_reducible assumption) ?_)); rotate_left; focus (go_size; done))))⟩
                  | true =>
                    go_wp2_with (go_at_call 36; (with_reducible refine (HNM.out _).mono ?_); rintro _ w3 ⟨rfl, rfl⟩)
                    obtain ⟨wo, hwo⟩ : ∃ wo : World, wo = wr := ⟨_, rfl⟩
                    obtain ⟨go, hgo⟩ : ∃ go : Nat, go = gk := ⟨_, rfl⟩
                    rw [← hgo] at HK
                    have HGO := Lib.hid hgo
                    clear hwo hgo
                    go_loopg [4] t (fun k s4 wr => ∃ u : Nat, k + u = t ∧ s4 = .int .i64 u ∧ Hid (∀ k, k < u → ng nm k ≠ ng nm t) ∧ Hid (Mem2 w wr A l.length C (some ⟨b, o, none⟩) nm.length C2))
                    case atStart => exact ⟨0, by omega, rfl, Lib.hid (fun k hk => absurd hk (Nat.not_lt_zero _)), HMW⟩
                    case round =>
                      obtain ⟨u, hk2, rfl, HB2, HMI⟩ := hrel
                      have HK2 := Lib.hid hk2
                      have hut : u ≤ t := by omega
                      clear hk2 HMW c8 c9 hm3 hm4 ct lb
                      obtain ⟨c8, c9, hm3, hm4⟩ := id HMI.out
                      by_cases hlu : u < t
                      · obtain ⟨b1, o1, e1, ct, hlen⟩ := (HN.out.below hm4).at hlt
                        obtain ⟨b2, o2, e2, cu, hlen2⟩ := (HN.out.below hm4).at (show u < nm.length by omega)
                        injection e1 with e1
                        injection e1 with e1 e1'
                        injection e2 with e2
                        injection e2 with e2 e2'
                        subst e1 e1' e2 e2'
                        have lb := vcell_lt ct
                        obtain ⟨p, hp⟩ : ∃ p, p = ng nm u := ⟨_, rfl⟩
                        rw [← hp] at cu
                        rw [← HX.out] at ct
                        have HP := Lib.hid hp
                        have huc : (u : Int) < (nm.length : Int) := by omega
                        have htc : (t : Int) < (nm.length : Int) := by omega
                        clear hlen hlen2 hp
                        by_cases hpx : p = x
                        · have hz : z = false := by
                            rw [HZ2.out]
                            cases y with
                            | false => rfl
                            | true =>
                              exact absurd (by rw [← HP.out, ← HX.out]; exact hpx) ((HY.out.1 rfl t hlt).2 u hlu)
                          subst hz
                          have HPX := Lib.hid hpx
                          subst hpx
                          go_wp2_with fail
                          go_quiet (fail)
                          go_wp2_with fail
                          go_ret
                          exact ⟨rfl, by (repeat' (first | (with_reducible exact Below.refl _ _) | (with_reducible assumption) | (with_reducible refine Below.drew ?_) | (with_reducible refine below_drewN ?_ _) | ((with_reducible refine Below.alloc ?_ ?_ _); rotate_left; focus (go_size; done)) | ((with_reducible refine Below.setCell ?_ ?_ _); rotate_left; focus (go_size; done)) | ((with_reducible refine Below.trans ?_ (Below.mono (by with_reducible assumption) ?_)); rotate_left; focus (go_size; done))))⟩
                        · have g1 : (p == x) = false := by simpa using hpx
                          have HPX := Lib.hid hpx
                          go_wp2_with fail
                          go_quiet (fail)
                          go_wp2_with fail
                          go_roundg (gk - 1)
                          case measure => have := HK2.out; omega
                          case rel => exact ⟨u + 1, by have := HK2.out; omega, by go_num, Lib.hid (fun i hi e => by
                            by_cases e2 : i = u
                            · subst e2; exact HPX.out (by rw [HP.out, HX.out]; exact e)
                            · exact HB2.out i (by omega) e), Lib.hid (HMI.out.drewN _)⟩
                      · obtain rfl : u = t := by omega
                        go_wp2_with fail
                        go_roundg (go - 1)
                        case measure => have := HK.out; have := HGO.out; omega
                        case rel => exact ⟨u + 1, by have := HK.out; omega, by go_num, Lib.hid (fun i hi => by
                          by_cases e : i = u
                          · subst e; exact ⟨HQ.out.symm, HB2.out⟩
                          · exact HA.out i (by omega)), HMI⟩
                · obtain rfl : t = nm.length := by omega
                  have hy : y = true := HY.out.2 HA.out
                  have hzv : z = v := by rw [HZ2.out, hy]; rfl
                  subst hzv
                  clear HA HZ2 HY hy hlt
                  have HL9 := Lib.hid (fun (W : World) (h : Below w.heap.size w W) => HV.out.below h (fun _ _ _ q => HR.out _ _ _ _ _ q h))
                  go_wp2_with fail
                  obtain ⟨wo, hwo⟩ : ∃ wo : World, wo = wr := ⟨_, rfl⟩
                  clear hwo
                  go_loopg [5] l.length (fun k s5 wr => ∃ t : Nat, k + t = l.length ∧ s5 = .int .i64 t ∧ Hid (oks (l.take t) = true) ∧ Hid (Mem2 w wr A l.length C A2 nm.length C2))
                  case atStart => exact ⟨0, by omega, rfl, Lib.hid (by rw [List.take_zero]; rfl), HMW⟩
                  case round =>
                    obtain ⟨t, hk, rfl, HOK, HMI⟩ := hrel
                    have HK2 := Lib.hid hk
                    have htn2 : t ≤ l.length := by omega
                    clear hk HMW c8 c9 hm3 hm4
                    obtain ⟨c8, c9, hm3, hm4⟩ := id HMI.out
                    by_cases hlt : t < l.length
                    · obtain ⟨b, o, B1, D1, B2, D2, rfl, hat, hx⟩ := (HL9.out _ hm4).at hlt
                      obtain ⟨a0, a1, a2, a3, a4, a5, a6, a7, a8, a9⟩ := hat.val
                      have lb := vcell_lt a0
                      have hso := oks_take hlt
                      rw [HOK.out, Bool.true_and] at hso
                      have hs2 := vg_size hlt
                      have hsz9 := HSZ.out
                      have hall : okV (vg l t) = false → z = false := fun e => by
                        have h2 := oks_append (l.take (t + 1)) (l.drop (t + 1))
                        rw [List.take_append_drop, hso, e, ← HVV.out] at h2
                        rw [h2]; rfl
                      obtain ⟨x, hxx⟩ : ∃ x, x = vg l t := ⟨_, rfl⟩
                      rw [← hxx] at hx a0 a1 a2 a3 a4 a5 a6 a7 a8 a9 hs2 hso hall
                      obtain ⟨n1', hn1⟩ : ∃ n1', n1' = x.list.length := ⟨_, rfl⟩
                      obtain ⟨n2', hn2⟩ : ∃ n2', n2' = x.names.length := ⟨_, rfl⟩
                      rw [← hn1] at a8 hx
                      rw [← hn2] at a9 hx
                      have HC := Lib.hid (HH.out x (.slice B1 n1' D1) (.slice B2 n2' D2) wr (by omega) hx)
                      obtain ⟨q, hq⟩ : ∃ q, q = okV x := ⟨_, rfl⟩
                      rw [← hq] at HC hso hall
                      have HSO := Lib.hid hso
                      have HAL := Lib.hid hall
                      clear hat hx hxx hn1 hn2 hs2 hsz9 hso hall hq
                      cases q with
                      | false =>
                        obtain rfl : z = false := HAL.out rfl
                        go_wp2_with ((go_at_call 25; with_reducible refine (HC.out).mono ?_); rintro _ w3 ⟨rfl, hb3⟩; have hb3s := hb3.size; (try simp only [World.size_alloc, World.size_setCell, World.size_drew, World.heap_drewN] at hb3s); obtain ⟨hb3c, hb3f⟩ := bcell hb3; (try have : w.heap.size < w3.heap.size := by omega); (try have : w.heap.size + 1 < w3.heap.size := by omega); (try have : w.heap.size + 1 + 1 < w3.heap.size := by omega); (try have : w.heap.size + 1 + 1 + 1 < w3.heap.size := by omega))
                        go_ret
                        exact ⟨rfl, by (repeat' (first | (with_reducible exact Below.refl _ _) | (with_reducible assumption) | (with_reducible refine Below.drew ?_) | (with_reducible refine below_drewN ?_ _) | ((with_reducible refine Below.alloc ?_ ?_ _); rotate_left; focus (go_size; done)) | ((with_reducible refine Below.setCell ?_ ?_ _); rotate_left; focus (go_size; done)) | ((with_reducible refine Below.trans ?_ (Below.mono (by with_reducible assumption) ?_)); rotate_left; focus (go_size; done))))⟩
                      | true =>
                        go_wp2_with ((go_at_call 25; with_reducible refine (HC.out).mono ?_); rintro _ w3 ⟨rfl, hb3⟩; have hb3s := hb3.size; (try simp only [World.size_alloc, World.size_setCell, World.size_drew, World.heap_drewN] at hb3s); obtain ⟨hb3c, hb3f⟩ := bcell hb3; (try have : w.heap.size < w3.heap.size := by omega); (try have : w.heap.size + 1 < w3.heap.size := by omega); (try have : w.heap.size + 1 + 1 < w3.heap.size := by omega); (try have : w.heap.size + 1 + 1 + 1 < w3.heap.size := by omega))
                        go_roundg (gk - 1)
                        case measure => have := HK2.out; omega
                        case rel => exact ⟨t + 1, by have := HK2.out; omega, by go_num, Lib.hid HSO.out, Lib.hid (HMI.out.below hb3)⟩
                    · obtain rfl : t = l.length := by omega
                      have hv : z = true := by have := HOK.out; rw [List.take_length] at this; rw [HVV.out, this]
                      subst hv
                      go_wp2_with fail
                      go_ret
                      exact ⟨rfl, by (repeat' (first | (with_reducible exact Below.refl _ _) | (with_reducible assumption) | (with_reducible refine Below.drew ?_) | (with_reducible refine below_drewN ?_ _) | ((with_reducible refine Below.alloc ?_ ?_ _); rotate_left; focus (go_size; done)) | ((with_reducible refine Below.setCell ?_ ?_ _); rotate_left; focus (go_size; done)) | ((with_reducible refine Below.trans ?_ (Below.mono (by with_reducible assumption) ?_)); rotate_left; focus (go_size; done))))⟩
theorem rform7_any : ∀ n, FormOf (VR n)
  | 0, _, _, _, _, _, h => h.elim
  | n + 1, x, L, N, w, h1, h => by
    obtain ⟨A, C, rfl, _⟩ := h.2.1.is
    obtain ⟨A2, C2, rfl, _⟩ := h.2.2.is
    rw [okV_eq]
    exact form_step (VR n) (fun _ _ _ _ _ h hb => h.below hb) (rform7_any n) x.s x.list x.names A C A2 C2 w h.1 (by rw [VD.size_eq] at h1; omega) h.2.1 h.2.2
end Go.Proofs.YtanjbdhjnmmfdaaDoor
