/- DecParts: for all decimals a and b the rest of a division lies below the divisor, floor and ceiling lie around the number: the law returns true, and what was handed in reads as it did. No condition. -/
import Derived.ProofKit
import Derived.OpenShut
import Derived.ShutString
import Derived.ChangeOld
import Derived.Below
import Derived.Lib.SmallJoins
import Derived.Test.YthkgjodidkpaeaaM2
import Derived.Test.YthkgjodidkpaeaaM3
import Derived.Test.YthkgjodidkpaeaaM4
import Derived.Test.YthkgjodidkpaeaaM5
import Derived.Test.YthkgjodidkpaeaaM6
set_option linter.unusedSimpArgs false
set_option linter.unusedVariables false
namespace Go.Proofs.Ythkgjodidkpaeaa
open Go.RowKit
open Go.ChangeShapes Go.WideShapes Go.ChangeAt
open Go.ChangeMaps (open_string shut_string)
set_option linter.unusedVariables false
theorem own : ownKnob Try.prog.godebug = none := by kernel_rfl
theorem laidOut : laidOutB Try.prog = true := by kernel_rfl

theorem of_0 (W : World) : Calls Try.prog 17 #[.int .i64 0] W fun e w' => e = .returned (.agg #[.bool false, .int .u64 0, .int .u64 0, .int .i64 0]) ∧ Below W.heap.size W w' := by
  have h := of2_any 0 (by decide) W
  have e : OfV 0 = .agg #[.bool false, .int .u64 0, .int .u64 0, .int .i64 0] := by
    obtain ⟨e1, e2⟩ := absN_wd (n := 0) (by decide)
    unfold OfV
    rw [e1, e2]
    rfl
  rwa [e] at h
theorem of_1 (W : World) : Calls Try.prog 17 #[.int .i64 1] W fun e w' => e = .returned (.agg #[.bool false, .int .u64 0, .int .u64 1, .int .i64 0]) ∧ Below W.heap.size W w' := by
  have h := of2_any 1 (by decide) W
  have e : OfV 1 = .agg #[.bool false, .int .u64 0, .int .u64 1, .int .i64 0] := by
    obtain ⟨e1, e2⟩ := absN_wd (n := 1) (by decide)
    unfold OfV
    rw [e1, e2]
    rfl
  rwa [e] at h
theorem neq_same (a : Bool) (b c d : Int) (W : World) : (binOp .neq 26 (.agg #[.bool a, .int .u64 b, .int .u64 c, .int .i64 d]) (.agg #[.bool a, .int .u64 b, .int .u64 c, .int .i64 d])).run Try.prog W = .ok (.bool false) W := by rw [neq_dec]; simp
theorem eq_zero (b : Bool) {c s : Nat} (hc : c < 2 ^ 128) (h1 : c = 0 → b = false ∧ s = 0) (W : World) : (binOp .eql 26 (.agg #[.bool b, .int .u64 (wd (c) 1), .int .u64 (wd (c) 0), .int .i64 (s : Int)]) (.agg #[.bool false, .int .u64 0, .int .u64 0, .int .i64 0])).run Try.prog W = .ok (.bool (decide (c = 0))) W := by
  rw [eq_dec]
  congr 2
  rw [Bool.eq_iff_iff]
  simp only [Bool.and_eq_true, beq_iff_eq, decide_eq_true_eq]
  constructor
  · rintro ⟨e0, e1, e2, e3⟩
    refine wd_inj hc (by decide) ?_ ?_
    · rw [e1, wd_zero]
    · rw [e2, wd_zero]
  · intro h
    obtain ⟨h2, h3⟩ := h1 h
    rw [h, h2, h3, wd_zero, wd_zero]
    exact ⟨rfl, rfl, rfl, rfl⟩
set_option maxHeartbeats 1000000 in
theorem walk_DecParts (b : Bool) (a0 a1 a2 : Int) (h0 : (Lit.int .u64 a0).wf = true) (h1 : (Lit.int .u64 a1).wf = true) (h2 : (Lit.int .i64 a2).wf = true) (b' : Bool) (c0 c1 c2 : Int) (k0 : (Lit.int .u64 c0).wf = true) (k1 : (Lit.int .u64 c1).wf = true) (k2 : (Lit.int .i64 c2).wf = true) (w : World) :
    Calls Try.prog 10 #[.agg #[.bool b, .int .u64 a0, .int .u64 a1, .int .i64 a2], .agg #[.bool b', .int .u64 c0, .int .u64 c1, .int .i64 c2]] w fun e w' => e = .returned (.bool true) ∧ Below w.heap.size w w' := by
  obtain ⟨g0, g1⟩ := wf_word h0
  obtain ⟨g2, g3⟩ := wf_word h1
  obtain ⟨g4, g5⟩ := wf_word k0
  obtain ⟨g6, g7⟩ := wf_word k1
  obtain ⟨c, hc, _, rfl, rfl⟩ := wd_make a0 a1 g0 g1 g2 g3
  obtain ⟨m, hm, _, rfl, rfl⟩ := wd_make c0 c1 g4 g5 g6 g7
  clear g0 g1 g2 g3 g4 g5 g6 g7 h0 h1 k0 k1
  have hfa := fun W => rform_any b c a2 hc W
  have hfb := fun W => rform_any b' m c2 hm W
  by_cases hab : dform b c a2 = true ∧ dform b' m c2 = true
  · obtain ⟨ha, hb⟩ := hab
    rw [ha] at hfa
    rw [hb] at hfb
    obtain ⟨s, rfl, f1, f2, f3, f4⟩ := (dform_iff _ _ _).1 ha
    obtain ⟨t, rfl, l1, l2, l3, l4⟩ := (dform_iff _ _ _).1 hb
    have za : c = 0 → b = false := fun h => (f3 h).1
    have zb : m = 0 → b' = false := fun h => (l3 h).1
    have hlo := fun W => floor_ok b c s f1 f2 ha W
    have hhi := fun W => ceil_ok b c s f1 f2 ha W
    have hrd := fun W => round2_ok b c s 18 f1 f2 (by decide) ha W
    obtain ⟨e1, e2⟩ := rd_18 (c := c) f2
    have e3 : sg b c = b := by
      by_cases h : c = 0
      · rw [h, sg_zero, za h]
      · rw [sg_pos h]
    rw [e1, e2, e3] at hrd
    have hfl := whole_form b s b f1
    have hfh := whole_form b s (!b) f1
    have hvl := wholeV_lt (s := s) b f1
    have hvh := wholeV_lt (s := s) (!b) f1
    obtain ⟨w1, w2, w3⟩ := whole_around b (c := c) f2
    generalize wholeV c s b = L at *
    generalize wholeV c s (!b) = H at *
    have zl : L = 0 → sg b L = false := fun h => by rw [h, sg_zero]
    have zh : H = 0 → sg b H = false := fun h => by rw [h, sg_zero]
    have hsub := fun W => sub_ok (sg b H) H 0 (sg b L) L 0 hfh hfl hvh hvl (by decide) (by decide) W
    have hsv := sval_sum (sg b H) (sg (!(sg b L)) L) (unit H 0) (unit L 0)
    rw [sval_neg, sval_sg, sval_sg] at hsv
    obtain ⟨q1, q2, q3⟩ := gap_fit (N := sgn (sg b H) (unit H 0) (sg (!(sg b L)) L) (unit L 0)) (U := sab (sg b H) (unit H 0) (sg (!(sg b L)) L) (unit L 0)) (by rw [hsv]; exact w3)
    rw [q1, q2] at hsub
    have hx := fun W => dcmp_ok (sg b L) L 0 b c s hfl ha hvl f1 (by decide) f2 W
    have hy := fun W => dcmp_ok b c s (sg b H) H 0 ha hfh f1 hvh f2 (by decide) W
    rw [ord_dec zl za, sval_sg] at hx
    rw [ord_dec za zh, sval_sg] at hy
    have xle := ordS_le w1
    have yle := ordS_le w2
    generalize ordS (sval b (unit L 0)) (sval b (unit c s)) = X at *
    generalize ordS (sval b (unit c s)) (sval b (unit H 0)) = Y at *
    have hzb := fun W => eq_zero b' hm l3 W
    by_cases hz : m = 0
    · have hmod := fun W => dmod_zero b c s b' m t ha hb f1 l1 hz W
      rcases q3 with ⟨q4, q5⟩ | ⟨q4, q5⟩
      · rw [q4, q5] at hsub
        rw [wd_zero, wd_zero] at hsub
        exact parts_ok _ _ _ _ _ _ _ _ _ _ _ _ _ _ _ _ _ _ X Y xle yle false true (.inl rfl) _ _ _ _ _ (decide (m = 0)) false 0 0 0 false 0 0 0 0 (by decide) true hfa hfb hlo hhi hrd hsub hx hy of_0 of_1 hmod (fun h => absurd hz (of_decide_eq_false h)) (fun h => absurd hz (of_decide_eq_false h)) (fun h => absurd hz (of_decide_eq_false h)) (neq_same _ _ _ _) (fun W => by rw [neq_dec]; simp) hzb (fun W => by rw [eq_dec]; simp) (fun _ => ⟨rfl, rfl⟩) (fun h => absurd hz (of_decide_eq_false h)) w
      · rw [q4, q5] at hsub
        rw [wd_one.1, wd_one.2] at hsub
        exact parts_ok _ _ _ _ _ _ _ _ _ _ _ _ _ _ _ _ _ _ X Y xle yle true false (.inr ⟨rfl, rfl⟩) _ _ _ _ _ (decide (m = 0)) false 0 0 0 false 0 0 0 0 (by decide) true hfa hfb hlo hhi hrd hsub hx hy of_0 of_1 hmod (fun h => absurd hz (of_decide_eq_false h)) (fun h => absurd hz (of_decide_eq_false h)) (fun h => absurd hz (of_decide_eq_false h)) (fun W => by rw [neq_dec]; simp) (neq_same _ _ _ _) hzb (fun W => by rw [eq_dec]; simp) (fun _ => ⟨rfl, rfl⟩) (fun h => absurd hz (of_decide_eq_false h)) w
    · have hmod := fun W => dmod_ok b c s b' m t ha hb f1 l1 f2 l2 hz W
      obtain ⟨r1, r2⟩ := rest_fit b b' (unit c s) l1 l2 hz
      generalize restN b (unit c s) b' (unit m t) = U at *
      obtain ⟨u1, u2, u3, u4⟩ := fit_form b' U (10 ^ 18)
      rw [r1] at hmod
      generalize FitC U (10 ^ 18) = C at *
      generalize FitS U (10 ^ 18) = S at *
      have hrf : dform (sg b' C) C S = true := (dform_iff _ _ _).2 ⟨S, rfl, u1, u2, u3, u4⟩
      have hA := fun W => abs_ok (sg b' C) C S (Nat.lt_trans u1 B34_lt) hrf W
      have hB := fun W => abs_ok b' m t hm hb W
      have hfs : dform false C S = true := (dform_iff _ _ _).2 ⟨S, rfl, u1, u2, fun h => ⟨rfl, (u3 h).2⟩, u4⟩
      have hft : dform false m t = true := (dform_iff _ _ _).2 ⟨t, rfl, l1, l2, fun h => ⟨rfl, (l3 h).2⟩, l4⟩
      have hcm := fun W => dcmp_ok false C S false m t hfs hft u1 l1 u2 l2 W
      have ole : ordD false (unit C S) false (unit m t) ≤ 0 := by
        rw [ord_dec (fun _ => rfl) (fun _ => rfl)]
        apply ordS_le
        simp only [sval, Bool.false_eq_true, if_false]
        omega
      generalize ordD false (unit C S) false (unit m t) = O at *
      have hzr := fun W => eq_zero (sg b' C) (Nat.lt_trans u1 B34_lt) u3 W
      have hor : decide (C = 0) = true ∨ sg b' C = b' := by
        by_cases h : C = 0
        · left; simpa using h
        · right; rw [sg_pos h]
      rcases q3 with ⟨q4, q5⟩ | ⟨q4, q5⟩
      · rw [q4, q5] at hsub
        rw [wd_zero, wd_zero] at hsub
        exact parts_ok _ _ _ _ _ _ _ _ _ _ _ _ _ _ _ _ _ _ X Y xle yle false true (.inl rfl) _ _ _ _ _ (decide (m = 0)) _ _ _ _ _ _ _ _ O ole (decide (C = 0)) hfa hfb hlo hhi hrd hsub hx hy of_0 of_1 hmod (fun _ => hA) (fun _ => hB) (fun _ => hcm) (neq_same _ _ _ _) (fun W => by rw [neq_dec]; simp) hzb hzr (fun h => absurd (of_decide_eq_true h) hz) (fun _ => ⟨rfl, hor⟩) w
      · rw [q4, q5] at hsub
        rw [wd_one.1, wd_one.2] at hsub
        exact parts_ok _ _ _ _ _ _ _ _ _ _ _ _ _ _ _ _ _ _ X Y xle yle true false (.inr ⟨rfl, rfl⟩) _ _ _ _ _ (decide (m = 0)) _ _ _ _ _ _ _ _ O ole (decide (C = 0)) hfa hfb hlo hhi hrd hsub hx hy of_0 of_1 hmod (fun _ => hA) (fun _ => hB) (fun _ => hcm) (fun W => by rw [neq_dec]; simp) (neq_same _ _ _ _) hzb hzr (fun h => absurd (of_decide_eq_true h) hz) (fun _ => ⟨rfl, hor⟩) w
  · have hf : (dform b c a2 && dform b' m c2) = false := by
      rw [Bool.and_eq_false_iff]
      by_cases ha : dform b c a2 = true
      · right; exact Bool.eq_false_iff.2 fun hb => hab ⟨ha, hb⟩
      · left; exact Bool.eq_false_iff.2 ha
    refine parts_bad _ _ _ _ _ _ _ _ (dform b c a2) (dform b' m c2) ?_ hfa hfb (fun W => dmod_bad b c a2 b' m c2 hc hm hf W) w
    generalize dform b c a2 = u at *
    generalize dform b' m c2 = v at *
    cases u <;> cases v <;> simp_all

set_option maxRecDepth 100000 in
theorem lifted_DecParts (os : Os) (started : os.Started) (H : Type) (enc : TypeId × Value → H) :
    ReturnsInHanded {} Try.checked os 10 .any (Rows.decPartsSpec.pre6 enc Try.prog Try.f10 Rows.decPartsRow.domain false) (Rows.decPartsSpec.post enc Try.prog Try.f10 false true false false) := by
  refine returnsInHanded_of_change (C := Try.checked) own started (by kernel_rfl) Try.func10
    (ChangeSpec.witness6 (enc := enc) (C := Try.checked) false ⟨#[], #[.agg #[.bool false, .int .u64 0, .int .u64 0, .int .i64 0], .agg #[.bool false, .int .u64 0, .int .u64 0, .int .i64 0]], []⟩ 8 (by kernel_rfl) (by kernel_rfl) (by kernel_rfl) (by kernel_rfl)) ?_
  intro W base args ds gs before hval0 hW hcnd _
  have hval : ∀ (j : Nat) t v, Try.f10.params[j]? = some t → args[j]? = some v → Value.okWide Try.prog W .any base t v := hval0
  have hW' := hW
  obtain ⟨p, q, hA0, hV, rfl, hfz, hnd⟩ := hW
  have hA : DataW.TrodAll enc Try.prog W 0 (fun _ => true) true Try.f10.params.toList args.toList ds p := hA0
  rw [Try.params10] at hA hval
  obtain ⟨v0, vs0, d0, ds0, p0, q0, hargs0, rfl, rfl, h0, r0⟩ := trodAll_cons hA
  obtain ⟨v1, vs1, d1, ds1, p1, q1, hargs1, rfl, rfl, h1, r1⟩ := trodAll_cons r0
  obtain ⟨rfl, rfl, rfl⟩ := trodAll_nil r1
  obtain rfl : args = #[v0, v1] := by cases args; simp_all
  obtain ⟨rfl, rfl⟩ := trodVars_none hV
  have k0 := h0
  have lt0 : ∀ x ∈ p0, x.block < W.heap.size := by obtain ⟨m, hm⟩ := k0; exact DataW.trod_lt m _ _ _ hm
  have k1 := h1
  have lt1 : ∀ x ∈ p1, x.block < W.heap.size := by obtain ⟨m, hm⟩ := k1; exact DataW.trod_lt m _ _ _ hm
  obtain ⟨b0, a00, a01, a02, rfl, w00, w01, w02⟩ := open_dec (hval 0 26 v0 rfl rfl) h0
  obtain ⟨b1, a10, a11, a12, rfl, w10, w11, w12⟩ := open_dec (hval 1 26 v1 rfl rfl) h1
  clear hA0 hval0
  refine (walk_DecParts b0 a00 a01 a02 w00 w01 w02 b1 a10 a11 a12 w10 w11 w12 W).mono fun e W' ⟨he, bel⟩ => ?_
  subst he
  exact ⟨_, rfl, _, _, _, [], _, [], hW', trodAll_mk1 (shut_bool Try.underlying4 _), (trodAll_cons_mk (Below.trod laidOut (by kernel_rfl) (of_decide_eq_true (by kernel_rfl)) k0 bel lt0) (trodAll_cons_mk (Below.trod laidOut (by kernel_rfl) (of_decide_eq_true (by kernel_rfl)) k1 bel lt1) trodAll_mk0)), rfl, bel.frame _, fun h => by cases h⟩

theorem DecParts_holds : Rows.DecPartsSaid :=
  OpenClaim.holds_of_wide 10 Try.f10 rfl rfl rfl rfl rfl rfl rfl ⟨rfl, rfl, rfl, rfl, rfl⟩ rfl rfl rfl rfl rfl (by kernel_rfl) Try.func10 (by kernel_rfl)
    (of_decide_eq_true (by kernel_rfl)) (by unfold Func.isWrapper; first | (rw [if_pos (by decide +kernel)]; kernel_rfl) | (rw [if_neg (by decide +kernel)]; exact ⟨rfl, rfl⟩))
    (fun os started H enc _ => lifted_DecParts os started H enc)
#print axioms DecParts_holds
end Go.Proofs.Ythkgjodidkpaeaa
