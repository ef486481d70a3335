/- DecBetween: for all decimals a and b the program's Next and Prev are neighbours, by the program's own order: the law returns true, and what was handed in reads as it did. No condition. -/
import Derived.ProofKit
import Derived.OpenShut
import Derived.ShutString
import Derived.ChangeOld
import Derived.Below
import Derived.Lib.SmallJoins
import Derived.Test.YthkgjodidkpaeaaM4
import Derived.Test.YthkgjodidkpaeaaM5
set_option linter.unusedSimpArgs false
set_option linter.unusedVariables false
namespace Go.Proofs.Ythkgjodidkpaeaa
open Go.RowKit
open Go.ChangeShapes Go.WideShapes Go.ChangeAt
open Go.ChangeMaps (open_string shut_string)
set_option linter.unusedVariables false
theorem own : ownKnob Try.prog.godebug = none := by kernel_rfl
theorem laidOut : laidOutB Try.prog = true := by kernel_rfl

set_option maxHeartbeats 1000000 in
theorem walk_DecBetween (b : Bool) (a0 a1 a2 : Int) (h0 : (Lit.int .u64 a0).wf = true) (h1 : (Lit.int .u64 a1).wf = true) (h2 : (Lit.int .i64 a2).wf = true) (b' : Bool) (c0 c1 c2 : Int) (k0 : (Lit.int .u64 c0).wf = true) (k1 : (Lit.int .u64 c1).wf = true) (k2 : (Lit.int .i64 c2).wf = true) (w : World) :
    Calls Try.prog 7 #[.agg #[.bool b, .int .u64 a0, .int .u64 a1, .int .i64 a2], .agg #[.bool b', .int .u64 c0, .int .u64 c1, .int .i64 c2]] w fun e w' => e = .returned (.bool true) ∧ Below w.heap.size w w' := by
  obtain ⟨g0, g1⟩ := wf_word h0
  obtain ⟨g2, g3⟩ := wf_word h1
  obtain ⟨g4, g5⟩ := wf_word k0
  obtain ⟨g6, g7⟩ := wf_word k1
  obtain ⟨c, hc, _, rfl, rfl⟩ := wd_make a0 a1 g0 g1 g2 g3
  obtain ⟨m, hm, _, rfl, rfl⟩ := wd_make c0 c1 g4 g5 g6 g7
  clear g0 g1 g2 g3 g4 g5 g6 g7 h0 h1 k0 k1
  have hfa := fun W => rform_any b c a2 hc W
  have hfb := fun W => rform_any b' m c2 hm W
  by_cases ha : dform b c a2 = true
  · rw [ha] at hfa
    obtain ⟨s, rfl, f1, f2, f3, f4⟩ := (dform_iff _ _ _).1 ha
    have zb : c = 0 → b = false := fun h => (f3 h).1
    have hrep := rep_unit f1 f2
    obtain ⟨i1, i2, i3⟩ := fit_unit f1 f2 (fun h => (f3 h).2) f4
    have hn := fun W => next_ok b c s f1 f2 ha zb W
    cases b
    · rcases above hrep with ⟨Y, e, hXY, hRY, eback, hleast⟩ | ⟨e, hpos⟩
      · obtain ⟨C, S, j1, j2, j3, g1, g2, g3, g4, g5⟩ := fit_parts hRY
        obtain ⟨n1, n2, n3⟩ := nb_some e
        rw [j1] at n1
        rw [j2] at n2
        rw [j3] at n3
        have hC0 : C ≠ 0 := fun h => by have := (unit_nil (c := C) (s := S)).2 h; omega
        rw [show nextN false c s = false from rfl, n1, n2, n3] at hn
        have hnf : dform false C S = true := form_of (b := false) g1 g2 g4 g5
        have hp := fun W => prev_ok false C S g1 g2 hnf W
        have eb : sg (!false) C = true := by rw [sg_pos hC0]; rfl
        rw [← g3] at eback
        obtain ⟨p1, p2, p3⟩ := nb_some eback
        rw [i1] at p1
        rw [i2] at p2
        rw [i3] at p3
        have ep : prevN false C S = false := by
          unfold prevN nextN
          rw [eb, if_pos rfl, p1, sg_turn]
          rfl
        rw [ep, eb, p1, p2, p3] at hp
        have hcm := fun W => dcmp_ok false c s false C S ha hnf f1 g1 f2 g2 W
        have o1 : ordD false (unit c s) false (unit C S) = -1 := by
          rw [ord_dec (fun _ => rfl) (fun _ => rfl)]
          apply ordS_lt
          simp only [sval, Bool.false_eq_true, if_false]
          omega
        rw [o1] at hcm
        have hnform := fun W => form_any false C S (Nat.lt_trans g1 B34_lt) W
        rw [hnf] at hnform
        refine between_ok _ _ _ _ _ _ _ _ _ _ _ _ (dform b' m c2) (ordS (sval b' (unit m c2.toNat)) (sval false (unit c s))) (ordS (sval false (unit C S)) (sval b' (unit m c2.toNat))) hn hfa hp hcm hnform hfb (fun hfb' W => ?_) (fun hfb' W => ?_) (fun hfb' => ?_) w
        · obtain ⟨t, rfl, l1, l2, l3, l4⟩ := (dform_iff _ _ _).1 hfb'
          have := dcmp_ok b' m t false c s hfb' ha l1 f1 l2 f2 W
          rwa [ord_dec (fun h => (l3 h).1) (fun _ => rfl)] at this
        · obtain ⟨t, rfl, l1, l2, l3, l4⟩ := (dform_iff _ _ _).1 hfb'
          have := dcmp_ok false C S b' m t hnf hfb' g1 l1 g2 l2 W
          rwa [ord_dec (fun _ => rfl) (fun h => (l3 h).1)] at this
        · obtain ⟨t, rfl, l1, l2, l3, l4⟩ := (dform_iff _ _ _).1 hfb'
          have hZ := hleast (unit m t) (rep_unit l1 l2)
          rw [show ((t : Int)).toNat = t from rfl]
          by_cases hle : sval b' (unit m t) ≤ sval false (unit c s)
          · exact .inl (ordS_le hle)
          · right
            apply ordS_le
            cases b' <;> simp only [sval, Bool.false_eq_true, if_false, if_true] at hle ⊢ <;> omega
      · obtain ⟨n1, n2, n3⟩ := nb_none e
        rw [show nextN false c s = false from rfl, n1, n2, n3] at hn
        have hC0 : c ≠ 0 := fun h => by have := (unit_nil (c := c) (s := s)).2 h; omega
        obtain ⟨Y, e2, hYX, hRY, _, _⟩ := below_ hrep hpos
        obtain ⟨C, S, j1, j2, j3, g1, g2, g3, g4, g5⟩ := fit_parts hRY
        have hp := fun W => prev_ok false c s f1 f2 ha W
        have eb : sg (!false) c = true := by rw [sg_pos hC0]; rfl
        obtain ⟨p1, p2, p3⟩ := nb_some e2
        rw [j1] at p1
        rw [j2] at p2
        rw [j3] at p3
        have ep : prevN false c s = false := by
          unfold prevN nextN
          rw [eb, if_pos rfl, p1, sg_turn]
          rfl
        rw [ep, eb, p1, p2, p3] at hp
        have hpf : dform false C S = true := form_of (b := false) g1 g2 g4 g5
        have hcm := fun W => dcmp_ok false C S false c s hpf ha g1 f1 g2 f2 W
        have o1 : ordD false (unit C S) false (unit c s) = -1 := by
          rw [ord_dec (fun _ => rfl) (fun _ => rfl)]
          apply ordS_lt
          simp only [sval, Bool.false_eq_true, if_false]
          omega
        rw [o1] at hcm
        exact between_over _ _ _ _ _ _ _ _ _ _ _ _ _ _ _ hn hfa hp hcm w
    · have hC0 : c ≠ 0 := fun h => by have := zb h; cases this
      have hpos : 0 < unit c s := Nat.pos_of_ne_zero (fun h => hC0 (unit_nil.1 h))
      obtain ⟨Y, e, hYX, hRY, eback, hgreat⟩ := below_ hrep hpos
      obtain ⟨C, S, j1, j2, j3, g1, g2, g3, g4, g5⟩ := fit_parts hRY
      obtain ⟨n1, n2, n3⟩ := nb_some e
      rw [j1] at n1
      rw [j2] at n2
      rw [j3] at n3
      have en : nextN true c s = sg true C := by unfold nextN; rw [if_pos rfl, n1]
      rw [en, n1, n2, n3] at hn
      have hnf : dform (sg true C) C S = true := form_of g1 g2 g4 g5
      have hp := fun W => prev_ok (sg true C) C S g1 g2 hnf W
      have eb : sg (!(sg true C)) C = false := by rw [sg_turn]; rfl
      rw [← g3] at eback
      obtain ⟨p1, p2, p3⟩ := nb_some eback
      rw [i1] at p1
      rw [i2] at p2
      rw [i3] at p3
      have ep : prevN (sg true C) C S = true := by
        unfold prevN nextN
        rw [eb, if_neg Bool.false_ne_true, p1, sg_pos hC0]
        rfl
      rw [ep, eb, p1, p2, p3] at hp
      have zn : C = 0 → sg true C = false := fun h => by rw [h, sg_zero]
      have hcm := fun W => dcmp_ok true c s (sg true C) C S ha hnf f1 g1 f2 g2 W
      have o1 : ordD true (unit c s) (sg true C) (unit C S) = -1 := by
        rw [ord_dec zb zn]
        apply ordS_lt
        rw [sval_sg]
        simp only [sval, if_true]
        omega
      rw [o1] at hcm
      have hnform := fun W => form_any (sg true C) C S (Nat.lt_trans g1 B34_lt) W
      rw [hnf] at hnform
      refine between_ok _ _ _ _ _ _ _ _ _ _ _ _ (dform b' m c2) (ordS (sval b' (unit m c2.toNat)) (sval true (unit c s))) (ordS (sval (sg true C) (unit C S)) (sval b' (unit m c2.toNat))) hn hfa hp hcm hnform hfb (fun hfb' W => ?_) (fun hfb' W => ?_) (fun hfb' => ?_) w
      · obtain ⟨t, rfl, l1, l2, l3, l4⟩ := (dform_iff _ _ _).1 hfb'
        have := dcmp_ok b' m t true c s hfb' ha l1 f1 l2 f2 W
        rwa [ord_dec (fun h => (l3 h).1) zb] at this
      · obtain ⟨t, rfl, l1, l2, l3, l4⟩ := (dform_iff _ _ _).1 hfb'
        have := dcmp_ok (sg true C) C S b' m t hnf hfb' g1 l1 g2 l2 W
        rwa [ord_dec zn (fun h => (l3 h).1)] at this
      · obtain ⟨t, rfl, l1, l2, l3, l4⟩ := (dform_iff _ _ _).1 hfb'
        have hZ := hgreat (unit m t) (rep_unit l1 l2)
        rw [show ((t : Int)).toNat = t from rfl, sval_sg]
        by_cases hle : sval b' (unit m t) ≤ sval true (unit c s)
        · exact .inl (ordS_le hle)
        · right
          apply ordS_le
          cases b' <;> simp only [sval, Bool.false_eq_true, if_false, if_true] at hle ⊢ <;> omega
  · have ha' : dform b c a2 = false := by simpa using ha
    rw [ha'] at hfa
    exact between_bad _ _ _ _ _ _ _ _ (fun W => next_bad b c a2 hc ha' W) hfa w

set_option maxRecDepth 100000 in
theorem lifted_DecBetween (os : Os) (started : os.Started) (H : Type) (enc : TypeId × Value → H) :
    ReturnsInHanded {} Try.checked os 7 .any (Rows.decBetweenSpec.pre6 enc Try.prog Try.f7 Rows.decBetweenRow.domain false) (Rows.decBetweenSpec.post enc Try.prog Try.f7 false true false false) := by
  refine returnsInHanded_of_change (C := Try.checked) own started (by kernel_rfl) Try.func7
    (ChangeSpec.witness6 (enc := enc) (C := Try.checked) false ⟨#[], #[.agg #[.bool false, .int .u64 0, .int .u64 0, .int .i64 0], .agg #[.bool false, .int .u64 0, .int .u64 0, .int .i64 0]], []⟩ 8 (by kernel_rfl) (by kernel_rfl) (by kernel_rfl) (by kernel_rfl)) ?_
  intro W base args ds gs before hval0 hW hcnd _
  have hval : ∀ (j : Nat) t v, Try.f7.params[j]? = some t → args[j]? = some v → Value.okWide Try.prog W .any base t v := hval0
  have hW' := hW
  obtain ⟨p, q, hA0, hV, rfl, hfz, hnd⟩ := hW
  have hA : DataW.TrodAll enc Try.prog W 0 (fun _ => true) true Try.f7.params.toList args.toList ds p := hA0
  rw [Try.params7] at hA hval
  obtain ⟨v0, vs0, d0, ds0, p0, q0, hargs0, rfl, rfl, h0, r0⟩ := trodAll_cons hA
  obtain ⟨v1, vs1, d1, ds1, p1, q1, hargs1, rfl, rfl, h1, r1⟩ := trodAll_cons r0
  obtain ⟨rfl, rfl, rfl⟩ := trodAll_nil r1
  obtain rfl : args = #[v0, v1] := by cases args; simp_all
  obtain ⟨rfl, rfl⟩ := trodVars_none hV
  have k0 := h0
  have lt0 : ∀ x ∈ p0, x.block < W.heap.size := by obtain ⟨m, hm⟩ := k0; exact DataW.trod_lt m _ _ _ hm
  have k1 := h1
  have lt1 : ∀ x ∈ p1, x.block < W.heap.size := by obtain ⟨m, hm⟩ := k1; exact DataW.trod_lt m _ _ _ hm
  obtain ⟨b0, a00, a01, a02, rfl, w00, w01, w02⟩ := open_dec (hval 0 26 v0 rfl rfl) h0
  obtain ⟨b1, a10, a11, a12, rfl, w10, w11, w12⟩ := open_dec (hval 1 26 v1 rfl rfl) h1
  clear hA0 hval0
  refine (walk_DecBetween b0 a00 a01 a02 w00 w01 w02 b1 a10 a11 a12 w10 w11 w12 W).mono fun e W' ⟨he, bel⟩ => ?_
  subst he
  exact ⟨_, rfl, _, _, _, [], _, [], hW', trodAll_mk1 (shut_bool Try.underlying4 _), (trodAll_cons_mk (Below.trod laidOut (by kernel_rfl) (of_decide_eq_true (by kernel_rfl)) k0 bel lt0) (trodAll_cons_mk (Below.trod laidOut (by kernel_rfl) (of_decide_eq_true (by kernel_rfl)) k1 bel lt1) trodAll_mk0)), rfl, bel.frame _, fun h => by cases h⟩

theorem DecBetween_holds : Rows.DecBetweenSaid :=
  OpenClaim.holds_of_wide 7 Try.f7 rfl rfl rfl rfl rfl rfl rfl ⟨rfl, rfl, rfl, rfl, rfl⟩ rfl rfl rfl rfl rfl (by kernel_rfl) Try.func7 (by kernel_rfl)
    (of_decide_eq_true (by kernel_rfl)) (by unfold Func.isWrapper; first | (rw [if_pos (by decide +kernel)]; kernel_rfl) | (rw [if_neg (by decide +kernel)]; exact ⟨rfl, rfl⟩))
    (fun os started H enc _ => lifted_DecBetween os started H enc)
#print axioms DecBetween_holds
end Go.Proofs.Ythkgjodidkpaeaa
